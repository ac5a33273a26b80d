/- Entries of the map as lists of numbers: for each seat. -/
import Derived.Test.YtgjcljjgifnjdaaGb
namespace Go.Proofs.Ytgjcljjgifnjdaa.Ab
set_option linter.unusedVariables false
set_option linter.unusedSimpArgs false
open Go.RowKit

structure Ety where
  b : Int
  k : Int
  v : Int
  m : Int
  z : Int
  o : Int
def eRow (e : Ety) : List IV := [.sc (.int .i64 e.b), .sc (.int .i64 e.k), .sc (.int .i64 e.v), .sc (.int .i64 e.m), .sc (.int .i64 e.z), .sc (.int .i64 e.o)]
def eV (e : Ety) : AV := .agg [.i (.sc (.int .i64 e.b)), .i (.sc (.int .i64 e.k)), .i (.sc (.int .i64 e.v)), .i (.sc (.int .i64 e.m)), .i (.sc (.int .i64 e.z)), .i (.sc (.int .i64 e.o))]
def eA (b k v m z o : Int) : AV := .agg [.i (.sc (.int .i64 b)), .i (.sc (.int .i64 k)), .i (.sc (.int .i64 v)), .i (.sc (.int .i64 m)), .i (.sc (.int .i64 z)), .i (.sc (.int .i64 o))]
def eR (es : List Ety) : List (List IV) := es.map eRow
def e0 : Ety := ⟨0, 0, 0, 0, 0, 0⟩
def plV (z o : Int) : AV := .agg [.i (.sc (.int .i64 z)), .i (.sc (.int .i64 o))]
def eEq (a b : Ety) : Bool := (a.b == b.b && (a.k == b.k && (a.v == b.v && (a.m == b.m && ((a.z == b.z && (a.o == b.o && true)) && true)))))
theorem eEq_iff {a b : Ety} : eEq a b = true ↔ a = b := by
  obtain ⟨a1, a2, a3, a4, a5, a6⟩ := a
  obtain ⟨b1, b2, b3, b4, b5, b6⟩ := b
  simp [eEq]
theorem eEq_self (a : Ety) : eEq a a = true := eEq_iff.2 rfl
theorem eItem {es : List Ety} {k : Nat} (h : k < es.length) : (eR es)[((k : Int)).toNat]? = some (eRow es[k]) := by simp [eR, h]
theorem eSz (es : List Ety) : ∀ z ∈ eR es, z.length = (tab 34).size := by
  intro z hz
  obtain ⟨x, _, rfl⟩ := List.mem_map.1 hz
  rfl
theorem eset (es : List Ety) (k : Nat) (e : Ety) : (eR es).set ((k : Int)).toNat (eRow e) = eR (es.set k e) := by simp [eR, List.map_set]
theorem etys_of {d : Nat} (es : List (List IV)) (h : ∀ r ∈ es, ShI tab (d + 2 + 1) 34 r) : ∃ xs : List Ety, es = eR xs := by
  induction es with
  | nil => exact ⟨[], rfl⟩
  | cons e es ih =>
    obtain ⟨xs, rfl⟩ := ih (fun r hr => h r (List.mem_cons_of_mem _ hr))
    obtain ⟨_, _, rfl, ⟨b, rfl, _⟩, _, _, rfl, ⟨k, rfl, _⟩, _, _, rfl, ⟨v, rfl, _⟩, _, _, rfl, ⟨m, rfl, _⟩, _, _, rfl, ⟨_, _, rfl, ⟨z, rfl, _⟩, _, _, rfl, ⟨o, rfl, _⟩, rfl⟩, rfl⟩ := h e List.mem_cons_self
    exact ⟨⟨b, k, v, m, z, o⟩ :: xs, rfl⟩
theorem ety_of {d : Nat} {e : List IV} (h : ShI tab (d + 2 + 1) 34 e) : ∃ x : Ety, e = eRow x := by
  obtain ⟨_, _, rfl, ⟨b, rfl, _⟩, _, _, rfl, ⟨k, rfl, _⟩, _, _, rfl, ⟨v, rfl, _⟩, _, _, rfl, ⟨m, rfl, _⟩, _, _, rfl, ⟨_, _, rfl, ⟨z, rfl, _⟩, _, _, rfl, ⟨o, rfl, _⟩, rfl⟩, rfl⟩ := h
  exact ⟨⟨b, k, v, m, z, o⟩, rfl⟩
theorem place_of {d : Nat} {e : List IV} (h : ShI tab (d + 1 + 1) 32 e) : ∃ z o : Int, e = [.sc (.int .i64 z), .sc (.int .i64 o)] := by
  obtain ⟨_, _, rfl, ⟨z, rfl, _⟩, _, _, rfl, ⟨o, rfl, _⟩, rfl⟩ := h
  exact ⟨z, o, rfl⟩
end Go.Proofs.Ytgjcljjgifnjdaa.Ab
