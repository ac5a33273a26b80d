/- Lists of integers: for each seat. -/
import Derived.Test.YtccplchebbkliaaDoorTab
import Derived.Test.YtccplchebbkliaaDoorFr
namespace Go.Proofs.YtccplchebbkliaaDoor.Ab
set_option linter.unusedVariables false
set_option linter.unusedSimpArgs false
open Go.RowKit

def slV (es : List (List IV)) : AV := .c (.i (.sl es))
def i64V (n : Int) : AV := .c (.i (.sc (.int .i64 n)))
def bV (b : Bool) : AV := .c (.i (.sc (.bool b)))
theorem bytes_le {l b : Nat} (hb : b ≤ 1000) (hl : l ≤ 2000000) : l * b ≤ 140737488355328 := Nat.le_trans (Nat.mul_le_mul hl hb) (by decide)
def wV (ws : List Int) : List (List IV) := ws.map fun s => [.sc (.int .i64 s)]
theorem wItem {ws : List Int} {k : Nat} (h : k < ws.length) : (wV ws)[((k : Int)).toNat]? = some [.sc (.int .i64 ws[k])] := by simp [wV, h]
theorem wSz (ws : List Int) : ∀ z ∈ wV ws, z.length = (tab 3).size := by
  intro z hz
  obtain ⟨x, _, rfl⟩ := List.mem_map.1 hz
  rfl
theorem wset (ws : List Int) (k : Nat) (o : Int) : (wV ws).set ((k : Int)).toNat [.sc (.int .i64 o)] = wV (ws.set k o) := by simp [wV, List.map_set]


theorem three {argv : Array Value} {a b c : AV} {u v w' : Value} {w : World} {ok : Nat → Prop} {σ : Nat → Nat → Value} {G : Nat → Nat} (h1 : RepV w ok σ G a u) (h2 : RepV w ok σ G b v) (h3 : RepV w ok σ G c w') :
    ∀ (j : Nat) (z : Value) (x : AV), (#[u, v, w'] : Array Value)[j]? = some z → [a, b, c][j]? = some x → RepV w ok σ G x z := by
  intro j z x hz hx
  match j with
  | 0 => simp at hz hx; subst hz hx; exact h1
  | 1 => simp at hz hx; subst hz hx; exact h2
  | 2 => simp at hz hx; subst hz hx; exact h3
  | j + 3 => simp at hx
theorem two {a b : AV} {u v : Value} {w : World} {ok : Nat → Prop} {σ : Nat → Nat → Value} {G : Nat → Nat} (h1 : RepV w ok σ G a u) (h2 : RepV w ok σ G b v) :
    ∀ (j : Nat) (z : Value) (x : AV), (#[u, v] : Array Value)[j]? = some z → [a, b][j]? = some x → RepV w ok σ G x z := by
  intro j z x hz hx
  match j with
  | 0 => simp at hz hx; subst hz hx; exact h1
  | 1 => simp at hz hx; subst hz hx; exact h2
  | j + 2 => simp at hx
theorem ints_of {d : Nat} (es : List (List IV)) (h : ∀ r ∈ es, ShI tab (d + 1) 3 r) : ∃ xs : List Int, es = wV xs := by
  induction es with
  | nil => exact ⟨[], rfl⟩
  | cons e es ih =>
    obtain ⟨xs, rfl⟩ := ih (fun r hr => h r (List.mem_cons_of_mem _ hr))
    obtain ⟨n, rfl, _⟩ := h e List.mem_cons_self
    exact ⟨n :: xs, rfl⟩

theorem bI8 {t : Nat} (h : tab t = ⟨(tab t).k, 1, 8, (tab t).zero, (tab t).eq⟩) : (tab t).bytes = 8 := by rw [h]
/-- Lists of bytes. -/
def cV (ws : List Int) : List (List IV) := ws.map fun s => [.sc (.int .u8 s)]
theorem cItem {ws : List Int} {k : Nat} (h : k < ws.length) : (cV ws)[((k : Int)).toNat]? = some [.sc (.int .u8 ws[k])] := by simp [cV, h]
theorem u8s_of {d : Nat} (es : List (List IV)) (h : ∀ r ∈ es, ShI tab (d + 1) 5 r) : ∃ xs : List Int, es = cV xs ∧ ∀ x ∈ xs, 0 ≤ x ∧ x ≤ 255 := by
  induction es with
  | nil => exact ⟨[], rfl, fun x hx => by cases hx⟩
  | cons e es ih =>
    obtain ⟨xs, rfl, hxs⟩ := ih (fun r hr => h r (List.mem_cons_of_mem _ hr))
    obtain ⟨n, rfl, hw⟩ := h e List.mem_cons_self
    exact ⟨n :: xs, rfl, fun x hx => by
      rcases List.mem_cons.1 hx with rfl | hx
      · exact bounds_u8 hw
      · exact hxs x hx⟩
end Go.Proofs.YtccplchebbkliaaDoor.Ab
