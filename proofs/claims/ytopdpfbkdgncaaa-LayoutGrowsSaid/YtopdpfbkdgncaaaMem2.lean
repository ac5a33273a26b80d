/- More lemmas on memory: a slice of integers that reads as a list; one more element appended in a round. No condition. -/
import Derived.Test.YtopdpfbkdgncaaaMem
namespace Go.Proofs.Ytopdpfbkdgncaaa
set_option linter.unusedVariables false
set_option linter.unusedSimpArgs false
open Go.ChangeShapes Go.WideShapes Go.RowKit Go.Deep Go.Joins

theorem own_ge {w : World} {base : Nat} {e : TypeId} {size n : Nat} {v : Value} {xs : List Value} (h : w.ownsRow base e size v n xs) : ∀ k, v.ownBlock = some k → base ≤ k := by
  intro k hk
  rcases h.2 with ⟨rfl, _⟩ | ⟨g, cap, cur, rfl, hg, _⟩
  · simp [Value.ownBlock] at hk
  · simp [Value.ownBlock] at hk; omega

theorem push_below {W wr w1 : World} {e : TypeId} {size n : Nat} {v : Value} {xs : List Value} {o : Obj} (hown : wr.ownsRow W.heap.size e size v n xs) (hb : Below W.heap.size W wr) (hg : (wr.alloc o).grownBy w1 v.ownBlock) :
    Below W.heap.size W w1 :=
  (hb.alloc hb.size o).grown hg (by have := hb.size; simp; omega) (own_ge hown)

/-- The integers of a list as values. -/
def ints (xs : List Int) : List Value := xs.map (Value.int .i64)
theorem ints_len (xs : List Int) : (ints xs).length = xs.length := by unfold ints; simp
theorem ints_one (xs : List Int) : ∀ u ∈ ints xs, u.oneCell' = true := by
  intro u hu; unfold ints at hu; rw [List.mem_map] at hu; obtain ⟨x, _, rfl⟩ := hu; rfl
theorem ints_snoc (xs : List Int) (x : Int) : ints (xs ++ [x]) = ints xs ++ [.int .i64 x] := by unfold ints; simp

/-- A slice value that reads as a list of integers. -/
def IsInts (w : World) (v : Value) (xs : List Int) : Prop := ∃ A c, v = .slice A xs.length c ∧ Reads w w.heap.size 1 A xs.length (ints xs)
theorem IsInts.below {w w' : World} {v : Value} {xs : List Int} (h : IsInts w v xs) (hb : Below w.heap.size w w') : IsInts w' v xs := by
  obtain ⟨A, c, rfl, hr⟩ := h
  exact ⟨A, c, rfl, (hr.below hb).more hb.size⟩
theorem IsInts.nil (w : World) : IsInts w (.slice none 0 0) [] := ⟨none, 0, rfl, Reads.none_⟩
theorem IsInts.of_own {w : World} {base : Nat} {e : TypeId} {v : Value} {n : Nat} {xs : List Int} (h : w.ownsRow base e 1 v n (ints xs)) : IsInts w v xs := by
  have hl := h.1
  rw [ints_len, Nat.mul_one] at hl
  subst hl
  have hv : ∃ A c, v = .slice A xs.length c := by
    rcases h.2 with ⟨rfl, h0⟩ | ⟨g, cap, cur, rfl, _⟩
    · exact ⟨none, 0, by rw [h0]⟩
    · exact ⟨_, _, rfl⟩
  obtain ⟨A, c, rfl⟩ := hv
  exact ⟨A, c, rfl, Reads.of_own h⟩
theorem Reads.int_at {w : World} {B : Nat} {A : Option Addr} {xs : List Int} {k : Nat} (h : Reads w B 1 A xs.length (ints xs)) (hk : k < xs.length) :
    ∃ ad, A = some ad ∧ ad.block < B ∧ w.cell? (ad.add k) = some (.int .i64 xs[k]) := by
  obtain ⟨ad, u, e, hb, hx, hc⟩ := h.at_ hk
  refine ⟨ad, e, hb, ?_⟩
  rw [hc, ← hx]
  unfold ints
  rw [List.getElem?_map, List.getElem?_eq_getElem hk]; rfl
theorem int_info : (Try.prog.info? 3).map (fun i => (i.zero, i.size, i.bytes)) = some (some (.int .i64 0), 1, 8) := by kernel_rfl
end Go.Proofs.Ytopdpfbkdgncaaa
