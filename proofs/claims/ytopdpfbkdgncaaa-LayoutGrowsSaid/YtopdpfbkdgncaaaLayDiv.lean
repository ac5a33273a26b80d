/- The laws LayoutDivides and LayoutGrows: the plain part, and what the calls do. -/
import Derived.Test.YtopdpfbkdgncaaaLayLaw
import Derived.Test.YtopdpfbkdgncaaaSmall
import Derived.Test.YtopdpfbkdgncaaaOpen
namespace Go.Proofs.Ytopdpfbkdgncaaa
set_option linter.unusedVariables false
set_option linter.unusedSimpArgs false
open Go.ChangeShapes Go.WideShapes Go.RowKit Go.Deep Go.Joins

theorem small_facts (r : List Int) : (3 ≤ smS r ∧ smS r ≤ 6) ∧ (1 ≤ smB r ∧ smB r ≤ 6) ∧ (1 ≤ smQ r ∧ smQ r ≤ 3) ∧ (1 ≤ smD r ∧ smD r ≤ 3) ∧ (1 ≤ smH r ∧ smH r ≤ 3) ∧
    (1 ≤ Lay.slot (smS r) (smB r) ∧ Lay.slot (smS r) (smB r) ≤ 4) ∧ (smB r + 2 ≤ Lay.slot (smS r) (smB r) * smS r) ∧ ∃ x : Int, 0 ≤ x ∧ x ≤ 2 ∧ smZ r = 2 * Lay.slot (smS r) (smB r) + 6 + x := by
  have x1 := dnext_bd r 4 (by omega)
  have x2 := dnext_bd (dtail r) 6 (by omega)
  have x3 := dnext_bd (dtail (dtail r)) 3 (by omega)
  have x4 := dnext_bd (dtail (dtail (dtail r))) 3 (by omega)
  have x5 := dnext_bd (dtail (dtail (dtail (dtail r)))) 3 (by omega)
  have x6 := dnext_bd (dtail (dtail (dtail (dtail (dtail r))))) 3 (by omega)
  have s1 : 3 ≤ smS r ∧ smS r ≤ 6 := by unfold smS; omega
  have b1 : 1 ≤ smB r ∧ smB r ≤ 6 := by unfold smB; omega
  have sl := Lay.slot_bd s1.1 (by omega) b1.1 (by omega)
  refine ⟨s1, b1, by unfold smQ; omega, by unfold smD; omega, by unfold smH; omega, ⟨sl.1, ?_⟩, sl.2.2, dnext (dtail (dtail (dtail (dtail (dtail r))))) 3, x6.1, by omega, rfl⟩
  unfold Lay.slot
  have : (smB r + 2 + smS r - 1) / smS r < 5 := by
    apply Int.ediv_lt_of_lt_mul (by omega)
    omega
  omega

theorem cap_pos {x s q : Int} (hx : 0 ≤ x) (hs : 3 ≤ s) (hq : q ≤ 3) : 2 ≤ (3 + x) * (s - 1) - q := by
  have h1 : (3 + x) * 2 ≤ (3 + x) * (s - 1) := Int.mul_le_mul_of_nonneg_left (by omega) (by omega)
  omega

theorem small_ok (r : List Int) : Lay.chk (smZ r) (smS r) (smB r) (smQ r) (smD r) (smH r) = 0 := by
  obtain ⟨s1, b1, q1, d1, h1, l1, l2, x, hx0, hx2, hz⟩ := small_facts r
  have hok : Lay.okR (smZ r) (smS r) (smB r) (smQ r) (smD r) (smH r) = true := Lay.okR_iff.2 (by omega)
  rw [Lay.chk_ok hok, if_neg]
  have hd : Lay.data (smZ r) (smS r) (smB r) = 6 + x := by unfold Lay.data; omega
  have hc : Lay.cap (smZ r) (smS r) (smB r) (smQ r) = (3 + x) * (smS r - 1) - smQ r - 1 := by unfold Lay.cap; rw [hd]; congr 3; omega
  have := cap_pos hx0 s1.1 q1.2
  omega

theorem slotsOf_len (n s : Int) (k : Nat) : (slotsOf n s k).length = k := by unfold slotsOf; simp
theorem slotsOf_get (n s : Int) (k i : Nat) (h : i < (slotsOf n s k).length) : (slotsOf n s k)[i] = s * n + i := by simp [slotsOf]

/-- The zones of a slot, the length known. -/
theorem slots_small (z s b q d h slot : Int) (N : Nat) (w : World) (hc : Lay.chk z s b q d h = 0) (hsl : slot = 0 ∨ slot = 1) (hn : Lay.slot s b = (N : Int)) :
    Calls Try.prog 21 #[cfgV z s b q d h, .int .i64 slot] w fun e w' => ∃ A c, e = .returned (.slice A N c) ∧ Reads w' w'.heap.size 1 A N (ints (slotsOf (N : Int) slot N)) ∧ Below w.heap.size w w' := by
  refine (slots_any z s b q d h slot w).mono ?_
  rintro e w' ⟨v, rfl, ⟨A, c, rfl, hr⟩, hb⟩
  have hd : slotsL z s b q d h slot = slotsOf (N : Int) slot N := by unfold slotsL; rw [if_pos ⟨hc, hsl⟩, hn, Int.toNat_natCast]
  rw [hd, slotsOf_len] at hr ⊢
  exact ⟨A, c, rfl, hr, hb⟩

theorem layoutMade.open_ {H : Type} {enc : TypeId × Value → H} {W0 : World} {base : Nat} (v : Value) (d : DataW H) (p : List MemPlace) (hv : Value.okWide Try.prog W0 .any base 41 v)
    (h : DataW.Trod enc Try.prog W0 0 (fun _ => true) true 41 v d p) : ∃ n0 n1 n2 n3 n4 n5 : Int, v = cfgV n0 n1 n2 n3 n4 n5 ∧ ∀ x ∈ [n0, n1, n2, n3, n4, n5], -9223372036854775808 ≤ x ∧ x ≤ 9223372036854775807 := by
  obtain ⟨xs, rfl, hl, hw⟩ := open_arr Try.underlying41 Try.underlying3 (by kernel_rfl) (by kernel_rfl) hv h
  match xs, hl with
  | [n0, n1, n2, n3, n4, n5], _ => exact ⟨n0, n1, n2, n3, n4, n5, rfl, fun x hx => bd_i64 (hw x hx)⟩

/-- How often a number is met among the first k of both slots. -/
def cnt (N i : Int) (k : Nat) : Int := if i < N then (if i < k then 1 else 0) else (if i < N + k then 1 else 0)
theorem cnt_zero (N i : Int) (hi : 0 ≤ i) : cnt N i 0 = 0 := by
  unfold cnt; split
  · rw [if_neg (by omega)]
  · rw [if_neg (by omega)]
theorem cnt_succ (N i : Int) (k : Nat) (hi : 0 ≤ i) (hk : (k : Int) < N) : cnt N i (k + 1) = cnt N i k + (if (k : Int) = i ∨ N + (k : Int) = i then 1 else 0) := by
  unfold cnt
  by_cases h1 : i < N
  · rw [if_pos h1, if_pos h1]
    by_cases h2 : i < (k : Int)
    · rw [if_pos h2, if_pos (by omega), if_neg (by omega)]; omega
    · rw [if_neg h2]
      by_cases h3 : (k : Int) = i
      · rw [if_pos (by omega), if_pos (Or.inl h3)]; omega
      · rw [if_neg (by omega), if_neg (by omega)]; omega
  · rw [if_neg h1, if_neg h1]
    by_cases h2 : i < N + (k : Int)
    · rw [if_pos h2, if_pos (by omega), if_neg (by omega)]; omega
    · rw [if_neg h2]
      by_cases h3 : N + (k : Int) = i
      · rw [if_pos (by omega), if_pos (Or.inr h3)]; omega
      · rw [if_neg (by omega), if_neg (by omega)]; omega
theorem cnt_end (N i : Int) (k : Nat) (hk : (k : Int) = N) (hi : 0 ≤ i) : cnt N i k = if i < 2 * N then 1 else 0 := by
  unfold cnt
  by_cases h1 : i < N
  · rw [if_pos h1, if_pos (by omega), if_pos (by omega)]
  · rw [if_neg h1]
    by_cases h2 : i < 2 * N
    · rw [if_pos (by omega), if_pos h2]
    · rw [if_neg (by omega), if_neg h2]
theorem cnt_bd (N i : Int) (k : Nat) : 0 ≤ cnt N i k ∧ cnt N i k ≤ 1 := by unfold cnt; split <;> split <;> omega
end Go.Proofs.Ytopdpfbkdgncaaa
