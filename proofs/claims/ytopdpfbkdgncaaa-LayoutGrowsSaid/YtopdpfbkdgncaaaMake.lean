/- The statements' own makers of inputs: Mod, Light and the dice. -/
import Derived.Test.YtopdpfbkdgncaaaHeld
namespace Go.Proofs.Ytopdpfbkdgncaaa
set_option linter.unusedVariables false
set_option linter.unusedSimpArgs false
open Go.RowKit

set_option maxHeartbeats 400000 in
theorem mod_any (x n : Int) (w : World) (hx : -9223372036854775808 ≤ x ∧ x ≤ 9223372036854775807) (hn : 1 ≤ n ∧ n ≤ 4611686018427387904) :
    Calls Try.prog 25 #[.int .i64 x, .int .i64 n] w fun e w' => e = .returned (.int .i64 (x % n)) ∧ w = w' := by
  have hb := Int.emod_nonneg x (show n ≠ 0 by omega)
  have hb2 := Int.emod_lt_of_pos x (show 0 < n by omega)
  go_enter Try.func25, Try.ntmps25
  go_wp2
  go_ret
  refine ⟨ret_i64 ?_, rfl⟩
  have e1 := Int.lt_tmod_of_pos x (show 0 < n by omega)
  have e2 := Int.tmod_lt_of_pos x (show 0 < n by omega)
  rw [IntWalk.wrap64_in _ (by omega), Int.tmod_eq_emod_of_nonneg (by omega), Int.add_emod_right, Int.tmod_def]
  exact Int.sub_mul_emod_self_left _ _ _

set_option maxHeartbeats 400000 in
theorem light_any (A : Option Addr) (n c : Nat) (w : World) (hn : n ≤ 140737488351232) :
    Calls Try.prog 12 #[.slice A n c] w fun e w' => e = .returned (.bool (decide (n ≤ 300))) ∧ w = w' := by
  go_enter Try.func12, Try.ntmps12
  go_wp2
  go_ret
  exact ⟨ret_bool (by simp; omega), rfl⟩

/-- Dice in block g, with r still to be given out. -/
def DiceAt (w : World) (g : Nat) (r : List Int) : Prop :=
  ∃ (xs : List Int) (at_ : Nat) (A : Option Addr) (c B : Nat), at_ ≤ xs.length ∧ xs.drop at_ = r ∧ xs.length ≤ 1000 ∧ Blk w g 74 #[.slice A xs.length c, .int .i64 at_] ∧ B ≤ g ∧ Reads w B 1 A xs.length (ints xs) ∧
    (∀ x ∈ xs, -9223372036854775808 ≤ x ∧ x ≤ 9223372036854775807)
/-- A throw. -/
def dnext (r : List Int) (n : Int) : Int := match r with | [] => 0 | x :: _ => x % n
def dtail (r : List Int) : List Int := r.tail
theorem dnext_bd (r : List Int) (n : Int) (hn : 1 ≤ n) : 0 ≤ dnext r n ∧ dnext r n < n := by
  unfold dnext
  split
  · omega
  · exact ⟨Int.emod_nonneg _ (by omega), Int.emod_lt_of_pos _ (by omega)⟩

set_option maxRecDepth 100000 in
set_option maxHeartbeats 400000 in
theorem next_any (g : Nat) (r : List Int) (n : Int) (w : World) (hd : DiceAt w g r) (hn : 1 ≤ n ∧ n ≤ 4611686018427387904) :
    Calls Try.prog 43 #[.pointer (some ⟨g, 0, none⟩), .int .i64 n] w fun e w' => e = .returned (.int .i64 (dnext r n)) ∧ DiceAt w' g (dtail r) ∧ w.grownBy w' (some g) := by
  obtain ⟨xs, at_, A, c, B, h1, h2, h3, hB, h5, hR, h6⟩ := hd
  have k0 := hB.cell 0
  have k1 := hB.cell 1
  have kf0 := hB.frozen 0
  have kf1 := hB.frozen 1
  simp at k0 k1
  have HB := Lib.hid hB
  have HR := Lib.hid hR
  have H2 := Lib.hid h2
  have H6 := Lib.hid h6
  clear hB hR h2 h6
  by_cases hlt : at_ < xs.length
  · have hd' : decide ((xs.length : Int) ≤ (at_ : Int)) = false := decide_eq_false (by omega)
    obtain ⟨ad, rfl, had, hca⟩ := HR.out.int_at hlt
    have hxr := H6.out _ (List.getElem_mem hlt)
    have hr : r = xs[at_] :: xs.drop (at_ + 1) := by rw [← H2.out]; exact List.drop_eq_getElem_cons hlt
    have Hr := Lib.hid hr
    clear hr
    go_enter Try.func43, Try.ntmps43
    go_wp2_with fail
    go_quiet (fail)
    go_wp2_with fail
    have hne : g ≠ (ad.add at_).block := by rw [block_of_add]; omega
    obtain ⟨w2, hw2⟩ : ∃ w2, w2 = (w.drewN nq).setCell ⟨g, 1, none⟩ (.int .i64 ((at_ : Int) + 1)) := ⟨_, rfl⟩
    have hB2 : Blk w2 g 74 #[.slice (some ad) xs.length c, .int .i64 ((at_ : Int) + 1)] := by rw [hw2]; exact (HB.out.drewN nq).set_ 1 _
    have hR2 : Reads w2 B 1 (some ad) xs.length (ints xs) := by rw [hw2]; exact (HR.out.drewN nq).setCell (p := ⟨g, 1, none⟩) h5 _
    have hG2 : w.grownBy w2 (some g) := by rw [hw2]; exact only_setCell (only_drewN (World.grownBy.refl w _) nq) (Or.inl rfl) _
    rw [← hw2]
    clear hw2 k0 k1 kf0 kf1
    have k0 := hB2.cell 0
    have k1 := hB2.cell 1
    simp at k0 k1
    obtain ⟨ad', e', had', hca'⟩ := hR2.int_at hlt
    obtain rfl : ad = ad' := by injection e'
    generalize xs[at_] = x at *
    have hi1 : (0 : Int) ≤ (at_ : Int) + 1 - 1 := by omega
    have hi2 : (at_ : Int) + 1 - 1 < (xs.length : Int) := by omega
    have hi3 : ((at_ : Int) + 1 - 1).toNat = at_ := by omega
    have hi4 : IntKind.i64.wrap ((at_ : Int) + 1 - 1) = (at_ : Int) := by rw [IntWalk.i64_in _ (by omega)]; omega
    have HB2 := Lib.hid hB2
    have HR2 := Lib.hid hR2
    clear hB2 hR2 e' hca had
    go_quiet ((go_at_call 25; exact quiet_left (mod_any x n _ hxr hn)))
    go_wp2
    go_ret
    refine ⟨ret_i64 (by rw [Hr.out]; rfl), ⟨xs, at_ + 1, some ad, c, B, by omega, by rw [Hr.out]; rfl, h3, HB2.out.drewN _, h5, HR2.out.drewN _, H6.out⟩, only_drewN hG2 _⟩
  · have hd' : decide ((xs.length : Int) ≤ (at_ : Int)) = true := decide_eq_true (by omega)
    have hr : r = [] := by rw [← H2.out]; exact List.drop_eq_nil_of_le (by omega)
    have Hr := Lib.hid hr
    clear hr
    go_enter Try.func43, Try.ntmps43
    go_wp2_with fail
    go_quiet (fail)
    go_wp2_with fail
    go_ret
    exact ⟨ret_i64 (by rw [Hr.out]; rfl), ⟨xs, at_, A, c, B, h1, by rw [Hr.out]; exact H2.out.trans Hr.out, h3, HB.out.drewN _, h5, HR.out.drewN _, H6.out⟩, only_drewN (World.grownBy.refl w _) _⟩

theorem own_empty (w : World) (e : TypeId) (size : Nat) : (w.alloc (.cells #[] e)).ownsRow w.heap.size e size (.slice (some ⟨w.heap.size, 0, none⟩) 0 0) 0 [] :=
  ⟨by simp, Or.inr ⟨w.heap.size, 0, #[], rfl, Nat.le_refl _, heap_alloc_new w _, by omega, by unfold maxLen; omega, by simp, by simp⟩⟩

set_option maxRecDepth 100000 in
set_option maxHeartbeats 400000 in
theorem roll_any (A : Option Addr) (c : Nat) (xs : List Int) (w : World) (hl : xs.length ≤ 1000) (hr : Reads w w.heap.size 1 A xs.length (ints xs)) (hx : ∀ x ∈ xs, -9223372036854775808 ≤ x ∧ x ≤ 9223372036854775807) :
    Calls Try.prog 15 #[.slice A xs.length c] w fun e w' => ∃ g, e = .returned (.pointer (some ⟨g, 0, none⟩)) ∧ w.heap.size ≤ g ∧ DiceAt w' g xs ∧ Below w.heap.size w w' := by
  obtain ⟨i0, hi0, hz0, hz1, hz2⟩ := info_parts int_info
  have HX := Lib.hid hx
  clear hx
  go_enter Try.func15, Try.ntmps15
  go_wp2_with (at_builtin; refine wpList_append_any _ rfl (.tmp 3) (.tmp 4) _ rfl w.heap.size 3 i0 _ 1 8 Try.underlying22 hi0 hz0 hz1 hz2 rfl (by decide) _ 0 [] rfl (own_empty w 3 1) w.heap.size A xs.length c (ints xs) rfl (hr.alloc (Nat.le_refl _) _) (ints_one xs) ?c1 ?c2 ?c3 ?_)
  case c1 => unfold maxLen; omega
  case c2 => omega
  case c3 => simp
  intro v1 w1 hown1 hg1 hat
  have hb1 : Below w.heap.size w w1 := ((Below.refl _ _).alloc (Nat.le_refl _) _).grown hg1 (by simp) (by intro k hk; simp [Value.ownBlock] at hk; omega)
  have hI := IsInts.of_own hown1
  obtain ⟨A1, c1, rfl, hr1⟩ := hI
  go_wp2
  go_ret
  refine ⟨w1.heap.size, rfl, hb1.size, ⟨xs, 0, A1, c1, w1.heap.size, by omega, rfl, hl, Blk.new _ _ _, Nat.le_refl _, hr1.alloc (Nat.le_refl _) _, HX.out⟩, hb1.alloc hb1.size _⟩
end Go.Proofs.Ytopdpfbkdgncaaa
