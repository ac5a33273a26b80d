/- Histories: the made history. -/
import Derived.Test.YtmooflgfcebmaaaHj
namespace Go.Proofs.Ytmooflgfcebmaaa.Ab
set_option linter.unusedVariables false
set_option linter.unusedSimpArgs false
open Go.RowKit

theorem mInv_nx {L : List Int} {k k' : Nat} {out opn out' opn' : List Ev} (h : mInv L (k, out, opn)) (h1 : k < L.length) (h2 : out.length < 60) (h3 : k' ≤ L.length) (h4 : out'.length = out.length + 1) (h5 : opn'.length ≤ out.length + 1) (hgo : mgo L (60 - (out.length + 1)) (k', out', opn') = madeL L) : mInv L (k', out', opn') := by
  refine ⟨h3, ?_, ?_, ?_⟩
  · dsimp only; omega
  · dsimp only; omega
  · dsimp only; rw [h4]; exact hgo
theorem w64_len (out : List Ev) (x : Ev) (h : out.length ≤ 60) : iwrap .i64 ((out.length : Int) + 1) = (((out ++ [x]).length : Nat) : Int) := by
  rw [List.length_append]; exact w64_nat (by omega)
theorem cut_out (opn : List Ev) (a : Nat) : ([] ++ List.drop (0 + Int.toNat 0) (List.take (0 + ((a : Int)).toNat) (vR opn))) ++ List.drop (0 + (((a + 1 : Nat) : Int)).toNat) (List.take (0 + (((vR opn).length : Nat) : Int).toNat) (vR opn)) = vR (opn.take a ++ opn.drop (a + 1)) := by
  simp only [List.nil_append, Int.toNat_natCast, Nat.zero_add, List.take_length, vTake, vDrop, vApp]
  rfl
set_option maxRecDepth 100000 in
set_option maxHeartbeats 16000000 in
theorem madeF (L : List Int) (hl : L.length ≤ 1000000) : Fun Try.prog 14 [slV (wV L)] [.row 0 38 8 (vR (madeL L))] (.v (.c (.own 0 0))) := by
  have hval : ∀ n, Fun Try.prog 43 [i64V n] [] (.v (gv_strV (vval n))) := valF
  have hnext : ∀ k n, FunP Try.prog 40 (dcs L k) [i64V n] (dcs L (dnx L k)) (.v (i64V (dval L k n))) := fun k n => nextF L k n hl
  refine fun_of_vc tabOk mixOk Try.func14 rfl (by rfl) (rs := [.tmp 2]) rfl rfl 99 ?_; rw [Try.ntmps14]
  (conv => whnf); repeat (first | (refine And.intro rfl ?_; conv => whnf) | (refine And.intro (fun _ => ?_) (fun h => Bool.noConfusion h); conv => whnf) | (refine And.intro (fun h => Bool.noConfusion h) (fun _ => ?_); conv => whnf))
  refine ⟨_, _, rollF L hl, ?_⟩
  (conv => whnf); repeat (first | (refine And.intro rfl ?_; conv => whnf) | (refine And.intro (fun _ => ?_) (fun h => Bool.noConfusion h); conv => whnf) | (refine And.intro (fun h => Bool.noConfusion h) (fun _ => ?_); conv => whnf))
  refine vc_loop [2, 3] [] (X := Nat × List Ev × List Ev) (fun x gs => [(6, ATint x.2.1.length), (4, .v (.c (.own 97 (gs 97)))), (5, .v (.c (.own 96 (gs 96))))]) (fun x gs => [(11, .var 1 (dcs L x.1)), (97, .row (gs 97) 38 8 (vR x.2.1)), (96, .row (gs 96) 38 8 (vR x.2.2))]) (mInv L) (fun x => 60 - x.2.1.length) _ ((Ghost.ownNil 4 97 38 8 rfl (Nat.le_of_ble_eq_true rfl)).trans (Ghost.ownNil 5 96 38 8 rfl (Nat.le_of_ble_eq_true rfl))) (0, [], []) ⟨Nat.zero_le _, by simp, by simp, rfl⟩ ?_ ?_
  · (refine And.intro rfl (And.intro rfl ?_)); (repeat' (first | exact trivial | exact rfl | apply And.intro | (refine congrArg (Value.int .i64) (w64_nat ?_); omega)))
  rintro gs ⟨k, out, opn⟩ hI
  have i1 := hI.1
  have i2 := hI.2.1
  have i3 := hI.2.2.1
  dsimp only at i1 i2 i3 ⊢
  (conv => whnf); repeat (first | (refine And.intro rfl ?_; conv => whnf) | (refine And.intro (fun _ => ?_) (fun h => Bool.noConfusion h); conv => whnf) | (refine And.intro (fun h => Bool.noConfusion h) (fun _ => ?_); conv => whnf))
  refine ⟨_, _, restF L k hl i1, ?_⟩
  (conv => whnf); repeat (first | (refine And.intro rfl ?_; conv => whnf) | (refine And.intro (fun _ => ?_) (fun h => Bool.noConfusion h); conv => whnf) | (refine And.intro (fun h => Bool.noConfusion h) (fun _ => ?_); conv => whnf))
  have hfin : ∀ (h : ¬ k < L.length ∨ ¬ out.length < 60), ([Blk.row 0 38 8 (vR out)] = [Blk.row 0 38 8 (vR (madeL L))]) := fun h => by rw [mInv_end hI h]
  refine And.intro (fun h1 => ?_) (fun h1 => ?_)
  rotate_left
  · have h1' : ¬ k < L.length := by simp at h1; omega
    (conv => whnf); repeat (first | (refine And.intro rfl ?_; conv => whnf) | (refine And.intro (fun _ => ?_) (fun h => Bool.noConfusion h); conv => whnf) | (refine And.intro (fun h => Bool.noConfusion h) (fun _ => ?_); conv => whnf))
    refine ⟨[97], by simp, ?_⟩
    (conv => whnf); repeat (first | (refine And.intro rfl ?_; conv => whnf) | (refine And.intro (fun _ => ?_) (fun h => Bool.noConfusion h); conv => whnf) | (refine And.intro (fun h => Bool.noConfusion h) (fun _ => ?_); conv => whnf))
    exact ⟨hfin (Or.inl h1'), rfl⟩
  have hk : k < L.length := by simp at h1; omega
  (conv => whnf); repeat (first | (refine And.intro rfl ?_; conv => whnf) | (refine And.intro (fun _ => ?_) (fun h => Bool.noConfusion h); conv => whnf) | (refine And.intro (fun h => Bool.noConfusion h) (fun _ => ?_); conv => whnf))
  refine And.intro (fun h2 => ?_) (fun h2 => ?_)
  rotate_left
  · have h2' : ¬ out.length < 60 := by have := of_decide_eq_false h2; rw [vLen] at this; omega
    (conv => whnf); repeat (first | (refine And.intro rfl ?_; conv => whnf) | (refine And.intro (fun _ => ?_) (fun h => Bool.noConfusion h); conv => whnf) | (refine And.intro (fun h => Bool.noConfusion h) (fun _ => ?_); conv => whnf))
    refine ⟨[97], by simp, ?_⟩
    (conv => whnf); repeat (first | (refine And.intro rfl ?_; conv => whnf) | (refine And.intro (fun _ => ?_) (fun h => Bool.noConfusion h); conv => whnf) | (refine And.intro (fun h => Bool.noConfusion h) (fun _ => ?_); conv => whnf))
    exact ⟨hfin (Or.inr h2'), rfl⟩
  have ho : out.length < 60 := by have := of_decide_eq_true h2; rw [vLen] at this; omega
  have hgo := mInv_go hI hk ho
  unfold mStep at hgo
  have hcall : ∀ k', k' ≤ L.length → mgo L (60 - (out.length + 1)) (mCall L k' out opn) = madeL L → True := fun _ _ _ => trivial
  clear h1 h2
  (conv => whnf); repeat (first | (refine And.intro rfl ?_; conv => whnf) | (refine And.intro (fun _ => ?_) (fun h => Bool.noConfusion h); conv => whnf) | (refine And.intro (fun h => Bool.noConfusion h) (fun _ => ?_); conv => whnf))
  refine And.intro (fun h3 => ?_) (fun h3 => ?_)
  · have h3' : opn.length > 0 := by have := of_decide_eq_true h3; rw [vLen] at this; omega
    rw [if_pos h3'] at hgo
    (conv => whnf); repeat (first | (refine And.intro rfl ?_; conv => whnf) | (refine And.intro (fun _ => ?_) (fun h => Bool.noConfusion h); conv => whnf) | (refine And.intro (fun h => Bool.noConfusion h) (fun _ => ?_); conv => whnf))
    refine ⟨_, _, hnext k 2, ?_⟩
    (conv => whnf); repeat (first | (refine And.intro rfl ?_; conv => whnf) | (refine And.intro (fun _ => ?_) (fun h => Bool.noConfusion h); conv => whnf) | (refine And.intro (fun h => Bool.noConfusion h) (fun _ => ?_); conv => whnf))
    refine And.intro (fun h4 => ?_) (fun h4 => ?_)
    · have h4' : dval L k 2 = 0 := by simpa using h4
      rw [if_pos h4'] at hgo
      have hd := dval_in L (dnx L k) (n := (opn.length : Int)) (by omega) (by omega)
      obtain ⟨a, ha⟩ : ∃ a : Nat, dval L (dnx L k) (opn.length : Int) = (a : Int) := ⟨_, (Int.toNat_of_nonneg hd.1).symm⟩
      rw [ha] at hd hgo
      have hlt : a < opn.length := by omega
      have hnx := hnext (dnx L k) (opn.length : Int)
      rw [ha] at hnx
      rw [Int.toNat_natCast, List.getElem?_eq_getElem hlt] at hgo
      dsimp only at hgo
      have hy := vItem hlt
      generalize opn[a] = y at hgo hy
      clear ha h3 h4 hd
      have hk2 : dnx L (dnx L k) ≤ L.length := dnx_le (dnx_le i1)
      generalize dnx L (dnx L k) = k2 at hgo hnx hk2
      (conv => whnf); repeat (first | (refine And.intro rfl ?_; conv => whnf) | (refine And.intro (fun _ => ?_) (fun h => Bool.noConfusion h); conv => whnf) | (refine And.intro (fun h => Bool.noConfusion h) (fun _ => ?_); conv => whnf))
      rw [vLen]
      refine ⟨_, _, hnx, ?_⟩
      (conv => whnf); repeat (first | (refine And.intro rfl ?_; conv => whnf) | (refine And.intro (fun _ => ?_) (fun h => Bool.noConfusion h); conv => whnf) | (refine And.intro (fun h => Bool.noConfusion h) (fun _ => ?_); conv => whnf))
      refine ⟨by omega, by rw [Int.toNat_natCast, vLen]; exact hlt, ?_⟩
      (conv => whnf); repeat (first | (refine And.intro rfl ?_; conv => whnf) | (refine And.intro (fun _ => ?_) (fun h => Bool.noConfusion h); conv => whnf) | (refine And.intro (fun h => Bool.noConfusion h) (fun _ => ?_); conv => whnf))
      refine ⟨_, hy, ?_⟩
      (conv => whnf); repeat (first | (refine And.intro rfl ?_; conv => whnf) | (refine And.intro (fun _ => ?_) (fun h => Bool.noConfusion h); conv => whnf) | (refine And.intro (fun h => Bool.noConfusion h) (fun _ => ?_); conv => whnf))
      refine ⟨_, _, hnext _ 6, ?_⟩
      (conv => whnf); repeat (first | (refine And.intro rfl ?_; conv => whnf) | (refine And.intro (fun _ => ?_) (fun h => Bool.noConfusion h); conv => whnf) | (refine And.intro (fun h => Bool.noConfusion h) (fun _ => ?_); conv => whnf))
      unfold mRet at hgo
      have hw : iwrap .i64 ((a : Int) + 1) = ((a + 1 : Nat) : Int) := w64_nat (by omega)
      have hcut := cut_out opn a
      refine And.intro (fun h5 => ?_) (fun h5 => ?_)
      · rw [if_pos (by simpa using h5)] at hgo
        (conv => whnf); repeat (first | (refine And.intro rfl ?_; conv => whnf) | (refine And.intro (fun _ => ?_) (fun h => Bool.noConfusion h); conv => whnf) | (refine And.intro (fun h => Bool.noConfusion h) (fun _ => ?_); conv => whnf))
        refine ⟨vSz [⟨true, y.q, y.s, y.k, y.b, y.d, 7, y.o⟩], ?_⟩
        (conv => whnf); repeat (first | (refine And.intro rfl ?_; conv => whnf) | (refine And.intro (fun _ => ?_) (fun h => Bool.noConfusion h); conv => whnf) | (refine And.intro (fun h => Bool.noConfusion h) (fun _ => ?_); conv => whnf))
        refine ⟨bytes_le (by decide) (by simp [vR]; omega), ?_⟩
        (conv => whnf); repeat (first | (refine And.intro rfl ?_; conv => whnf) | (refine And.intro (fun _ => ?_) (fun h => Bool.noConfusion h); conv => whnf) | (refine And.intro (fun h => Bool.noConfusion h) (fun _ => ?_); conv => whnf))
        refine ⟨by omega, by omega, by rw [vLen]; omega, ?_⟩
        (conv => whnf); repeat (first | (refine And.intro rfl ?_; conv => whnf) | (refine And.intro (fun _ => ?_) (fun h => Bool.noConfusion h); conv => whnf) | (refine And.intro (fun h => Bool.noConfusion h) (fun _ => ?_); conv => whnf))
        refine ⟨fun z hz => vSz _ _ (List.mem_of_mem_take (List.mem_of_mem_drop hz)), ?_⟩
        (conv => whnf); repeat (first | (refine And.intro rfl ?_; conv => whnf) | (refine And.intro (fun _ => ?_) (fun h => Bool.noConfusion h); conv => whnf) | (refine And.intro (fun h => Bool.noConfusion h) (fun _ => ?_); conv => whnf))
        refine ⟨bytes_le (by decide) (by simp [vR]; omega), ?_⟩
        (conv => whnf); repeat (first | (refine And.intro rfl ?_; conv => whnf) | (refine And.intro (fun _ => ?_) (fun h => Bool.noConfusion h); conv => whnf) | (refine And.intro (fun h => Bool.noConfusion h) (fun _ => ?_); conv => whnf))
        rw [hw]
        refine ⟨by omega, by rw [vLen]; omega, by rw [vLen]; omega, ?_⟩
        (conv => whnf); repeat (first | (refine And.intro rfl ?_; conv => whnf) | (refine And.intro (fun _ => ?_) (fun h => Bool.noConfusion h); conv => whnf) | (refine And.intro (fun h => Bool.noConfusion h) (fun _ => ?_); conv => whnf))
        refine ⟨fun z hz => vSz _ _ (List.mem_of_mem_take (List.mem_of_mem_drop hz)), ?_⟩
        (conv => whnf); repeat (first | (refine And.intro rfl ?_; conv => whnf) | (refine And.intro (fun _ => ?_) (fun h => Bool.noConfusion h); conv => whnf) | (refine And.intro (fun h => Bool.noConfusion h) (fun _ => ?_); conv => whnf))
        refine ⟨bytes_le (by decide) (by simp [vR]; omega), ?_⟩
        (conv => whnf); repeat (first | (refine And.intro rfl ?_; conv => whnf) | (refine And.intro (fun _ => ?_) (fun h => Bool.noConfusion h); conv => whnf) | (refine And.intro (fun h => Bool.noConfusion h) (fun _ => ?_); conv => whnf))
        refine againG (dnx L k2, out ++ [⟨true, y.q, y.s, y.k, y.b, y.d, 7, y.o⟩], opn.take a ++ opn.drop (a + 1)) (Ghost.move 5 57 96 _ 38 8 _ rfl rfl (by decide) (Nat.le_of_ble_eq_true rfl)) (mInv_nx hI hk ho (by first | exact hk2 | exact dnx_le hk2 | exact dnx_le (dnx_le hk2)) (by simp) (by simp; omega) hgo) (by simp; omega) ?_
        (refine And.intro rfl (And.intro rfl ?_)); (repeat' (first | exact trivial | exact rfl | apply And.intro | (refine congrArg (Value.int .i64) (w64_nat ?_); omega)))
        all_goals first | exact congrArg (Value.int .i64) (w64_len out ⟨true, y.q, y.s, y.k, y.b, y.d, 7, y.o⟩ i2) | exact congrArg (Blk.row _ _ _) (vSnoc out ⟨true, y.q, y.s, y.k, y.b, y.d, 7, y.o⟩) | exact congrArg (Blk.row _ _ _) hcut

      · rw [if_neg (by simpa using h5)] at hgo
        (conv => whnf); repeat (first | (refine And.intro rfl ?_; conv => whnf) | (refine And.intro (fun _ => ?_) (fun h => Bool.noConfusion h); conv => whnf) | (refine And.intro (fun h => Bool.noConfusion h) (fun _ => ?_); conv => whnf))
        refine And.intro (fun h6 => ?_) (fun h6 => ?_)
        · rw [if_pos (by simpa using h6)] at hgo
          (conv => whnf); repeat (first | (refine And.intro rfl ?_; conv => whnf) | (refine And.intro (fun _ => ?_) (fun h => Bool.noConfusion h); conv => whnf) | (refine And.intro (fun h => Bool.noConfusion h) (fun _ => ?_); conv => whnf))
          refine ⟨_, _, hnext _ 3, ?_⟩
          (conv => whnf); repeat (first | (refine And.intro rfl ?_; conv => whnf) | (refine And.intro (fun _ => ?_) (fun h => Bool.noConfusion h); conv => whnf) | (refine And.intro (fun h => Bool.noConfusion h) (fun _ => ?_); conv => whnf))
          refine ⟨_, _, hval _, ?_⟩
          (conv => whnf); repeat (first | (refine And.intro rfl ?_; conv => whnf) | (refine And.intro (fun _ => ?_) (fun h => Bool.noConfusion h); conv => whnf) | (refine And.intro (fun h => Bool.noConfusion h) (fun _ => ?_); conv => whnf))
          refine ⟨vSz [⟨true, y.q, y.s, y.k, y.b, y.d, y.e, vval (dval L (dnx L k2) 3)⟩], ?_⟩
          (conv => whnf); repeat (first | (refine And.intro rfl ?_; conv => whnf) | (refine And.intro (fun _ => ?_) (fun h => Bool.noConfusion h); conv => whnf) | (refine And.intro (fun h => Bool.noConfusion h) (fun _ => ?_); conv => whnf))
          refine ⟨bytes_le (by decide) (by simp [vR]; omega), ?_⟩
          (conv => whnf); repeat (first | (refine And.intro rfl ?_; conv => whnf) | (refine And.intro (fun _ => ?_) (fun h => Bool.noConfusion h); conv => whnf) | (refine And.intro (fun h => Bool.noConfusion h) (fun _ => ?_); conv => whnf))
          refine ⟨by omega, by omega, by rw [vLen]; omega, ?_⟩
          (conv => whnf); repeat (first | (refine And.intro rfl ?_; conv => whnf) | (refine And.intro (fun _ => ?_) (fun h => Bool.noConfusion h); conv => whnf) | (refine And.intro (fun h => Bool.noConfusion h) (fun _ => ?_); conv => whnf))
          refine ⟨fun z hz => vSz _ _ (List.mem_of_mem_take (List.mem_of_mem_drop hz)), ?_⟩
          (conv => whnf); repeat (first | (refine And.intro rfl ?_; conv => whnf) | (refine And.intro (fun _ => ?_) (fun h => Bool.noConfusion h); conv => whnf) | (refine And.intro (fun h => Bool.noConfusion h) (fun _ => ?_); conv => whnf))
          refine ⟨bytes_le (by decide) (by simp [vR]; omega), ?_⟩
          (conv => whnf); repeat (first | (refine And.intro rfl ?_; conv => whnf) | (refine And.intro (fun _ => ?_) (fun h => Bool.noConfusion h); conv => whnf) | (refine And.intro (fun h => Bool.noConfusion h) (fun _ => ?_); conv => whnf))
          rw [hw]
          refine ⟨by omega, by rw [vLen]; omega, by rw [vLen]; omega, ?_⟩
          (conv => whnf); repeat (first | (refine And.intro rfl ?_; conv => whnf) | (refine And.intro (fun _ => ?_) (fun h => Bool.noConfusion h); conv => whnf) | (refine And.intro (fun h => Bool.noConfusion h) (fun _ => ?_); conv => whnf))
          refine ⟨fun z hz => vSz _ _ (List.mem_of_mem_take (List.mem_of_mem_drop hz)), ?_⟩
          (conv => whnf); repeat (first | (refine And.intro rfl ?_; conv => whnf) | (refine And.intro (fun _ => ?_) (fun h => Bool.noConfusion h); conv => whnf) | (refine And.intro (fun h => Bool.noConfusion h) (fun _ => ?_); conv => whnf))
          refine ⟨bytes_le (by decide) (by simp [vR]; omega), ?_⟩
          (conv => whnf); repeat (first | (refine And.intro rfl ?_; conv => whnf) | (refine And.intro (fun _ => ?_) (fun h => Bool.noConfusion h); conv => whnf) | (refine And.intro (fun h => Bool.noConfusion h) (fun _ => ?_); conv => whnf))
          refine againG (dnx L (dnx L k2), out ++ [⟨true, y.q, y.s, y.k, y.b, y.d, y.e, vval (dval L (dnx L k2) 3)⟩], opn.take a ++ opn.drop (a + 1)) (Ghost.move 5 57 96 _ 38 8 _ rfl rfl (by decide) (Nat.le_of_ble_eq_true rfl)) (mInv_nx hI hk ho (by first | exact hk2 | exact dnx_le hk2 | exact dnx_le (dnx_le hk2)) (by simp) (by simp; omega) hgo) (by simp; omega) ?_
          (refine And.intro rfl (And.intro rfl ?_)); (repeat' (first | exact trivial | exact rfl | apply And.intro | (refine congrArg (Value.int .i64) (w64_nat ?_); omega)))
          all_goals first | exact congrArg (Value.int .i64) (w64_len out ⟨true, y.q, y.s, y.k, y.b, y.d, y.e, vval (dval L (dnx L k2) 3)⟩ i2) | exact congrArg (Blk.row _ _ _) (vSnoc out ⟨true, y.q, y.s, y.k, y.b, y.d, y.e, vval (dval L (dnx L k2) 3)⟩) | exact congrArg (Blk.row _ _ _) hcut

        · rw [if_neg (by simpa using h6)] at hgo
          (conv => whnf); repeat (first | (refine And.intro rfl ?_; conv => whnf) | (refine And.intro (fun _ => ?_) (fun h => Bool.noConfusion h); conv => whnf) | (refine And.intro (fun h => Bool.noConfusion h) (fun _ => ?_); conv => whnf))
          refine ⟨vSz [⟨true, y.q, y.s, y.k, y.b, y.d, y.e, y.o⟩], ?_⟩
          (conv => whnf); repeat (first | (refine And.intro rfl ?_; conv => whnf) | (refine And.intro (fun _ => ?_) (fun h => Bool.noConfusion h); conv => whnf) | (refine And.intro (fun h => Bool.noConfusion h) (fun _ => ?_); conv => whnf))
          refine ⟨bytes_le (by decide) (by simp [vR]; omega), ?_⟩
          (conv => whnf); repeat (first | (refine And.intro rfl ?_; conv => whnf) | (refine And.intro (fun _ => ?_) (fun h => Bool.noConfusion h); conv => whnf) | (refine And.intro (fun h => Bool.noConfusion h) (fun _ => ?_); conv => whnf))
          refine ⟨by omega, by omega, by rw [vLen]; omega, ?_⟩
          (conv => whnf); repeat (first | (refine And.intro rfl ?_; conv => whnf) | (refine And.intro (fun _ => ?_) (fun h => Bool.noConfusion h); conv => whnf) | (refine And.intro (fun h => Bool.noConfusion h) (fun _ => ?_); conv => whnf))
          refine ⟨fun z hz => vSz _ _ (List.mem_of_mem_take (List.mem_of_mem_drop hz)), ?_⟩
          (conv => whnf); repeat (first | (refine And.intro rfl ?_; conv => whnf) | (refine And.intro (fun _ => ?_) (fun h => Bool.noConfusion h); conv => whnf) | (refine And.intro (fun h => Bool.noConfusion h) (fun _ => ?_); conv => whnf))
          refine ⟨bytes_le (by decide) (by simp [vR]; omega), ?_⟩
          (conv => whnf); repeat (first | (refine And.intro rfl ?_; conv => whnf) | (refine And.intro (fun _ => ?_) (fun h => Bool.noConfusion h); conv => whnf) | (refine And.intro (fun h => Bool.noConfusion h) (fun _ => ?_); conv => whnf))
          rw [hw]
          refine ⟨by omega, by rw [vLen]; omega, by rw [vLen]; omega, ?_⟩
          (conv => whnf); repeat (first | (refine And.intro rfl ?_; conv => whnf) | (refine And.intro (fun _ => ?_) (fun h => Bool.noConfusion h); conv => whnf) | (refine And.intro (fun h => Bool.noConfusion h) (fun _ => ?_); conv => whnf))
          refine ⟨fun z hz => vSz _ _ (List.mem_of_mem_take (List.mem_of_mem_drop hz)), ?_⟩
          (conv => whnf); repeat (first | (refine And.intro rfl ?_; conv => whnf) | (refine And.intro (fun _ => ?_) (fun h => Bool.noConfusion h); conv => whnf) | (refine And.intro (fun h => Bool.noConfusion h) (fun _ => ?_); conv => whnf))
          refine ⟨bytes_le (by decide) (by simp [vR]; omega), ?_⟩
          (conv => whnf); repeat (first | (refine And.intro rfl ?_; conv => whnf) | (refine And.intro (fun _ => ?_) (fun h => Bool.noConfusion h); conv => whnf) | (refine And.intro (fun h => Bool.noConfusion h) (fun _ => ?_); conv => whnf))
          refine againG (dnx L k2, out ++ [⟨true, y.q, y.s, y.k, y.b, y.d, y.e, y.o⟩], opn.take a ++ opn.drop (a + 1)) (Ghost.move 5 57 96 _ 38 8 _ rfl rfl (by decide) (Nat.le_of_ble_eq_true rfl)) (mInv_nx hI hk ho (by first | exact hk2 | exact dnx_le hk2 | exact dnx_le (dnx_le hk2)) (by simp) (by simp; omega) hgo) (by simp; omega) ?_
          (refine And.intro rfl (And.intro rfl ?_)); (repeat' (first | exact trivial | exact rfl | apply And.intro | (refine congrArg (Value.int .i64) (w64_nat ?_); omega)))
          all_goals first | exact congrArg (Value.int .i64) (w64_len out ⟨true, y.q, y.s, y.k, y.b, y.d, y.e, y.o⟩ i2) | exact congrArg (Blk.row _ _ _) (vSnoc out ⟨true, y.q, y.s, y.k, y.b, y.d, y.e, y.o⟩) | exact congrArg (Blk.row _ _ _) hcut

    · rw [if_neg (by simpa using h4)] at hgo
      unfold mCall at hgo
      have hk4 : iwrap .i64 (1 + dval L (dnx L (dnx L k)) 4) = 1 + dval L (dnx L (dnx L k)) 4 := by have := dval_in L (dnx L (dnx L k)) (n := 4) (by decide) (by decide); exact w64_in (by omega)
      (conv => whnf); repeat (first | (refine And.intro rfl ?_; conv => whnf) | (refine And.intro (fun _ => ?_) (fun h => Bool.noConfusion h); conv => whnf) | (refine And.intro (fun h => Bool.noConfusion h) (fun _ => ?_); conv => whnf))
      refine ⟨_, _, hnext (dnx L k) 4, ?_⟩
      (conv => whnf); repeat (first | (refine And.intro rfl ?_; conv => whnf) | (refine And.intro (fun _ => ?_) (fun h => Bool.noConfusion h); conv => whnf) | (refine And.intro (fun h => Bool.noConfusion h) (fun _ => ?_); conv => whnf))
      refine ⟨_, _, hnext _ 4, ?_⟩
      (conv => whnf); repeat (first | (refine And.intro rfl ?_; conv => whnf) | (refine And.intro (fun _ => ?_) (fun h => Bool.noConfusion h); conv => whnf) | (refine And.intro (fun h => Bool.noConfusion h) (fun _ => ?_); conv => whnf))
      refine ⟨_, _, hnext _ 3, ?_⟩
      (conv => whnf); repeat (first | (refine And.intro rfl ?_; conv => whnf) | (refine And.intro (fun _ => ?_) (fun h => Bool.noConfusion h); conv => whnf) | (refine And.intro (fun h => Bool.noConfusion h) (fun _ => ?_); conv => whnf))
      rw [hk4]
      refine And.intro (fun h6 => ?_) (fun h6 => ?_)
      · have h6' : 1 + dval L (dnx L (dnx L k)) 4 = 2 := by simpa using h6
        rw [if_pos h6'] at hgo
        rw [h6']
        (conv => whnf); repeat (first | (refine And.intro rfl ?_; conv => whnf) | (refine And.intro (fun _ => ?_) (fun h => Bool.noConfusion h); conv => whnf) | (refine And.intro (fun h => Bool.noConfusion h) (fun _ => ?_); conv => whnf))
        refine ⟨_, _, hnext _ 3, ?_⟩
        (conv => whnf); repeat (first | (refine And.intro rfl ?_; conv => whnf) | (refine And.intro (fun _ => ?_) (fun h => Bool.noConfusion h); conv => whnf) | (refine And.intro (fun h => Bool.noConfusion h) (fun _ => ?_); conv => whnf))
        refine ⟨_, _, hval _, ?_⟩
        have hkk : dnx L (dnx L (dnx L (dnx L (dnx L k)))) ≤ L.length := dnx_le (dnx_le (dnx_le (dnx_le (dnx_le i1))))
        (conv => whnf); repeat (first | (refine And.intro rfl ?_; conv => whnf) | (refine And.intro (fun _ => ?_) (fun h => Bool.noConfusion h); conv => whnf) | (refine And.intro (fun h => Bool.noConfusion h) (fun _ => ?_); conv => whnf))
        refine ⟨vSz [⟨false, dval L (dnx L k) 4, out.length, 2, dval L (dnx L (dnx L (dnx L k))) 3, vval (dval L (dnx L (dnx L (dnx L (dnx L k)))) 3), 0, ByteArray.empty⟩], ?_⟩
        (conv => whnf); repeat (first | (refine And.intro rfl ?_; conv => whnf) | (refine And.intro (fun _ => ?_) (fun h => Bool.noConfusion h); conv => whnf) | (refine And.intro (fun h => Bool.noConfusion h) (fun _ => ?_); conv => whnf))
        refine ⟨bytes_le (by decide) (by simp [vR]; omega), ?_⟩
        (conv => whnf); repeat (first | (refine And.intro rfl ?_; conv => whnf) | (refine And.intro (fun _ => ?_) (fun h => Bool.noConfusion h); conv => whnf) | (refine And.intro (fun h => Bool.noConfusion h) (fun _ => ?_); conv => whnf))
        refine ⟨vSz [⟨false, dval L (dnx L k) 4, out.length, 2, dval L (dnx L (dnx L (dnx L k))) 3, vval (dval L (dnx L (dnx L (dnx L (dnx L k)))) 3), 0, ByteArray.empty⟩], ?_⟩
        (conv => whnf); repeat (first | (refine And.intro rfl ?_; conv => whnf) | (refine And.intro (fun _ => ?_) (fun h => Bool.noConfusion h); conv => whnf) | (refine And.intro (fun h => Bool.noConfusion h) (fun _ => ?_); conv => whnf))
        refine ⟨bytes_le (by decide) (by simp [vR]; omega), ?_⟩
        (conv => whnf); repeat (first | (refine And.intro rfl ?_; conv => whnf) | (refine And.intro (fun _ => ?_) (fun h => Bool.noConfusion h); conv => whnf) | (refine And.intro (fun h => Bool.noConfusion h) (fun _ => ?_); conv => whnf))
        refine again (dnx L (dnx L (dnx L (dnx L (dnx L k)))), out ++ [⟨false, dval L (dnx L k) 4, out.length, 2, dval L (dnx L (dnx L (dnx L k))) 3, vval (dval L (dnx L (dnx L (dnx L (dnx L k)))) 3), 0, ByteArray.empty⟩], opn ++ [⟨false, dval L (dnx L k) 4, out.length, 2, dval L (dnx L (dnx L (dnx L k))) 3, vval (dval L (dnx L (dnx L (dnx L (dnx L k)))) 3), 0, ByteArray.empty⟩]) (mInv_nx hI hk ho hkk (by simp) (by simp; omega) hgo) (by simp; omega) ?_
        (refine And.intro rfl (And.intro rfl ?_)); (repeat' (first | exact trivial | exact rfl | apply And.intro | (refine congrArg (Value.int .i64) (w64_nat ?_); omega)))
        all_goals first | exact congrArg (Value.int .i64) (w64_len out ⟨false, dval L (dnx L k) 4, out.length, 2, dval L (dnx L (dnx L (dnx L k))) 3, vval (dval L (dnx L (dnx L (dnx L (dnx L k)))) 3), 0, ByteArray.empty⟩ i2) | exact congrArg (Blk.row _ _ _) (vSnoc out ⟨false, dval L (dnx L k) 4, out.length, 2, dval L (dnx L (dnx L (dnx L k))) 3, vval (dval L (dnx L (dnx L (dnx L (dnx L k)))) 3), 0, ByteArray.empty⟩) | exact congrArg (Blk.row _ _ _) (vSnoc opn ⟨false, dval L (dnx L k) 4, out.length, 2, dval L (dnx L (dnx L (dnx L k))) 3, vval (dval L (dnx L (dnx L (dnx L (dnx L k)))) 3), 0, ByteArray.empty⟩)

      · rw [if_neg (by simpa using h6)] at hgo
        have hkk : dnx L (dnx L (dnx L (dnx L k))) ≤ L.length := dnx_le (dnx_le (dnx_le (dnx_le i1)))
        (conv => whnf); repeat (first | (refine And.intro rfl ?_; conv => whnf) | (refine And.intro (fun _ => ?_) (fun h => Bool.noConfusion h); conv => whnf) | (refine And.intro (fun h => Bool.noConfusion h) (fun _ => ?_); conv => whnf))
        refine ⟨vSz [⟨false, dval L (dnx L k) 4, out.length, 1 + dval L (dnx L (dnx L k)) 4, dval L (dnx L (dnx L (dnx L k))) 3, ByteArray.empty, 0, ByteArray.empty⟩], ?_⟩
        (conv => whnf); repeat (first | (refine And.intro rfl ?_; conv => whnf) | (refine And.intro (fun _ => ?_) (fun h => Bool.noConfusion h); conv => whnf) | (refine And.intro (fun h => Bool.noConfusion h) (fun _ => ?_); conv => whnf))
        refine ⟨bytes_le (by decide) (by simp [vR]; omega), ?_⟩
        (conv => whnf); repeat (first | (refine And.intro rfl ?_; conv => whnf) | (refine And.intro (fun _ => ?_) (fun h => Bool.noConfusion h); conv => whnf) | (refine And.intro (fun h => Bool.noConfusion h) (fun _ => ?_); conv => whnf))
        refine ⟨vSz [⟨false, dval L (dnx L k) 4, out.length, 1 + dval L (dnx L (dnx L k)) 4, dval L (dnx L (dnx L (dnx L k))) 3, ByteArray.empty, 0, ByteArray.empty⟩], ?_⟩
        (conv => whnf); repeat (first | (refine And.intro rfl ?_; conv => whnf) | (refine And.intro (fun _ => ?_) (fun h => Bool.noConfusion h); conv => whnf) | (refine And.intro (fun h => Bool.noConfusion h) (fun _ => ?_); conv => whnf))
        refine ⟨bytes_le (by decide) (by simp [vR]; omega), ?_⟩
        (conv => whnf); repeat (first | (refine And.intro rfl ?_; conv => whnf) | (refine And.intro (fun _ => ?_) (fun h => Bool.noConfusion h); conv => whnf) | (refine And.intro (fun h => Bool.noConfusion h) (fun _ => ?_); conv => whnf))
        refine again (dnx L (dnx L (dnx L (dnx L k))), out ++ [⟨false, dval L (dnx L k) 4, out.length, 1 + dval L (dnx L (dnx L k)) 4, dval L (dnx L (dnx L (dnx L k))) 3, ByteArray.empty, 0, ByteArray.empty⟩], opn ++ [⟨false, dval L (dnx L k) 4, out.length, 1 + dval L (dnx L (dnx L k)) 4, dval L (dnx L (dnx L (dnx L k))) 3, ByteArray.empty, 0, ByteArray.empty⟩]) (mInv_nx hI hk ho hkk (by simp) (by simp; omega) hgo) (by simp; omega) ?_
        (refine And.intro rfl (And.intro rfl ?_)); (repeat' (first | exact trivial | exact rfl | apply And.intro | (refine congrArg (Value.int .i64) (w64_nat ?_); omega)))
        all_goals first | exact congrArg (Value.int .i64) (w64_len out ⟨false, dval L (dnx L k) 4, out.length, 1 + dval L (dnx L (dnx L k)) 4, dval L (dnx L (dnx L (dnx L k))) 3, ByteArray.empty, 0, ByteArray.empty⟩ i2) | exact congrArg (Blk.row _ _ _) (vSnoc out ⟨false, dval L (dnx L k) 4, out.length, 1 + dval L (dnx L (dnx L k)) 4, dval L (dnx L (dnx L (dnx L k))) 3, ByteArray.empty, 0, ByteArray.empty⟩) | exact congrArg (Blk.row _ _ _) (vSnoc opn ⟨false, dval L (dnx L k) 4, out.length, 1 + dval L (dnx L (dnx L k)) 4, dval L (dnx L (dnx L (dnx L k))) 3, ByteArray.empty, 0, ByteArray.empty⟩)


  · rw [if_neg (by have := of_decide_eq_false h3; rw [vLen] at this; omega)] at hgo
    unfold mCall at hgo
    have hk4 : iwrap .i64 (1 + dval L (dnx L k) 4) = 1 + dval L (dnx L k) 4 := by have := dval_in L (dnx L k) (n := 4) (by decide) (by decide); exact w64_in (by omega)
    (conv => whnf); repeat (first | (refine And.intro rfl ?_; conv => whnf) | (refine And.intro (fun _ => ?_) (fun h => Bool.noConfusion h); conv => whnf) | (refine And.intro (fun h => Bool.noConfusion h) (fun _ => ?_); conv => whnf))
    refine ⟨_, _, hnext k 4, ?_⟩
    (conv => whnf); repeat (first | (refine And.intro rfl ?_; conv => whnf) | (refine And.intro (fun _ => ?_) (fun h => Bool.noConfusion h); conv => whnf) | (refine And.intro (fun h => Bool.noConfusion h) (fun _ => ?_); conv => whnf))
    refine ⟨_, _, hnext _ 4, ?_⟩
    (conv => whnf); repeat (first | (refine And.intro rfl ?_; conv => whnf) | (refine And.intro (fun _ => ?_) (fun h => Bool.noConfusion h); conv => whnf) | (refine And.intro (fun h => Bool.noConfusion h) (fun _ => ?_); conv => whnf))
    refine ⟨_, _, hnext _ 3, ?_⟩
    (conv => whnf); repeat (first | (refine And.intro rfl ?_; conv => whnf) | (refine And.intro (fun _ => ?_) (fun h => Bool.noConfusion h); conv => whnf) | (refine And.intro (fun h => Bool.noConfusion h) (fun _ => ?_); conv => whnf))
    rw [hk4]
    refine And.intro (fun h6 => ?_) (fun h6 => ?_)
    · have h6' : 1 + dval L (dnx L k) 4 = 2 := by simpa using h6
      rw [if_pos h6'] at hgo
      rw [h6']
      (conv => whnf); repeat (first | (refine And.intro rfl ?_; conv => whnf) | (refine And.intro (fun _ => ?_) (fun h => Bool.noConfusion h); conv => whnf) | (refine And.intro (fun h => Bool.noConfusion h) (fun _ => ?_); conv => whnf))
      refine ⟨_, _, hnext _ 3, ?_⟩
      (conv => whnf); repeat (first | (refine And.intro rfl ?_; conv => whnf) | (refine And.intro (fun _ => ?_) (fun h => Bool.noConfusion h); conv => whnf) | (refine And.intro (fun h => Bool.noConfusion h) (fun _ => ?_); conv => whnf))
      refine ⟨_, _, hval _, ?_⟩
      have hkk : dnx L (dnx L (dnx L (dnx L k))) ≤ L.length := dnx_le (dnx_le (dnx_le (dnx_le i1)))
      (conv => whnf); repeat (first | (refine And.intro rfl ?_; conv => whnf) | (refine And.intro (fun _ => ?_) (fun h => Bool.noConfusion h); conv => whnf) | (refine And.intro (fun h => Bool.noConfusion h) (fun _ => ?_); conv => whnf))
      refine ⟨vSz [⟨false, dval L k 4, out.length, 2, dval L (dnx L (dnx L k)) 3, vval (dval L (dnx L (dnx L (dnx L k))) 3), 0, ByteArray.empty⟩], ?_⟩
      (conv => whnf); repeat (first | (refine And.intro rfl ?_; conv => whnf) | (refine And.intro (fun _ => ?_) (fun h => Bool.noConfusion h); conv => whnf) | (refine And.intro (fun h => Bool.noConfusion h) (fun _ => ?_); conv => whnf))
      refine ⟨bytes_le (by decide) (by simp [vR]; omega), ?_⟩
      (conv => whnf); repeat (first | (refine And.intro rfl ?_; conv => whnf) | (refine And.intro (fun _ => ?_) (fun h => Bool.noConfusion h); conv => whnf) | (refine And.intro (fun h => Bool.noConfusion h) (fun _ => ?_); conv => whnf))
      refine ⟨vSz [⟨false, dval L k 4, out.length, 2, dval L (dnx L (dnx L k)) 3, vval (dval L (dnx L (dnx L (dnx L k))) 3), 0, ByteArray.empty⟩], ?_⟩
      (conv => whnf); repeat (first | (refine And.intro rfl ?_; conv => whnf) | (refine And.intro (fun _ => ?_) (fun h => Bool.noConfusion h); conv => whnf) | (refine And.intro (fun h => Bool.noConfusion h) (fun _ => ?_); conv => whnf))
      refine ⟨bytes_le (by decide) (by simp [vR]; omega), ?_⟩
      (conv => whnf); repeat (first | (refine And.intro rfl ?_; conv => whnf) | (refine And.intro (fun _ => ?_) (fun h => Bool.noConfusion h); conv => whnf) | (refine And.intro (fun h => Bool.noConfusion h) (fun _ => ?_); conv => whnf))
      refine again (dnx L (dnx L (dnx L (dnx L k))), out ++ [⟨false, dval L k 4, out.length, 2, dval L (dnx L (dnx L k)) 3, vval (dval L (dnx L (dnx L (dnx L k))) 3), 0, ByteArray.empty⟩], opn ++ [⟨false, dval L k 4, out.length, 2, dval L (dnx L (dnx L k)) 3, vval (dval L (dnx L (dnx L (dnx L k))) 3), 0, ByteArray.empty⟩]) (mInv_nx hI hk ho hkk (by simp) (by simp; omega) hgo) (by simp; omega) ?_
      (refine And.intro rfl (And.intro rfl ?_)); (repeat' (first | exact trivial | exact rfl | apply And.intro | (refine congrArg (Value.int .i64) (w64_nat ?_); omega)))
      all_goals first | exact congrArg (Value.int .i64) (w64_len out ⟨false, dval L k 4, out.length, 2, dval L (dnx L (dnx L k)) 3, vval (dval L (dnx L (dnx L (dnx L k))) 3), 0, ByteArray.empty⟩ i2) | exact congrArg (Blk.row _ _ _) (vSnoc out ⟨false, dval L k 4, out.length, 2, dval L (dnx L (dnx L k)) 3, vval (dval L (dnx L (dnx L (dnx L k))) 3), 0, ByteArray.empty⟩) | exact congrArg (Blk.row _ _ _) (vSnoc opn ⟨false, dval L k 4, out.length, 2, dval L (dnx L (dnx L k)) 3, vval (dval L (dnx L (dnx L (dnx L k))) 3), 0, ByteArray.empty⟩)

    · rw [if_neg (by simpa using h6)] at hgo
      have hkk : dnx L (dnx L (dnx L k)) ≤ L.length := dnx_le (dnx_le (dnx_le i1))
      (conv => whnf); repeat (first | (refine And.intro rfl ?_; conv => whnf) | (refine And.intro (fun _ => ?_) (fun h => Bool.noConfusion h); conv => whnf) | (refine And.intro (fun h => Bool.noConfusion h) (fun _ => ?_); conv => whnf))
      refine ⟨vSz [⟨false, dval L k 4, out.length, 1 + dval L (dnx L k) 4, dval L (dnx L (dnx L k)) 3, ByteArray.empty, 0, ByteArray.empty⟩], ?_⟩
      (conv => whnf); repeat (first | (refine And.intro rfl ?_; conv => whnf) | (refine And.intro (fun _ => ?_) (fun h => Bool.noConfusion h); conv => whnf) | (refine And.intro (fun h => Bool.noConfusion h) (fun _ => ?_); conv => whnf))
      refine ⟨bytes_le (by decide) (by simp [vR]; omega), ?_⟩
      (conv => whnf); repeat (first | (refine And.intro rfl ?_; conv => whnf) | (refine And.intro (fun _ => ?_) (fun h => Bool.noConfusion h); conv => whnf) | (refine And.intro (fun h => Bool.noConfusion h) (fun _ => ?_); conv => whnf))
      refine ⟨vSz [⟨false, dval L k 4, out.length, 1 + dval L (dnx L k) 4, dval L (dnx L (dnx L k)) 3, ByteArray.empty, 0, ByteArray.empty⟩], ?_⟩
      (conv => whnf); repeat (first | (refine And.intro rfl ?_; conv => whnf) | (refine And.intro (fun _ => ?_) (fun h => Bool.noConfusion h); conv => whnf) | (refine And.intro (fun h => Bool.noConfusion h) (fun _ => ?_); conv => whnf))
      refine ⟨bytes_le (by decide) (by simp [vR]; omega), ?_⟩
      (conv => whnf); repeat (first | (refine And.intro rfl ?_; conv => whnf) | (refine And.intro (fun _ => ?_) (fun h => Bool.noConfusion h); conv => whnf) | (refine And.intro (fun h => Bool.noConfusion h) (fun _ => ?_); conv => whnf))
      refine again (dnx L (dnx L (dnx L k)), out ++ [⟨false, dval L k 4, out.length, 1 + dval L (dnx L k) 4, dval L (dnx L (dnx L k)) 3, ByteArray.empty, 0, ByteArray.empty⟩], opn ++ [⟨false, dval L k 4, out.length, 1 + dval L (dnx L k) 4, dval L (dnx L (dnx L k)) 3, ByteArray.empty, 0, ByteArray.empty⟩]) (mInv_nx hI hk ho hkk (by simp) (by simp; omega) hgo) (by simp; omega) ?_
      (refine And.intro rfl (And.intro rfl ?_)); (repeat' (first | exact trivial | exact rfl | apply And.intro | (refine congrArg (Value.int .i64) (w64_nat ?_); omega)))
      all_goals first | exact congrArg (Value.int .i64) (w64_len out ⟨false, dval L k 4, out.length, 1 + dval L (dnx L k) 4, dval L (dnx L (dnx L k)) 3, ByteArray.empty, 0, ByteArray.empty⟩ i2) | exact congrArg (Blk.row _ _ _) (vSnoc out ⟨false, dval L k 4, out.length, 1 + dval L (dnx L k) 4, dval L (dnx L (dnx L k)) 3, ByteArray.empty, 0, ByteArray.empty⟩) | exact congrArg (Blk.row _ _ _) (vSnoc opn ⟨false, dval L k 4, out.length, 1 + dval L (dnx L k) 4, dval L (dnx L (dnx L k)) 3, ByteArray.empty, 0, ByteArray.empty⟩)


end Go.Proofs.Ytmooflgfcebmaaa.Ab
