/- The action of a line: crashes and others; all together. No condition. -/
import Derived.Test.YtikchieadclbhaaGreatDoorZ30
namespace Go.Proofs.YtikchieadclbhaaGreatDoor.Ab
set_option linter.unusedVariables false
set_option linter.unusedSimpArgs false
open Go.RowKit

set_option maxRecDepth 100000 in
set_option maxHeartbeats 16000000 in
theorem rd_bCrash0 (s : ByteArray)  (hs : s.size ≤ 1000000) (hw : pcs 32 s = [bCrash]) : Fun Tryz.prog 15 [strV s] [] (.tup [acV (tread s.data.toList).1, i64V (tread s.data.toList).2]) := by
  obtain ⟨L, hL, e1, e2, e3⟩ := readEnv s ⟨4, 0, 0, 0, [], []⟩ (by rw [tcand_pcs s hw]; unfold tcandW; rw [List.map_cons]; simp [kN, bCrash, wRead, wWrite, wTrim, wFlush, wStep, wSave, wClose, wCrash])
  have hsp := splitF' 32 s hs hw
  generalize tread s.data.toList = R at e1 e2 e3 ⊢
  have hm : kmap bCrash = none := kmap_no (by decide)
  clear hw
  unfold bCrash at hsp
  refine fun_of_vc tabOk mixOk Tryz.func15 rfl (by rfl) (rs := [.cell 2 41, .tmp 3]) rfl rfl 128 ?_; rw [Tryz.ntmps15]
  (conv=>whnf);repeat((first|refine zD ?_|refine zA ?_|refine zT ?_|refine zF ?_);conv=>whnf)
  refine ⟨_, _, hsp, ?_⟩
  (conv=>whnf);repeat((first|refine zD ?_|refine zA ?_|refine zT ?_|refine zF ?_);conv=>whnf)
  refine ⟨by decide, _, rfl, rfl, ?_⟩
  (conv=>whnf);repeat((first|refine zD ?_|refine zA ?_|refine zT ?_|refine zF ?_);conv=>whnf)
  refine ⟨_, hm, ?_⟩
  (conv=>whnf);repeat((first|refine zD ?_|refine zA ?_|refine zT ?_|refine zF ?_);conv=>whnf)
  refine ⟨by decide, _, rfl, rfl, ?_⟩
  (conv=>whnf);repeat((first|refine zD ?_|refine zA ?_|refine zT ?_|refine zF ?_);conv=>whnf)
  refine And.intro (fun h => absurd h (by rw [eqS]; decide)) (fun _ => ?_)
  (conv=>whnf);repeat((first|refine zD ?_|refine zA ?_|refine zT ?_|refine zF ?_);conv=>whnf)
  refine ⟨by decide, _, rfl, rfl, ?_⟩
  (conv=>whnf);repeat((first|refine zD ?_|refine zA ?_|refine zT ?_|refine zF ?_);conv=>whnf)
  refine And.intro (fun h => absurd h (by rw [eqS]; decide)) (fun _ => ?_)
  (conv=>whnf);repeat((first|refine zD ?_|refine zA ?_|refine zT ?_|refine zF ?_);conv=>whnf)
  refine ⟨by decide, _, rfl, rfl, ?_⟩
  (conv=>whnf);repeat((first|refine zD ?_|refine zA ?_|refine zT ?_|refine zF ?_);conv=>whnf)
  refine And.intro (fun h => absurd h (by rw [eqS]; decide)) (fun _ => ?_)
  (conv=>whnf);repeat((first|refine zD ?_|refine zA ?_|refine zT ?_|refine zF ?_);conv=>whnf)
  refine ⟨by decide, _, rfl, rfl, ?_⟩
  (conv=>whnf);repeat((first|refine zD ?_|refine zA ?_|refine zT ?_|refine zF ?_);conv=>whnf)
  refine And.intro (fun _ => ?_) (fun h => absurd h (by rw [eqS]; decide))
  (conv=>whnf);repeat((first|refine zD ?_|refine zA ?_|refine zT ?_|refine zF ?_);conv=>whnf)
  refine And.intro (fun h1 => ?_) (fun h1 => ?_)
  · (conv=>whnf);repeat((first|refine zD ?_|refine zA ?_|refine zT ?_|refine zF ?_);conv=>whnf)
    refine Exists.intro [] (And.intro List.nodup_nil ?_); ((conv=>whnf);repeat((first|refine zD ?_|refine zA ?_|refine zT ?_|refine zF ?_);conv=>whnf))
    rw [e1 h1]
    rfl
  (conv=>whnf);repeat((first|refine zD ?_|refine zA ?_|refine zT ?_|refine zF ?_);conv=>whnf)
  refine ⟨_, _, hL, ?_⟩
  (conv=>whnf);repeat((first|refine zD ?_|refine zA ?_|refine zT ?_|refine zF ?_);conv=>whnf)
  refine And.intro (fun h2 => ?_) (fun h2 => ?_)
  · (conv=>whnf);repeat((first|refine zD ?_|refine zA ?_|refine zT ?_|refine zF ?_);conv=>whnf)
    refine Exists.intro [] (And.intro List.nodup_nil ?_); ((conv=>whnf);repeat((first|refine zD ?_|refine zA ?_|refine zT ?_|refine zF ?_);conv=>whnf))
    rw [e2 h2]
    rfl
  · (conv=>whnf);repeat((first|refine zD ?_|refine zA ?_|refine zT ?_|refine zF ?_);conv=>whnf)
    refine Exists.intro [] (And.intro List.nodup_nil ?_); ((conv=>whnf);repeat((first|refine zD ?_|refine zA ?_|refine zT ?_|refine zF ?_);conv=>whnf))
    rw [e3 h1 h2]
    rfl
set_option maxRecDepth 100000 in
set_option maxHeartbeats 16000000 in
theorem rd_bCrash2 (s : ByteArray) (x y : ByteArray) (r : List ByteArray) (hs : s.size ≤ 1000000) (hw : pcs 32 s = bCrash :: x :: y :: r) : Fun Tryz.prog 15 [strV s] [] (.tup [acV (tread s.data.toList).1, i64V (tread s.data.toList).2]) := by
  obtain ⟨L, hL, e1, e2, e3⟩ := readEnv s ⟨4, 0, 0, 0, [], []⟩ (by rw [tcand_pcs s hw]; unfold tcandW; rw [List.map_cons, List.map_cons, List.map_cons]; simp [kN, bCrash, wRead, wWrite, wTrim, wFlush, wStep, wSave, wClose, wCrash])
  have hsp := splitF' 32 s hs hw
  generalize tread s.data.toList = R at e1 e2 e3 ⊢
  have hm : kmap bCrash = none := kmap_no (by decide)
  clear hw
  unfold bCrash at hsp
  refine fun_of_vc tabOk mixOk Tryz.func15 rfl (by rfl) (rs := [.cell 2 41, .tmp 3]) rfl rfl 128 ?_; rw [Tryz.ntmps15]
  (conv=>whnf);repeat((first|refine zD ?_|refine zA ?_|refine zT ?_|refine zF ?_);conv=>whnf)
  refine ⟨_, _, hsp, ?_⟩
  (conv=>whnf);repeat((first|refine zD ?_|refine zA ?_|refine zT ?_|refine zF ?_);conv=>whnf)
  refine ⟨by decide, _, rfl, rfl, ?_⟩
  (conv=>whnf);repeat((first|refine zD ?_|refine zA ?_|refine zT ?_|refine zF ?_);conv=>whnf)
  refine ⟨_, hm, ?_⟩
  (conv=>whnf);repeat((first|refine zD ?_|refine zA ?_|refine zT ?_|refine zF ?_);conv=>whnf)
  refine ⟨by decide, _, rfl, rfl, ?_⟩
  (conv=>whnf);repeat((first|refine zD ?_|refine zA ?_|refine zT ?_|refine zF ?_);conv=>whnf)
  refine And.intro (fun h => absurd h (by rw [eqS]; decide)) (fun _ => ?_)
  (conv=>whnf);repeat((first|refine zD ?_|refine zA ?_|refine zT ?_|refine zF ?_);conv=>whnf)
  refine ⟨by decide, _, rfl, rfl, ?_⟩
  (conv=>whnf);repeat((first|refine zD ?_|refine zA ?_|refine zT ?_|refine zF ?_);conv=>whnf)
  refine And.intro (fun h => absurd h (by rw [eqS]; decide)) (fun _ => ?_)
  (conv=>whnf);repeat((first|refine zD ?_|refine zA ?_|refine zT ?_|refine zF ?_);conv=>whnf)
  refine ⟨by decide, _, rfl, rfl, ?_⟩
  (conv=>whnf);repeat((first|refine zD ?_|refine zA ?_|refine zT ?_|refine zF ?_);conv=>whnf)
  refine And.intro (fun h => absurd h (by rw [eqS]; decide)) (fun _ => ?_)
  (conv=>whnf);repeat((first|refine zD ?_|refine zA ?_|refine zT ?_|refine zF ?_);conv=>whnf)
  refine ⟨by decide, _, rfl, rfl, ?_⟩
  (conv=>whnf);repeat((first|refine zD ?_|refine zA ?_|refine zT ?_|refine zF ?_);conv=>whnf)
  refine And.intro (fun _ => ?_) (fun h => absurd h (by rw [eqS]; decide))
  (conv=>whnf);repeat((first|refine zD ?_|refine zA ?_|refine zT ?_|refine zF ?_);conv=>whnf)
  refine And.intro (fun h1 => ?_) (fun h1 => ?_)
  · (conv=>whnf);repeat((first|refine zD ?_|refine zA ?_|refine zT ?_|refine zF ?_);conv=>whnf)
    refine Exists.intro [] (And.intro List.nodup_nil ?_); ((conv=>whnf);repeat((first|refine zD ?_|refine zA ?_|refine zT ?_|refine zF ?_);conv=>whnf))
    rw [e1 h1]
    rfl
  (conv=>whnf);repeat((first|refine zD ?_|refine zA ?_|refine zT ?_|refine zF ?_);conv=>whnf)
  refine ⟨_, _, hL, ?_⟩
  (conv=>whnf);repeat((first|refine zD ?_|refine zA ?_|refine zT ?_|refine zF ?_);conv=>whnf)
  refine And.intro (fun h2 => ?_) (fun h2 => ?_)
  · (conv=>whnf);repeat((first|refine zD ?_|refine zA ?_|refine zT ?_|refine zF ?_);conv=>whnf)
    refine Exists.intro [] (And.intro List.nodup_nil ?_); ((conv=>whnf);repeat((first|refine zD ?_|refine zA ?_|refine zT ?_|refine zF ?_);conv=>whnf))
    rw [e2 h2]
    rfl
  · (conv=>whnf);repeat((first|refine zD ?_|refine zA ?_|refine zT ?_|refine zF ?_);conv=>whnf)
    refine Exists.intro [] (And.intro List.nodup_nil ?_); ((conv=>whnf);repeat((first|refine zD ?_|refine zA ?_|refine zT ?_|refine zF ?_);conv=>whnf))
    rw [e3 h1 h2]
    rfl
set_option maxRecDepth 100000 in
set_option maxHeartbeats 16000000 in
theorem rd_other (s : ByteArray) (w : ByteArray) (r : List ByteArray) (g0 : kN w.data.toList = 0) (g1 : ¬ w.data.toList = wStep) (g2 : ¬ w.data.toList = wSave) (g3 : ¬ w.data.toList = wClose) (g4 : ¬ w.data.toList = wCrash) (hs : s.size ≤ 1000000) (hw : pcs 32 s = w :: r) : Fun Tryz.prog 15 [strV s] [] (.tup [acV (tread s.data.toList).1, i64V (tread s.data.toList).2]) := by
  obtain ⟨L, hL, e1, e2, e3⟩ := readEnv s ac0 (by rw [tcand_pcs s hw]; unfold tcandW; rw [List.map_cons]; simp [g0, g1, g2, g3, g4])
  have hsp := splitF' 32 s hs hw
  generalize tread s.data.toList = R at e1 e2 e3 ⊢
  have hm : kmap w = none := kmap_no g0
  clear hw
  refine fun_of_vc tabOk mixOk Tryz.func15 rfl (by rfl) (rs := [.cell 2 41, .tmp 3]) rfl rfl 128 ?_; rw [Tryz.ntmps15]
  (conv=>whnf);repeat((first|refine zD ?_|refine zA ?_|refine zT ?_|refine zF ?_);conv=>whnf)
  refine ⟨_, _, hsp, ?_⟩
  (conv=>whnf);repeat((first|refine zD ?_|refine zA ?_|refine zT ?_|refine zF ?_);conv=>whnf)
  refine ⟨by decide, _, rfl, rfl, ?_⟩
  (conv=>whnf);repeat((first|refine zD ?_|refine zA ?_|refine zT ?_|refine zF ?_);conv=>whnf)
  refine ⟨_, hm, ?_⟩
  (conv=>whnf);repeat((first|refine zD ?_|refine zA ?_|refine zT ?_|refine zF ?_);conv=>whnf)
  refine ⟨by decide, _, rfl, rfl, ?_⟩
  (conv=>whnf);repeat((first|refine zD ?_|refine zA ?_|refine zT ?_|refine zF ?_);conv=>whnf)
  refine And.intro (fun h => absurd (of_decide_eq_true ((eqS _ _).symm.trans h)) g1) (fun _ => ?_)
  (conv=>whnf);repeat((first|refine zD ?_|refine zA ?_|refine zT ?_|refine zF ?_);conv=>whnf)
  refine ⟨by decide, _, rfl, rfl, ?_⟩
  (conv=>whnf);repeat((first|refine zD ?_|refine zA ?_|refine zT ?_|refine zF ?_);conv=>whnf)
  refine And.intro (fun h => absurd (of_decide_eq_true ((eqS _ _).symm.trans h)) g2) (fun _ => ?_)
  (conv=>whnf);repeat((first|refine zD ?_|refine zA ?_|refine zT ?_|refine zF ?_);conv=>whnf)
  refine ⟨by decide, _, rfl, rfl, ?_⟩
  (conv=>whnf);repeat((first|refine zD ?_|refine zA ?_|refine zT ?_|refine zF ?_);conv=>whnf)
  refine And.intro (fun h => absurd (of_decide_eq_true ((eqS _ _).symm.trans h)) g3) (fun _ => ?_)
  (conv=>whnf);repeat((first|refine zD ?_|refine zA ?_|refine zT ?_|refine zF ?_);conv=>whnf)
  refine ⟨by decide, _, rfl, rfl, ?_⟩
  (conv=>whnf);repeat((first|refine zD ?_|refine zA ?_|refine zT ?_|refine zF ?_);conv=>whnf)
  refine And.intro (fun h => absurd (of_decide_eq_true ((eqS _ _).symm.trans h)) g4) (fun _ => ?_)
  (conv=>whnf);repeat((first|refine zD ?_|refine zA ?_|refine zT ?_|refine zF ?_);conv=>whnf)
  refine And.intro (fun h1 => ?_) (fun h1 => ?_)
  · (conv=>whnf);repeat((first|refine zD ?_|refine zA ?_|refine zT ?_|refine zF ?_);conv=>whnf)
    refine Exists.intro [] (And.intro List.nodup_nil ?_); ((conv=>whnf);repeat((first|refine zD ?_|refine zA ?_|refine zT ?_|refine zF ?_);conv=>whnf))
    rw [e1 h1]
    rfl
  (conv=>whnf);repeat((first|refine zD ?_|refine zA ?_|refine zT ?_|refine zF ?_);conv=>whnf)
  refine ⟨_, _, hL, ?_⟩
  (conv=>whnf);repeat((first|refine zD ?_|refine zA ?_|refine zT ?_|refine zF ?_);conv=>whnf)
  refine And.intro (fun h2 => ?_) (fun h2 => ?_)
  · (conv=>whnf);repeat((first|refine zD ?_|refine zA ?_|refine zT ?_|refine zF ?_);conv=>whnf)
    refine Exists.intro [] (And.intro List.nodup_nil ?_); ((conv=>whnf);repeat((first|refine zD ?_|refine zA ?_|refine zT ?_|refine zF ?_);conv=>whnf))
    rw [e2 h2]
    rfl
  · (conv=>whnf);repeat((first|refine zD ?_|refine zA ?_|refine zT ?_|refine zF ?_);conv=>whnf)
    refine Exists.intro [] (And.intro List.nodup_nil ?_); ((conv=>whnf);repeat((first|refine zD ?_|refine zA ?_|refine zT ?_|refine zF ?_);conv=>whnf))
    rw [e3 h1 h2]
    rfl
set_option maxRecDepth 100000 in
set_option maxHeartbeats 16000000 in
theorem rd_bCrash1 (s : ByteArray) (x : ByteArray) (hs : s.size ≤ 1000000) (hw : pcs 32 s = [bCrash, x]) : Fun Tryz.prog 15 [strV s] [] (.tup [acV (tread s.data.toList).1, i64V (tread s.data.toList).2]) := by
  obtain ⟨L, hL, e1, e2, e3⟩ := readEnv s ⟨4, 0, 0, 0, [], (spl 44 x.data.toList).map num⟩ (by rw [tcand_pcs s hw]; unfold tcandW; rw [List.map_cons, List.map_cons]; simp [kN, bCrash, wRead, wWrite, wTrim, wFlush, wStep, wSave, wClose, wCrash])
  have hsp := splitF' 32 s hs hw
  generalize tread s.data.toList = R at e1 e2 e3 ⊢
  have hm : kmap bCrash = none := kmap_no (by decide)
  have hxs : x.size ≤ s.size := pcs_mem (c := 32) (by rw [hw]; simp)
  have hpl := pcs_len 44 x
  have hnum : ∀ w ∈ pcs 44 x, Fun Tryz.prog 29 [strV w] [] (.v (i64V (num w.data.toList))) := fun w hw' => numF' (c := 44) (s := x) (by omega) hw'
  have hsp2 := splitF' 44 x (by omega) rfl
  rw [← pcs_spl, List.map_map] at hL e3
  generalize pcs 44 x = ps at hpl hnum hsp2 hL e3
  have hpl : ps.length ≤ 1000001 := by omega
  clear hw
  unfold bCrash at hsp
  refine fun_of_vc tabOk mixOk Tryz.func15 rfl (by rfl) (rs := [.cell 2 41, .tmp 3]) rfl rfl 128 ?_; rw [Tryz.ntmps15]
  (conv=>whnf);repeat((first|refine zD ?_|refine zA ?_|refine zT ?_|refine zF ?_);conv=>whnf)
  refine ⟨_, _, hsp, ?_⟩
  (conv=>whnf);repeat((first|refine zD ?_|refine zA ?_|refine zT ?_|refine zF ?_);conv=>whnf)
  refine ⟨by decide, _, rfl, rfl, ?_⟩
  (conv=>whnf);repeat((first|refine zD ?_|refine zA ?_|refine zT ?_|refine zF ?_);conv=>whnf)
  refine ⟨_, hm, ?_⟩
  (conv=>whnf);repeat((first|refine zD ?_|refine zA ?_|refine zT ?_|refine zF ?_);conv=>whnf)
  refine ⟨by decide, _, rfl, rfl, ?_⟩
  (conv=>whnf);repeat((first|refine zD ?_|refine zA ?_|refine zT ?_|refine zF ?_);conv=>whnf)
  refine And.intro (fun h => absurd h (by rw [eqS]; decide)) (fun _ => ?_)
  (conv=>whnf);repeat((first|refine zD ?_|refine zA ?_|refine zT ?_|refine zF ?_);conv=>whnf)
  refine ⟨by decide, _, rfl, rfl, ?_⟩
  (conv=>whnf);repeat((first|refine zD ?_|refine zA ?_|refine zT ?_|refine zF ?_);conv=>whnf)
  refine And.intro (fun h => absurd h (by rw [eqS]; decide)) (fun _ => ?_)
  (conv=>whnf);repeat((first|refine zD ?_|refine zA ?_|refine zT ?_|refine zF ?_);conv=>whnf)
  refine ⟨by decide, _, rfl, rfl, ?_⟩
  (conv=>whnf);repeat((first|refine zD ?_|refine zA ?_|refine zT ?_|refine zF ?_);conv=>whnf)
  refine And.intro (fun h => absurd h (by rw [eqS]; decide)) (fun _ => ?_)
  (conv=>whnf);repeat((first|refine zD ?_|refine zA ?_|refine zT ?_|refine zF ?_);conv=>whnf)
  refine ⟨by decide, _, rfl, rfl, ?_⟩
  (conv=>whnf);repeat((first|refine zD ?_|refine zA ?_|refine zT ?_|refine zF ?_);conv=>whnf)
  refine And.intro (fun _ => ?_) (fun h => absurd h (by rw [eqS]; decide))
  (conv=>whnf);repeat((first|refine zD ?_|refine zA ?_|refine zT ?_|refine zF ?_);conv=>whnf)
  refine ⟨by decide, _, rfl, rfl, ?_⟩
  (conv=>whnf);repeat((first|refine zD ?_|refine zA ?_|refine zT ?_|refine zF ?_);conv=>whnf)
  refine ⟨_, _, hsp2, ?_⟩
  (conv=>whnf);repeat((first|refine zD ?_|refine zA ?_|refine zT ?_|refine zF ?_);conv=>whnf)
  refine vc_loop [0, 2, 5, 100, 101] [2] (X := Nat) (fun i gs => [(102, ATint i)]) (fun i gs => [(5, .var 1 [.i (.sc (.int .i64 4)), .i (.sc (.int .i64 0)), .i (.sc (.int .i64 0)), .i (.sc (.int .i64 0)), .i (.sc (.string ByteArray.empty)), .own 111 (gs 111)]), (111, .row (gs 111) 3 1 (wV ((ps.take i).map (num ∘ fun x => x.data.toList))))]) (fun i => i ≤ ps.length) (fun i => ps.length - i) _ (Ghost.ownNilV 5 5 111 3 1 1 _ rfl rfl (Nat.le_of_ble_eq_true rfl) (by decide)) 0 (Nat.zero_le _) ?_ ?_
  · (refine zA (zA ?_));(repeat' (first|exact trivial|with_reducible exact cvB_refl _|exact rfl|apply And.intro))
  intro gs i hi
  have hi : i ≤ ps.length := hi
  (conv=>whnf);repeat((first|refine zD ?_|refine zA ?_|refine zT ?_|refine zF ?_);conv=>whnf)
  refine And.intro (fun h => ?_) (fun h => ?_)
  · have hlt : i < ps.length := by simpa [sV] using h
    have hn := hnum _ (List.getElem_mem hlt)
    have htk := take_snoc hlt
    (conv=>whnf);repeat((first|refine zD ?_|refine zA ?_|refine zT ?_|refine zF ?_);conv=>whnf)
    refine ⟨by omega, _, sItem hlt, rfl, ?_⟩
    (conv=>whnf);repeat((first|refine zD ?_|refine zA ?_|refine zT ?_|refine zF ?_);conv=>whnf)
    refine ⟨_, _, hn, ?_⟩
    (conv=>whnf);repeat((first|refine zD ?_|refine zA ?_|refine zT ?_|refine zF ?_);conv=>whnf)
    refine ⟨wSz [num ps[i].data.toList], ?_⟩
    (conv=>whnf);repeat((first|refine zD ?_|refine zA ?_|refine zT ?_|refine zF ?_);conv=>whnf)
    refine ⟨bytes_le (by decide) (by simp [wV]; omega), ?_⟩
    (conv=>whnf);repeat((first|refine zD ?_|refine zA ?_|refine zT ?_|refine zF ?_);conv=>whnf)
    refine again (i + 1) hlt (Nat.sub_lt_sub_left hlt (Nat.lt_succ_self i)) ?_
    (refine zA (zA ?_));(repeat' (first|exact trivial|with_reducible exact cvB_refl _|exact rfl|apply And.intro))
    all_goals first
      | exact congrArg (Value.int .i64) (w64_nat (by omega))
      | exact congrArg (Blk.row _ _ _) (by rw [htk, List.map_append]; simp [wV]; rfl)
  obtain rfl : i = ps.length := by
    have : ¬ i < ps.length := by simpa [sV] using h
    omega
  rw [List.take_length]
  clear hnum hsp2 hsp
  generalize ps.map (num ∘ fun x => x.data.toList) = kp at hL e3 ⊢
  (conv=>whnf);repeat((first|refine zD ?_|refine zA ?_|refine zT ?_|refine zF ?_);conv=>whnf)
  refine And.intro (fun h1 => ?_) (fun h1 => ?_)
  · (conv=>whnf);repeat((first|refine zD ?_|refine zA ?_|refine zT ?_|refine zF ?_);conv=>whnf)
    refine Exists.intro [] (And.intro List.nodup_nil ?_); ((conv=>whnf);repeat((first|refine zD ?_|refine zA ?_|refine zT ?_|refine zF ?_);conv=>whnf))
    rw [e1 h1]
    rfl
  (conv=>whnf);repeat((first|refine zD ?_|refine zA ?_|refine zT ?_|refine zF ?_);conv=>whnf)
  refine ⟨_, _, hL, ?_⟩
  (conv=>whnf);repeat((first|refine zD ?_|refine zA ?_|refine zT ?_|refine zF ?_);conv=>whnf)
  refine And.intro (fun h2 => ?_) (fun h2 => ?_)
  · (conv=>whnf);repeat((first|refine zD ?_|refine zA ?_|refine zT ?_|refine zF ?_);conv=>whnf)
    refine Exists.intro [] (And.intro List.nodup_nil ?_); ((conv=>whnf);repeat((first|refine zD ?_|refine zA ?_|refine zT ?_|refine zF ?_);conv=>whnf))
    rw [e2 h2]
    rfl
  · (conv=>whnf);repeat((first|refine zD ?_|refine zA ?_|refine zT ?_|refine zF ?_);conv=>whnf)
    refine Exists.intro [] (And.intro List.nodup_nil ?_); ((conv=>whnf);repeat((first|refine zD ?_|refine zA ?_|refine zT ?_|refine zF ?_);conv=>whnf))
    rw [e3 h1 h2]
    rfl
theorem readF (s : ByteArray) (hs : s.size ≤ 1000000) : Fun Tryz.prog 15 [strV s] [] (.tup [acV (tread s.data.toList).1, i64V (tread s.data.toList).2]) := by
  cases hw : pcs 32 s with
  | nil => exact absurd hw (pcs_ne 32 s)
  | cons w r =>
    by_cases g : kN w.data.toList = 0
    · by_cases g1 : w.data.toList = wStep
      · obtain rfl : w = bStep := sL_inj g1
        match r, hw with
        | [], hw => exact rd_bStep0 s hs hw
        | [x], hw => exact rd_bStep s x hs hw
        | x :: y :: r, hw => exact rd_bStep2 s x y r hs hw
      by_cases g2 : w.data.toList = wSave
      · obtain rfl : w = bSave := sL_inj g2
        exact rd_bSave s r hs hw
      by_cases g3 : w.data.toList = wClose
      · obtain rfl : w = bClose := sL_inj g3
        exact rd_bClose s r hs hw
      by_cases g4 : w.data.toList = wCrash
      · obtain rfl : w = bCrash := sL_inj g4
        match r, hw with
        | [], hw => exact rd_bCrash0 s hs hw
        | [x], hw => exact rd_bCrash1 s x hs hw
        | x :: y :: r, hw => exact rd_bCrash2 s x y r hs hw
      exact rd_other s w r g g1 g2 g3 g4 hs hw
    by_cases kbRead : w.data.toList = wRead
    · obtain rfl : w = bRead := sL_inj kbRead
      match r, hw with
      | [], hw => exact rd_bRead0 s hs hw
      | [x], hw => exact rd_bRead1 s x hs hw
      | [x, y], hw => exact rd_bRead2 s x y hs hw
      | x :: y :: z :: r, hw => exact rd_bRead3 s x y z r hs hw
    by_cases kbWrite : w.data.toList = wWrite
    · obtain rfl : w = bWrite := sL_inj kbWrite
      match r, hw with
      | [], hw => exact rd_bWrite0 s hs hw
      | [x], hw => exact rd_bWrite1 s x hs hw
      | [x, y], hw => exact rd_bWrite2 s x y hs hw
      | x :: y :: z :: r, hw => exact rd_bWrite3 s x y z r hs hw
    by_cases kbTrim : w.data.toList = wTrim
    · obtain rfl : w = bTrim := sL_inj kbTrim
      match r, hw with
      | [], hw => exact rd_bTrim0 s hs hw
      | [x], hw => exact rd_bTrim1 s x hs hw
      | [x, y], hw => exact rd_bTrim2 s x y hs hw
      | x :: y :: z :: r, hw => exact rd_bTrim3 s x y z r hs hw
    by_cases kbFlush : w.data.toList = wFlush
    · obtain rfl : w = bFlush := sL_inj kbFlush
      match r, hw with
      | [], hw => exact rd_bFlush0 s hs hw
      | [x], hw => exact rd_bFlush1 s x hs hw
      | [x, y], hw => exact rd_bFlush2 s x y hs hw
      | x :: y :: z :: r, hw => exact rd_bFlush3 s x y z r hs hw
    exact absurd (by unfold kN; rw [if_neg kbRead, if_neg kbWrite, if_neg kbTrim, if_neg kbFlush]) g
end Go.Proofs.YtikchieadclbhaaGreatDoor.Ab
