/- The action of a line: what the walk leans on. No condition. -/
import Derived.Test.YtikchieadclbhaaGreatDoorZ29
namespace Go.Proofs.YtikchieadclbhaaGreatDoor.Ab
set_option linter.unusedVariables false
set_option linter.unusedSimpArgs false
open Go.RowKit

theorem spl_len (c : UInt8) : ∀ (l : List UInt8), (∀ w ∈ spl c l, w.length ≤ l.length) ∧ (spl c l).length ≤ l.length + 1
  | [] => by simp [spl]
  | x :: l => by
    have ih := spl_len c l
    rw [spl]
    split
    · refine ⟨fun w hw => ?_, by simp; exact ih.2⟩
      rcases List.mem_cons.1 hw with rfl | hw
      · simp
      · have := ih.1 w hw; simp; omega
    · split
      · exact ⟨fun w hw => by obtain rfl := List.mem_singleton.1 hw; simp, by simp⟩
      · rename_i w ws h
        rw [h] at ih
        refine ⟨fun v hv => ?_, by have := ih.2; simp at this ⊢; omega⟩
        rcases List.mem_cons.1 hv with rfl | hv
        · have := ih.1 w List.mem_cons_self; simp; exact this
        · have := ih.1 v (List.mem_cons_of_mem _ hv); simp; omega
theorem pcs_mem {c : UInt8} {s w : ByteArray} (h : w ∈ pcs c s) : w.size ≤ s.size := by
  have h1 : w.data.toList ∈ spl c s.data.toList := by rw [← pcs_spl]; exact List.mem_map_of_mem h
  exact (spl_len c s.data.toList).1 _ h1
theorem pcs_len (c : UInt8) (s : ByteArray) : (pcs c s).length ≤ s.size + 1 := by
  have := (spl_len c s.data.toList).2
  rw [← pcs_spl, List.length_map] at this
  exact this
theorem pcs_ne (c : UInt8) (s : ByteArray) : pcs c s ≠ [] := by
  intro h
  have := pcs_spl c s
  rw [h] at this
  exact spl_ne c _ this.symm
theorem tcand_pcs (s : ByteArray) {ws : List ByteArray} (h : pcs 32 s = ws) : tcand s.data.toList = tcandW (ws.map (·.data.toList)) := by
  unfold tcand
  rw [← pcs_spl, h]
theorem empty_iff (s : ByteArray) : (s.toList == ByteArray.empty.toList) = decide (s.data.toList = []) := by
  rw [toList_eq, toList_eq]
  show (s.data.toList == []) = _
  cases s.data.toList <;> rfl
theorem readEnv (s : ByteArray) (c : Ac) (hc : tcand s.data.toList = c) : ∃ L : ByteArray, Fun Tryz.prog 16 [acV c] [] (.v (strV L)) ∧
    ((s.toList == ByteArray.empty.toList) = true → tread s.data.toList = (ac0, 18)) ∧
    ((!(L.toList == s.toList)) = true → tread s.data.toList = (ac0, 18)) ∧
    ((s.toList == ByteArray.empty.toList) = false → (!(L.toList == s.toList)) = false → tread s.data.toList = (c, 0)) := by
  refine ⟨sS (tline c), lineF c, fun h => ?_, fun h => ?_, fun h1 h2 => ?_⟩
  · rw [empty_iff] at h
    have h := of_decide_eq_true h
    unfold tread
    rw [if_neg (fun g => g.1 h)]
  · have h : ¬ tline c = s.data.toList := by
      rw [toList_eq, toList_eq] at h
      simpa [sL, sS] using h
    unfold tread
    rw [hc, if_neg (fun g => h g.2)]
  · rw [empty_iff] at h1
    have h1 := of_decide_eq_false h1
    have h2 : tline c = s.data.toList := by
      rw [toList_eq, toList_eq] at h2
      simpa [sL, sS] using h2
    unfold tread
    rw [hc, if_pos ⟨h1, h2⟩]
theorem numF' {c : UInt8} {s w : ByteArray} (hs : s.size ≤ 1000000) (h : w ∈ pcs c s) : Fun Tryz.prog 29 [strV w] [] (.v (i64V (num w.data.toList))) := numberF w (by have := pcs_mem h; omega)
theorem splitF' (c : UInt8) (s : ByteArray) (hs : s.size ≤ 1000000) {ws : List ByteArray} (h : pcs c s = ws) : Fun Tryz.prog 28 [strV s, strV ⟨#[c]⟩] [] (.v (slV (sV ws))) := by
  rw [← h]
  exact splitF c s (by omega)
def bRead : ByteArray := ⟨#[114, 101, 97, 100]⟩
def bWrite : ByteArray := ⟨#[119, 114, 105, 116, 101]⟩
def bTrim : ByteArray := ⟨#[116, 114, 105, 109]⟩
def bFlush : ByteArray := ⟨#[102, 108, 117, 115, 104]⟩
def bStep : ByteArray := ⟨#[115, 116, 101, 112]⟩
def bSave : ByteArray := ⟨#[115, 97, 118, 101]⟩
def bClose : ByteArray := ⟨#[99, 108, 111, 115, 101]⟩
theorem eqS (a b : ByteArray) : (a.toList == b.toList) = decide (a.data.toList = b.data.toList) := by
  rw [toList_eq, toList_eq]
  show (a.data.toList == b.data.toList) = _
  by_cases h : a.data.toList = b.data.toList
  · rw [h]; simp
  · rw [decide_eq_false h]; simpa using h
theorem keyB_s (a b : ByteArray) : keyB (.string a) (.string b) = decide (a.data.toList = b.data.toList) := by
  show (a.data == b.data) = _
  by_cases h : a.data = b.data
  · rw [h]; simp
  · rw [decide_eq_false (fun e => h (Array.toList_inj.1 e))]; simpa using h
def kmap (w : ByteArray) : Option (List IV) := mput (mput (mput (mput (fun _ => none) (.string bRead) [.sc (.int .i64 1)]) (.string bWrite) [.sc (.int .i64 2)]) (.string bTrim) [.sc (.int .i64 3)]) (.string bFlush) [.sc (.int .i64 4)] (.string w)
theorem kmap_eq (w : ByteArray) : kmap w = if kN w.data.toList = 0 then none else some [.sc (.int .i64 (kN w.data.toList))] := by
  unfold kmap mput
  rw [keyB_s, keyB_s, keyB_s, keyB_s]
  have h1 : bRead.data.toList = wRead := rfl
  have h2 : bWrite.data.toList = wWrite := rfl
  have h3 : bTrim.data.toList = wTrim := rfl
  have h4 : bFlush.data.toList = wFlush := rfl
  rw [h1, h2, h3, h4]
  generalize w.data.toList = l
  by_cases g1 : l = wRead
  · subst g1; rfl
  by_cases g2 : l = wWrite
  · subst g2; rfl
  by_cases g3 : l = wTrim
  · subst g3; rfl
  by_cases g4 : l = wFlush
  · subst g4; rfl
  have : kN l = 0 := by unfold kN; rw [if_neg g1, if_neg g2, if_neg g3, if_neg g4]
  rw [this, decide_eq_false g1, decide_eq_false g2, decide_eq_false g3, decide_eq_false g4]
  rfl
theorem kmap_no {w : ByteArray} (h : kN w.data.toList = 0) : kmap w = none := by rw [kmap_eq, if_pos h]
theorem kmap_yes {w : ByteArray} {k : Int} (h : kN w.data.toList = k) (h0 : k ≠ 0) : kmap w = some [.sc (.int .i64 k)] := by rw [kmap_eq, h, if_neg h0]
set_option maxRecDepth 100000 in
set_option maxHeartbeats 16000000 in
theorem rd_bSave (s : ByteArray) (r : List ByteArray) (hs : s.size ≤ 1000000) (hw : pcs 32 s = bSave :: r) : Fun Tryz.prog 15 [strV s] [] (.tup [acV (tread s.data.toList).1, i64V (tread s.data.toList).2]) := by
  obtain ⟨L, hL, e1, e2, e3⟩ := readEnv s ⟨3, 0, 0, 0, [], []⟩ (by rw [tcand_pcs s hw]; unfold tcandW; rw [List.map_cons]; simp [kN, bSave, wRead, wWrite, wTrim, wFlush, wStep, wSave, wClose, wCrash])
  have hsp := splitF' 32 s hs hw
  generalize tread s.data.toList = R at e1 e2 e3 ⊢
  have hm : kmap bSave = none := kmap_no (by decide)
  clear hw
  unfold bSave at hsp
  refine fun_of_vc tabOk mixOk Tryz.func15 rfl (by rfl) (rs := [.cell 2 41, .tmp 3]) rfl rfl 128 ?_; rw [Tryz.ntmps15]
  (conv=>whnf);repeat((first|refine zD ?_|refine zA ?_|refine zT ?_|refine zF ?_);conv=>whnf)
  refine ⟨_, _, hsp, ?_⟩
  (conv=>whnf);repeat((first|refine zD ?_|refine zA ?_|refine zT ?_|refine zF ?_);conv=>whnf)
  refine ⟨by decide, _, rfl, rfl, ?_⟩
  (conv=>whnf);repeat((first|refine zD ?_|refine zA ?_|refine zT ?_|refine zF ?_);conv=>whnf)
  refine ⟨_, hm, ?_⟩
  (conv=>whnf);repeat((first|refine zD ?_|refine zA ?_|refine zT ?_|refine zF ?_);conv=>whnf)
  refine ⟨by decide, _, rfl, rfl, ?_⟩
  (conv=>whnf);repeat((first|refine zD ?_|refine zA ?_|refine zT ?_|refine zF ?_);conv=>whnf)
  refine And.intro (fun h => absurd h (by rw [eqS]; decide)) (fun _ => ?_)
  (conv=>whnf);repeat((first|refine zD ?_|refine zA ?_|refine zT ?_|refine zF ?_);conv=>whnf)
  refine ⟨by decide, _, rfl, rfl, ?_⟩
  (conv=>whnf);repeat((first|refine zD ?_|refine zA ?_|refine zT ?_|refine zF ?_);conv=>whnf)
  refine And.intro (fun _ => ?_) (fun h => absurd h (by rw [eqS]; decide))
  (conv=>whnf);repeat((first|refine zD ?_|refine zA ?_|refine zT ?_|refine zF ?_);conv=>whnf)
  refine And.intro (fun h1 => ?_) (fun h1 => ?_)
  · (conv=>whnf);repeat((first|refine zD ?_|refine zA ?_|refine zT ?_|refine zF ?_);conv=>whnf)
    refine Exists.intro [] (And.intro List.nodup_nil ?_); ((conv=>whnf);repeat((first|refine zD ?_|refine zA ?_|refine zT ?_|refine zF ?_);conv=>whnf))
    rw [e1 h1]
    rfl
  (conv=>whnf);repeat((first|refine zD ?_|refine zA ?_|refine zT ?_|refine zF ?_);conv=>whnf)
  refine ⟨_, _, hL, ?_⟩
  (conv=>whnf);repeat((first|refine zD ?_|refine zA ?_|refine zT ?_|refine zF ?_);conv=>whnf)
  refine And.intro (fun h2 => ?_) (fun h2 => ?_)
  · (conv=>whnf);repeat((first|refine zD ?_|refine zA ?_|refine zT ?_|refine zF ?_);conv=>whnf)
    refine Exists.intro [] (And.intro List.nodup_nil ?_); ((conv=>whnf);repeat((first|refine zD ?_|refine zA ?_|refine zT ?_|refine zF ?_);conv=>whnf))
    rw [e2 h2]
    rfl
  · (conv=>whnf);repeat((first|refine zD ?_|refine zA ?_|refine zT ?_|refine zF ?_);conv=>whnf)
    refine Exists.intro [] (And.intro List.nodup_nil ?_); ((conv=>whnf);repeat((first|refine zD ?_|refine zA ?_|refine zT ?_|refine zF ?_);conv=>whnf))
    rw [e3 h1 h2]
    rfl
set_option maxRecDepth 100000 in
set_option maxHeartbeats 16000000 in
theorem rd_bClose (s : ByteArray) (r : List ByteArray) (hs : s.size ≤ 1000000) (hw : pcs 32 s = bClose :: r) : Fun Tryz.prog 15 [strV s] [] (.tup [acV (tread s.data.toList).1, i64V (tread s.data.toList).2]) := by
  obtain ⟨L, hL, e1, e2, e3⟩ := readEnv s ⟨5, 0, 0, 0, [], []⟩ (by rw [tcand_pcs s hw]; unfold tcandW; rw [List.map_cons]; simp [kN, bClose, wRead, wWrite, wTrim, wFlush, wStep, wSave, wClose, wCrash])
  have hsp := splitF' 32 s hs hw
  generalize tread s.data.toList = R at e1 e2 e3 ⊢
  have hm : kmap bClose = none := kmap_no (by decide)
  clear hw
  unfold bClose at hsp
  refine fun_of_vc tabOk mixOk Tryz.func15 rfl (by rfl) (rs := [.cell 2 41, .tmp 3]) rfl rfl 128 ?_; rw [Tryz.ntmps15]
  (conv=>whnf);repeat((first|refine zD ?_|refine zA ?_|refine zT ?_|refine zF ?_);conv=>whnf)
  refine ⟨_, _, hsp, ?_⟩
  (conv=>whnf);repeat((first|refine zD ?_|refine zA ?_|refine zT ?_|refine zF ?_);conv=>whnf)
  refine ⟨by decide, _, rfl, rfl, ?_⟩
  (conv=>whnf);repeat((first|refine zD ?_|refine zA ?_|refine zT ?_|refine zF ?_);conv=>whnf)
  refine ⟨_, hm, ?_⟩
  (conv=>whnf);repeat((first|refine zD ?_|refine zA ?_|refine zT ?_|refine zF ?_);conv=>whnf)
  refine ⟨by decide, _, rfl, rfl, ?_⟩
  (conv=>whnf);repeat((first|refine zD ?_|refine zA ?_|refine zT ?_|refine zF ?_);conv=>whnf)
  refine And.intro (fun h => absurd h (by rw [eqS]; decide)) (fun _ => ?_)
  (conv=>whnf);repeat((first|refine zD ?_|refine zA ?_|refine zT ?_|refine zF ?_);conv=>whnf)
  refine ⟨by decide, _, rfl, rfl, ?_⟩
  (conv=>whnf);repeat((first|refine zD ?_|refine zA ?_|refine zT ?_|refine zF ?_);conv=>whnf)
  refine And.intro (fun h => absurd h (by rw [eqS]; decide)) (fun _ => ?_)
  (conv=>whnf);repeat((first|refine zD ?_|refine zA ?_|refine zT ?_|refine zF ?_);conv=>whnf)
  refine ⟨by decide, _, rfl, rfl, ?_⟩
  (conv=>whnf);repeat((first|refine zD ?_|refine zA ?_|refine zT ?_|refine zF ?_);conv=>whnf)
  refine And.intro (fun _ => ?_) (fun h => absurd h (by rw [eqS]; decide))
  (conv=>whnf);repeat((first|refine zD ?_|refine zA ?_|refine zT ?_|refine zF ?_);conv=>whnf)
  refine And.intro (fun h1 => ?_) (fun h1 => ?_)
  · (conv=>whnf);repeat((first|refine zD ?_|refine zA ?_|refine zT ?_|refine zF ?_);conv=>whnf)
    refine Exists.intro [] (And.intro List.nodup_nil ?_); ((conv=>whnf);repeat((first|refine zD ?_|refine zA ?_|refine zT ?_|refine zF ?_);conv=>whnf))
    rw [e1 h1]
    rfl
  (conv=>whnf);repeat((first|refine zD ?_|refine zA ?_|refine zT ?_|refine zF ?_);conv=>whnf)
  refine ⟨_, _, hL, ?_⟩
  (conv=>whnf);repeat((first|refine zD ?_|refine zA ?_|refine zT ?_|refine zF ?_);conv=>whnf)
  refine And.intro (fun h2 => ?_) (fun h2 => ?_)
  · (conv=>whnf);repeat((first|refine zD ?_|refine zA ?_|refine zT ?_|refine zF ?_);conv=>whnf)
    refine Exists.intro [] (And.intro List.nodup_nil ?_); ((conv=>whnf);repeat((first|refine zD ?_|refine zA ?_|refine zT ?_|refine zF ?_);conv=>whnf))
    rw [e2 h2]
    rfl
  · (conv=>whnf);repeat((first|refine zD ?_|refine zA ?_|refine zT ?_|refine zF ?_);conv=>whnf)
    refine Exists.intro [] (And.intro List.nodup_nil ?_); ((conv=>whnf);repeat((first|refine zD ?_|refine zA ?_|refine zT ?_|refine zF ?_);conv=>whnf))
    rw [e3 h1 h2]
    rfl
set_option maxRecDepth 100000 in
set_option maxHeartbeats 16000000 in
theorem rd_bStep (s : ByteArray) (x : ByteArray) (hs : s.size ≤ 1000000) (hw : pcs 32 s = [bStep, x]) : Fun Tryz.prog 15 [strV s] [] (.tup [acV (tread s.data.toList).1, i64V (tread s.data.toList).2]) := by
  obtain ⟨L, hL, e1, e2, e3⟩ := readEnv s ⟨2, num x.data.toList, 0, 0, [], []⟩ (by rw [tcand_pcs s hw]; unfold tcandW; rw [List.map_cons, List.map_cons]; simp [kN, bStep, wRead, wWrite, wTrim, wFlush, wStep, wSave, wClose, wCrash])
  have hsp := splitF' 32 s hs hw
  generalize tread s.data.toList = R at e1 e2 e3 ⊢
  have hm : kmap bStep = none := kmap_no (by decide)
  have hx0 := numF' (c := 32) (s := s) (w := x) hs (by rw [hw]; simp)
  clear hw
  unfold bStep at hsp
  refine fun_of_vc tabOk mixOk Tryz.func15 rfl (by rfl) (rs := [.cell 2 41, .tmp 3]) rfl rfl 128 ?_; rw [Tryz.ntmps15]
  (conv=>whnf);repeat((first|refine zD ?_|refine zA ?_|refine zT ?_|refine zF ?_);conv=>whnf)
  refine ⟨_, _, hsp, ?_⟩
  (conv=>whnf);repeat((first|refine zD ?_|refine zA ?_|refine zT ?_|refine zF ?_);conv=>whnf)
  refine ⟨by decide, _, rfl, rfl, ?_⟩
  (conv=>whnf);repeat((first|refine zD ?_|refine zA ?_|refine zT ?_|refine zF ?_);conv=>whnf)
  refine ⟨_, hm, ?_⟩
  (conv=>whnf);repeat((first|refine zD ?_|refine zA ?_|refine zT ?_|refine zF ?_);conv=>whnf)
  refine ⟨by decide, _, rfl, rfl, ?_⟩
  (conv=>whnf);repeat((first|refine zD ?_|refine zA ?_|refine zT ?_|refine zF ?_);conv=>whnf)
  refine And.intro (fun _ => ?_) (fun h => absurd h (by rw [eqS]; decide))
  (conv=>whnf);repeat((first|refine zD ?_|refine zA ?_|refine zT ?_|refine zF ?_);conv=>whnf)
  refine ⟨by decide, _, rfl, rfl, ?_⟩
  (conv=>whnf);repeat((first|refine zD ?_|refine zA ?_|refine zT ?_|refine zF ?_);conv=>whnf)
  refine ⟨_, _, hx0, ?_⟩
  (conv=>whnf);repeat((first|refine zD ?_|refine zA ?_|refine zT ?_|refine zF ?_);conv=>whnf)
  refine And.intro (fun h1 => ?_) (fun h1 => ?_)
  · (conv=>whnf);repeat((first|refine zD ?_|refine zA ?_|refine zT ?_|refine zF ?_);conv=>whnf)
    refine Exists.intro [] (And.intro List.nodup_nil ?_); ((conv=>whnf);repeat((first|refine zD ?_|refine zA ?_|refine zT ?_|refine zF ?_);conv=>whnf))
    rw [e1 h1]
    rfl
  (conv=>whnf);repeat((first|refine zD ?_|refine zA ?_|refine zT ?_|refine zF ?_);conv=>whnf)
  refine ⟨_, _, hL, ?_⟩
  (conv=>whnf);repeat((first|refine zD ?_|refine zA ?_|refine zT ?_|refine zF ?_);conv=>whnf)
  refine And.intro (fun h2 => ?_) (fun h2 => ?_)
  · (conv=>whnf);repeat((first|refine zD ?_|refine zA ?_|refine zT ?_|refine zF ?_);conv=>whnf)
    refine Exists.intro [] (And.intro List.nodup_nil ?_); ((conv=>whnf);repeat((first|refine zD ?_|refine zA ?_|refine zT ?_|refine zF ?_);conv=>whnf))
    rw [e2 h2]
    rfl
  · (conv=>whnf);repeat((first|refine zD ?_|refine zA ?_|refine zT ?_|refine zF ?_);conv=>whnf)
    refine Exists.intro [] (And.intro List.nodup_nil ?_); ((conv=>whnf);repeat((first|refine zD ?_|refine zA ?_|refine zT ?_|refine zF ?_);conv=>whnf))
    rw [e3 h1 h2]
    rfl
set_option maxRecDepth 100000 in
set_option maxHeartbeats 16000000 in
theorem rd_bStep0 (s : ByteArray)  (hs : s.size ≤ 1000000) (hw : pcs 32 s = [bStep]) : Fun Tryz.prog 15 [strV s] [] (.tup [acV (tread s.data.toList).1, i64V (tread s.data.toList).2]) := by
  obtain ⟨L, hL, e1, e2, e3⟩ := readEnv s ac0 (by rw [tcand_pcs s hw]; unfold tcandW; rw [List.map_cons]; simp [kN, bStep, wRead, wWrite, wTrim, wFlush, wStep, wSave, wClose, wCrash])
  have hsp := splitF' 32 s hs hw
  generalize tread s.data.toList = R at e1 e2 e3 ⊢
  have hm : kmap bStep = none := kmap_no (by decide)
  clear hw
  unfold bStep at hsp
  refine fun_of_vc tabOk mixOk Tryz.func15 rfl (by rfl) (rs := [.cell 2 41, .tmp 3]) rfl rfl 128 ?_; rw [Tryz.ntmps15]
  (conv=>whnf);repeat((first|refine zD ?_|refine zA ?_|refine zT ?_|refine zF ?_);conv=>whnf)
  refine ⟨_, _, hsp, ?_⟩
  (conv=>whnf);repeat((first|refine zD ?_|refine zA ?_|refine zT ?_|refine zF ?_);conv=>whnf)
  refine ⟨by decide, _, rfl, rfl, ?_⟩
  (conv=>whnf);repeat((first|refine zD ?_|refine zA ?_|refine zT ?_|refine zF ?_);conv=>whnf)
  refine ⟨_, hm, ?_⟩
  (conv=>whnf);repeat((first|refine zD ?_|refine zA ?_|refine zT ?_|refine zF ?_);conv=>whnf)
  refine ⟨by decide, _, rfl, rfl, ?_⟩
  (conv=>whnf);repeat((first|refine zD ?_|refine zA ?_|refine zT ?_|refine zF ?_);conv=>whnf)
  refine And.intro (fun _ => ?_) (fun h => absurd h (by rw [eqS]; decide))
  (conv=>whnf);repeat((first|refine zD ?_|refine zA ?_|refine zT ?_|refine zF ?_);conv=>whnf)
  refine ⟨by decide, _, rfl, rfl, ?_⟩
  (conv=>whnf);repeat((first|refine zD ?_|refine zA ?_|refine zT ?_|refine zF ?_);conv=>whnf)
  refine And.intro (fun h => absurd h (by rw [eqS]; decide)) (fun _ => ?_)
  (conv=>whnf);repeat((first|refine zD ?_|refine zA ?_|refine zT ?_|refine zF ?_);conv=>whnf)
  refine ⟨by decide, _, rfl, rfl, ?_⟩
  (conv=>whnf);repeat((first|refine zD ?_|refine zA ?_|refine zT ?_|refine zF ?_);conv=>whnf)
  refine And.intro (fun h => absurd h (by rw [eqS]; decide)) (fun _ => ?_)
  (conv=>whnf);repeat((first|refine zD ?_|refine zA ?_|refine zT ?_|refine zF ?_);conv=>whnf)
  refine ⟨by decide, _, rfl, rfl, ?_⟩
  (conv=>whnf);repeat((first|refine zD ?_|refine zA ?_|refine zT ?_|refine zF ?_);conv=>whnf)
  refine And.intro (fun h => absurd h (by rw [eqS]; decide)) (fun _ => ?_)
  (conv=>whnf);repeat((first|refine zD ?_|refine zA ?_|refine zT ?_|refine zF ?_);conv=>whnf)
  refine And.intro (fun h1 => ?_) (fun h1 => ?_)
  · (conv=>whnf);repeat((first|refine zD ?_|refine zA ?_|refine zT ?_|refine zF ?_);conv=>whnf)
    refine Exists.intro [] (And.intro List.nodup_nil ?_); ((conv=>whnf);repeat((first|refine zD ?_|refine zA ?_|refine zT ?_|refine zF ?_);conv=>whnf))
    rw [e1 h1]
    rfl
  (conv=>whnf);repeat((first|refine zD ?_|refine zA ?_|refine zT ?_|refine zF ?_);conv=>whnf)
  refine ⟨_, _, hL, ?_⟩
  (conv=>whnf);repeat((first|refine zD ?_|refine zA ?_|refine zT ?_|refine zF ?_);conv=>whnf)
  refine And.intro (fun h2 => ?_) (fun h2 => ?_)
  · (conv=>whnf);repeat((first|refine zD ?_|refine zA ?_|refine zT ?_|refine zF ?_);conv=>whnf)
    refine Exists.intro [] (And.intro List.nodup_nil ?_); ((conv=>whnf);repeat((first|refine zD ?_|refine zA ?_|refine zT ?_|refine zF ?_);conv=>whnf))
    rw [e2 h2]
    rfl
  · (conv=>whnf);repeat((first|refine zD ?_|refine zA ?_|refine zT ?_|refine zF ?_);conv=>whnf)
    refine Exists.intro [] (And.intro List.nodup_nil ?_); ((conv=>whnf);repeat((first|refine zD ?_|refine zA ?_|refine zT ?_|refine zF ?_);conv=>whnf))
    rw [e3 h1 h2]
    rfl
set_option maxRecDepth 100000 in
set_option maxHeartbeats 16000000 in
theorem rd_bStep2 (s : ByteArray) (x y : ByteArray) (r : List ByteArray) (hs : s.size ≤ 1000000) (hw : pcs 32 s = bStep :: x :: y :: r) : Fun Tryz.prog 15 [strV s] [] (.tup [acV (tread s.data.toList).1, i64V (tread s.data.toList).2]) := by
  obtain ⟨L, hL, e1, e2, e3⟩ := readEnv s ac0 (by rw [tcand_pcs s hw]; unfold tcandW; rw [List.map_cons, List.map_cons, List.map_cons]; simp [kN, bStep, wRead, wWrite, wTrim, wFlush, wStep, wSave, wClose, wCrash])
  have hsp := splitF' 32 s hs hw
  generalize tread s.data.toList = R at e1 e2 e3 ⊢
  have hm : kmap bStep = none := kmap_no (by decide)
  clear hw
  unfold bStep at hsp
  refine fun_of_vc tabOk mixOk Tryz.func15 rfl (by rfl) (rs := [.cell 2 41, .tmp 3]) rfl rfl 128 ?_; rw [Tryz.ntmps15]
  (conv=>whnf);repeat((first|refine zD ?_|refine zA ?_|refine zT ?_|refine zF ?_);conv=>whnf)
  refine ⟨_, _, hsp, ?_⟩
  (conv=>whnf);repeat((first|refine zD ?_|refine zA ?_|refine zT ?_|refine zF ?_);conv=>whnf)
  refine ⟨by decide, _, rfl, rfl, ?_⟩
  (conv=>whnf);repeat((first|refine zD ?_|refine zA ?_|refine zT ?_|refine zF ?_);conv=>whnf)
  refine ⟨_, hm, ?_⟩
  (conv=>whnf);repeat((first|refine zD ?_|refine zA ?_|refine zT ?_|refine zF ?_);conv=>whnf)
  refine ⟨by decide, _, rfl, rfl, ?_⟩
  (conv=>whnf);repeat((first|refine zD ?_|refine zA ?_|refine zT ?_|refine zF ?_);conv=>whnf)
  refine And.intro (fun _ => ?_) (fun h => absurd h (by rw [eqS]; decide))
  (conv=>whnf);repeat((first|refine zD ?_|refine zA ?_|refine zT ?_|refine zF ?_);conv=>whnf)
  first | (refine And.intro (fun h => absurd h (by simp [sV]; try omega)) (fun _ => ?_); (conv=>whnf);repeat((first|refine zD ?_|refine zA ?_|refine zT ?_|refine zF ?_);conv=>whnf)) | skip
  refine ⟨by decide, _, rfl, rfl, ?_⟩
  (conv=>whnf);repeat((first|refine zD ?_|refine zA ?_|refine zT ?_|refine zF ?_);conv=>whnf)
  refine And.intro (fun h => absurd h (by rw [eqS]; decide)) (fun _ => ?_)
  (conv=>whnf);repeat((first|refine zD ?_|refine zA ?_|refine zT ?_|refine zF ?_);conv=>whnf)
  refine ⟨by decide, _, rfl, rfl, ?_⟩
  (conv=>whnf);repeat((first|refine zD ?_|refine zA ?_|refine zT ?_|refine zF ?_);conv=>whnf)
  refine And.intro (fun h => absurd h (by rw [eqS]; decide)) (fun _ => ?_)
  (conv=>whnf);repeat((first|refine zD ?_|refine zA ?_|refine zT ?_|refine zF ?_);conv=>whnf)
  refine ⟨by decide, _, rfl, rfl, ?_⟩
  (conv=>whnf);repeat((first|refine zD ?_|refine zA ?_|refine zT ?_|refine zF ?_);conv=>whnf)
  refine And.intro (fun h => absurd h (by rw [eqS]; decide)) (fun _ => ?_)
  (conv=>whnf);repeat((first|refine zD ?_|refine zA ?_|refine zT ?_|refine zF ?_);conv=>whnf)
  refine And.intro (fun h1 => ?_) (fun h1 => ?_)
  · (conv=>whnf);repeat((first|refine zD ?_|refine zA ?_|refine zT ?_|refine zF ?_);conv=>whnf)
    refine Exists.intro [] (And.intro List.nodup_nil ?_); ((conv=>whnf);repeat((first|refine zD ?_|refine zA ?_|refine zT ?_|refine zF ?_);conv=>whnf))
    rw [e1 h1]
    rfl
  (conv=>whnf);repeat((first|refine zD ?_|refine zA ?_|refine zT ?_|refine zF ?_);conv=>whnf)
  refine ⟨_, _, hL, ?_⟩
  (conv=>whnf);repeat((first|refine zD ?_|refine zA ?_|refine zT ?_|refine zF ?_);conv=>whnf)
  refine And.intro (fun h2 => ?_) (fun h2 => ?_)
  · (conv=>whnf);repeat((first|refine zD ?_|refine zA ?_|refine zT ?_|refine zF ?_);conv=>whnf)
    refine Exists.intro [] (And.intro List.nodup_nil ?_); ((conv=>whnf);repeat((first|refine zD ?_|refine zA ?_|refine zT ?_|refine zF ?_);conv=>whnf))
    rw [e2 h2]
    rfl
  · (conv=>whnf);repeat((first|refine zD ?_|refine zA ?_|refine zT ?_|refine zF ?_);conv=>whnf)
    refine Exists.intro [] (And.intro List.nodup_nil ?_); ((conv=>whnf);repeat((first|refine zD ?_|refine zA ?_|refine zT ?_|refine zF ?_);conv=>whnf))
    rw [e3 h1 h2]
    rfl
set_option maxRecDepth 100000 in
set_option maxHeartbeats 16000000 in
theorem rd_bRead0 (s : ByteArray)  (hs : s.size ≤ 1000000) (hw : pcs 32 s = [bRead]) : Fun Tryz.prog 15 [strV s] [] (.tup [acV (tread s.data.toList).1, i64V (tread s.data.toList).2]) := by
  obtain ⟨L, hL, e1, e2, e3⟩ := readEnv s ac0 (by rw [tcand_pcs s hw]; unfold tcandW; rw [List.map_cons]; simp [kN, bRead, wRead, wWrite, wTrim, wFlush, wStep, wSave, wClose, wCrash])
  have hsp := splitF' 32 s hs hw
  generalize tread s.data.toList = R at e1 e2 e3 ⊢
  have hm : kmap bRead = some [.sc (.int .i64 1)] := kmap_yes (by decide) (by decide)
  clear hw
  unfold bRead at hsp
  refine fun_of_vc tabOk mixOk Tryz.func15 rfl (by rfl) (rs := [.cell 2 41, .tmp 3]) rfl rfl 128 ?_; rw [Tryz.ntmps15]
  (conv=>whnf);repeat((first|refine zD ?_|refine zA ?_|refine zT ?_|refine zF ?_);conv=>whnf)
  refine ⟨_, _, hsp, ?_⟩
  (conv=>whnf);repeat((first|refine zD ?_|refine zA ?_|refine zT ?_|refine zF ?_);conv=>whnf)
  refine ⟨by decide, _, rfl, rfl, ?_⟩
  (conv=>whnf);repeat((first|refine zD ?_|refine zA ?_|refine zT ?_|refine zF ?_);conv=>whnf)
  refine ⟨_, hm, ?_⟩
  (conv=>whnf);repeat((first|refine zD ?_|refine zA ?_|refine zT ?_|refine zF ?_);conv=>whnf)
  refine ⟨by decide, _, rfl, rfl, ?_⟩
  (conv=>whnf);repeat((first|refine zD ?_|refine zA ?_|refine zT ?_|refine zF ?_);conv=>whnf)
  refine And.intro (fun h => absurd h (by rw [eqS]; decide)) (fun _ => ?_)
  (conv=>whnf);repeat((first|refine zD ?_|refine zA ?_|refine zT ?_|refine zF ?_);conv=>whnf)
  refine ⟨by decide, _, rfl, rfl, ?_⟩
  (conv=>whnf);repeat((first|refine zD ?_|refine zA ?_|refine zT ?_|refine zF ?_);conv=>whnf)
  refine And.intro (fun h => absurd h (by rw [eqS]; decide)) (fun _ => ?_)
  (conv=>whnf);repeat((first|refine zD ?_|refine zA ?_|refine zT ?_|refine zF ?_);conv=>whnf)
  refine ⟨by decide, _, rfl, rfl, ?_⟩
  (conv=>whnf);repeat((first|refine zD ?_|refine zA ?_|refine zT ?_|refine zF ?_);conv=>whnf)
  refine And.intro (fun h => absurd h (by rw [eqS]; decide)) (fun _ => ?_)
  (conv=>whnf);repeat((first|refine zD ?_|refine zA ?_|refine zT ?_|refine zF ?_);conv=>whnf)
  refine ⟨by decide, _, rfl, rfl, ?_⟩
  (conv=>whnf);repeat((first|refine zD ?_|refine zA ?_|refine zT ?_|refine zF ?_);conv=>whnf)
  refine And.intro (fun h => absurd h (by rw [eqS]; decide)) (fun _ => ?_)
  (conv=>whnf);repeat((first|refine zD ?_|refine zA ?_|refine zT ?_|refine zF ?_);conv=>whnf)
  refine And.intro (fun h1 => ?_) (fun h1 => ?_)
  · (conv=>whnf);repeat((first|refine zD ?_|refine zA ?_|refine zT ?_|refine zF ?_);conv=>whnf)
    refine Exists.intro [] (And.intro List.nodup_nil ?_); ((conv=>whnf);repeat((first|refine zD ?_|refine zA ?_|refine zT ?_|refine zF ?_);conv=>whnf))
    rw [e1 h1]
    rfl
  (conv=>whnf);repeat((first|refine zD ?_|refine zA ?_|refine zT ?_|refine zF ?_);conv=>whnf)
  refine ⟨_, _, hL, ?_⟩
  (conv=>whnf);repeat((first|refine zD ?_|refine zA ?_|refine zT ?_|refine zF ?_);conv=>whnf)
  refine And.intro (fun h2 => ?_) (fun h2 => ?_)
  · (conv=>whnf);repeat((first|refine zD ?_|refine zA ?_|refine zT ?_|refine zF ?_);conv=>whnf)
    refine Exists.intro [] (And.intro List.nodup_nil ?_); ((conv=>whnf);repeat((first|refine zD ?_|refine zA ?_|refine zT ?_|refine zF ?_);conv=>whnf))
    rw [e2 h2]
    rfl
  · (conv=>whnf);repeat((first|refine zD ?_|refine zA ?_|refine zT ?_|refine zF ?_);conv=>whnf)
    refine Exists.intro [] (And.intro List.nodup_nil ?_); ((conv=>whnf);repeat((first|refine zD ?_|refine zA ?_|refine zT ?_|refine zF ?_);conv=>whnf))
    rw [e3 h1 h2]
    rfl
set_option maxRecDepth 100000 in
set_option maxHeartbeats 16000000 in
theorem rd_bRead1 (s : ByteArray) (x : ByteArray) (hs : s.size ≤ 1000000) (hw : pcs 32 s = [bRead, x]) : Fun Tryz.prog 15 [strV s] [] (.tup [acV (tread s.data.toList).1, i64V (tread s.data.toList).2]) := by
  obtain ⟨L, hL, e1, e2, e3⟩ := readEnv s ⟨1, num x.data.toList, 1, 0, [], []⟩ (by rw [tcand_pcs s hw]; unfold tcandW; rw [List.map_cons, List.map_cons]; simp [kN, bRead, wRead, wWrite, wTrim, wFlush, wStep, wSave, wClose, wCrash])
  have hsp := splitF' 32 s hs hw
  generalize tread s.data.toList = R at e1 e2 e3 ⊢
  have hm : kmap bRead = some [.sc (.int .i64 1)] := kmap_yes (by decide) (by decide)
  have hx0 := numF' (c := 32) (s := s) (w := x) hs (by rw [hw]; simp)
  clear hw
  unfold bRead at hsp
  refine fun_of_vc tabOk mixOk Tryz.func15 rfl (by rfl) (rs := [.cell 2 41, .tmp 3]) rfl rfl 128 ?_; rw [Tryz.ntmps15]
  (conv=>whnf);repeat((first|refine zD ?_|refine zA ?_|refine zT ?_|refine zF ?_);conv=>whnf)
  refine ⟨_, _, hsp, ?_⟩
  (conv=>whnf);repeat((first|refine zD ?_|refine zA ?_|refine zT ?_|refine zF ?_);conv=>whnf)
  refine ⟨by decide, _, rfl, rfl, ?_⟩
  (conv=>whnf);repeat((first|refine zD ?_|refine zA ?_|refine zT ?_|refine zF ?_);conv=>whnf)
  refine ⟨_, hm, ?_⟩
  (conv=>whnf);repeat((first|refine zD ?_|refine zA ?_|refine zT ?_|refine zF ?_);conv=>whnf)
  refine ⟨by decide, _, rfl, rfl, ?_⟩
  (conv=>whnf);repeat((first|refine zD ?_|refine zA ?_|refine zT ?_|refine zF ?_);conv=>whnf)
  refine ⟨_, _, hx0, ?_⟩
  (conv=>whnf);repeat((first|refine zD ?_|refine zA ?_|refine zT ?_|refine zF ?_);conv=>whnf)
  refine ⟨by decide, _, rfl, rfl, ?_⟩
  (conv=>whnf);repeat((first|refine zD ?_|refine zA ?_|refine zT ?_|refine zF ?_);conv=>whnf)
  refine ⟨_, hm, ?_⟩
  (conv=>whnf);repeat((first|refine zD ?_|refine zA ?_|refine zT ?_|refine zF ?_);conv=>whnf)
  refine And.intro (fun h1 => ?_) (fun h1 => ?_)
  · (conv=>whnf);repeat((first|refine zD ?_|refine zA ?_|refine zT ?_|refine zF ?_);conv=>whnf)
    refine Exists.intro [] (And.intro List.nodup_nil ?_); ((conv=>whnf);repeat((first|refine zD ?_|refine zA ?_|refine zT ?_|refine zF ?_);conv=>whnf))
    rw [e1 h1]
    rfl
  (conv=>whnf);repeat((first|refine zD ?_|refine zA ?_|refine zT ?_|refine zF ?_);conv=>whnf)
  refine ⟨_, _, hL, ?_⟩
  (conv=>whnf);repeat((first|refine zD ?_|refine zA ?_|refine zT ?_|refine zF ?_);conv=>whnf)
  refine And.intro (fun h2 => ?_) (fun h2 => ?_)
  · (conv=>whnf);repeat((first|refine zD ?_|refine zA ?_|refine zT ?_|refine zF ?_);conv=>whnf)
    refine Exists.intro [] (And.intro List.nodup_nil ?_); ((conv=>whnf);repeat((first|refine zD ?_|refine zA ?_|refine zT ?_|refine zF ?_);conv=>whnf))
    rw [e2 h2]
    rfl
  · (conv=>whnf);repeat((first|refine zD ?_|refine zA ?_|refine zT ?_|refine zF ?_);conv=>whnf)
    refine Exists.intro [] (And.intro List.nodup_nil ?_); ((conv=>whnf);repeat((first|refine zD ?_|refine zA ?_|refine zT ?_|refine zF ?_);conv=>whnf))
    rw [e3 h1 h2]
    rfl
set_option maxRecDepth 100000 in
set_option maxHeartbeats 16000000 in
theorem rd_bRead2 (s : ByteArray) (x y : ByteArray) (hs : s.size ≤ 1000000) (hw : pcs 32 s = [bRead, x, y]) : Fun Tryz.prog 15 [strV s] [] (.tup [acV (tread s.data.toList).1, i64V (tread s.data.toList).2]) := by
  obtain ⟨L, hL, e1, e2, e3⟩ := readEnv s ⟨1, num x.data.toList, 1, num y.data.toList, [], []⟩ (by rw [tcand_pcs s hw]; unfold tcandW; rw [List.map_cons, List.map_cons, List.map_cons]; simp [kN, bRead, wRead, wWrite, wTrim, wFlush, wStep, wSave, wClose, wCrash])
  have hsp := splitF' 32 s hs hw
  generalize tread s.data.toList = R at e1 e2 e3 ⊢
  have hm : kmap bRead = some [.sc (.int .i64 1)] := kmap_yes (by decide) (by decide)
  have hx0 := numF' (c := 32) (s := s) (w := x) hs (by rw [hw]; simp)
  have hx1 := numF' (c := 32) (s := s) (w := y) hs (by rw [hw]; simp)
  clear hw
  unfold bRead at hsp
  refine fun_of_vc tabOk mixOk Tryz.func15 rfl (by rfl) (rs := [.cell 2 41, .tmp 3]) rfl rfl 128 ?_; rw [Tryz.ntmps15]
  (conv=>whnf);repeat((first|refine zD ?_|refine zA ?_|refine zT ?_|refine zF ?_);conv=>whnf)
  refine ⟨_, _, hsp, ?_⟩
  (conv=>whnf);repeat((first|refine zD ?_|refine zA ?_|refine zT ?_|refine zF ?_);conv=>whnf)
  refine ⟨by decide, _, rfl, rfl, ?_⟩
  (conv=>whnf);repeat((first|refine zD ?_|refine zA ?_|refine zT ?_|refine zF ?_);conv=>whnf)
  refine ⟨_, hm, ?_⟩
  (conv=>whnf);repeat((first|refine zD ?_|refine zA ?_|refine zT ?_|refine zF ?_);conv=>whnf)
  refine ⟨by decide, _, rfl, rfl, ?_⟩
  (conv=>whnf);repeat((first|refine zD ?_|refine zA ?_|refine zT ?_|refine zF ?_);conv=>whnf)
  refine ⟨_, _, hx0, ?_⟩
  (conv=>whnf);repeat((first|refine zD ?_|refine zA ?_|refine zT ?_|refine zF ?_);conv=>whnf)
  refine ⟨by decide, _, rfl, rfl, ?_⟩
  (conv=>whnf);repeat((first|refine zD ?_|refine zA ?_|refine zT ?_|refine zF ?_);conv=>whnf)
  refine ⟨_, hm, ?_⟩
  (conv=>whnf);repeat((first|refine zD ?_|refine zA ?_|refine zT ?_|refine zF ?_);conv=>whnf)
  refine ⟨by decide, _, rfl, rfl, ?_⟩
  (conv=>whnf);repeat((first|refine zD ?_|refine zA ?_|refine zT ?_|refine zF ?_);conv=>whnf)
  refine ⟨_, _, hx1, ?_⟩
  (conv=>whnf);repeat((first|refine zD ?_|refine zA ?_|refine zT ?_|refine zF ?_);conv=>whnf)
  refine And.intro (fun h1 => ?_) (fun h1 => ?_)
  · (conv=>whnf);repeat((first|refine zD ?_|refine zA ?_|refine zT ?_|refine zF ?_);conv=>whnf)
    refine Exists.intro [] (And.intro List.nodup_nil ?_); ((conv=>whnf);repeat((first|refine zD ?_|refine zA ?_|refine zT ?_|refine zF ?_);conv=>whnf))
    rw [e1 h1]
    rfl
  (conv=>whnf);repeat((first|refine zD ?_|refine zA ?_|refine zT ?_|refine zF ?_);conv=>whnf)
  refine ⟨_, _, hL, ?_⟩
  (conv=>whnf);repeat((first|refine zD ?_|refine zA ?_|refine zT ?_|refine zF ?_);conv=>whnf)
  refine And.intro (fun h2 => ?_) (fun h2 => ?_)
  · (conv=>whnf);repeat((first|refine zD ?_|refine zA ?_|refine zT ?_|refine zF ?_);conv=>whnf)
    refine Exists.intro [] (And.intro List.nodup_nil ?_); ((conv=>whnf);repeat((first|refine zD ?_|refine zA ?_|refine zT ?_|refine zF ?_);conv=>whnf))
    rw [e2 h2]
    rfl
  · (conv=>whnf);repeat((first|refine zD ?_|refine zA ?_|refine zT ?_|refine zF ?_);conv=>whnf)
    refine Exists.intro [] (And.intro List.nodup_nil ?_); ((conv=>whnf);repeat((first|refine zD ?_|refine zA ?_|refine zT ?_|refine zF ?_);conv=>whnf))
    rw [e3 h1 h2]
    rfl
set_option maxRecDepth 100000 in
set_option maxHeartbeats 16000000 in
theorem rd_bRead3 (s : ByteArray) (x y z : ByteArray) (r : List ByteArray) (hs : s.size ≤ 1000000) (hw : pcs 32 s = bRead :: x :: y :: z :: r) : Fun Tryz.prog 15 [strV s] [] (.tup [acV (tread s.data.toList).1, i64V (tread s.data.toList).2]) := by
  obtain ⟨L, hL, e1, e2, e3⟩ := readEnv s ⟨1, num x.data.toList, 1, num y.data.toList, unhxS z.data.toList, []⟩ (by rw [tcand_pcs s hw]; unfold tcandW; rw [List.map_cons, List.map_cons, List.map_cons, List.map_cons]; simp [kN, bRead, wRead, wWrite, wTrim, wFlush, wStep, wSave, wClose, wCrash])
  have hsp := splitF' 32 s hs hw
  generalize tread s.data.toList = R at e1 e2 e3 ⊢
  have hm : kmap bRead = some [.sc (.int .i64 1)] := kmap_yes (by decide) (by decide)
  have hx0 := numF' (c := 32) (s := s) (w := x) hs (by rw [hw]; simp)
  have hx1 := numF' (c := 32) (s := s) (w := y) hs (by rw [hw]; simp)
  have hz := unhexF z (by have := pcs_mem (c := 32) (s := s) (w := z) (by rw [hw]; simp); omega)
  clear hw
  unfold bRead at hsp
  refine fun_of_vc tabOk mixOk Tryz.func15 rfl (by rfl) (rs := [.cell 2 41, .tmp 3]) rfl rfl 128 ?_; rw [Tryz.ntmps15]
  (conv=>whnf);repeat((first|refine zD ?_|refine zA ?_|refine zT ?_|refine zF ?_);conv=>whnf)
  refine ⟨_, _, hsp, ?_⟩
  (conv=>whnf);repeat((first|refine zD ?_|refine zA ?_|refine zT ?_|refine zF ?_);conv=>whnf)
  refine ⟨by decide, _, rfl, rfl, ?_⟩
  (conv=>whnf);repeat((first|refine zD ?_|refine zA ?_|refine zT ?_|refine zF ?_);conv=>whnf)
  refine ⟨_, hm, ?_⟩
  (conv=>whnf);repeat((first|refine zD ?_|refine zA ?_|refine zT ?_|refine zF ?_);conv=>whnf)
  first | (refine And.intro (fun _ => ?_) (fun h => absurd h (by simp [sV]; try omega)); (conv=>whnf);repeat((first|refine zD ?_|refine zA ?_|refine zT ?_|refine zF ?_);conv=>whnf)) | skip
  refine ⟨by decide, _, rfl, rfl, ?_⟩
  (conv=>whnf);repeat((first|refine zD ?_|refine zA ?_|refine zT ?_|refine zF ?_);conv=>whnf)
  refine ⟨_, _, hx0, ?_⟩
  (conv=>whnf);repeat((first|refine zD ?_|refine zA ?_|refine zT ?_|refine zF ?_);conv=>whnf)
  refine ⟨by decide, _, rfl, rfl, ?_⟩
  (conv=>whnf);repeat((first|refine zD ?_|refine zA ?_|refine zT ?_|refine zF ?_);conv=>whnf)
  refine ⟨_, hm, ?_⟩
  (conv=>whnf);repeat((first|refine zD ?_|refine zA ?_|refine zT ?_|refine zF ?_);conv=>whnf)
  first | (refine And.intro (fun _ => ?_) (fun h => absurd h (by simp [sV]; try omega)); (conv=>whnf);repeat((first|refine zD ?_|refine zA ?_|refine zT ?_|refine zF ?_);conv=>whnf)) | skip
  refine ⟨by decide, _, rfl, rfl, ?_⟩
  (conv=>whnf);repeat((first|refine zD ?_|refine zA ?_|refine zT ?_|refine zF ?_);conv=>whnf)
  refine ⟨_, _, hx1, ?_⟩
  (conv=>whnf);repeat((first|refine zD ?_|refine zA ?_|refine zT ?_|refine zF ?_);conv=>whnf)
  first | (refine And.intro (fun _ => ?_) (fun h => absurd h (by simp [sV]; try omega)); (conv=>whnf);repeat((first|refine zD ?_|refine zA ?_|refine zT ?_|refine zF ?_);conv=>whnf)) | skip
  refine ⟨by decide, _, rfl, rfl, ?_⟩
  (conv=>whnf);repeat((first|refine zD ?_|refine zA ?_|refine zT ?_|refine zF ?_);conv=>whnf)
  refine ⟨_, _, hz, ?_⟩
  (conv=>whnf);repeat((first|refine zD ?_|refine zA ?_|refine zT ?_|refine zF ?_);conv=>whnf)
  refine And.intro (fun h1 => ?_) (fun h1 => ?_)
  · (conv=>whnf);repeat((first|refine zD ?_|refine zA ?_|refine zT ?_|refine zF ?_);conv=>whnf)
    refine Exists.intro [] (And.intro List.nodup_nil ?_); ((conv=>whnf);repeat((first|refine zD ?_|refine zA ?_|refine zT ?_|refine zF ?_);conv=>whnf))
    rw [e1 h1]
    rfl
  (conv=>whnf);repeat((first|refine zD ?_|refine zA ?_|refine zT ?_|refine zF ?_);conv=>whnf)
  refine ⟨_, _, hL, ?_⟩
  (conv=>whnf);repeat((first|refine zD ?_|refine zA ?_|refine zT ?_|refine zF ?_);conv=>whnf)
  refine And.intro (fun h2 => ?_) (fun h2 => ?_)
  · (conv=>whnf);repeat((first|refine zD ?_|refine zA ?_|refine zT ?_|refine zF ?_);conv=>whnf)
    refine Exists.intro [] (And.intro List.nodup_nil ?_); ((conv=>whnf);repeat((first|refine zD ?_|refine zA ?_|refine zT ?_|refine zF ?_);conv=>whnf))
    rw [e2 h2]
    rfl
  · (conv=>whnf);repeat((first|refine zD ?_|refine zA ?_|refine zT ?_|refine zF ?_);conv=>whnf)
    refine Exists.intro [] (And.intro List.nodup_nil ?_); ((conv=>whnf);repeat((first|refine zD ?_|refine zA ?_|refine zT ?_|refine zF ?_);conv=>whnf))
    rw [e3 h1 h2]
    rfl
set_option maxRecDepth 100000 in
set_option maxHeartbeats 16000000 in
theorem rd_bWrite0 (s : ByteArray)  (hs : s.size ≤ 1000000) (hw : pcs 32 s = [bWrite]) : Fun Tryz.prog 15 [strV s] [] (.tup [acV (tread s.data.toList).1, i64V (tread s.data.toList).2]) := by
  obtain ⟨L, hL, e1, e2, e3⟩ := readEnv s ac0 (by rw [tcand_pcs s hw]; unfold tcandW; rw [List.map_cons]; simp [kN, bWrite, wRead, wWrite, wTrim, wFlush, wStep, wSave, wClose, wCrash])
  have hsp := splitF' 32 s hs hw
  generalize tread s.data.toList = R at e1 e2 e3 ⊢
  have hm : kmap bWrite = some [.sc (.int .i64 2)] := kmap_yes (by decide) (by decide)
  clear hw
  unfold bWrite at hsp
  refine fun_of_vc tabOk mixOk Tryz.func15 rfl (by rfl) (rs := [.cell 2 41, .tmp 3]) rfl rfl 128 ?_; rw [Tryz.ntmps15]
  (conv=>whnf);repeat((first|refine zD ?_|refine zA ?_|refine zT ?_|refine zF ?_);conv=>whnf)
  refine ⟨_, _, hsp, ?_⟩
  (conv=>whnf);repeat((first|refine zD ?_|refine zA ?_|refine zT ?_|refine zF ?_);conv=>whnf)
  refine ⟨by decide, _, rfl, rfl, ?_⟩
  (conv=>whnf);repeat((first|refine zD ?_|refine zA ?_|refine zT ?_|refine zF ?_);conv=>whnf)
  refine ⟨_, hm, ?_⟩
  (conv=>whnf);repeat((first|refine zD ?_|refine zA ?_|refine zT ?_|refine zF ?_);conv=>whnf)
  refine ⟨by decide, _, rfl, rfl, ?_⟩
  (conv=>whnf);repeat((first|refine zD ?_|refine zA ?_|refine zT ?_|refine zF ?_);conv=>whnf)
  refine And.intro (fun h => absurd h (by rw [eqS]; decide)) (fun _ => ?_)
  (conv=>whnf);repeat((first|refine zD ?_|refine zA ?_|refine zT ?_|refine zF ?_);conv=>whnf)
  refine ⟨by decide, _, rfl, rfl, ?_⟩
  (conv=>whnf);repeat((first|refine zD ?_|refine zA ?_|refine zT ?_|refine zF ?_);conv=>whnf)
  refine And.intro (fun h => absurd h (by rw [eqS]; decide)) (fun _ => ?_)
  (conv=>whnf);repeat((first|refine zD ?_|refine zA ?_|refine zT ?_|refine zF ?_);conv=>whnf)
  refine ⟨by decide, _, rfl, rfl, ?_⟩
  (conv=>whnf);repeat((first|refine zD ?_|refine zA ?_|refine zT ?_|refine zF ?_);conv=>whnf)
  refine And.intro (fun h => absurd h (by rw [eqS]; decide)) (fun _ => ?_)
  (conv=>whnf);repeat((first|refine zD ?_|refine zA ?_|refine zT ?_|refine zF ?_);conv=>whnf)
  refine ⟨by decide, _, rfl, rfl, ?_⟩
  (conv=>whnf);repeat((first|refine zD ?_|refine zA ?_|refine zT ?_|refine zF ?_);conv=>whnf)
  refine And.intro (fun h => absurd h (by rw [eqS]; decide)) (fun _ => ?_)
  (conv=>whnf);repeat((first|refine zD ?_|refine zA ?_|refine zT ?_|refine zF ?_);conv=>whnf)
  refine And.intro (fun h1 => ?_) (fun h1 => ?_)
  · (conv=>whnf);repeat((first|refine zD ?_|refine zA ?_|refine zT ?_|refine zF ?_);conv=>whnf)
    refine Exists.intro [] (And.intro List.nodup_nil ?_); ((conv=>whnf);repeat((first|refine zD ?_|refine zA ?_|refine zT ?_|refine zF ?_);conv=>whnf))
    rw [e1 h1]
    rfl
  (conv=>whnf);repeat((first|refine zD ?_|refine zA ?_|refine zT ?_|refine zF ?_);conv=>whnf)
  refine ⟨_, _, hL, ?_⟩
  (conv=>whnf);repeat((first|refine zD ?_|refine zA ?_|refine zT ?_|refine zF ?_);conv=>whnf)
  refine And.intro (fun h2 => ?_) (fun h2 => ?_)
  · (conv=>whnf);repeat((first|refine zD ?_|refine zA ?_|refine zT ?_|refine zF ?_);conv=>whnf)
    refine Exists.intro [] (And.intro List.nodup_nil ?_); ((conv=>whnf);repeat((first|refine zD ?_|refine zA ?_|refine zT ?_|refine zF ?_);conv=>whnf))
    rw [e2 h2]
    rfl
  · (conv=>whnf);repeat((first|refine zD ?_|refine zA ?_|refine zT ?_|refine zF ?_);conv=>whnf)
    refine Exists.intro [] (And.intro List.nodup_nil ?_); ((conv=>whnf);repeat((first|refine zD ?_|refine zA ?_|refine zT ?_|refine zF ?_);conv=>whnf))
    rw [e3 h1 h2]
    rfl
set_option maxRecDepth 100000 in
set_option maxHeartbeats 16000000 in
theorem rd_bWrite1 (s : ByteArray) (x : ByteArray) (hs : s.size ≤ 1000000) (hw : pcs 32 s = [bWrite, x]) : Fun Tryz.prog 15 [strV s] [] (.tup [acV (tread s.data.toList).1, i64V (tread s.data.toList).2]) := by
  obtain ⟨L, hL, e1, e2, e3⟩ := readEnv s ⟨1, num x.data.toList, 2, 0, [], []⟩ (by rw [tcand_pcs s hw]; unfold tcandW; rw [List.map_cons, List.map_cons]; simp [kN, bWrite, wRead, wWrite, wTrim, wFlush, wStep, wSave, wClose, wCrash])
  have hsp := splitF' 32 s hs hw
  generalize tread s.data.toList = R at e1 e2 e3 ⊢
  have hm : kmap bWrite = some [.sc (.int .i64 2)] := kmap_yes (by decide) (by decide)
  have hx0 := numF' (c := 32) (s := s) (w := x) hs (by rw [hw]; simp)
  clear hw
  unfold bWrite at hsp
  refine fun_of_vc tabOk mixOk Tryz.func15 rfl (by rfl) (rs := [.cell 2 41, .tmp 3]) rfl rfl 128 ?_; rw [Tryz.ntmps15]
  (conv=>whnf);repeat((first|refine zD ?_|refine zA ?_|refine zT ?_|refine zF ?_);conv=>whnf)
  refine ⟨_, _, hsp, ?_⟩
  (conv=>whnf);repeat((first|refine zD ?_|refine zA ?_|refine zT ?_|refine zF ?_);conv=>whnf)
  refine ⟨by decide, _, rfl, rfl, ?_⟩
  (conv=>whnf);repeat((first|refine zD ?_|refine zA ?_|refine zT ?_|refine zF ?_);conv=>whnf)
  refine ⟨_, hm, ?_⟩
  (conv=>whnf);repeat((first|refine zD ?_|refine zA ?_|refine zT ?_|refine zF ?_);conv=>whnf)
  refine ⟨by decide, _, rfl, rfl, ?_⟩
  (conv=>whnf);repeat((first|refine zD ?_|refine zA ?_|refine zT ?_|refine zF ?_);conv=>whnf)
  refine ⟨_, _, hx0, ?_⟩
  (conv=>whnf);repeat((first|refine zD ?_|refine zA ?_|refine zT ?_|refine zF ?_);conv=>whnf)
  refine ⟨by decide, _, rfl, rfl, ?_⟩
  (conv=>whnf);repeat((first|refine zD ?_|refine zA ?_|refine zT ?_|refine zF ?_);conv=>whnf)
  refine ⟨_, hm, ?_⟩
  (conv=>whnf);repeat((first|refine zD ?_|refine zA ?_|refine zT ?_|refine zF ?_);conv=>whnf)
  refine And.intro (fun h1 => ?_) (fun h1 => ?_)
  · (conv=>whnf);repeat((first|refine zD ?_|refine zA ?_|refine zT ?_|refine zF ?_);conv=>whnf)
    refine Exists.intro [] (And.intro List.nodup_nil ?_); ((conv=>whnf);repeat((first|refine zD ?_|refine zA ?_|refine zT ?_|refine zF ?_);conv=>whnf))
    rw [e1 h1]
    rfl
  (conv=>whnf);repeat((first|refine zD ?_|refine zA ?_|refine zT ?_|refine zF ?_);conv=>whnf)
  refine ⟨_, _, hL, ?_⟩
  (conv=>whnf);repeat((first|refine zD ?_|refine zA ?_|refine zT ?_|refine zF ?_);conv=>whnf)
  refine And.intro (fun h2 => ?_) (fun h2 => ?_)
  · (conv=>whnf);repeat((first|refine zD ?_|refine zA ?_|refine zT ?_|refine zF ?_);conv=>whnf)
    refine Exists.intro [] (And.intro List.nodup_nil ?_); ((conv=>whnf);repeat((first|refine zD ?_|refine zA ?_|refine zT ?_|refine zF ?_);conv=>whnf))
    rw [e2 h2]
    rfl
  · (conv=>whnf);repeat((first|refine zD ?_|refine zA ?_|refine zT ?_|refine zF ?_);conv=>whnf)
    refine Exists.intro [] (And.intro List.nodup_nil ?_); ((conv=>whnf);repeat((first|refine zD ?_|refine zA ?_|refine zT ?_|refine zF ?_);conv=>whnf))
    rw [e3 h1 h2]
    rfl
set_option maxRecDepth 100000 in
set_option maxHeartbeats 16000000 in
theorem rd_bWrite2 (s : ByteArray) (x y : ByteArray) (hs : s.size ≤ 1000000) (hw : pcs 32 s = [bWrite, x, y]) : Fun Tryz.prog 15 [strV s] [] (.tup [acV (tread s.data.toList).1, i64V (tread s.data.toList).2]) := by
  obtain ⟨L, hL, e1, e2, e3⟩ := readEnv s ⟨1, num x.data.toList, 2, num y.data.toList, [], []⟩ (by rw [tcand_pcs s hw]; unfold tcandW; rw [List.map_cons, List.map_cons, List.map_cons]; simp [kN, bWrite, wRead, wWrite, wTrim, wFlush, wStep, wSave, wClose, wCrash])
  have hsp := splitF' 32 s hs hw
  generalize tread s.data.toList = R at e1 e2 e3 ⊢
  have hm : kmap bWrite = some [.sc (.int .i64 2)] := kmap_yes (by decide) (by decide)
  have hx0 := numF' (c := 32) (s := s) (w := x) hs (by rw [hw]; simp)
  have hx1 := numF' (c := 32) (s := s) (w := y) hs (by rw [hw]; simp)
  clear hw
  unfold bWrite at hsp
  refine fun_of_vc tabOk mixOk Tryz.func15 rfl (by rfl) (rs := [.cell 2 41, .tmp 3]) rfl rfl 128 ?_; rw [Tryz.ntmps15]
  (conv=>whnf);repeat((first|refine zD ?_|refine zA ?_|refine zT ?_|refine zF ?_);conv=>whnf)
  refine ⟨_, _, hsp, ?_⟩
  (conv=>whnf);repeat((first|refine zD ?_|refine zA ?_|refine zT ?_|refine zF ?_);conv=>whnf)
  refine ⟨by decide, _, rfl, rfl, ?_⟩
  (conv=>whnf);repeat((first|refine zD ?_|refine zA ?_|refine zT ?_|refine zF ?_);conv=>whnf)
  refine ⟨_, hm, ?_⟩
  (conv=>whnf);repeat((first|refine zD ?_|refine zA ?_|refine zT ?_|refine zF ?_);conv=>whnf)
  refine ⟨by decide, _, rfl, rfl, ?_⟩
  (conv=>whnf);repeat((first|refine zD ?_|refine zA ?_|refine zT ?_|refine zF ?_);conv=>whnf)
  refine ⟨_, _, hx0, ?_⟩
  (conv=>whnf);repeat((first|refine zD ?_|refine zA ?_|refine zT ?_|refine zF ?_);conv=>whnf)
  refine ⟨by decide, _, rfl, rfl, ?_⟩
  (conv=>whnf);repeat((first|refine zD ?_|refine zA ?_|refine zT ?_|refine zF ?_);conv=>whnf)
  refine ⟨_, hm, ?_⟩
  (conv=>whnf);repeat((first|refine zD ?_|refine zA ?_|refine zT ?_|refine zF ?_);conv=>whnf)
  refine ⟨by decide, _, rfl, rfl, ?_⟩
  (conv=>whnf);repeat((first|refine zD ?_|refine zA ?_|refine zT ?_|refine zF ?_);conv=>whnf)
  refine ⟨_, _, hx1, ?_⟩
  (conv=>whnf);repeat((first|refine zD ?_|refine zA ?_|refine zT ?_|refine zF ?_);conv=>whnf)
  refine And.intro (fun h1 => ?_) (fun h1 => ?_)
  · (conv=>whnf);repeat((first|refine zD ?_|refine zA ?_|refine zT ?_|refine zF ?_);conv=>whnf)
    refine Exists.intro [] (And.intro List.nodup_nil ?_); ((conv=>whnf);repeat((first|refine zD ?_|refine zA ?_|refine zT ?_|refine zF ?_);conv=>whnf))
    rw [e1 h1]
    rfl
  (conv=>whnf);repeat((first|refine zD ?_|refine zA ?_|refine zT ?_|refine zF ?_);conv=>whnf)
  refine ⟨_, _, hL, ?_⟩
  (conv=>whnf);repeat((first|refine zD ?_|refine zA ?_|refine zT ?_|refine zF ?_);conv=>whnf)
  refine And.intro (fun h2 => ?_) (fun h2 => ?_)
  · (conv=>whnf);repeat((first|refine zD ?_|refine zA ?_|refine zT ?_|refine zF ?_);conv=>whnf)
    refine Exists.intro [] (And.intro List.nodup_nil ?_); ((conv=>whnf);repeat((first|refine zD ?_|refine zA ?_|refine zT ?_|refine zF ?_);conv=>whnf))
    rw [e2 h2]
    rfl
  · (conv=>whnf);repeat((first|refine zD ?_|refine zA ?_|refine zT ?_|refine zF ?_);conv=>whnf)
    refine Exists.intro [] (And.intro List.nodup_nil ?_); ((conv=>whnf);repeat((first|refine zD ?_|refine zA ?_|refine zT ?_|refine zF ?_);conv=>whnf))
    rw [e3 h1 h2]
    rfl
set_option maxRecDepth 100000 in
set_option maxHeartbeats 16000000 in
theorem rd_bWrite3 (s : ByteArray) (x y z : ByteArray) (r : List ByteArray) (hs : s.size ≤ 1000000) (hw : pcs 32 s = bWrite :: x :: y :: z :: r) : Fun Tryz.prog 15 [strV s] [] (.tup [acV (tread s.data.toList).1, i64V (tread s.data.toList).2]) := by
  obtain ⟨L, hL, e1, e2, e3⟩ := readEnv s ⟨1, num x.data.toList, 2, num y.data.toList, unhxS z.data.toList, []⟩ (by rw [tcand_pcs s hw]; unfold tcandW; rw [List.map_cons, List.map_cons, List.map_cons, List.map_cons]; simp [kN, bWrite, wRead, wWrite, wTrim, wFlush, wStep, wSave, wClose, wCrash])
  have hsp := splitF' 32 s hs hw
  generalize tread s.data.toList = R at e1 e2 e3 ⊢
  have hm : kmap bWrite = some [.sc (.int .i64 2)] := kmap_yes (by decide) (by decide)
  have hx0 := numF' (c := 32) (s := s) (w := x) hs (by rw [hw]; simp)
  have hx1 := numF' (c := 32) (s := s) (w := y) hs (by rw [hw]; simp)
  have hz := unhexF z (by have := pcs_mem (c := 32) (s := s) (w := z) (by rw [hw]; simp); omega)
  clear hw
  unfold bWrite at hsp
  refine fun_of_vc tabOk mixOk Tryz.func15 rfl (by rfl) (rs := [.cell 2 41, .tmp 3]) rfl rfl 128 ?_; rw [Tryz.ntmps15]
  (conv=>whnf);repeat((first|refine zD ?_|refine zA ?_|refine zT ?_|refine zF ?_);conv=>whnf)
  refine ⟨_, _, hsp, ?_⟩
  (conv=>whnf);repeat((first|refine zD ?_|refine zA ?_|refine zT ?_|refine zF ?_);conv=>whnf)
  refine ⟨by decide, _, rfl, rfl, ?_⟩
  (conv=>whnf);repeat((first|refine zD ?_|refine zA ?_|refine zT ?_|refine zF ?_);conv=>whnf)
  refine ⟨_, hm, ?_⟩
  (conv=>whnf);repeat((first|refine zD ?_|refine zA ?_|refine zT ?_|refine zF ?_);conv=>whnf)
  first | (refine And.intro (fun _ => ?_) (fun h => absurd h (by simp [sV]; try omega)); (conv=>whnf);repeat((first|refine zD ?_|refine zA ?_|refine zT ?_|refine zF ?_);conv=>whnf)) | skip
  refine ⟨by decide, _, rfl, rfl, ?_⟩
  (conv=>whnf);repeat((first|refine zD ?_|refine zA ?_|refine zT ?_|refine zF ?_);conv=>whnf)
  refine ⟨_, _, hx0, ?_⟩
  (conv=>whnf);repeat((first|refine zD ?_|refine zA ?_|refine zT ?_|refine zF ?_);conv=>whnf)
  refine ⟨by decide, _, rfl, rfl, ?_⟩
  (conv=>whnf);repeat((first|refine zD ?_|refine zA ?_|refine zT ?_|refine zF ?_);conv=>whnf)
  refine ⟨_, hm, ?_⟩
  (conv=>whnf);repeat((first|refine zD ?_|refine zA ?_|refine zT ?_|refine zF ?_);conv=>whnf)
  first | (refine And.intro (fun _ => ?_) (fun h => absurd h (by simp [sV]; try omega)); (conv=>whnf);repeat((first|refine zD ?_|refine zA ?_|refine zT ?_|refine zF ?_);conv=>whnf)) | skip
  refine ⟨by decide, _, rfl, rfl, ?_⟩
  (conv=>whnf);repeat((first|refine zD ?_|refine zA ?_|refine zT ?_|refine zF ?_);conv=>whnf)
  refine ⟨_, _, hx1, ?_⟩
  (conv=>whnf);repeat((first|refine zD ?_|refine zA ?_|refine zT ?_|refine zF ?_);conv=>whnf)
  first | (refine And.intro (fun _ => ?_) (fun h => absurd h (by simp [sV]; try omega)); (conv=>whnf);repeat((first|refine zD ?_|refine zA ?_|refine zT ?_|refine zF ?_);conv=>whnf)) | skip
  refine ⟨by decide, _, rfl, rfl, ?_⟩
  (conv=>whnf);repeat((first|refine zD ?_|refine zA ?_|refine zT ?_|refine zF ?_);conv=>whnf)
  refine ⟨_, _, hz, ?_⟩
  (conv=>whnf);repeat((first|refine zD ?_|refine zA ?_|refine zT ?_|refine zF ?_);conv=>whnf)
  refine And.intro (fun h1 => ?_) (fun h1 => ?_)
  · (conv=>whnf);repeat((first|refine zD ?_|refine zA ?_|refine zT ?_|refine zF ?_);conv=>whnf)
    refine Exists.intro [] (And.intro List.nodup_nil ?_); ((conv=>whnf);repeat((first|refine zD ?_|refine zA ?_|refine zT ?_|refine zF ?_);conv=>whnf))
    rw [e1 h1]
    rfl
  (conv=>whnf);repeat((first|refine zD ?_|refine zA ?_|refine zT ?_|refine zF ?_);conv=>whnf)
  refine ⟨_, _, hL, ?_⟩
  (conv=>whnf);repeat((first|refine zD ?_|refine zA ?_|refine zT ?_|refine zF ?_);conv=>whnf)
  refine And.intro (fun h2 => ?_) (fun h2 => ?_)
  · (conv=>whnf);repeat((first|refine zD ?_|refine zA ?_|refine zT ?_|refine zF ?_);conv=>whnf)
    refine Exists.intro [] (And.intro List.nodup_nil ?_); ((conv=>whnf);repeat((first|refine zD ?_|refine zA ?_|refine zT ?_|refine zF ?_);conv=>whnf))
    rw [e2 h2]
    rfl
  · (conv=>whnf);repeat((first|refine zD ?_|refine zA ?_|refine zT ?_|refine zF ?_);conv=>whnf)
    refine Exists.intro [] (And.intro List.nodup_nil ?_); ((conv=>whnf);repeat((first|refine zD ?_|refine zA ?_|refine zT ?_|refine zF ?_);conv=>whnf))
    rw [e3 h1 h2]
    rfl
set_option maxRecDepth 100000 in
set_option maxHeartbeats 16000000 in
theorem rd_bTrim0 (s : ByteArray)  (hs : s.size ≤ 1000000) (hw : pcs 32 s = [bTrim]) : Fun Tryz.prog 15 [strV s] [] (.tup [acV (tread s.data.toList).1, i64V (tread s.data.toList).2]) := by
  obtain ⟨L, hL, e1, e2, e3⟩ := readEnv s ac0 (by rw [tcand_pcs s hw]; unfold tcandW; rw [List.map_cons]; simp [kN, bTrim, wRead, wWrite, wTrim, wFlush, wStep, wSave, wClose, wCrash])
  have hsp := splitF' 32 s hs hw
  generalize tread s.data.toList = R at e1 e2 e3 ⊢
  have hm : kmap bTrim = some [.sc (.int .i64 3)] := kmap_yes (by decide) (by decide)
  clear hw
  unfold bTrim at hsp
  refine fun_of_vc tabOk mixOk Tryz.func15 rfl (by rfl) (rs := [.cell 2 41, .tmp 3]) rfl rfl 128 ?_; rw [Tryz.ntmps15]
  (conv=>whnf);repeat((first|refine zD ?_|refine zA ?_|refine zT ?_|refine zF ?_);conv=>whnf)
  refine ⟨_, _, hsp, ?_⟩
  (conv=>whnf);repeat((first|refine zD ?_|refine zA ?_|refine zT ?_|refine zF ?_);conv=>whnf)
  refine ⟨by decide, _, rfl, rfl, ?_⟩
  (conv=>whnf);repeat((first|refine zD ?_|refine zA ?_|refine zT ?_|refine zF ?_);conv=>whnf)
  refine ⟨_, hm, ?_⟩
  (conv=>whnf);repeat((first|refine zD ?_|refine zA ?_|refine zT ?_|refine zF ?_);conv=>whnf)
  refine ⟨by decide, _, rfl, rfl, ?_⟩
  (conv=>whnf);repeat((first|refine zD ?_|refine zA ?_|refine zT ?_|refine zF ?_);conv=>whnf)
  refine And.intro (fun h => absurd h (by rw [eqS]; decide)) (fun _ => ?_)
  (conv=>whnf);repeat((first|refine zD ?_|refine zA ?_|refine zT ?_|refine zF ?_);conv=>whnf)
  refine ⟨by decide, _, rfl, rfl, ?_⟩
  (conv=>whnf);repeat((first|refine zD ?_|refine zA ?_|refine zT ?_|refine zF ?_);conv=>whnf)
  refine And.intro (fun h => absurd h (by rw [eqS]; decide)) (fun _ => ?_)
  (conv=>whnf);repeat((first|refine zD ?_|refine zA ?_|refine zT ?_|refine zF ?_);conv=>whnf)
  refine ⟨by decide, _, rfl, rfl, ?_⟩
  (conv=>whnf);repeat((first|refine zD ?_|refine zA ?_|refine zT ?_|refine zF ?_);conv=>whnf)
  refine And.intro (fun h => absurd h (by rw [eqS]; decide)) (fun _ => ?_)
  (conv=>whnf);repeat((first|refine zD ?_|refine zA ?_|refine zT ?_|refine zF ?_);conv=>whnf)
  refine ⟨by decide, _, rfl, rfl, ?_⟩
  (conv=>whnf);repeat((first|refine zD ?_|refine zA ?_|refine zT ?_|refine zF ?_);conv=>whnf)
  refine And.intro (fun h => absurd h (by rw [eqS]; decide)) (fun _ => ?_)
  (conv=>whnf);repeat((first|refine zD ?_|refine zA ?_|refine zT ?_|refine zF ?_);conv=>whnf)
  refine And.intro (fun h1 => ?_) (fun h1 => ?_)
  · (conv=>whnf);repeat((first|refine zD ?_|refine zA ?_|refine zT ?_|refine zF ?_);conv=>whnf)
    refine Exists.intro [] (And.intro List.nodup_nil ?_); ((conv=>whnf);repeat((first|refine zD ?_|refine zA ?_|refine zT ?_|refine zF ?_);conv=>whnf))
    rw [e1 h1]
    rfl
  (conv=>whnf);repeat((first|refine zD ?_|refine zA ?_|refine zT ?_|refine zF ?_);conv=>whnf)
  refine ⟨_, _, hL, ?_⟩
  (conv=>whnf);repeat((first|refine zD ?_|refine zA ?_|refine zT ?_|refine zF ?_);conv=>whnf)
  refine And.intro (fun h2 => ?_) (fun h2 => ?_)
  · (conv=>whnf);repeat((first|refine zD ?_|refine zA ?_|refine zT ?_|refine zF ?_);conv=>whnf)
    refine Exists.intro [] (And.intro List.nodup_nil ?_); ((conv=>whnf);repeat((first|refine zD ?_|refine zA ?_|refine zT ?_|refine zF ?_);conv=>whnf))
    rw [e2 h2]
    rfl
  · (conv=>whnf);repeat((first|refine zD ?_|refine zA ?_|refine zT ?_|refine zF ?_);conv=>whnf)
    refine Exists.intro [] (And.intro List.nodup_nil ?_); ((conv=>whnf);repeat((first|refine zD ?_|refine zA ?_|refine zT ?_|refine zF ?_);conv=>whnf))
    rw [e3 h1 h2]
    rfl
set_option maxRecDepth 100000 in
set_option maxHeartbeats 16000000 in
theorem rd_bTrim1 (s : ByteArray) (x : ByteArray) (hs : s.size ≤ 1000000) (hw : pcs 32 s = [bTrim, x]) : Fun Tryz.prog 15 [strV s] [] (.tup [acV (tread s.data.toList).1, i64V (tread s.data.toList).2]) := by
  obtain ⟨L, hL, e1, e2, e3⟩ := readEnv s ⟨1, num x.data.toList, 3, 0, [], []⟩ (by rw [tcand_pcs s hw]; unfold tcandW; rw [List.map_cons, List.map_cons]; simp [kN, bTrim, wRead, wWrite, wTrim, wFlush, wStep, wSave, wClose, wCrash])
  have hsp := splitF' 32 s hs hw
  generalize tread s.data.toList = R at e1 e2 e3 ⊢
  have hm : kmap bTrim = some [.sc (.int .i64 3)] := kmap_yes (by decide) (by decide)
  have hx0 := numF' (c := 32) (s := s) (w := x) hs (by rw [hw]; simp)
  clear hw
  unfold bTrim at hsp
  refine fun_of_vc tabOk mixOk Tryz.func15 rfl (by rfl) (rs := [.cell 2 41, .tmp 3]) rfl rfl 128 ?_; rw [Tryz.ntmps15]
  (conv=>whnf);repeat((first|refine zD ?_|refine zA ?_|refine zT ?_|refine zF ?_);conv=>whnf)
  refine ⟨_, _, hsp, ?_⟩
  (conv=>whnf);repeat((first|refine zD ?_|refine zA ?_|refine zT ?_|refine zF ?_);conv=>whnf)
  refine ⟨by decide, _, rfl, rfl, ?_⟩
  (conv=>whnf);repeat((first|refine zD ?_|refine zA ?_|refine zT ?_|refine zF ?_);conv=>whnf)
  refine ⟨_, hm, ?_⟩
  (conv=>whnf);repeat((first|refine zD ?_|refine zA ?_|refine zT ?_|refine zF ?_);conv=>whnf)
  refine ⟨by decide, _, rfl, rfl, ?_⟩
  (conv=>whnf);repeat((first|refine zD ?_|refine zA ?_|refine zT ?_|refine zF ?_);conv=>whnf)
  refine ⟨_, _, hx0, ?_⟩
  (conv=>whnf);repeat((first|refine zD ?_|refine zA ?_|refine zT ?_|refine zF ?_);conv=>whnf)
  refine ⟨by decide, _, rfl, rfl, ?_⟩
  (conv=>whnf);repeat((first|refine zD ?_|refine zA ?_|refine zT ?_|refine zF ?_);conv=>whnf)
  refine ⟨_, hm, ?_⟩
  (conv=>whnf);repeat((first|refine zD ?_|refine zA ?_|refine zT ?_|refine zF ?_);conv=>whnf)
  refine And.intro (fun h1 => ?_) (fun h1 => ?_)
  · (conv=>whnf);repeat((first|refine zD ?_|refine zA ?_|refine zT ?_|refine zF ?_);conv=>whnf)
    refine Exists.intro [] (And.intro List.nodup_nil ?_); ((conv=>whnf);repeat((first|refine zD ?_|refine zA ?_|refine zT ?_|refine zF ?_);conv=>whnf))
    rw [e1 h1]
    rfl
  (conv=>whnf);repeat((first|refine zD ?_|refine zA ?_|refine zT ?_|refine zF ?_);conv=>whnf)
  refine ⟨_, _, hL, ?_⟩
  (conv=>whnf);repeat((first|refine zD ?_|refine zA ?_|refine zT ?_|refine zF ?_);conv=>whnf)
  refine And.intro (fun h2 => ?_) (fun h2 => ?_)
  · (conv=>whnf);repeat((first|refine zD ?_|refine zA ?_|refine zT ?_|refine zF ?_);conv=>whnf)
    refine Exists.intro [] (And.intro List.nodup_nil ?_); ((conv=>whnf);repeat((first|refine zD ?_|refine zA ?_|refine zT ?_|refine zF ?_);conv=>whnf))
    rw [e2 h2]
    rfl
  · (conv=>whnf);repeat((first|refine zD ?_|refine zA ?_|refine zT ?_|refine zF ?_);conv=>whnf)
    refine Exists.intro [] (And.intro List.nodup_nil ?_); ((conv=>whnf);repeat((first|refine zD ?_|refine zA ?_|refine zT ?_|refine zF ?_);conv=>whnf))
    rw [e3 h1 h2]
    rfl
set_option maxRecDepth 100000 in
set_option maxHeartbeats 16000000 in
theorem rd_bTrim2 (s : ByteArray) (x y : ByteArray) (hs : s.size ≤ 1000000) (hw : pcs 32 s = [bTrim, x, y]) : Fun Tryz.prog 15 [strV s] [] (.tup [acV (tread s.data.toList).1, i64V (tread s.data.toList).2]) := by
  obtain ⟨L, hL, e1, e2, e3⟩ := readEnv s ⟨1, num x.data.toList, 3, num y.data.toList, [], []⟩ (by rw [tcand_pcs s hw]; unfold tcandW; rw [List.map_cons, List.map_cons, List.map_cons]; simp [kN, bTrim, wRead, wWrite, wTrim, wFlush, wStep, wSave, wClose, wCrash])
  have hsp := splitF' 32 s hs hw
  generalize tread s.data.toList = R at e1 e2 e3 ⊢
  have hm : kmap bTrim = some [.sc (.int .i64 3)] := kmap_yes (by decide) (by decide)
  have hx0 := numF' (c := 32) (s := s) (w := x) hs (by rw [hw]; simp)
  have hx1 := numF' (c := 32) (s := s) (w := y) hs (by rw [hw]; simp)
  clear hw
  unfold bTrim at hsp
  refine fun_of_vc tabOk mixOk Tryz.func15 rfl (by rfl) (rs := [.cell 2 41, .tmp 3]) rfl rfl 128 ?_; rw [Tryz.ntmps15]
  (conv=>whnf);repeat((first|refine zD ?_|refine zA ?_|refine zT ?_|refine zF ?_);conv=>whnf)
  refine ⟨_, _, hsp, ?_⟩
  (conv=>whnf);repeat((first|refine zD ?_|refine zA ?_|refine zT ?_|refine zF ?_);conv=>whnf)
  refine ⟨by decide, _, rfl, rfl, ?_⟩
  (conv=>whnf);repeat((first|refine zD ?_|refine zA ?_|refine zT ?_|refine zF ?_);conv=>whnf)
  refine ⟨_, hm, ?_⟩
  (conv=>whnf);repeat((first|refine zD ?_|refine zA ?_|refine zT ?_|refine zF ?_);conv=>whnf)
  refine ⟨by decide, _, rfl, rfl, ?_⟩
  (conv=>whnf);repeat((first|refine zD ?_|refine zA ?_|refine zT ?_|refine zF ?_);conv=>whnf)
  refine ⟨_, _, hx0, ?_⟩
  (conv=>whnf);repeat((first|refine zD ?_|refine zA ?_|refine zT ?_|refine zF ?_);conv=>whnf)
  refine ⟨by decide, _, rfl, rfl, ?_⟩
  (conv=>whnf);repeat((first|refine zD ?_|refine zA ?_|refine zT ?_|refine zF ?_);conv=>whnf)
  refine ⟨_, hm, ?_⟩
  (conv=>whnf);repeat((first|refine zD ?_|refine zA ?_|refine zT ?_|refine zF ?_);conv=>whnf)
  refine ⟨by decide, _, rfl, rfl, ?_⟩
  (conv=>whnf);repeat((first|refine zD ?_|refine zA ?_|refine zT ?_|refine zF ?_);conv=>whnf)
  refine ⟨_, _, hx1, ?_⟩
  (conv=>whnf);repeat((first|refine zD ?_|refine zA ?_|refine zT ?_|refine zF ?_);conv=>whnf)
  refine And.intro (fun h1 => ?_) (fun h1 => ?_)
  · (conv=>whnf);repeat((first|refine zD ?_|refine zA ?_|refine zT ?_|refine zF ?_);conv=>whnf)
    refine Exists.intro [] (And.intro List.nodup_nil ?_); ((conv=>whnf);repeat((first|refine zD ?_|refine zA ?_|refine zT ?_|refine zF ?_);conv=>whnf))
    rw [e1 h1]
    rfl
  (conv=>whnf);repeat((first|refine zD ?_|refine zA ?_|refine zT ?_|refine zF ?_);conv=>whnf)
  refine ⟨_, _, hL, ?_⟩
  (conv=>whnf);repeat((first|refine zD ?_|refine zA ?_|refine zT ?_|refine zF ?_);conv=>whnf)
  refine And.intro (fun h2 => ?_) (fun h2 => ?_)
  · (conv=>whnf);repeat((first|refine zD ?_|refine zA ?_|refine zT ?_|refine zF ?_);conv=>whnf)
    refine Exists.intro [] (And.intro List.nodup_nil ?_); ((conv=>whnf);repeat((first|refine zD ?_|refine zA ?_|refine zT ?_|refine zF ?_);conv=>whnf))
    rw [e2 h2]
    rfl
  · (conv=>whnf);repeat((first|refine zD ?_|refine zA ?_|refine zT ?_|refine zF ?_);conv=>whnf)
    refine Exists.intro [] (And.intro List.nodup_nil ?_); ((conv=>whnf);repeat((first|refine zD ?_|refine zA ?_|refine zT ?_|refine zF ?_);conv=>whnf))
    rw [e3 h1 h2]
    rfl
set_option maxRecDepth 100000 in
set_option maxHeartbeats 16000000 in
theorem rd_bTrim3 (s : ByteArray) (x y z : ByteArray) (r : List ByteArray) (hs : s.size ≤ 1000000) (hw : pcs 32 s = bTrim :: x :: y :: z :: r) : Fun Tryz.prog 15 [strV s] [] (.tup [acV (tread s.data.toList).1, i64V (tread s.data.toList).2]) := by
  obtain ⟨L, hL, e1, e2, e3⟩ := readEnv s ⟨1, num x.data.toList, 3, num y.data.toList, unhxS z.data.toList, []⟩ (by rw [tcand_pcs s hw]; unfold tcandW; rw [List.map_cons, List.map_cons, List.map_cons, List.map_cons]; simp [kN, bTrim, wRead, wWrite, wTrim, wFlush, wStep, wSave, wClose, wCrash])
  have hsp := splitF' 32 s hs hw
  generalize tread s.data.toList = R at e1 e2 e3 ⊢
  have hm : kmap bTrim = some [.sc (.int .i64 3)] := kmap_yes (by decide) (by decide)
  have hx0 := numF' (c := 32) (s := s) (w := x) hs (by rw [hw]; simp)
  have hx1 := numF' (c := 32) (s := s) (w := y) hs (by rw [hw]; simp)
  have hz := unhexF z (by have := pcs_mem (c := 32) (s := s) (w := z) (by rw [hw]; simp); omega)
  clear hw
  unfold bTrim at hsp
  refine fun_of_vc tabOk mixOk Tryz.func15 rfl (by rfl) (rs := [.cell 2 41, .tmp 3]) rfl rfl 128 ?_; rw [Tryz.ntmps15]
  (conv=>whnf);repeat((first|refine zD ?_|refine zA ?_|refine zT ?_|refine zF ?_);conv=>whnf)
  refine ⟨_, _, hsp, ?_⟩
  (conv=>whnf);repeat((first|refine zD ?_|refine zA ?_|refine zT ?_|refine zF ?_);conv=>whnf)
  refine ⟨by decide, _, rfl, rfl, ?_⟩
  (conv=>whnf);repeat((first|refine zD ?_|refine zA ?_|refine zT ?_|refine zF ?_);conv=>whnf)
  refine ⟨_, hm, ?_⟩
  (conv=>whnf);repeat((first|refine zD ?_|refine zA ?_|refine zT ?_|refine zF ?_);conv=>whnf)
  first | (refine And.intro (fun _ => ?_) (fun h => absurd h (by simp [sV]; try omega)); (conv=>whnf);repeat((first|refine zD ?_|refine zA ?_|refine zT ?_|refine zF ?_);conv=>whnf)) | skip
  refine ⟨by decide, _, rfl, rfl, ?_⟩
  (conv=>whnf);repeat((first|refine zD ?_|refine zA ?_|refine zT ?_|refine zF ?_);conv=>whnf)
  refine ⟨_, _, hx0, ?_⟩
  (conv=>whnf);repeat((first|refine zD ?_|refine zA ?_|refine zT ?_|refine zF ?_);conv=>whnf)
  refine ⟨by decide, _, rfl, rfl, ?_⟩
  (conv=>whnf);repeat((first|refine zD ?_|refine zA ?_|refine zT ?_|refine zF ?_);conv=>whnf)
  refine ⟨_, hm, ?_⟩
  (conv=>whnf);repeat((first|refine zD ?_|refine zA ?_|refine zT ?_|refine zF ?_);conv=>whnf)
  first | (refine And.intro (fun _ => ?_) (fun h => absurd h (by simp [sV]; try omega)); (conv=>whnf);repeat((first|refine zD ?_|refine zA ?_|refine zT ?_|refine zF ?_);conv=>whnf)) | skip
  refine ⟨by decide, _, rfl, rfl, ?_⟩
  (conv=>whnf);repeat((first|refine zD ?_|refine zA ?_|refine zT ?_|refine zF ?_);conv=>whnf)
  refine ⟨_, _, hx1, ?_⟩
  (conv=>whnf);repeat((first|refine zD ?_|refine zA ?_|refine zT ?_|refine zF ?_);conv=>whnf)
  first | (refine And.intro (fun _ => ?_) (fun h => absurd h (by simp [sV]; try omega)); (conv=>whnf);repeat((first|refine zD ?_|refine zA ?_|refine zT ?_|refine zF ?_);conv=>whnf)) | skip
  refine ⟨by decide, _, rfl, rfl, ?_⟩
  (conv=>whnf);repeat((first|refine zD ?_|refine zA ?_|refine zT ?_|refine zF ?_);conv=>whnf)
  refine ⟨_, _, hz, ?_⟩
  (conv=>whnf);repeat((first|refine zD ?_|refine zA ?_|refine zT ?_|refine zF ?_);conv=>whnf)
  refine And.intro (fun h1 => ?_) (fun h1 => ?_)
  · (conv=>whnf);repeat((first|refine zD ?_|refine zA ?_|refine zT ?_|refine zF ?_);conv=>whnf)
    refine Exists.intro [] (And.intro List.nodup_nil ?_); ((conv=>whnf);repeat((first|refine zD ?_|refine zA ?_|refine zT ?_|refine zF ?_);conv=>whnf))
    rw [e1 h1]
    rfl
  (conv=>whnf);repeat((first|refine zD ?_|refine zA ?_|refine zT ?_|refine zF ?_);conv=>whnf)
  refine ⟨_, _, hL, ?_⟩
  (conv=>whnf);repeat((first|refine zD ?_|refine zA ?_|refine zT ?_|refine zF ?_);conv=>whnf)
  refine And.intro (fun h2 => ?_) (fun h2 => ?_)
  · (conv=>whnf);repeat((first|refine zD ?_|refine zA ?_|refine zT ?_|refine zF ?_);conv=>whnf)
    refine Exists.intro [] (And.intro List.nodup_nil ?_); ((conv=>whnf);repeat((first|refine zD ?_|refine zA ?_|refine zT ?_|refine zF ?_);conv=>whnf))
    rw [e2 h2]
    rfl
  · (conv=>whnf);repeat((first|refine zD ?_|refine zA ?_|refine zT ?_|refine zF ?_);conv=>whnf)
    refine Exists.intro [] (And.intro List.nodup_nil ?_); ((conv=>whnf);repeat((first|refine zD ?_|refine zA ?_|refine zT ?_|refine zF ?_);conv=>whnf))
    rw [e3 h1 h2]
    rfl
set_option maxRecDepth 100000 in
set_option maxHeartbeats 16000000 in
theorem rd_bFlush0 (s : ByteArray)  (hs : s.size ≤ 1000000) (hw : pcs 32 s = [bFlush]) : Fun Tryz.prog 15 [strV s] [] (.tup [acV (tread s.data.toList).1, i64V (tread s.data.toList).2]) := by
  obtain ⟨L, hL, e1, e2, e3⟩ := readEnv s ac0 (by rw [tcand_pcs s hw]; unfold tcandW; rw [List.map_cons]; simp [kN, bFlush, wRead, wWrite, wTrim, wFlush, wStep, wSave, wClose, wCrash])
  have hsp := splitF' 32 s hs hw
  generalize tread s.data.toList = R at e1 e2 e3 ⊢
  have hm : kmap bFlush = some [.sc (.int .i64 4)] := kmap_yes (by decide) (by decide)
  clear hw
  unfold bFlush at hsp
  refine fun_of_vc tabOk mixOk Tryz.func15 rfl (by rfl) (rs := [.cell 2 41, .tmp 3]) rfl rfl 128 ?_; rw [Tryz.ntmps15]
  (conv=>whnf);repeat((first|refine zD ?_|refine zA ?_|refine zT ?_|refine zF ?_);conv=>whnf)
  refine ⟨_, _, hsp, ?_⟩
  (conv=>whnf);repeat((first|refine zD ?_|refine zA ?_|refine zT ?_|refine zF ?_);conv=>whnf)
  refine ⟨by decide, _, rfl, rfl, ?_⟩
  (conv=>whnf);repeat((first|refine zD ?_|refine zA ?_|refine zT ?_|refine zF ?_);conv=>whnf)
  refine ⟨_, hm, ?_⟩
  (conv=>whnf);repeat((first|refine zD ?_|refine zA ?_|refine zT ?_|refine zF ?_);conv=>whnf)
  refine ⟨by decide, _, rfl, rfl, ?_⟩
  (conv=>whnf);repeat((first|refine zD ?_|refine zA ?_|refine zT ?_|refine zF ?_);conv=>whnf)
  refine And.intro (fun h => absurd h (by rw [eqS]; decide)) (fun _ => ?_)
  (conv=>whnf);repeat((first|refine zD ?_|refine zA ?_|refine zT ?_|refine zF ?_);conv=>whnf)
  refine ⟨by decide, _, rfl, rfl, ?_⟩
  (conv=>whnf);repeat((first|refine zD ?_|refine zA ?_|refine zT ?_|refine zF ?_);conv=>whnf)
  refine And.intro (fun h => absurd h (by rw [eqS]; decide)) (fun _ => ?_)
  (conv=>whnf);repeat((first|refine zD ?_|refine zA ?_|refine zT ?_|refine zF ?_);conv=>whnf)
  refine ⟨by decide, _, rfl, rfl, ?_⟩
  (conv=>whnf);repeat((first|refine zD ?_|refine zA ?_|refine zT ?_|refine zF ?_);conv=>whnf)
  refine And.intro (fun h => absurd h (by rw [eqS]; decide)) (fun _ => ?_)
  (conv=>whnf);repeat((first|refine zD ?_|refine zA ?_|refine zT ?_|refine zF ?_);conv=>whnf)
  refine ⟨by decide, _, rfl, rfl, ?_⟩
  (conv=>whnf);repeat((first|refine zD ?_|refine zA ?_|refine zT ?_|refine zF ?_);conv=>whnf)
  refine And.intro (fun h => absurd h (by rw [eqS]; decide)) (fun _ => ?_)
  (conv=>whnf);repeat((first|refine zD ?_|refine zA ?_|refine zT ?_|refine zF ?_);conv=>whnf)
  refine And.intro (fun h1 => ?_) (fun h1 => ?_)
  · (conv=>whnf);repeat((first|refine zD ?_|refine zA ?_|refine zT ?_|refine zF ?_);conv=>whnf)
    refine Exists.intro [] (And.intro List.nodup_nil ?_); ((conv=>whnf);repeat((first|refine zD ?_|refine zA ?_|refine zT ?_|refine zF ?_);conv=>whnf))
    rw [e1 h1]
    rfl
  (conv=>whnf);repeat((first|refine zD ?_|refine zA ?_|refine zT ?_|refine zF ?_);conv=>whnf)
  refine ⟨_, _, hL, ?_⟩
  (conv=>whnf);repeat((first|refine zD ?_|refine zA ?_|refine zT ?_|refine zF ?_);conv=>whnf)
  refine And.intro (fun h2 => ?_) (fun h2 => ?_)
  · (conv=>whnf);repeat((first|refine zD ?_|refine zA ?_|refine zT ?_|refine zF ?_);conv=>whnf)
    refine Exists.intro [] (And.intro List.nodup_nil ?_); ((conv=>whnf);repeat((first|refine zD ?_|refine zA ?_|refine zT ?_|refine zF ?_);conv=>whnf))
    rw [e2 h2]
    rfl
  · (conv=>whnf);repeat((first|refine zD ?_|refine zA ?_|refine zT ?_|refine zF ?_);conv=>whnf)
    refine Exists.intro [] (And.intro List.nodup_nil ?_); ((conv=>whnf);repeat((first|refine zD ?_|refine zA ?_|refine zT ?_|refine zF ?_);conv=>whnf))
    rw [e3 h1 h2]
    rfl
set_option maxRecDepth 100000 in
set_option maxHeartbeats 16000000 in
theorem rd_bFlush1 (s : ByteArray) (x : ByteArray) (hs : s.size ≤ 1000000) (hw : pcs 32 s = [bFlush, x]) : Fun Tryz.prog 15 [strV s] [] (.tup [acV (tread s.data.toList).1, i64V (tread s.data.toList).2]) := by
  obtain ⟨L, hL, e1, e2, e3⟩ := readEnv s ⟨1, num x.data.toList, 4, 0, [], []⟩ (by rw [tcand_pcs s hw]; unfold tcandW; rw [List.map_cons, List.map_cons]; simp [kN, bFlush, wRead, wWrite, wTrim, wFlush, wStep, wSave, wClose, wCrash])
  have hsp := splitF' 32 s hs hw
  generalize tread s.data.toList = R at e1 e2 e3 ⊢
  have hm : kmap bFlush = some [.sc (.int .i64 4)] := kmap_yes (by decide) (by decide)
  have hx0 := numF' (c := 32) (s := s) (w := x) hs (by rw [hw]; simp)
  clear hw
  unfold bFlush at hsp
  refine fun_of_vc tabOk mixOk Tryz.func15 rfl (by rfl) (rs := [.cell 2 41, .tmp 3]) rfl rfl 128 ?_; rw [Tryz.ntmps15]
  (conv=>whnf);repeat((first|refine zD ?_|refine zA ?_|refine zT ?_|refine zF ?_);conv=>whnf)
  refine ⟨_, _, hsp, ?_⟩
  (conv=>whnf);repeat((first|refine zD ?_|refine zA ?_|refine zT ?_|refine zF ?_);conv=>whnf)
  refine ⟨by decide, _, rfl, rfl, ?_⟩
  (conv=>whnf);repeat((first|refine zD ?_|refine zA ?_|refine zT ?_|refine zF ?_);conv=>whnf)
  refine ⟨_, hm, ?_⟩
  (conv=>whnf);repeat((first|refine zD ?_|refine zA ?_|refine zT ?_|refine zF ?_);conv=>whnf)
  refine ⟨by decide, _, rfl, rfl, ?_⟩
  (conv=>whnf);repeat((first|refine zD ?_|refine zA ?_|refine zT ?_|refine zF ?_);conv=>whnf)
  refine ⟨_, _, hx0, ?_⟩
  (conv=>whnf);repeat((first|refine zD ?_|refine zA ?_|refine zT ?_|refine zF ?_);conv=>whnf)
  refine ⟨by decide, _, rfl, rfl, ?_⟩
  (conv=>whnf);repeat((first|refine zD ?_|refine zA ?_|refine zT ?_|refine zF ?_);conv=>whnf)
  refine ⟨_, hm, ?_⟩
  (conv=>whnf);repeat((first|refine zD ?_|refine zA ?_|refine zT ?_|refine zF ?_);conv=>whnf)
  refine And.intro (fun h1 => ?_) (fun h1 => ?_)
  · (conv=>whnf);repeat((first|refine zD ?_|refine zA ?_|refine zT ?_|refine zF ?_);conv=>whnf)
    refine Exists.intro [] (And.intro List.nodup_nil ?_); ((conv=>whnf);repeat((first|refine zD ?_|refine zA ?_|refine zT ?_|refine zF ?_);conv=>whnf))
    rw [e1 h1]
    rfl
  (conv=>whnf);repeat((first|refine zD ?_|refine zA ?_|refine zT ?_|refine zF ?_);conv=>whnf)
  refine ⟨_, _, hL, ?_⟩
  (conv=>whnf);repeat((first|refine zD ?_|refine zA ?_|refine zT ?_|refine zF ?_);conv=>whnf)
  refine And.intro (fun h2 => ?_) (fun h2 => ?_)
  · (conv=>whnf);repeat((first|refine zD ?_|refine zA ?_|refine zT ?_|refine zF ?_);conv=>whnf)
    refine Exists.intro [] (And.intro List.nodup_nil ?_); ((conv=>whnf);repeat((first|refine zD ?_|refine zA ?_|refine zT ?_|refine zF ?_);conv=>whnf))
    rw [e2 h2]
    rfl
  · (conv=>whnf);repeat((first|refine zD ?_|refine zA ?_|refine zT ?_|refine zF ?_);conv=>whnf)
    refine Exists.intro [] (And.intro List.nodup_nil ?_); ((conv=>whnf);repeat((first|refine zD ?_|refine zA ?_|refine zT ?_|refine zF ?_);conv=>whnf))
    rw [e3 h1 h2]
    rfl
set_option maxRecDepth 100000 in
set_option maxHeartbeats 16000000 in
theorem rd_bFlush2 (s : ByteArray) (x y : ByteArray) (hs : s.size ≤ 1000000) (hw : pcs 32 s = [bFlush, x, y]) : Fun Tryz.prog 15 [strV s] [] (.tup [acV (tread s.data.toList).1, i64V (tread s.data.toList).2]) := by
  obtain ⟨L, hL, e1, e2, e3⟩ := readEnv s ⟨1, num x.data.toList, 4, num y.data.toList, [], []⟩ (by rw [tcand_pcs s hw]; unfold tcandW; rw [List.map_cons, List.map_cons, List.map_cons]; simp [kN, bFlush, wRead, wWrite, wTrim, wFlush, wStep, wSave, wClose, wCrash])
  have hsp := splitF' 32 s hs hw
  generalize tread s.data.toList = R at e1 e2 e3 ⊢
  have hm : kmap bFlush = some [.sc (.int .i64 4)] := kmap_yes (by decide) (by decide)
  have hx0 := numF' (c := 32) (s := s) (w := x) hs (by rw [hw]; simp)
  have hx1 := numF' (c := 32) (s := s) (w := y) hs (by rw [hw]; simp)
  clear hw
  unfold bFlush at hsp
  refine fun_of_vc tabOk mixOk Tryz.func15 rfl (by rfl) (rs := [.cell 2 41, .tmp 3]) rfl rfl 128 ?_; rw [Tryz.ntmps15]
  (conv=>whnf);repeat((first|refine zD ?_|refine zA ?_|refine zT ?_|refine zF ?_);conv=>whnf)
  refine ⟨_, _, hsp, ?_⟩
  (conv=>whnf);repeat((first|refine zD ?_|refine zA ?_|refine zT ?_|refine zF ?_);conv=>whnf)
  refine ⟨by decide, _, rfl, rfl, ?_⟩
  (conv=>whnf);repeat((first|refine zD ?_|refine zA ?_|refine zT ?_|refine zF ?_);conv=>whnf)
  refine ⟨_, hm, ?_⟩
  (conv=>whnf);repeat((first|refine zD ?_|refine zA ?_|refine zT ?_|refine zF ?_);conv=>whnf)
  refine ⟨by decide, _, rfl, rfl, ?_⟩
  (conv=>whnf);repeat((first|refine zD ?_|refine zA ?_|refine zT ?_|refine zF ?_);conv=>whnf)
  refine ⟨_, _, hx0, ?_⟩
  (conv=>whnf);repeat((first|refine zD ?_|refine zA ?_|refine zT ?_|refine zF ?_);conv=>whnf)
  refine ⟨by decide, _, rfl, rfl, ?_⟩
  (conv=>whnf);repeat((first|refine zD ?_|refine zA ?_|refine zT ?_|refine zF ?_);conv=>whnf)
  refine ⟨_, hm, ?_⟩
  (conv=>whnf);repeat((first|refine zD ?_|refine zA ?_|refine zT ?_|refine zF ?_);conv=>whnf)
  refine ⟨by decide, _, rfl, rfl, ?_⟩
  (conv=>whnf);repeat((first|refine zD ?_|refine zA ?_|refine zT ?_|refine zF ?_);conv=>whnf)
  refine ⟨_, _, hx1, ?_⟩
  (conv=>whnf);repeat((first|refine zD ?_|refine zA ?_|refine zT ?_|refine zF ?_);conv=>whnf)
  refine And.intro (fun h1 => ?_) (fun h1 => ?_)
  · (conv=>whnf);repeat((first|refine zD ?_|refine zA ?_|refine zT ?_|refine zF ?_);conv=>whnf)
    refine Exists.intro [] (And.intro List.nodup_nil ?_); ((conv=>whnf);repeat((first|refine zD ?_|refine zA ?_|refine zT ?_|refine zF ?_);conv=>whnf))
    rw [e1 h1]
    rfl
  (conv=>whnf);repeat((first|refine zD ?_|refine zA ?_|refine zT ?_|refine zF ?_);conv=>whnf)
  refine ⟨_, _, hL, ?_⟩
  (conv=>whnf);repeat((first|refine zD ?_|refine zA ?_|refine zT ?_|refine zF ?_);conv=>whnf)
  refine And.intro (fun h2 => ?_) (fun h2 => ?_)
  · (conv=>whnf);repeat((first|refine zD ?_|refine zA ?_|refine zT ?_|refine zF ?_);conv=>whnf)
    refine Exists.intro [] (And.intro List.nodup_nil ?_); ((conv=>whnf);repeat((first|refine zD ?_|refine zA ?_|refine zT ?_|refine zF ?_);conv=>whnf))
    rw [e2 h2]
    rfl
  · (conv=>whnf);repeat((first|refine zD ?_|refine zA ?_|refine zT ?_|refine zF ?_);conv=>whnf)
    refine Exists.intro [] (And.intro List.nodup_nil ?_); ((conv=>whnf);repeat((first|refine zD ?_|refine zA ?_|refine zT ?_|refine zF ?_);conv=>whnf))
    rw [e3 h1 h2]
    rfl
set_option maxRecDepth 100000 in
set_option maxHeartbeats 16000000 in
theorem rd_bFlush3 (s : ByteArray) (x y z : ByteArray) (r : List ByteArray) (hs : s.size ≤ 1000000) (hw : pcs 32 s = bFlush :: x :: y :: z :: r) : Fun Tryz.prog 15 [strV s] [] (.tup [acV (tread s.data.toList).1, i64V (tread s.data.toList).2]) := by
  obtain ⟨L, hL, e1, e2, e3⟩ := readEnv s ⟨1, num x.data.toList, 4, num y.data.toList, unhxS z.data.toList, []⟩ (by rw [tcand_pcs s hw]; unfold tcandW; rw [List.map_cons, List.map_cons, List.map_cons, List.map_cons]; simp [kN, bFlush, wRead, wWrite, wTrim, wFlush, wStep, wSave, wClose, wCrash])
  have hsp := splitF' 32 s hs hw
  generalize tread s.data.toList = R at e1 e2 e3 ⊢
  have hm : kmap bFlush = some [.sc (.int .i64 4)] := kmap_yes (by decide) (by decide)
  have hx0 := numF' (c := 32) (s := s) (w := x) hs (by rw [hw]; simp)
  have hx1 := numF' (c := 32) (s := s) (w := y) hs (by rw [hw]; simp)
  have hz := unhexF z (by have := pcs_mem (c := 32) (s := s) (w := z) (by rw [hw]; simp); omega)
  clear hw
  unfold bFlush at hsp
  refine fun_of_vc tabOk mixOk Tryz.func15 rfl (by rfl) (rs := [.cell 2 41, .tmp 3]) rfl rfl 128 ?_; rw [Tryz.ntmps15]
  (conv=>whnf);repeat((first|refine zD ?_|refine zA ?_|refine zT ?_|refine zF ?_);conv=>whnf)
  refine ⟨_, _, hsp, ?_⟩
  (conv=>whnf);repeat((first|refine zD ?_|refine zA ?_|refine zT ?_|refine zF ?_);conv=>whnf)
  refine ⟨by decide, _, rfl, rfl, ?_⟩
  (conv=>whnf);repeat((first|refine zD ?_|refine zA ?_|refine zT ?_|refine zF ?_);conv=>whnf)
  refine ⟨_, hm, ?_⟩
  (conv=>whnf);repeat((first|refine zD ?_|refine zA ?_|refine zT ?_|refine zF ?_);conv=>whnf)
  first | (refine And.intro (fun _ => ?_) (fun h => absurd h (by simp [sV]; try omega)); (conv=>whnf);repeat((first|refine zD ?_|refine zA ?_|refine zT ?_|refine zF ?_);conv=>whnf)) | skip
  refine ⟨by decide, _, rfl, rfl, ?_⟩
  (conv=>whnf);repeat((first|refine zD ?_|refine zA ?_|refine zT ?_|refine zF ?_);conv=>whnf)
  refine ⟨_, _, hx0, ?_⟩
  (conv=>whnf);repeat((first|refine zD ?_|refine zA ?_|refine zT ?_|refine zF ?_);conv=>whnf)
  refine ⟨by decide, _, rfl, rfl, ?_⟩
  (conv=>whnf);repeat((first|refine zD ?_|refine zA ?_|refine zT ?_|refine zF ?_);conv=>whnf)
  refine ⟨_, hm, ?_⟩
  (conv=>whnf);repeat((first|refine zD ?_|refine zA ?_|refine zT ?_|refine zF ?_);conv=>whnf)
  first | (refine And.intro (fun _ => ?_) (fun h => absurd h (by simp [sV]; try omega)); (conv=>whnf);repeat((first|refine zD ?_|refine zA ?_|refine zT ?_|refine zF ?_);conv=>whnf)) | skip
  refine ⟨by decide, _, rfl, rfl, ?_⟩
  (conv=>whnf);repeat((first|refine zD ?_|refine zA ?_|refine zT ?_|refine zF ?_);conv=>whnf)
  refine ⟨_, _, hx1, ?_⟩
  (conv=>whnf);repeat((first|refine zD ?_|refine zA ?_|refine zT ?_|refine zF ?_);conv=>whnf)
  first | (refine And.intro (fun _ => ?_) (fun h => absurd h (by simp [sV]; try omega)); (conv=>whnf);repeat((first|refine zD ?_|refine zA ?_|refine zT ?_|refine zF ?_);conv=>whnf)) | skip
  refine ⟨by decide, _, rfl, rfl, ?_⟩
  (conv=>whnf);repeat((first|refine zD ?_|refine zA ?_|refine zT ?_|refine zF ?_);conv=>whnf)
  refine ⟨_, _, hz, ?_⟩
  (conv=>whnf);repeat((first|refine zD ?_|refine zA ?_|refine zT ?_|refine zF ?_);conv=>whnf)
  refine And.intro (fun h1 => ?_) (fun h1 => ?_)
  · (conv=>whnf);repeat((first|refine zD ?_|refine zA ?_|refine zT ?_|refine zF ?_);conv=>whnf)
    refine Exists.intro [] (And.intro List.nodup_nil ?_); ((conv=>whnf);repeat((first|refine zD ?_|refine zA ?_|refine zT ?_|refine zF ?_);conv=>whnf))
    rw [e1 h1]
    rfl
  (conv=>whnf);repeat((first|refine zD ?_|refine zA ?_|refine zT ?_|refine zF ?_);conv=>whnf)
  refine ⟨_, _, hL, ?_⟩
  (conv=>whnf);repeat((first|refine zD ?_|refine zA ?_|refine zT ?_|refine zF ?_);conv=>whnf)
  refine And.intro (fun h2 => ?_) (fun h2 => ?_)
  · (conv=>whnf);repeat((first|refine zD ?_|refine zA ?_|refine zT ?_|refine zF ?_);conv=>whnf)
    refine Exists.intro [] (And.intro List.nodup_nil ?_); ((conv=>whnf);repeat((first|refine zD ?_|refine zA ?_|refine zT ?_|refine zF ?_);conv=>whnf))
    rw [e2 h2]
    rfl
  · (conv=>whnf);repeat((first|refine zD ?_|refine zA ?_|refine zT ?_|refine zF ?_);conv=>whnf)
    refine Exists.intro [] (And.intro List.nodup_nil ?_); ((conv=>whnf);repeat((first|refine zD ?_|refine zA ?_|refine zT ?_|refine zF ?_);conv=>whnf))
    rw [e3 h1 h2]
    rfl
end Go.Proofs.YtikchieadclbhaaGreatDoor.Ab
