/- The counters follow the installs and drops of a shard: plain laws and steps. -/
import Derived.Test.YtijajfldpaadnaaLz
import Derived.Test.YtijajfldpaadnaaSe
import Derived.Test.YtijajfldpaadnaaSq
import Derived.Test.YtijajfldpaadnaaGd
namespace Go.Proofs.Ytijajfldpaadnaa.Ab
set_option linter.unusedVariables false
set_option linter.unusedSimpArgs false
open Go.RowKit

def cz (es : List Ety) (j : Nat) : Int := ((es.countP (fun e => decide (e.z = (j : Int))) : Nat) : Int)
def cntL (es : List Ety) : List Int := (List.range 4).map (cz es)
def Z4 : List Int := List.replicate 4 0
theorem cntL_len (es : List Ety) : (cntL es).length = 4 := by simp [cntL]
theorem cntL_get (es : List Ety) {j : Nat} (h : j < (cntL es).length) : (cntL es)[j] = cz es j := by simp [cntL]
theorem cntL_ext {x : List Int} {es : List Ety} (hx : x.length = 4) (h : ∀ j (hj : j < x.length), x[j] = cz es j) : x = cntL es := by
  refine List.ext_getElem (by rw [hx, cntL_len]) fun j h1 h2 => ?_
  rw [h j h1, cntL_get]
theorem cupd_get (ls : List Int) (k : Nat) (n : Int) {j : Nat} (h : j < (cupd ls k n).length) : (cupd ls k n)[j] = if k = j then (ls[j]'(by rw [cupd_len] at h; exact h)) + n else ls[j]'(by rw [cupd_len] at h; exact h) := by
  have hj : j < ls.length := by rw [cupd_len] at h; exact h
  simp only [cupd, Int.toNat_natCast, List.getElem_set]
  split
  · rename_i e; subst e; rw [List.getElem?_eq_getElem hj]; rfl
  · rfl
theorem cz_app (a b : List Ety) (j : Nat) : cz (a ++ b) j = cz a j + cz b j := by unfold cz; rw [List.countP_append]; omega
theorem cz_one (e : Ety) (es : List Ety) (j : Nat) : cz (e :: es) j = (if e.z = (j : Int) then 1 else 0) + cz es j := by
  unfold cz
  rw [List.countP_cons]
  by_cases h : e.z = (j : Int)
  · simp [h]; omega
  · simp [h]
/-- One more. -/
theorem cnt_add (a b : List Ety) (e : Ety) {k : Nat} (hk : e.z = (k : Int)) : cupd (cntL (a ++ b)) k 1 = cntL (a ++ e :: b) := by
  refine cntL_ext (by rw [cupd_len, cntL_len]) fun j hj => ?_
  rw [cupd_get, cz_app, cz_one]
  simp only [cntL_get, cz_app]
  split
  · rename_i h; subst h; rw [if_pos hk]; omega
  · rename_i h; rw [if_neg (by omega)]; omega
theorem cnt_sub (a b : List Ety) (e : Ety) {k : Nat} (hk : e.z = (k : Int)) : cupd (cntL (a ++ e :: b)) k (-1) = cntL (a ++ b) := by
  refine cntL_ext (by rw [cupd_len, cntL_len]) fun j hj => ?_
  rw [cupd_get, cz_app]
  simp only [cntL_get, cz_app, cz_one]
  split
  · rename_i h; subst h; rw [if_pos hk]; omega
  · rename_i h; rw [if_neg (by omega)]; omega
theorem cnt_split (f : Ety → Bool) (es : List Ety) : cntL es = cntL (es.filter (fun e => !f e) ++ es.filter f) := by
  refine cntL_ext (cntL_len _) fun j hj => ?_
  rw [cntL_get, cz_app]
  clear hj
  induction es with
  | nil => rfl
  | cons e es ih =>
    cases hf : f e with
    | true => rw [List.filter_cons_of_neg (by simp [hf]), List.filter_cons_of_pos hf, cz_one, cz_one, ih]; omega
    | false => rw [List.filter_cons_of_pos (by simp [hf]), List.filter_cons_of_neg (by simp [hf]), cz_one, cz_one, ih]; omega
theorem cnt_cb (es : List Ety) : cb es.length (cntL es) := by
  intro x hx
  obtain ⟨j, _, rfl⟩ := List.mem_map.1 hx
  have : es.countP (fun e => decide (e.z = (j : Int))) ≤ es.length := List.countP_le_length
  unfold cz
  omega
theorem cnt_valid (es : List Ety) (hl : es.length ≤ 1000000) : cvalid (cntL es) Z4 = true := cb_valid (cnt_cb es) hl (cntL_len es) (by decide)
def zin (es : List Ety) : Prop := ∀ e ∈ es, 0 ≤ e.z ∧ e.z < 4
theorem cofL_cnt (es : List Ety) : ∀ (pre : List Ety), zin es → cofL 4 es (cntL pre) = some (cntL (pre ++ es)) := by
  induction es with
  | nil => intro pre _; simp [cofL]
  | cons e es ih =>
    intro pre hz
    have h1 := hz e List.mem_cons_self
    obtain ⟨k, hk⟩ := Int.eq_ofNat_of_zero_le h1.1
    simp only [cofL]
    rw [if_pos h1, hk]
    have := cnt_add pre [] e hk
    rw [List.append_nil] at this
    rw [this, ih (pre ++ [e]) (fun x hx => hz x (List.mem_cons_of_mem _ hx)), List.append_assoc]
    rfl
theorem ofStep (s : List Ety) (hz : zin s) (hl : s.length ≤ 1000000) : Fun Try.prog 32 [i64V 4, slV (eR s)] [] (.tup [cntV (cntL s) Z4, bV true]) := by
  have h := cofF 4 s hl
  have e : cof 4 s = ((cntL s, Z4), true) := by
    unfold cof
    rw [if_pos (by decide)]
    have := cofL_cnt s [] hz
    rw [List.nil_append] at this
    rw [show List.replicate (4 : Int).toNat (0 : Int) = cntL [] from rfl, this]
    rfl
  rw [e] at h
  exact h
theorem dropStep (K G : List Ety) (hz : zin (K ++ G)) (hl : (K ++ G).length ≤ 1000000) {j : Nat} (hj : j < G.length) :
    Fun Try.prog 30 [cntV (cntL (K ++ G.drop j)) Z4, eV G[j], eV e0, bV true, bV false] [] (.tup [cntV (cntL (K ++ G.drop (j + 1))) Z4, bV true]) := by
  have h := cchangeF (cntL (K ++ G.drop j)) Z4 G[j] e0 true false (by rw [cntL_len]; omega) (by decide)
  have h1 := hz G[j] (List.mem_append.2 (Or.inr (List.getElem_mem hj)))
  obtain ⟨k, hk⟩ := Int.eq_ofNat_of_zero_le h1.1
  have hll : K.length + G.length ≤ 1000000 := by simpa using hl
  have hv := cnt_valid (K ++ G.drop j) (by simp; omega)
  have e1 := cnt_sub K (G.drop (j + 1)) G[j] hk
  rw [← List.drop_eq_getElem_cons hj] at e1
  have e : cchange (cntL (K ++ G.drop j)) Z4 G[j].z e0.z true false = (cntL (K ++ G.drop (j + 1)), true) := by
    rw [hk, cchange_tf hv (by rw [cntL_len]; omega), e1, if_pos (cnt_valid _ (by simp; omega))]
  rw [e] at h
  exact h
theorem zin_inst {s : List Ety} {x : Ety} (hz : zin s) (hx : 0 ≤ x.z ∧ x.z < 4) : zin (sinst s x).1 := by
  intro e he
  unfold sinst at he
  split at he
  · simp at he
  · split at he
    · exact hz e he
    · split at he
      · split at he
        · exact hz e he
        · rcases List.mem_or_eq_of_mem_set he with h | rfl
          · exact hz e h
          · exact hx
      · rcases List.mem_append.1 he with h | h
        · exact hz e (List.mem_of_mem_take h)
        · rcases List.mem_cons.1 h with rfl | h
          · exact hx
          · exact hz e (List.mem_of_mem_drop h)
theorem instSame {s : List Ety} {x : Ety} (hv : svalid s = true) (h : (sinst s x).2.2 = false) : (sinst s x).1 = s := by
  unfold sinst at h ⊢
  rw [if_neg (by simp [hv])] at h ⊢
  split
  · rfl
  · rename_i h2
    rw [if_neg h2] at h
    split
    · rename_i h3
      rw [if_pos h3] at h
      split
      · rfl
      · rename_i h4
        rw [if_neg h4] at h; cases h
    · rename_i h3
      rw [if_neg h3] at h; cases h
theorem sinst_lenL (es : List Ety) (e : Ety) : (sinst es e).1.length ≤ es.length + 1 := by
  unfold sinst
  split
  · simp
  · split
    · simp
    · split
      · split <;> simp
      · simp; omega
theorem instStep (s : List Ety) (x : Ety) (hv : svalid s = true) (hz : zin s) (hx : 0 ≤ x.z ∧ x.z < 4) (hl : s.length ≤ 1000) (h : (sinst s x).2.2 = true) :
    Fun Try.prog 30 [cntV (cntL s) Z4, eV (sinst s x).2.1, eV x, bV ((sinst s x).2.1.k != 0), bV true] [] (.tup [cntV (cntL (sinst s x).1) Z4, bV true]) := by
  have hc := cchangeF (cntL s) Z4 (sinst s x).2.1 x ((sinst s x).2.1.k != 0) true (by rw [cntL_len]; omega) (by decide)
  have hcv := cnt_valid s (by omega)
  have hl' := sinst_lenL s x
  have hcv' := cnt_valid (sinst s x).1 (by omega)
  obtain ⟨k, hk⟩ := Int.eq_ofNat_of_zero_le hx.1
  have e : cchange (cntL s) Z4 (sinst s x).2.1.z x.z ((sinst s x).2.1.k != 0) true = (cntL (sinst s x).1, true) := by
    have h2 : rightE x = true := by
      cases hr : rightE x with
      | true => rfl
      | false => rw [sinst_bad hv hr] at h; cases h
    cases h3 : shere s x.b with
    | false =>
      rw [sinst_new hv h2 h3] at hcv' ⊢
      show cchange (cntL s) Z4 e0.z x.z (e0.k != 0) true = _
      have e1 := cnt_add (s.take (splace s x.b)) (s.drop (splace s x.b)) x hk
      rw [List.take_append_drop] at e1
      rw [hk, show (e0.k != 0) = false from rfl, cchange_ft hcv (by rw [cntL_len]; omega), e1, if_pos hcv']
    | true =>
      obtain ⟨hlt, q1, q2⟩ := shere_lt h3
      by_cases h4 : x.v ≤ (sold s x.b).v
      · rw [sinst_keep hv h2 h3 h4] at h; cases h
      · rw [sinst_over hv h2 h3 h4] at hcv' ⊢
        rw [q2]
        have ho := hz _ (List.getElem_mem hlt)
        obtain ⟨m, hm⟩ := Int.eq_ofNat_of_zero_le ho.1
        have hor := ((svalid_iff s).1 hv).1 _ (List.getElem_mem hlt)
        have hk0 : (s[splace s x.b].k != 0) = true := by
          unfold rightE at hor
          rw [decide_eq_true_eq] at hor
          simp; omega
        show cchange (cntL s) Z4 s[splace s x.b].z x.z (s[splace s x.b].k != 0) true = _
        have e2 : cupd (cupd (cntL s) m (-1)) k 1 = cntL (s.set (splace s x.b) x) := by
          have d1 : s = s.take (splace s x.b) ++ s[splace s x.b] :: s.drop (splace s x.b + 1) := by
            rw [← List.drop_eq_getElem_cons hlt, List.take_append_drop]
          have d2 := cnt_sub (s.take (splace s x.b)) (s.drop (splace s x.b + 1)) s[splace s x.b] hm
          rw [← d1] at d2
          rw [d2, cnt_add _ _ x hk, List.set_eq_take_append_cons_drop, if_pos hlt]
        rw [hk0, hk, hm, cchange_tt hcv (by rw [cntL_len]; omega) (by rw [cntL_len]; omega), e2, if_pos hcv']
  rw [e] at hc
  exact hc
end Go.Proofs.Ytijajfldpaadnaa.Ab
