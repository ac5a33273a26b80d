/- Histories: the made history is right. -/
import Derived.Test.YtmooflgfcebmaaaHi
import Derived.Test.YtmooflgfcebmaaaGv
namespace Go.Proofs.Ytmooflgfcebmaaa.Ab
set_option linter.unusedVariables false
set_option linter.unusedSimpArgs false
open Go.RowKit

def mCall (L : List Int) (k : Nat) (out opn : List Ev) : Nat × List Ev × List Ev :=
  if 1 + dval L (dnx L k) 4 = 2 then
    (dnx L (dnx L (dnx L (dnx L k))), out ++ [⟨false, dval L k 4, out.length, 2, dval L (dnx L (dnx L k)) 3, vval (dval L (dnx L (dnx L (dnx L k))) 3), 0, ByteArray.empty⟩], opn ++ [⟨false, dval L k 4, out.length, 2, dval L (dnx L (dnx L k)) 3, vval (dval L (dnx L (dnx L (dnx L k))) 3), 0, ByteArray.empty⟩])
  else
    (dnx L (dnx L (dnx L k)), out ++ [⟨false, dval L k 4, out.length, 1 + dval L (dnx L k) 4, dval L (dnx L (dnx L k)) 3, ByteArray.empty, 0, ByteArray.empty⟩], opn ++ [⟨false, dval L k 4, out.length, 1 + dval L (dnx L k) 4, dval L (dnx L (dnx L k)) 3, ByteArray.empty, 0, ByteArray.empty⟩])
def mRet (L : List Int) (k : Nat) (out opn : List Ev) (a : Nat) (y : Ev) : Nat × List Ev × List Ev :=
  if dval L k 6 = 5 then (dnx L k, out ++ [⟨true, y.q, y.s, y.k, y.b, y.d, 7, y.o⟩], opn.take a ++ opn.drop (a + 1))
  else if y.k = 1 then (dnx L (dnx L k), out ++ [⟨true, y.q, y.s, y.k, y.b, y.d, y.e, vval (dval L (dnx L k) 3)⟩], opn.take a ++ opn.drop (a + 1))
  else (dnx L k, out ++ [⟨true, y.q, y.s, y.k, y.b, y.d, y.e, y.o⟩], opn.take a ++ opn.drop (a + 1))
def mStep (L : List Int) (k : Nat) (out opn : List Ev) : Nat × List Ev × List Ev :=
  if opn.length > 0 then
    if dval L k 2 = 0 then
      match opn[(dval L (dnx L k) opn.length).toNat]? with
      | some y => mRet L (dnx L (dnx L k)) out opn (dval L (dnx L k) opn.length).toNat y
      | none => (k, out, opn)
    else mCall L (dnx L k) out opn
  else mCall L k out opn
def mgo (L : List Int) : Nat → Nat × List Ev × List Ev → List Ev
  | 0, x => x.2.1
  | n + 1, x => if x.1 < L.length then mgo L n (mStep L x.1 x.2.1 x.2.2) else x.2.1
def madeL (L : List Int) : List Ev := mgo L 60 (0, [], [])
def mInv (L : List Int) (x : Nat × List Ev × List Ev) : Prop := x.1 ≤ L.length ∧ x.2.1.length ≤ 60 ∧ x.2.2.length ≤ x.2.1.length ∧ mgo L (60 - x.2.1.length) x = madeL L
theorem mInv_go {L : List Int} {k : Nat} {out opn : List Ev} (h : mInv L (k, out, opn)) (h1 : k < L.length) (h2 : out.length < 60) : mgo L (60 - (out.length + 1)) (mStep L k out opn) = madeL L := by
  have := h.2.2.2
  dsimp only at this
  rw [show 60 - out.length = (60 - (out.length + 1)) + 1 by omega, mgo] at this
  rwa [if_pos h1] at this
theorem mInv_end {L : List Int} {k : Nat} {out opn : List Ev} (h : mInv L (k, out, opn)) (h1 : ¬ k < L.length ∨ ¬ out.length < 60) : madeL L = out := by
  have h3 := h.2.2.2
  have h2 := h.2.1
  dsimp only at h3 h2
  rcases h1 with h1 | h1
  · cases hn : 60 - out.length with
    | zero => rw [hn] at h3; exact h3.symm
    | succ n => rw [hn, mgo, if_neg h1] at h3; exact h3.symm
  · rw [show 60 - out.length = 0 by omega] at h3; exact h3.symm
structure mOK (out opn : List Ev) : Prop where
  rg : rgo [] out = true
  ser : ∀ x ∈ out, 0 ≤ x.s ∧ x.s < out.length
  sh : ∀ x ∈ out, 1 ≤ x.k ∧ x.k ≤ 4 ∧ 0 ≤ x.b ∧ x.b < 3
  op : ∀ y ∈ opn, y ∈ out ∧ out.find? (fI y.s) = some y ∧ out.any (fR y.s) = false ∧ y.r = false ∧ 0 ≤ y.q ∧ y.q < 4 ∧ y.e = 0 ∧ y.o.size = 0
  nd : (opn.map (·.s)).Nodup
theorem size0 {s : ByteArray} (h : s.size = 0) : s = ByteArray.empty := by simpa using h
theorem rsE_0 {x : Ev} (h1 : x.e = 0) (h2 : x.o.size = 0) : rsE x = true := by
  rw [rsE, h1, size0 h2]; simp
theorem call_ok {out opn : List Ev} (h : mOK out opn) (x : Ev) (hr : x.r = false) (hq : 0 ≤ x.q ∧ x.q < 4) (hs : x.s = out.length) (hk : 1 ≤ x.k ∧ x.k ≤ 4 ∧ 0 ≤ x.b ∧ x.b < 3) (he : x.e = 0) (ho : x.o.size = 0) : mOK (out ++ [x]) (opn ++ [x]) := by
  have hi : out.any (fI x.s) = false := by
    rw [List.any_eq_false]
    intro z hz
    have := (h.ser z hz).2
    simp [fI]; intro _; omega
  have hR : out.any (fR x.s) = false := by
    rw [List.any_eq_false]
    intro z hz
    have := (h.ser z hz).2
    simp [fR]; intro _; omega
  refine ⟨?_, ?_, ?_, ?_, ?_⟩
  · rw [rgo_snoc, h.rg, Bool.true_and]
    unfold rightB
    have hb : vbad x = false := by
      unfold vbad
      rw [Bool.or_eq_false_iff, Bool.or_eq_false_iff, decide_eq_false_iff_not, decide_eq_false_iff_not, decide_eq_false_iff_not]
      exact ⟨by omega, by omega, by omega⟩
    rw [hb, if_neg (by decide), if_pos hr, find_none_any.2 hi, hR, rsE_0 he ho]
    rfl
  · intro z hz
    rw [List.mem_append] at hz
    rw [List.length_append]
    rcases hz with hz | hz
    · have := h.ser z hz; simp only [List.length_singleton]; omega
    · rw [List.mem_singleton] at hz; subst hz; rw [hs]; simp only [List.length_singleton]; omega
  · intro z hz
    rw [List.mem_append] at hz
    rcases hz with hz | hz
    · exact h.sh z hz
    · rw [List.mem_singleton] at hz; subst hz; exact hk
  · intro z hz
    rw [List.mem_append] at hz
    rcases hz with hz | hz
    · obtain ⟨h1, h2, h3, h4⟩ := h.op z hz
      refine ⟨List.mem_append_left _ h1, ?_, ?_, h4⟩
      · rw [List.find?_append, h2]; rfl
      · rw [List.any_append, h3]; simp [fR, hr]
    · rw [List.mem_singleton] at hz; subst hz
      refine ⟨by simp, ?_, ?_, hr, hq.1, hq.2, he, ho⟩
      · rw [List.find?_append, find_none_any.2 hi]; simp [fI, hr]
      · rw [List.any_append, hR]; simp [fR, hr]
  · rw [List.map_append, List.nodup_append]
    refine ⟨h.nd, by simp, ?_⟩
    intro a ha b hb
    rw [List.mem_map] at ha
    obtain ⟨y, hy, rfl⟩ := ha
    have := (h.ser y (h.op y hy).1).2
    simp only [List.map_cons, List.map_nil, List.mem_singleton] at hb
    omega
theorem ret_ok {out opn : List Ev} (h : mOK out opn) {a : Nat} {y z : Ev} (hy : opn[a]? = some y) (hr : z.r = true) (hq : z.q = y.q) (hs : z.s = y.s) (hk : z.k = y.k) (hb : z.b = y.b) (hd : z.d = y.d) (hf : fitB z.k z.e z.o = true) : mOK (out ++ [z]) (opn.take a ++ opn.drop (a + 1)) := by
  have ha : a < opn.length := by
    rcases Nat.lt_or_ge a opn.length with h1 | h1
    · exact h1
    · rw [List.getElem?_eq_none h1] at hy; exact absurd hy (by simp)
  have hya : opn[a] = y := by rw [List.getElem?_eq_getElem ha] at hy; injection hy
  have hmem : y ∈ opn := hya ▸ List.getElem_mem ha
  obtain ⟨m1, m2, m3, m4, m5, m6, m7, m8⟩ := h.op y hmem
  have hsub : List.Sublist (opn.take a ++ opn.drop (a + 1)) opn := by
    rw [← List.eraseIdx_eq_take_drop_succ]; exact List.eraseIdx_sublist _ _
  have hne : ∀ w ∈ opn.take a ++ opn.drop (a + 1), w.s ≠ y.s := by
    have hsplit : opn = opn.take a ++ y :: opn.drop (a + 1) := by
      conv => lhs; rw [← List.take_append_drop a opn, List.drop_eq_getElem_cons ha, hya]
    have hnd := h.nd
    rw [hsplit, List.map_append, List.map_cons, List.nodup_append, List.nodup_cons] at hnd
    intro w hw hc
    rw [List.mem_append] at hw
    rcases hw with hw | hw
    · exact hnd.2.2 w.s (List.mem_map_of_mem hw) y.s (by simp) hc
    · exact hnd.2.1.1 (hc ▸ List.mem_map_of_mem hw)
  refine ⟨?_, ?_, ?_, ?_, ?_⟩
  · rw [rgo_snoc, h.rg, Bool.true_and]
    unfold rightB
    have h2 := h.ser y m1
    have hbad : vbad z = false := by
      unfold vbad
      rw [Bool.or_eq_false_iff, Bool.or_eq_false_iff, decide_eq_false_iff_not, decide_eq_false_iff_not, decide_eq_false_iff_not]
      exact ⟨by omega, by omega, by omega⟩
    rw [hbad, if_neg (by decide), if_neg (by simp [hr]), hs, m2]
    dsimp only
    rw [m3, hf, hq]
    simp [cmE, hk, hb, hd]
  · intro w hw
    rw [List.mem_append] at hw
    rw [List.length_append]
    have h2 := h.ser y m1
    rcases hw with hw | hw
    · have := h.ser w hw; simp only [List.length_singleton]; omega
    · rw [List.mem_singleton] at hw; subst hw; rw [hs]; simp only [List.length_singleton]; omega
  · intro w hw
    rw [List.mem_append] at hw
    rcases hw with hw | hw
    · exact h.sh w hw
    · rw [List.mem_singleton] at hw; subst hw; rw [hk, hb]; exact h.sh y m1
  · intro w hw
    have hwo := hsub.subset hw
    obtain ⟨h1, h2, h3, h4⟩ := h.op w hwo
    refine ⟨List.mem_append_left _ h1, ?_, ?_, h4⟩
    · rw [List.find?_append, h2]; rfl
    · rw [List.any_append, h3]
      have := hne w hw
      simp [fR, hr, hs]
      exact fun hc => this hc.symm
  · exact List.Sublist.nodup (List.Sublist.map _ hsub) h.nd
theorem mCall_ok {L : List Int} {k : Nat} {out opn : List Ev} (h : mOK out opn) : mOK (mCall L k out opn).2.1 (mCall L k out opn).2.2 := by
  have d4 : ∀ k, 0 ≤ dval L k 4 ∧ dval L k 4 < 4 := fun k => dval_in L k (by decide) (by decide)
  have d3 : ∀ k, 0 ≤ dval L k 3 ∧ dval L k 3 < 3 := fun k => dval_in L k (by decide) (by decide)
  unfold mCall
  split
  · refine call_ok h _ rfl (d4 _) rfl ⟨by dsimp only; omega, by dsimp only; omega, d3 _⟩ rfl rfl
  · have := d4 (dnx L k)
    refine call_ok h _ rfl (d4 _) rfl ⟨by dsimp only; omega, by dsimp only; omega, d3 _⟩ rfl rfl
theorem mRet_ok {L : List Int} {k : Nat} {out opn : List Ev} (h : mOK out opn) {a : Nat} {y : Ev} (hy : opn[a]? = some y) : mOK (mRet L k out opn a y).2.1 (mRet L k out opn a y).2.2 := by
  have hm : y ∈ opn := List.mem_of_getElem? hy
  obtain ⟨m1, m2, m3, m4, m5, m6, m7, m8⟩ := h.op y hm
  unfold mRet
  split
  · refine ret_ok h hy rfl rfl rfl rfl rfl rfl ?_
    simp [fitB, m8]
  · split
    · rename_i hk
      refine ret_ok h hy rfl rfl rfl rfl rfl rfl ?_
      simp [fitB, m7, hk, vval_size]
    · rename_i hk
      refine ret_ok h hy rfl rfl rfl rfl rfl rfl ?_
      simp [fitB, m7, hk, m8]
theorem mStep_ok {L : List Int} {k : Nat} {out opn : List Ev} (h : mOK out opn) : mOK (mStep L k out opn).2.1 (mStep L k out opn).2.2 := by
  unfold mStep
  split
  · split
    · split
      · rename_i y hy
        exact mRet_ok h hy
      · exact h
    · exact mCall_ok h
  · exact mCall_ok h
theorem mgo_ok (L : List Int) : ∀ n x, mOK x.2.1 x.2.2 → ∃ opn, mOK (mgo L n x) opn := by
  intro n
  induction n with
  | zero => intro x h; exact ⟨_, h⟩
  | succ n ih =>
    intro x h
    rw [mgo]
    split
    · exact ih _ (mStep_ok h)
    · exact ⟨_, h⟩
theorem made_ok (L : List Int) : ∃ opn, mOK (madeL L) opn := mgo_ok L 60 (0, [], []) ⟨rfl, by simp, by simp, by simp, by simp⟩
theorem made_right (L : List Int) : rgo [] (madeL L) = true := (made_ok L).elim fun _ h => h.rg
theorem made_sh (L : List Int) : ∀ x ∈ madeL L, 1 ≤ x.k ∧ x.k ≤ 4 ∧ 0 ≤ x.b ∧ x.b < 3 := (made_ok L).elim fun _ h => h.sh
theorem mStep_len {L : List Int} {k : Nat} {out opn : List Ev} : (mStep L k out opn).2.1.length ≤ out.length + 1 := by
  unfold mStep mRet mCall
  repeat' split
  all_goals simp
theorem mgo_len (L : List Int) : ∀ n x, (mgo L n x).length ≤ x.2.1.length + n := by
  intro n
  induction n with
  | zero => intro x; exact Nat.le_refl _
  | succ n ih =>
    intro x
    rw [mgo]
    split
    · have h1 := ih (mStep L x.1 x.2.1 x.2.2)
      have h2 := @mStep_len L x.1 x.2.1 x.2.2
      omega
    · omega
theorem made_len (L : List Int) : (madeL L).length ≤ 60 := mgo_len L 60 (0, [], [])
end Go.Proofs.Ytmooflgfcebmaaa.Ab
