/- Histories: plain laws of right histories. -/
import Derived.Test.YtmooflgfcebmaaaHg
namespace Go.Proofs.Ytmooflgfcebmaaa.Ab
set_option linter.unusedVariables false
set_option linter.unusedSimpArgs false
open Go.RowKit

theorem rgo_snoc (l : List Ev) (x : Ev) : rgo [] (l ++ [x]) = (rgo [] l && rightB l x) := by
  rw [rgo_app]; simp [rgo]
theorem rgo_pre {l : List Ev} (h : rgo [] l = true) (k : Nat) : rgo [] (l.take k) = true := by
  have := rgo_app (l.take k) (l.drop k) []
  rw [List.take_append_drop, h] at this
  have := this.symm
  rw [Bool.and_eq_true] at this
  exact this.1
theorem rgo_at {l : List Ev} (h : rgo [] l = true) {k : Nat} (hk : k < l.length) : rightB (l.take k) l[k] = true := by
  have := rgo_pre h (k + 1)
  rw [List.take_succ_eq_append_getElem hk, rgo_snoc, Bool.and_eq_true] at this
  exact this.2
/-- What a right event says. -/
theorem right_inv {l : List Ev} {x : Ev} (h : rightB l x = true) (hr : x.r = false) : l.find? (fI x.s) = none ∧ l.any (fR x.s) = false := by
  unfold rightB at h
  rw [if_pos hr] at h
  split at h
  · exact absurd h (by decide)
  · simp only [Bool.and_eq_true, Bool.not_eq_true', Option.isNone_iff_eq_none] at h
    exact ⟨h.1, h.2.1⟩
theorem right_ret {l : List Ev} {x : Ev} (h : rightB l x = true) (hr : x.r = true) : ∃ y, l.find? (fI x.s) = some y ∧ l.any (fR x.s) = false ∧ y.q = x.q ∧ cmE y x = true ∧ fitB x.k x.e x.o = true := by
  unfold rightB at h
  split at h
  · exact absurd h (by decide)
  · rw [if_neg (by simp [hr])] at h
    split at h
    · exact absurd h (by decide)
    · rename_i y hy
      simp only [Bool.and_eq_true, Bool.not_eq_true', beq_iff_eq] at h
      exact ⟨y, hy, h.1, h.2.1, h.2.2.1, h.2.2.2⟩
theorem right_bad {l : List Ev} {x : Ev} (h : rightB l x = true) : vbad x = false := by
  unfold rightB at h
  split at h
  · exact absurd h (by decide)
  · rename_i h1; simpa using h1
theorem right_rs {l : List Ev} {x : Ev} (h : rightB l x = true) (hr : x.r = false) : rsE x = true := by
  unfold rightB at h
  rw [if_pos hr] at h
  split at h
  · exact absurd h (by decide)
  · simp only [Bool.and_eq_true] at h
    exact h.2.2
theorem fFrom_none {p : Ev → Bool} {l : List Ev} (n : Nat) : fFrom p n l = -1 ↔ l.any p = false := by
  rcases fFrom_spec p l n with ⟨h1, h2, h3⟩ | ⟨m, hm, h1, h2, h3, h4⟩
  · simp [h1, h3]
  · rw [h1, h3]; constructor
    · intro h; omega
    · intro h; exact absurd h (by decide)
theorem find_none_any {p : Ev → Bool} {l : List Ev} : l.find? p = none ↔ l.any p = false := by
  rcases fFrom_spec p l 0 with ⟨h1, h2, h3⟩ | ⟨m, hm, h1, h2, h3, h4⟩
  · simp only [h2, h3]
  · rw [h2, h3]; constructor <;> intro h <;> exact absurd h (by simp)
/-- An operation's invocation comes before its return. -/
theorem inv_before {l : List Ev} (h : rgo [] l = true) (a : Int) (hr : fFrom (fR a) 0 l ≠ -1) : fFrom (fI a) 0 l ≠ -1 ∧ fFrom (fI a) 0 l < fFrom (fR a) 0 l := by
  rcases fFrom_spec (fR a) l 0 with ⟨h1, _⟩ | ⟨m, hm, h1, h2, h3, h4⟩
  · exact absurd h1 hr
  · have hx := rgo_at h hm
    have h5 : l[m].r = true ∧ l[m].s = a := by simpa [fR] using h4
    obtain ⟨y, hy, _⟩ := right_ret hx h5.1
    rw [h5.2] at hy
    have hne : fFrom (fI a) 0 (l.take m) ≠ -1 := by
      intro hc
      rw [fFrom_none] at hc
      rw [find_none_any.2 hc] at hy
      exact absurd hy (by simp)
    have e := fFrom_app (fI a) (l.drop m) (l.take m) 0
    rw [List.take_append_drop, if_neg hne] at e
    have hlt := fFrom_lt (fI a) (l.take m) 0
    rw [List.length_take] at hlt
    rw [e, h1]
    rcases hlt with hlt | hlt
    · exact absurd hlt hne
    · constructor <;> omega
theorem bef_iff {l : List Ev} {a b : Int} : bef l a b = true ↔ fFrom (fR a) 0 l ≠ -1 ∧ fFrom (fI b) 0 l ≠ -1 ∧ fFrom (fR a) 0 l < fFrom (fI b) 0 l := by
  unfold bef; simp only [Bool.and_eq_true, decide_eq_true_eq]
theorem bef_irr {l : List Ev} (h : rgo [] l = true) (a : Int) : bef l a a = false := by
  rw [Bool.eq_false_iff]; intro hc
  rw [bef_iff] at hc
  have := inv_before h a hc.1
  omega
theorem bef_trans {l : List Ev} (h : rgo [] l = true) {a b c : Int} (h1 : bef l a b = true) (h2 : bef l b c = true) : bef l a c = true := by
  rw [bef_iff] at *
  have := inv_before h b h2.1
  exact ⟨h1.1, h2.2.1, by omega⟩
theorem bef_asym {l : List Ev} (h : rgo [] l = true) {a b : Int} (h1 : bef l a b = true) : bef l b a = false := by
  rw [Bool.eq_false_iff]; intro hc
  have := bef_trans h h1 hc
  rw [bef_irr h a] at this
  exact absurd this (by decide)
/-- A right history's invocations are all first ones. -/
def noR (x : Ev) : Bool := !x.r
theorem bgo_right : ∀ (r pre : List Ev), rgo pre r = true → bgo pre r = r.filter noR := by
  intro r
  induction r with
  | nil => intro pre _; rfl
  | cons x r ih =>
    intro pre h
    rw [rgo, Bool.and_eq_true] at h
    rw [bgo, ih _ h.2]
    cases hx : x.r with
    | true =>
      have : isB pre x = false := by simp [isB, hx]
      rw [this, List.filter_cons_of_neg (by simp [noR, hx])]; rfl
    | false =>
      have h1 := (right_inv h.1 hx).1
      have : isB pre x = true := by
        rw [isB, hx, (fFrom_none 0).2 (find_none_any.1 h1)]; rfl
      rw [this, List.filter_cons_of_pos (by simp [noR, hx])]; rfl
theorem snoc_ind {P : List Ev → Prop} (h0 : P []) (h1 : ∀ l x, P l → P (l ++ [x])) (l : List Ev) : P l := by
  have : ∀ n, ∀ l : List Ev, l.length = n → P l := by
    intro n
    induction n with
    | zero => intro l hl; rw [List.length_eq_zero_iff.1 hl]; exact h0
    | succ n ih =>
      intro l hl
      have hne : l ≠ [] := by intro h; rw [h] at hl; exact absurd hl (by simp)
      rw [← List.dropLast_concat_getLast hne]
      exact h1 _ _ (ih _ (by rw [List.length_dropLast, hl]; omega))
  exact this _ l rfl
theorem any_false {p : Ev → Bool} {l : List Ev} (h : l.any p = false) {x : Ev} (hx : x ∈ l) : p x = false := by
  have := List.any_eq_false.1 h x hx
  simpa using this
theorem inv_nodup (l : List Ev) : rgo [] l = true → ((l.filter noR).map (·.s)).Nodup := by
  induction l using snoc_ind with
  | h0 => intro _; exact List.nodup_nil
  | h1 l x ih =>
    intro h
    rw [rgo_snoc, Bool.and_eq_true] at h
    rw [List.filter_append, List.map_append]
    cases hx : x.r with
    | true => rw [List.filter_cons_of_neg (by simp [noR, hx])]; simpa using ih h.1
    | false =>
      rw [List.filter_cons_of_pos (by simp [noR, hx])]
      have h1 := find_none_any.1 (right_inv h.2 hx).1
      rw [List.filter_nil, List.map_cons, List.map_nil, List.nodup_append]
      refine ⟨ih h.1, by simp, ?_⟩
      intro a ha b hb hab
      rw [List.mem_map] at ha
      obtain ⟨y, hy, rfl⟩ := ha
      rw [List.mem_filter] at hy
      have := any_false h1 hy.1
      simp only [List.mem_singleton] at hb
      have h2 : y.r = false := by simpa [noR] using hy.2
      simp [fI, h2] at this
      exact this (hab.trans hb)
theorem drop_one {l : List Ev} (h : (l.map (·.s)).Nodup) {y : Ev} (hy : y ∈ l) : (l.filter (fun z => !(z.s == y.s))).length + 1 = l.length := by
  induction l with
  | nil => exact absurd hy (by simp)
  | cons x l ih =>
    rw [List.map_cons, List.nodup_cons] at h
    by_cases hxy : x.s = y.s
    · rw [List.filter_cons_of_neg (by simp [hxy])]
      have : l.filter (fun z => !(z.s == y.s)) = l := by
        rw [List.filter_eq_self]
        intro z hz
        have : z.s ≠ x.s := fun hc => h.1 (hc ▸ List.mem_map_of_mem hz)
        simpa [hxy] using this
      rw [this]; rfl
    · rw [List.filter_cons_of_pos (by simp [hxy])]
      have hy' : y ∈ l := by
        rcases List.mem_cons.1 hy with rfl | h1
        · exact absurd rfl hxy
        · exact h1
      rw [List.length_cons, List.length_cons, ih h.2 hy']
def isR (x : Ev) : Bool := x.r
def pends (l : List Ev) : List Ev := (l.filter noR).filter (pnd l)
theorem pnd_any {l : List Ev} {x : Ev} : pnd l x = !(l.any (fR x.s)) := by
  unfold pnd
  cases h : l.any (fR x.s) with
  | true =>
    have : fFrom (fR x.s) 0 l ≠ -1 := fun hc => by rw [fFrom_none, h] at hc; exact absurd hc (by decide)
    simpa using this
  | false => rw [(fFrom_none 0).2 h]; rfl
theorem pend_count (l : List Ev) : rgo [] l = true → (pends l).length + (l.filter isR).length = (l.filter noR).length := by
  induction l using snoc_ind with
  | h0 => intro _; rfl
  | h1 l x ih =>
    intro h
    have hnd := inv_nodup _ h
    rw [rgo_snoc, Bool.and_eq_true] at h
    have ih := ih h.1
    unfold pends at ih ⊢
    rw [List.filter_append, List.filter_append, List.filter_append] 
    cases hx : x.r with
    | false =>
      have h1 := (right_inv h.2 hx).2
      rw [List.filter_cons_of_pos (p := noR) (by simp [noR, hx]), List.filter_cons_of_neg (p := isR) (by simp [isR, hx])]
      have e1 : (l.filter noR).filter (pnd (l ++ [x])) = (l.filter noR).filter (pnd l) := by
        apply List.filter_congr
        intro z _
        rw [pnd_any, pnd_any, List.any_append]
        simp [fR, hx]
      have e2 : pnd (l ++ [x]) x = true := by
        rw [pnd_any, List.any_append, h1]; simp [fR, hx]
      rw [e1]
      generalize (l.filter noR).filter (pnd l) = P at ih
      generalize l.filter noR = M at ih
      generalize l.filter isR = N at ih
      simp [e2]
      omega
    | true =>
      obtain ⟨y, hy, h1, _⟩ := right_ret h.2 hx
      rw [List.filter_cons_of_neg (p := noR) (by simp [noR, hx]), List.filter_cons_of_pos (p := isR) (by simp [isR, hx])]
      have hym := List.mem_of_find?_eq_some hy
      have hyp := List.find?_some hy
      have hyr : y.r = false ∧ y.s = x.s := by simpa [fI] using hyp
      have e1 : (l.filter noR).filter (pnd (l ++ [x])) = ((l.filter noR).filter (pnd l)).filter (fun z => !(z.s == y.s)) := by
        generalize l.filter noR = M
        conv => rhs; rw [List.filter_filter]
        apply List.filter_congr
        intro z _
        rw [pnd_any, pnd_any, List.any_append, hyr.2]
        rw [show (z.s == x.s) = (x.s == z.s) from Bool.eq_iff_iff.2 (by rw [beq_iff_eq, beq_iff_eq]; exact eq_comm)]
        cases l.any (fR z.s) <;> simp [fR, hx]
      have hnd2 : (((l.filter noR).filter (pnd l)).map (·.s)).Nodup := by
        refine List.Sublist.nodup ?_ (inv_nodup l h.1)
        exact List.Sublist.map _ List.filter_sublist
      have hmem : y ∈ (l.filter noR).filter (pnd l) := by
        rw [List.mem_filter, List.mem_filter, pnd_any, hyr.2, h1]
        exact ⟨⟨hym, by simp [noR, hyr.1]⟩, rfl⟩
      have e2 := drop_one hnd2 hmem
      rw [e1]
      generalize (l.filter noR).filter (pnd l) = P at ih e2
      generalize l.filter noR = M at ih
      generalize l.filter isR = N at ih
      generalize P.filter (fun z => !(z.s == y.s)) = P2 at e2
      simp
      omega
/-- The part of one block is right. -/
theorem part_right (b : Int) (l : List Ev) : rgo [] l = true → rgo [] (l.filter (keepE b)) = true := by
  induction l using snoc_ind with
  | h0 => intro _; rfl
  | h1 l x ih =>
    intro h
    rw [rgo_snoc, Bool.and_eq_true] at h
    rw [List.filter_append]
    cases hk : keepE b x with
    | false => rw [List.filter_cons_of_neg (by simp [hk])]; simpa using ih h.1
    | true =>
      rw [List.filter_cons_of_pos hk, List.filter_nil, rgo_snoc, ih h.1, Bool.true_and]
      have hsub : ∀ {p : Ev → Bool}, l.any p = false → (l.filter (keepE b)).any p = false := by
        intro p hp
        rw [List.any_eq_false]
        intro z hz
        rw [List.mem_filter] at hz
        simp [any_false hp hz.1]
      have hb := right_bad h.2
      unfold rightB
      rw [hb, if_neg (by decide)]
      cases hx : x.r with
      | false =>
        obtain ⟨h1, h2⟩ := right_inv h.2 hx
        rw [if_pos rfl, find_none_any.2 (hsub (find_none_any.1 h1)), hsub h2, right_rs h.2 hx]
        rfl
      | true =>
        obtain ⟨y, hy, h1, h2, h3, h4⟩ := right_ret h.2 hx
        rw [if_neg (by decide)]
        have hky : keepE b y = true := by
          have h5 : y.k = x.k ∧ y.b = x.b := by
            simp only [cmE, Bool.and_eq_true, beq_iff_eq] at h3
            exact ⟨h3.1, h3.2.1⟩
          have h6 : keepE b y = keepE b x := by unfold keepE outE; rw [h5.1, h5.2]
          rw [h6, hk]
        have hf : (l.filter (keepE b)).find? (fI x.s) = some y := by
          clear h h1 h2 h3 h4 hsub ih
          induction l with
          | nil => exact absurd hy (by simp)
          | cons z l ih2 =>
            rw [List.find?_cons] at hy
            split at hy
            · rename_i hz
              injection hy with hy
              subst hy
              rw [List.filter_cons_of_pos hky, List.find?_cons, hz]
            · rename_i hz
              have := ih2 hy
              by_cases hkz : keepE b z = true
              · rw [List.filter_cons_of_pos hkz, List.find?_cons, hz]; exact this
              · rw [List.filter_cons_of_neg hkz]; exact this
        rw [hf]
        dsimp only
        rw [hsub h1, h2, h3, h4]
        simp
theorem parts_sum (l : List Ev) (h : ∀ x ∈ l, 1 ≤ x.k ∧ x.k ≤ 4 ∧ 0 ≤ x.b ∧ x.b < 3) : (l.filter (keepE 0)).length + (l.filter (keepE 1)).length + (l.filter (keepE 2)).length + (l.filter (fun x => x.k == 4)).length = l.length := by
  induction l with
  | nil => rfl
  | cons x l ih =>
    have h1 := h x List.mem_cons_self
    have ih := ih (fun z hz => h z (List.mem_cons_of_mem _ hz))
    have hv : ∀ b, keepE b x = (decide (x.k ≤ 3) && decide (x.b = b)) := by
      intro b
      unfold keepE outE
      have e1 : decide (x.k < 1) = false := decide_eq_false (by omega)
      rw [e1, Bool.false_or, Bool.not_or, Bool.not_not]
      congr 1
      · rw [← decide_not]; congr 1; rw [eq_iff_iff]; omega
    by_cases hk : x.k = 4
    · have : ∀ b, keepE b x = false := by intro b; rw [hv, hk]; simp
      simp only [List.filter_cons, this, hk]
      simp
      omega
    · have hk2 : (x.k == 4) = false := by simpa using hk
      have hk3 : decide (x.k ≤ 3) = true := decide_eq_true (by omega)
      have : x.b = 0 ∨ x.b = 1 ∨ x.b = 2 := by omega
      rcases this with hb | hb | hb <;> simp only [List.filter_cons, hv, hb, hk2, hk3] <;> simp <;> omega
end Go.Proofs.Ytmooflgfcebmaaa.Ab
