/- Shards: what is found in valid lists; plain laws. -/
import Derived.Test.YtgjcljjgifnjdaaSp
namespace Go.Proofs.Ytgjcljjgifnjdaa.Ab
set_option linter.unusedVariables false
set_option linter.unusedSimpArgs false

def lk (es : List Ety) (b : Int) : Option Ety := es.find? (fun e => decide (e.b = b))
theorem asc_uniq {es : List Ety} (h : svalid es = true) {x y : Ety} (hx : x ∈ es) (hy : y ∈ es) (e : x.b = y.b) : x = y := by
  obtain ⟨i, hi, rfl⟩ := List.getElem_of_mem hx
  obtain ⟨j, hj, rfl⟩ := List.getElem_of_mem hy
  rcases Nat.lt_trichotomy i j with h1 | h1 | h1
  · have := asc_get h h1 hj; omega
  · subst h1; rfl
  · have := asc_get h h1 hi; omega
theorem lk_iff {es : List Ety} (h : svalid es = true) {b : Int} {e : Ety} : lk es b = some e ↔ e ∈ es ∧ e.b = b := by
  constructor
  · intro h1
    exact ⟨List.mem_of_find?_eq_some h1, by simpa using List.find?_some h1⟩
  · rintro ⟨h1, h2⟩
    cases hf : lk es b with
    | none =>
      have := List.find?_eq_none.1 hf e h1
      simp [h2] at this
    | some x =>
      have hx1 := List.mem_of_find?_eq_some hf
      have hx2 : x.b = b := by simpa using List.find?_some hf
      rw [asc_uniq h hx1 h1 (by omega)]
theorem lk_none {es : List Ety} {b : Int} : lk es b = none ↔ ∀ e ∈ es, e.b ≠ b := by
  unfold lk
  rw [List.find?_eq_none]
  simp
theorem asc_ext : ∀ {x y : List Ety}, x.Pairwise (fun a b => a.b < b.b) → y.Pairwise (fun a b => a.b < b.b) → (∀ e, e ∈ x ↔ e ∈ y) → x = y
  | [], [], _, _, _ => rfl
  | [], b :: y, _, _, h => by have := (h b).2 List.mem_cons_self; simp at this
  | a :: x, [], _, _, h => by have := (h a).1 List.mem_cons_self; simp at this
  | a :: x, b :: y, hx, hy, h => by
    rw [List.pairwise_cons] at hx hy
    have hab : a = b := by
      rcases List.mem_cons.1 ((h a).1 List.mem_cons_self) with h1 | h1
      · exact h1
      · rcases List.mem_cons.1 ((h b).2 List.mem_cons_self) with h2 | h2
        · exact h2.symm
        · have := hy.1 a h1
          have := hx.1 b h2
          omega
    subst hab
    rw [asc_ext hx.2 hy.2 fun e => ?_]
    constructor
    · intro he
      rcases List.mem_cons.1 ((h e).1 (List.mem_cons_of_mem _ he)) with h1 | h1
      · subst h1; have := hx.1 e he; omega
      · exact h1
    · intro he
      rcases List.mem_cons.1 ((h e).2 (List.mem_cons_of_mem _ he)) with h1 | h1
      · subst h1; have := hy.1 e he; omega
      · exact h1
theorem lk_ext {x y : List Ety} (hx : svalid x = true) (hy : svalid y = true) (h : ∀ b, lk x b = lk y b) : x = y := by
  refine asc_ext ((svalid_iff x).1 hx).2 ((svalid_iff y).1 hy).2 fun e => ?_
  have h1 := lk_iff hx (b := e.b) (e := e)
  have h2 := lk_iff hy (b := e.b) (e := e)
  rw [h e.b] at h1
  simp only [and_true] at h1 h2
  rw [← h1, h2]
theorem shere_lk {es : List Ety} (h : svalid es = true) (b : Int) : shere es b = (lk es b).isSome := by
  cases hl : lk es b with
  | none =>
    rw [lk_none] at hl
    show shere es b = false
    rw [Bool.eq_false_iff]
    intro hs
    obtain ⟨hlt, q1, _⟩ := shere_lt hs
    exact hl _ (List.getElem_mem hlt) q1
  | some e =>
    obtain ⟨h1, h2⟩ := (lk_iff h).1 hl
    obtain ⟨i, hi, rfl⟩ := List.getElem_of_mem h1
    have hp : splace es b = i := splace_uniq (by omega) (fun j hj hji => by have := asc_get h hji hi; omega) (fun _ => by omega)
    unfold shere
    rw [hp, List.getElem?_eq_getElem hi]
    simp [h2]
theorem sold_lk {es : List Ety} (h : svalid es = true) (b : Int) : sold es b = (lk es b).getD e0 := by
  cases hs : shere es b with
  | false =>
    rw [sold_no hs]
    rw [shere_lk h] at hs
    cases hl : lk es b with
    | none => rfl
    | some e => rw [hl] at hs; cases hs
  | true =>
    obtain ⟨hlt, q1, q2⟩ := shere_lt hs
    rw [q2, (lk_iff h).2 ⟨List.getElem_mem hlt, q1⟩]; rfl
theorem right_of {es : List Ety} (h : svalid es = true) {b : Int} {e : Ety} (hl : lk es b = some e) : rightE e = true := ((svalid_iff es).1 h).1 e ((lk_iff h).1 hl).1
theorem svalid_new {es : List Ety} {e : Ety} (h : svalid es = true) (h2 : rightE e = true) (h3 : shere es e.b = false) : svalid (es.take (splace es e.b) ++ e :: es.drop (splace es e.b)) = true := by
  have hle := splace_le es e.b
  rw [svalid_iff]
  have hv := (svalid_iff es).1 h
  refine ⟨fun x hx => ?_, ?_⟩
  · rcases List.mem_append.1 hx with h4 | h4
    · exact hv.1 x (List.mem_of_mem_take h4)
    · rcases List.mem_cons.1 h4 with rfl | h4
      · exact h2
      · exact hv.1 x (List.mem_of_mem_drop h4)
  · rw [List.pairwise_append, List.pairwise_cons]
    have hlo : ∀ x ∈ es.take (splace es e.b), x.b < e.b := by
      intro x hx
      obtain ⟨i, hi, rfl⟩ := List.getElem_of_mem hx
      rw [List.length_take] at hi
      rw [List.getElem_take]
      exact splace_lt es e.b (by omega) (by omega)
    have hhi : ∀ x ∈ es.drop (splace es e.b), e.b < x.b := by
      intro x hx
      obtain ⟨i, hi, rfl⟩ := List.getElem_of_mem hx
      rw [List.length_drop] at hi
      rw [List.getElem_drop]
      have h5 := splace_ge es e.b (by omega)
      have h6 := shere_no h3 (by omega)
      cases i with
      | zero => simp only [Nat.add_zero]; omega
      | succ i =>
        have := asc_get h (i := splace es e.b) (j := splace es e.b + (i + 1)) (by omega) (by omega)
        omega
    refine ⟨hv.2.sublist (List.take_sublist _ _), ⟨fun x hx => hhi x hx, hv.2.sublist (List.drop_sublist _ _)⟩, fun x hx y hy => ?_⟩
    rcases List.mem_cons.1 hy with rfl | hy
    · exact hlo x hx
    · have := hlo x hx
      have := hhi y hy
      omega
theorem svalid_set {es : List Ety} {e : Ety} {k : Nat} (h : svalid es = true) (h2 : rightE e = true) (hk : k < es.length) (h3 : es[k].b = e.b) : svalid (es.set k e) = true := by
  rw [svalid_iff]
  have hv := (svalid_iff es).1 h
  refine ⟨fun x hx => ?_, ?_⟩
  · rcases List.mem_or_eq_of_mem_set hx with h4 | rfl
    · exact hv.1 x h4
    · exact h2
  · rw [List.pairwise_iff_getElem]
    have hb : ∀ i (hi : i < (es.set k e).length), ((es.set k e)[i]).b = (es[i]'(by simpa using hi)).b := by
      intro i hi
      rw [List.getElem_set]
      split
      · rename_i he; subst he; exact h3.symm
      · rfl
    intro i j hi hj hij
    rw [hb i hi, hb j hj]
    exact asc_get h hij (by simpa using hj)
theorem mem_set_iff {es : List Ety} {e : Ety} {k : Nat} (h : svalid es = true) (hk : k < es.length) (h3 : es[k].b = e.b) (x : Ety) : x ∈ es.set k e ↔ x = e ∨ (x ∈ es ∧ x.b ≠ e.b) := by
  constructor
  · intro hx
    obtain ⟨i, hi, rfl⟩ := List.getElem_of_mem hx
    rw [List.getElem_set]
    split
    · exact Or.inl rfl
    · rename_i hne
      refine Or.inr ⟨List.getElem_mem _, fun hb => ?_⟩
      have hi' : i < es.length := by simpa using hi
      have := asc_uniq h (List.getElem_mem hi') (List.getElem_mem hk) (by omega)
      rcases Nat.lt_trichotomy i k with h1 | h1 | h1
      · have := asc_get h h1 hk; omega
      · exact hne h1.symm
      · have := asc_get h h1 hi'; omega
  · rintro (rfl | ⟨hx, hb⟩)
    · exact List.mem_set hk _
    · obtain ⟨i, hi, rfl⟩ := List.getElem_of_mem hx
      have hne : k ≠ i := by rintro rfl; exact hb h3
      have := List.getElem_mem (l := es.set k e) (n := i) (by simpa using hi)
      rwa [List.getElem_set_ne hne] at this
/-- The newer one. -/
def newer (o : Option Ety) (e : Ety) : Ety := match o with
  | none => e
  | some o => if o.v ≥ e.v then o else e
theorem svalid_inst {es : List Ety} {e : Ety} (h : svalid es = true) : svalid (sinst es e).1 = true := by
  unfold sinst
  rw [if_neg (by simp [h])]
  split
  · exact h
  · rename_i h2
    have h2 : rightE e = true := by simpa using h2
    split
    · rename_i h3
      obtain ⟨hlt, q1, q2⟩ := shere_lt h3
      split
      · exact h
      · exact svalid_set h h2 hlt q1
    · rename_i h3
      exact svalid_new h h2 (by simpa using h3)
theorem lk_inst {es : List Ety} {e : Ety} (h : svalid es = true) (h2 : rightE e = true) (c : Int) : lk (sinst es e).1 c = if c = e.b then some (newer (lk es c) e) else lk es c := by
  have hv' := svalid_inst (e := e) h
  have hmem : ∀ x, x ∈ (sinst es e).1 ↔ (if x.b = e.b then x = newer (lk es e.b) e else x ∈ es) := by
    intro x
    unfold sinst
    rw [if_neg (by simp [h]), if_neg (by simp [h2])]
    split
    · rename_i h3
      obtain ⟨hlt, q1, q2⟩ := shere_lt h3
      have hl : lk es e.b = some es[splace es e.b] := (lk_iff h).2 ⟨List.getElem_mem hlt, q1⟩
      rw [hl, q2]
      split
      · rename_i h4
        have hn : newer (some es[splace es e.b]) e = es[splace es e.b] := by simp only [newer]; rw [if_pos h4]
        rw [hn]
        split
        · rename_i hb
          exact ⟨fun hx => asc_uniq h hx (List.getElem_mem hlt) (by omega), fun hx => hx ▸ List.getElem_mem hlt⟩
        · exact Iff.rfl
      · rename_i h4
        have hn : newer (some es[splace es e.b]) e = e := by simp only [newer]; rw [if_neg h4]
        rw [hn, mem_set_iff h hlt q1]
        split
        · rename_i hb
          exact ⟨fun hx => hx.resolve_right (fun hh => hh.2 hb), Or.inl⟩
        · rename_i hb
          exact ⟨fun hx => (hx.resolve_left (fun hh => hb (by rw [hh]))).1, fun hx => Or.inr ⟨hx, hb⟩⟩
    · rename_i h3
      have h3 : shere es e.b = false := by simpa using h3
      rw [shere_lk h] at h3
      have hl : lk es e.b = none := by cases hq : lk es e.b with
        | none => rfl
        | some o => rw [hq] at h3; cases h3
      rw [hl]
      have hm : x ∈ es.take (splace es e.b) ++ e :: es.drop (splace es e.b) ↔ x = e ∨ x ∈ es := by
        conv => rhs; rw [← List.take_append_drop (splace es e.b) es]
        simp only [List.mem_append, List.mem_cons]
        constructor
        · rintro (h | h | h)
          · exact Or.inr (Or.inl h)
          · exact Or.inl h
          · exact Or.inr (Or.inr h)
        · rintro (h | h | h)
          · exact Or.inr (Or.inl h)
          · exact Or.inl h
          · exact Or.inr (Or.inr h)
      show x ∈ es.take (splace es e.b) ++ e :: es.drop (splace es e.b) ↔ _
      rw [hm]
      split
      · rename_i hb
        exact ⟨fun hx => hx.resolve_right (fun hh => lk_none.1 hl x hh hb), Or.inl⟩
      · rename_i hb
        exact ⟨fun hx => hx.resolve_left (fun hh => hb (by rw [hh])), Or.inr⟩
  have hnb : ∀ o, lk es e.b = o → (newer o e).b = e.b := by
    intro o ho
    cases o with
    | none => rfl
    | some o =>
      simp only [newer]
      split
      · exact ((lk_iff h).1 ho).2
      · rfl
  split
  · rename_i hc
    subst hc
    rw [lk_iff hv', hmem, if_pos (hnb _ rfl)]
    exact ⟨rfl, hnb _ rfl⟩
  · rename_i hc
    cases hq : lk es c with
    | none =>
      rw [lk_none] at hq ⊢
      intro x hx hb
      rw [hmem, if_neg (by omega)] at hx
      exact hq x hx hb
    | some o =>
      have := (lk_iff h).1 hq
      rw [lk_iff hv', hmem, if_neg (by omega)]
      exact this
theorem inst_notRight {es : List Ety} {e : Ety} (h : svalid es = true) (h2 : rightE e = false) : (sinst es e).1 = es := by unfold sinst; rw [if_neg (by simp [h]), if_pos h2]
theorem newer_comm (o : Option Ety) (a b : Ety) (h : a.v ≠ b.v) : newer (some (newer o a)) b = newer (some (newer o b)) a := by
  cases o with
  | none =>
    simp only [newer]
    by_cases h1 : a.v ≥ b.v <;> by_cases h2 : b.v ≥ a.v <;> simp only [h1, h2, if_true, if_false] <;> omega
  | some o =>
    simp only [newer]
    by_cases h1 : o.v ≥ a.v <;> by_cases h2 : o.v ≥ b.v <;> simp only [h1, h2, if_true, if_false] <;> (repeat' split) <;> first | rfl | omega
theorem svalid_filter {es : List Ety} (h : svalid es = true) (f : Ety → Bool) : svalid (es.filter f) = true := by
  rw [svalid_iff] at h ⊢
  exact ⟨fun x hx => h.1 x (List.mem_filter.1 hx).1, h.2.filter _⟩
theorem len_filters (f : Ety → Bool) (es : List Ety) : (es.filter (fun e => !f e)).length + (es.filter f).length = es.length := by
  induction es with
  | nil => rfl
  | cons e es ih =>
    cases hf : f e with
    | true => rw [List.filter_cons_of_neg (by simp [hf]), List.filter_cons_of_pos hf]; simp only [List.length_cons]; omega
    | false => rw [List.filter_cons_of_pos (by simp [hf]), List.filter_cons_of_neg (by simp [hf])]; simp only [List.length_cons]; omega
theorem filter_again (f : Ety → Bool) (es : List Ety) : (es.filter (fun e => !f e)).filter (fun e => !f e) = es.filter (fun e => !f e) ∧ (es.filter (fun e => !f e)).filter f = [] := by
  constructor
  · rw [List.filter_filter]; congr 1; funext e; cases f e <;> rfl
  · rw [List.filter_filter]
    rw [List.filter_eq_nil_iff]
    intro e _
    cases f e <;> simp
theorem filter_max (p q : Int) (es : List Ety) : (es.filter (fun e => !tomb p e)).filter (fun e => !tomb q e) = es.filter (fun e => !tomb (if q > p then q else p) e) := by
  rw [List.filter_filter]
  congr 1
  funext e
  unfold tomb
  rw [Bool.eq_iff_iff]
  simp
  split <;> omega
theorem find_kept {es : List Ety} (h : svalid es = true) (p : Int) {i : Nat} (hi : i < es.length) : (sfind (es.filter (fun e => !tomb p e)) es[i].b).2 = !tomb p es[i] := by
  have hv := svalid_filter h (fun e => !tomb p e)
  unfold sfind
  rw [if_pos hv]
  show shere _ _ = _
  rw [shere_lk hv]
  cases ht : tomb p es[i] with
  | true =>
    cases hq : lk (es.filter (fun e => !tomb p e)) es[i].b with
    | none => rfl
    | some e =>
      obtain ⟨h1, h2⟩ := (lk_iff hv).1 hq
      obtain ⟨h3, h4⟩ := List.mem_filter.1 h1
      have := asc_uniq h h3 (List.getElem_mem hi) h2
      subst this
      rw [ht] at h4; cases h4
  | false =>
    have : lk (es.filter (fun e => !tomb p e)) es[i].b = some es[i] := (lk_iff hv).2 ⟨List.mem_filter.2 ⟨List.getElem_mem hi, by rw [ht]; rfl⟩, rfl⟩
    rw [this]; rfl
theorem srel_lk {es : List Ety} {b tz to m : Int} {o : Ety} (h : svalid es = true) (hl : lk es b = some o) (h1 : 0 ≤ tz ∧ 0 ≤ to ∧ 0 ≤ m ∧ m ≤ 255) :
    (srel es b o.v o.z o.o tz to m).2 = true ∧ svalid (srel es b o.v o.z o.o tz to m).1 = true ∧ ∀ c, lk (srel es b o.v o.z o.o tz to m).1 c = if c = b then some ⟨o.b, o.k, o.v, m, tz, to⟩ else lk es c := by
  have hs : shere es b = true := by rw [shere_lk h, hl]; rfl
  have ho : sold es b = o := by rw [sold_lk h, hl]; rfl
  obtain ⟨hlt, q1, q2⟩ := shere_lt hs
  have hob : o.b = b := ((lk_iff h).1 hl).2
  have hR := right_of h hl
  have e : srel es b o.v o.z o.o tz to m = (es.set (splace es b) ⟨o.b, o.k, o.v, m, tz, to⟩, true) := by
    unfold srel
    rw [if_neg (by simp [h]), ho, hs, if_pos (by simp; omega)]
  rw [e]
  have hb : es[splace es b].b = (⟨o.b, o.k, o.v, m, tz, to⟩ : Ety).b := by show _ = o.b; omega
  have hr : rightE ⟨o.b, o.k, o.v, m, tz, to⟩ = true := by
    unfold rightE at hR ⊢
    rw [decide_eq_true_eq] at hR ⊢
    dsimp only
    omega
  have hv := svalid_set h hr hlt hb
  refine ⟨rfl, hv, fun c => ?_⟩
  show lk (es.set (splace es b) ⟨o.b, o.k, o.v, m, tz, to⟩) c = _
  split
  · rename_i hc
    rw [lk_iff hv, mem_set_iff h hlt hb]
    exact ⟨Or.inl rfl, by show o.b = c; omega⟩
  · rename_i hc
    cases hq : lk es c with
    | none =>
      rw [lk_none] at hq ⊢
      intro x hx hxb
      rcases (mem_set_iff h hlt hb x).1 hx with rfl | ⟨h3, h4⟩
      · exact hc (by rw [← hxb]; exact hob)
      · exact hq x h3 hxb
    | some y =>
      have hy := (lk_iff h).1 hq
      rw [lk_iff hv, mem_set_iff h hlt hb]
      exact ⟨Or.inr ⟨hy.1, by show y.b ≠ o.b; omega⟩, hy.2⟩
end Go.Proofs.Ytgjcljjgifnjdaa.Ab
