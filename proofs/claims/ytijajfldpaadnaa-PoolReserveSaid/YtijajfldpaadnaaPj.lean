/- The pool: Put. -/
import Derived.Test.YtijajfldpaadnaaPi
namespace Go.Proofs.Ytijajfldpaadnaa.Ab
set_option linter.unusedVariables false
set_option linter.unusedSimpArgs false
open Go.RowKit

theorem frGo_pw (c : Cf) : ∀ (l : List Int) (pr : Option Int), frGo c pr l = true → l.Pairwise (· < ·) ∧ (∀ x ∈ l, isData c x = true) ∧ (∀ y, pr = some y → ∀ x ∈ l, y < x) := by
  intro l
  induction l with
  | nil => intro pr _; exact ⟨List.Pairwise.nil, by simp, by simp⟩
  | cons x l ih =>
    intro pr h
    unfold frGo at h
    rw [Bool.and_eq_true, Bool.and_eq_true] at h
    obtain ⟨⟨h1, h2⟩, h3⟩ := h
    obtain ⟨p1, p2, p3⟩ := ih (some x) h3
    refine ⟨List.Pairwise.cons (fun y hy => p3 x rfl y hy) p1, ?_, ?_⟩
    · intro y hy
      rcases List.mem_cons.1 hy with rfl | hy
      · exact h1
      · exact p2 y hy
    · intro y hy z hz
      subst hy
      have h2' : y < x := of_decide_eq_true h2
      rcases List.mem_cons.1 hz with rfl | hz
      · exact h2'
      · have := p3 x rfl z hz; omega
theorem pvalid_pw {p : Po} {c : Cf} (h : pvalid p c = true) : p.f.Pairwise (· < ·) ∧ ∀ x ∈ p.f, isData c x = true := by
  unfold pvalid at h
  simp only [Bool.and_eq_true] at h
  obtain ⟨p1, p2, _⟩ := frGo_pw c p.f none h.2.1
  exact ⟨p1, p2⟩
theorem hasB_iff {l : List Int} {n : Int} : hasB l n = true ↔ n ∈ l := by
  unfold hasB eqB
  rw [List.any_eq_true]
  constructor
  · rintro ⟨x, hx, h⟩; rw [beq_iff_eq] at h; exact h ▸ hx
  · intro h; exact ⟨n, h, by simp⟩
theorem bsB_has {l : List Int} (x : Int) (hs : l.Pairwise (· < ·)) : bsB l x = hasB l x := by
  rw [Bool.eq_iff_iff, hasB_iff]
  unfold bsB
  rw [decide_eq_true_iff]
  obtain ⟨s1, s2⟩ := bsI_spec x hs
  constructor
  · intro h
    obtain ⟨h1, h2⟩ := List.getElem?_eq_some_iff.1 h
    exact h2 ▸ List.getElem_mem h1
  · intro h
    obtain ⟨a, ha, he⟩ := List.mem_iff_getElem.1 h
    have h1 : bsI l x ≤ a := by
      rcases Nat.lt_or_ge a (bsI l x) with h1 | h1
      · have := s1 a ha h1; omega
      · exact h1
    have h2 : a = bsI l x := by
      rcases Nat.lt_or_ge (bsI l x) a with h2 | h2
      · have h3 := List.pairwise_iff_getElem.1 hs (bsI l x) a (by omega) ha h2
        have := s2 (bsI l x) (by omega) (Nat.le_refl _)
        omega
      · omega
    subst h2
    rw [List.getElem?_eq_getElem ha, he]
def ins (l : List Int) (x : Int) : List Int := l.take (bsI l x) ++ x :: l.drop (bsI l x)
def pput (p : Po) (c : Cf) (z : Int) : Po × Bool := if pvalid p c = true ∧ isData c z = true ∧ hasB p.f z = false ∧ z ≠ p.h ∧ z ≠ p.c then (⟨ins p.f z, p.h, p.c⟩, true) else (p, false)
set_option maxRecDepth 100000 in
set_option maxHeartbeats 16000000 in
theorem pputF (p : Po) (c : Cf) (z : Int) (hf : p.f.length ≤ 100000) : Fun Try.prog 60 [poV p, cfV c, i64V z] [] (.tup [poV (pput p c z).1, bV (pput p c z).2]) := by
  obtain ⟨f, ho, cl⟩ := p
  dsimp only at hf
  have hcl := pcloneF f ho cl (by omega)
  have hcC := pcloneC f ho cl (by omega)
  have hb := binF f z (by omega)
  have hv := pvalidF ⟨f, ho, cl⟩ c (by dsimp only; omega)
  have hd := isDataF c z
  have hi := insertF f (bsI f z) z (bsI_le f z) hf
  have hpw := @pvalid_pw ⟨f, ho, cl⟩ c
  have hbs : pvalid ⟨f, ho, cl⟩ c = true → bsB f z = hasB f z := fun h => bsB_has z (hpw h).1
  unfold pput
  dsimp only
  unfold ins
  clear hpw
  generalize pvalid ⟨f, ho, cl⟩ c = V at hv hbs ⊢
  generalize bsB f z = B at hb hbs
  generalize bsI f z = I at hb hi ⊢
  generalize isData c z = D at hd ⊢
  cases V
  · rw [if_neg (by simp)]
    refine fun_of_vc tabOk mixOk Try.func60 rfl (by rfl) (rs := [.cell 6 41, .tmp 7]) rfl rfl 58 ?_; rw [Try.ntmps60]
    (conv => whnf); repeat (first | (refine And.intro (DrawOk.mk (by first | (simp only [List.map_cons, List.map_nil, List.nil_append, List.cons_append, List.append_nil, updsL, List.length_cons, List.length_nil]; decide +kernel) | exact rfl)) ?_; conv => whnf) | (refine And.intro rfl ?_; conv => whnf) | (refine And.intro (fun _ => ?_) (fun h => Bool.noConfusion h); conv => whnf) | (refine And.intro (fun h => Bool.noConfusion h) (fun _ => ?_); conv => whnf))
    refine ⟨_, _, hcl, ?_⟩
    (conv => whnf); repeat (first | (refine And.intro (DrawOk.mk (by first | (simp only [List.map_cons, List.map_nil, List.nil_append, List.cons_append, List.append_nil, updsL, List.length_cons, List.length_nil]; decide +kernel) | exact rfl)) ?_; conv => whnf) | (refine And.intro rfl ?_; conv => whnf) | (refine And.intro (fun _ => ?_) (fun h => Bool.noConfusion h); conv => whnf) | (refine And.intro (fun h => Bool.noConfusion h) (fun _ => ?_); conv => whnf))
    refine ⟨_, _, hb, ?_⟩
    (conv => whnf); repeat (first | (refine And.intro (DrawOk.mk (by first | (simp only [List.map_cons, List.map_nil, List.nil_append, List.cons_append, List.append_nil, updsL, List.length_cons, List.length_nil]; decide +kernel) | exact rfl)) ?_; conv => whnf) | (refine And.intro rfl ?_; conv => whnf) | (refine And.intro (fun _ => ?_) (fun h => Bool.noConfusion h); conv => whnf) | (refine And.intro (fun h => Bool.noConfusion h) (fun _ => ?_); conv => whnf))
    refine ⟨_, _, hv, ?_⟩
    (conv => whnf); repeat (first | (refine And.intro (DrawOk.mk (by first | (simp only [List.map_cons, List.map_nil, List.nil_append, List.cons_append, List.append_nil, updsL, List.length_cons, List.length_nil]; decide +kernel) | exact rfl)) ?_; conv => whnf) | (refine And.intro rfl ?_; conv => whnf) | (refine And.intro (fun _ => ?_) (fun h => Bool.noConfusion h); conv => whnf) | (refine And.intro (fun h => Bool.noConfusion h) (fun _ => ?_); conv => whnf))
    refine Exists.intro [] (And.intro List.nodup_nil ?_); ((conv => whnf); repeat (first | (refine And.intro (DrawOk.mk (by first | (simp only [List.map_cons, List.map_nil, List.nil_append, List.cons_append, List.append_nil, updsL, List.length_cons, List.length_nil]; decide +kernel) | exact rfl)) ?_; conv => whnf) | (refine And.intro rfl ?_; conv => whnf) | (refine And.intro (fun _ => ?_) (fun h => Bool.noConfusion h); conv => whnf) | (refine And.intro (fun h => Bool.noConfusion h) (fun _ => ?_); conv => whnf)))
    rfl
  have hbs := hbs rfl
  subst hbs
  cases D
  · rw [if_neg (by simp)]
    refine fun_of_vc tabOk mixOk Try.func60 rfl (by rfl) (rs := [.cell 6 41, .tmp 7]) rfl rfl 58 ?_; rw [Try.ntmps60]
    (conv => whnf); repeat (first | (refine And.intro (DrawOk.mk (by first | (simp only [List.map_cons, List.map_nil, List.nil_append, List.cons_append, List.append_nil, updsL, List.length_cons, List.length_nil]; decide +kernel) | exact rfl)) ?_; conv => whnf) | (refine And.intro rfl ?_; conv => whnf) | (refine And.intro (fun _ => ?_) (fun h => Bool.noConfusion h); conv => whnf) | (refine And.intro (fun h => Bool.noConfusion h) (fun _ => ?_); conv => whnf))
    refine ⟨_, _, hcl, ?_⟩
    (conv => whnf); repeat (first | (refine And.intro (DrawOk.mk (by first | (simp only [List.map_cons, List.map_nil, List.nil_append, List.cons_append, List.append_nil, updsL, List.length_cons, List.length_nil]; decide +kernel) | exact rfl)) ?_; conv => whnf) | (refine And.intro rfl ?_; conv => whnf) | (refine And.intro (fun _ => ?_) (fun h => Bool.noConfusion h); conv => whnf) | (refine And.intro (fun h => Bool.noConfusion h) (fun _ => ?_); conv => whnf))
    refine ⟨_, _, hb, ?_⟩
    (conv => whnf); repeat (first | (refine And.intro (DrawOk.mk (by first | (simp only [List.map_cons, List.map_nil, List.nil_append, List.cons_append, List.append_nil, updsL, List.length_cons, List.length_nil]; decide +kernel) | exact rfl)) ?_; conv => whnf) | (refine And.intro rfl ?_; conv => whnf) | (refine And.intro (fun _ => ?_) (fun h => Bool.noConfusion h); conv => whnf) | (refine And.intro (fun h => Bool.noConfusion h) (fun _ => ?_); conv => whnf))
    refine ⟨_, _, hv, ?_⟩
    (conv => whnf); repeat (first | (refine And.intro (DrawOk.mk (by first | (simp only [List.map_cons, List.map_nil, List.nil_append, List.cons_append, List.append_nil, updsL, List.length_cons, List.length_nil]; decide +kernel) | exact rfl)) ?_; conv => whnf) | (refine And.intro rfl ?_; conv => whnf) | (refine And.intro (fun _ => ?_) (fun h => Bool.noConfusion h); conv => whnf) | (refine And.intro (fun h => Bool.noConfusion h) (fun _ => ?_); conv => whnf))
    refine ⟨_, _, hd, ?_⟩
    (conv => whnf); repeat (first | (refine And.intro (DrawOk.mk (by first | (simp only [List.map_cons, List.map_nil, List.nil_append, List.cons_append, List.append_nil, updsL, List.length_cons, List.length_nil]; decide +kernel) | exact rfl)) ?_; conv => whnf) | (refine And.intro rfl ?_; conv => whnf) | (refine And.intro (fun _ => ?_) (fun h => Bool.noConfusion h); conv => whnf) | (refine And.intro (fun h => Bool.noConfusion h) (fun _ => ?_); conv => whnf))
    refine Exists.intro [] (And.intro List.nodup_nil ?_); ((conv => whnf); repeat (first | (refine And.intro (DrawOk.mk (by first | (simp only [List.map_cons, List.map_nil, List.nil_append, List.cons_append, List.append_nil, updsL, List.length_cons, List.length_nil]; decide +kernel) | exact rfl)) ?_; conv => whnf) | (refine And.intro rfl ?_; conv => whnf) | (refine And.intro (fun _ => ?_) (fun h => Bool.noConfusion h); conv => whnf) | (refine And.intro (fun h => Bool.noConfusion h) (fun _ => ?_); conv => whnf)))
    rfl
  generalize hasB f z = B at hb ⊢
  cases B
  rotate_left
  · rw [if_neg (by simp)]
    refine fun_of_vc tabOk mixOk Try.func60 rfl (by rfl) (rs := [.cell 6 41, .tmp 7]) rfl rfl 58 ?_; rw [Try.ntmps60]
    (conv => whnf); repeat (first | (refine And.intro (DrawOk.mk (by first | (simp only [List.map_cons, List.map_nil, List.nil_append, List.cons_append, List.append_nil, updsL, List.length_cons, List.length_nil]; decide +kernel) | exact rfl)) ?_; conv => whnf) | (refine And.intro rfl ?_; conv => whnf) | (refine And.intro (fun _ => ?_) (fun h => Bool.noConfusion h); conv => whnf) | (refine And.intro (fun h => Bool.noConfusion h) (fun _ => ?_); conv => whnf))
    refine ⟨_, _, hcl, ?_⟩
    (conv => whnf); repeat (first | (refine And.intro (DrawOk.mk (by first | (simp only [List.map_cons, List.map_nil, List.nil_append, List.cons_append, List.append_nil, updsL, List.length_cons, List.length_nil]; decide +kernel) | exact rfl)) ?_; conv => whnf) | (refine And.intro rfl ?_; conv => whnf) | (refine And.intro (fun _ => ?_) (fun h => Bool.noConfusion h); conv => whnf) | (refine And.intro (fun h => Bool.noConfusion h) (fun _ => ?_); conv => whnf))
    refine ⟨_, _, hb, ?_⟩
    (conv => whnf); repeat (first | (refine And.intro (DrawOk.mk (by first | (simp only [List.map_cons, List.map_nil, List.nil_append, List.cons_append, List.append_nil, updsL, List.length_cons, List.length_nil]; decide +kernel) | exact rfl)) ?_; conv => whnf) | (refine And.intro rfl ?_; conv => whnf) | (refine And.intro (fun _ => ?_) (fun h => Bool.noConfusion h); conv => whnf) | (refine And.intro (fun h => Bool.noConfusion h) (fun _ => ?_); conv => whnf))
    refine ⟨_, _, hv, ?_⟩
    (conv => whnf); repeat (first | (refine And.intro (DrawOk.mk (by first | (simp only [List.map_cons, List.map_nil, List.nil_append, List.cons_append, List.append_nil, updsL, List.length_cons, List.length_nil]; decide +kernel) | exact rfl)) ?_; conv => whnf) | (refine And.intro rfl ?_; conv => whnf) | (refine And.intro (fun _ => ?_) (fun h => Bool.noConfusion h); conv => whnf) | (refine And.intro (fun h => Bool.noConfusion h) (fun _ => ?_); conv => whnf))
    refine ⟨_, _, hd, ?_⟩
    (conv => whnf); repeat (first | (refine And.intro (DrawOk.mk (by first | (simp only [List.map_cons, List.map_nil, List.nil_append, List.cons_append, List.append_nil, updsL, List.length_cons, List.length_nil]; decide +kernel) | exact rfl)) ?_; conv => whnf) | (refine And.intro rfl ?_; conv => whnf) | (refine And.intro (fun _ => ?_) (fun h => Bool.noConfusion h); conv => whnf) | (refine And.intro (fun h => Bool.noConfusion h) (fun _ => ?_); conv => whnf))
    refine Exists.intro [] (And.intro List.nodup_nil ?_); ((conv => whnf); repeat (first | (refine And.intro (DrawOk.mk (by first | (simp only [List.map_cons, List.map_nil, List.nil_append, List.cons_append, List.append_nil, updsL, List.length_cons, List.length_nil]; decide +kernel) | exact rfl)) ?_; conv => whnf) | (refine And.intro rfl ?_; conv => whnf) | (refine And.intro (fun _ => ?_) (fun h => Bool.noConfusion h); conv => whnf) | (refine And.intro (fun h => Bool.noConfusion h) (fun _ => ?_); conv => whnf)))
    rfl
  by_cases h1 : z = ho
  · rw [if_neg (by simp [h1])]
    refine fun_of_vc tabOk mixOk Try.func60 rfl (by rfl) (rs := [.cell 6 41, .tmp 7]) rfl rfl 58 ?_; rw [Try.ntmps60]
    (conv => whnf); repeat (first | (refine And.intro (DrawOk.mk (by first | (simp only [List.map_cons, List.map_nil, List.nil_append, List.cons_append, List.append_nil, updsL, List.length_cons, List.length_nil]; decide +kernel) | exact rfl)) ?_; conv => whnf) | (refine And.intro rfl ?_; conv => whnf) | (refine And.intro (fun _ => ?_) (fun h => Bool.noConfusion h); conv => whnf) | (refine And.intro (fun h => Bool.noConfusion h) (fun _ => ?_); conv => whnf))
    refine ⟨_, _, hcl, ?_⟩
    (conv => whnf); repeat (first | (refine And.intro (DrawOk.mk (by first | (simp only [List.map_cons, List.map_nil, List.nil_append, List.cons_append, List.append_nil, updsL, List.length_cons, List.length_nil]; decide +kernel) | exact rfl)) ?_; conv => whnf) | (refine And.intro rfl ?_; conv => whnf) | (refine And.intro (fun _ => ?_) (fun h => Bool.noConfusion h); conv => whnf) | (refine And.intro (fun h => Bool.noConfusion h) (fun _ => ?_); conv => whnf))
    refine ⟨_, _, hb, ?_⟩
    (conv => whnf); repeat (first | (refine And.intro (DrawOk.mk (by first | (simp only [List.map_cons, List.map_nil, List.nil_append, List.cons_append, List.append_nil, updsL, List.length_cons, List.length_nil]; decide +kernel) | exact rfl)) ?_; conv => whnf) | (refine And.intro rfl ?_; conv => whnf) | (refine And.intro (fun _ => ?_) (fun h => Bool.noConfusion h); conv => whnf) | (refine And.intro (fun h => Bool.noConfusion h) (fun _ => ?_); conv => whnf))
    refine ⟨_, _, hv, ?_⟩
    (conv => whnf); repeat (first | (refine And.intro (DrawOk.mk (by first | (simp only [List.map_cons, List.map_nil, List.nil_append, List.cons_append, List.append_nil, updsL, List.length_cons, List.length_nil]; decide +kernel) | exact rfl)) ?_; conv => whnf) | (refine And.intro rfl ?_; conv => whnf) | (refine And.intro (fun _ => ?_) (fun h => Bool.noConfusion h); conv => whnf) | (refine And.intro (fun h => Bool.noConfusion h) (fun _ => ?_); conv => whnf))
    refine ⟨_, _, hd, ?_⟩
    (conv => whnf); repeat (first | (refine And.intro (DrawOk.mk (by first | (simp only [List.map_cons, List.map_nil, List.nil_append, List.cons_append, List.append_nil, updsL, List.length_cons, List.length_nil]; decide +kernel) | exact rfl)) ?_; conv => whnf) | (refine And.intro rfl ?_; conv => whnf) | (refine And.intro (fun _ => ?_) (fun h => Bool.noConfusion h); conv => whnf) | (refine And.intro (fun h => Bool.noConfusion h) (fun _ => ?_); conv => whnf))
    refine And.intro (fun _ => ?_) (fun h => absurd h (by simp [h1]))
    (conv => whnf); repeat (first | (refine And.intro (DrawOk.mk (by first | (simp only [List.map_cons, List.map_nil, List.nil_append, List.cons_append, List.append_nil, updsL, List.length_cons, List.length_nil]; decide +kernel) | exact rfl)) ?_; conv => whnf) | (refine And.intro rfl ?_; conv => whnf) | (refine And.intro (fun _ => ?_) (fun h => Bool.noConfusion h); conv => whnf) | (refine And.intro (fun h => Bool.noConfusion h) (fun _ => ?_); conv => whnf))
    refine Exists.intro [] (And.intro List.nodup_nil ?_); ((conv => whnf); repeat (first | (refine And.intro (DrawOk.mk (by first | (simp only [List.map_cons, List.map_nil, List.nil_append, List.cons_append, List.append_nil, updsL, List.length_cons, List.length_nil]; decide +kernel) | exact rfl)) ?_; conv => whnf) | (refine And.intro rfl ?_; conv => whnf) | (refine And.intro (fun _ => ?_) (fun h => Bool.noConfusion h); conv => whnf) | (refine And.intro (fun h => Bool.noConfusion h) (fun _ => ?_); conv => whnf)))
    rfl
  by_cases h2 : z = cl
  · rw [if_neg (by simp [h2])]
    refine fun_of_vc tabOk mixOk Try.func60 rfl (by rfl) (rs := [.cell 6 41, .tmp 7]) rfl rfl 58 ?_; rw [Try.ntmps60]
    (conv => whnf); repeat (first | (refine And.intro (DrawOk.mk (by first | (simp only [List.map_cons, List.map_nil, List.nil_append, List.cons_append, List.append_nil, updsL, List.length_cons, List.length_nil]; decide +kernel) | exact rfl)) ?_; conv => whnf) | (refine And.intro rfl ?_; conv => whnf) | (refine And.intro (fun _ => ?_) (fun h => Bool.noConfusion h); conv => whnf) | (refine And.intro (fun h => Bool.noConfusion h) (fun _ => ?_); conv => whnf))
    refine ⟨_, _, hcl, ?_⟩
    (conv => whnf); repeat (first | (refine And.intro (DrawOk.mk (by first | (simp only [List.map_cons, List.map_nil, List.nil_append, List.cons_append, List.append_nil, updsL, List.length_cons, List.length_nil]; decide +kernel) | exact rfl)) ?_; conv => whnf) | (refine And.intro rfl ?_; conv => whnf) | (refine And.intro (fun _ => ?_) (fun h => Bool.noConfusion h); conv => whnf) | (refine And.intro (fun h => Bool.noConfusion h) (fun _ => ?_); conv => whnf))
    refine ⟨_, _, hb, ?_⟩
    (conv => whnf); repeat (first | (refine And.intro (DrawOk.mk (by first | (simp only [List.map_cons, List.map_nil, List.nil_append, List.cons_append, List.append_nil, updsL, List.length_cons, List.length_nil]; decide +kernel) | exact rfl)) ?_; conv => whnf) | (refine And.intro rfl ?_; conv => whnf) | (refine And.intro (fun _ => ?_) (fun h => Bool.noConfusion h); conv => whnf) | (refine And.intro (fun h => Bool.noConfusion h) (fun _ => ?_); conv => whnf))
    refine ⟨_, _, hv, ?_⟩
    (conv => whnf); repeat (first | (refine And.intro (DrawOk.mk (by first | (simp only [List.map_cons, List.map_nil, List.nil_append, List.cons_append, List.append_nil, updsL, List.length_cons, List.length_nil]; decide +kernel) | exact rfl)) ?_; conv => whnf) | (refine And.intro rfl ?_; conv => whnf) | (refine And.intro (fun _ => ?_) (fun h => Bool.noConfusion h); conv => whnf) | (refine And.intro (fun h => Bool.noConfusion h) (fun _ => ?_); conv => whnf))
    refine ⟨_, _, hd, ?_⟩
    (conv => whnf); repeat (first | (refine And.intro (DrawOk.mk (by first | (simp only [List.map_cons, List.map_nil, List.nil_append, List.cons_append, List.append_nil, updsL, List.length_cons, List.length_nil]; decide +kernel) | exact rfl)) ?_; conv => whnf) | (refine And.intro rfl ?_; conv => whnf) | (refine And.intro (fun _ => ?_) (fun h => Bool.noConfusion h); conv => whnf) | (refine And.intro (fun h => Bool.noConfusion h) (fun _ => ?_); conv => whnf))
    refine And.intro (fun h => absurd h (by simp [h1])) (fun _ => ?_)
    (conv => whnf); repeat (first | (refine And.intro (DrawOk.mk (by first | (simp only [List.map_cons, List.map_nil, List.nil_append, List.cons_append, List.append_nil, updsL, List.length_cons, List.length_nil]; decide +kernel) | exact rfl)) ?_; conv => whnf) | (refine And.intro rfl ?_; conv => whnf) | (refine And.intro (fun _ => ?_) (fun h => Bool.noConfusion h); conv => whnf) | (refine And.intro (fun h => Bool.noConfusion h) (fun _ => ?_); conv => whnf))
    refine And.intro (fun _ => ?_) (fun h => absurd h (by simp [h2]))
    (conv => whnf); repeat (first | (refine And.intro (DrawOk.mk (by first | (simp only [List.map_cons, List.map_nil, List.nil_append, List.cons_append, List.append_nil, updsL, List.length_cons, List.length_nil]; decide +kernel) | exact rfl)) ?_; conv => whnf) | (refine And.intro rfl ?_; conv => whnf) | (refine And.intro (fun _ => ?_) (fun h => Bool.noConfusion h); conv => whnf) | (refine And.intro (fun h => Bool.noConfusion h) (fun _ => ?_); conv => whnf))
    refine Exists.intro [] (And.intro List.nodup_nil ?_); ((conv => whnf); repeat (first | (refine And.intro (DrawOk.mk (by first | (simp only [List.map_cons, List.map_nil, List.nil_append, List.cons_append, List.append_nil, updsL, List.length_cons, List.length_nil]; decide +kernel) | exact rfl)) ?_; conv => whnf) | (refine And.intro rfl ?_; conv => whnf) | (refine And.intro (fun _ => ?_) (fun h => Bool.noConfusion h); conv => whnf) | (refine And.intro (fun h => Bool.noConfusion h) (fun _ => ?_); conv => whnf)))
    rfl
  rw [if_pos ⟨rfl, rfl, rfl, h1, h2⟩]
  refine fun_of_vc tabOk mixOk Try.func60 rfl (by rfl) (rs := [.cell 6 41, .tmp 7]) rfl rfl 58 ?_; rw [Try.ntmps60]
  (conv => whnf); repeat (first | (refine And.intro (DrawOk.mk (by first | (simp only [List.map_cons, List.map_nil, List.nil_append, List.cons_append, List.append_nil, updsL, List.length_cons, List.length_nil]; decide +kernel) | exact rfl)) ?_; conv => whnf) | (refine And.intro rfl ?_; conv => whnf) | (refine And.intro (fun _ => ?_) (fun h => Bool.noConfusion h); conv => whnf) | (refine And.intro (fun h => Bool.noConfusion h) (fun _ => ?_); conv => whnf))
  refine ⟨_, _, hcC, ?_⟩
  (conv => whnf); repeat (first | (refine And.intro (DrawOk.mk (by first | (simp only [List.map_cons, List.map_nil, List.nil_append, List.cons_append, List.append_nil, updsL, List.length_cons, List.length_nil]; decide +kernel) | exact rfl)) ?_; conv => whnf) | (refine And.intro rfl ?_; conv => whnf) | (refine And.intro (fun _ => ?_) (fun h => Bool.noConfusion h); conv => whnf) | (refine And.intro (fun h => Bool.noConfusion h) (fun _ => ?_); conv => whnf))
  refine ⟨_, _, hb, ?_⟩
  (conv => whnf); repeat (first | (refine And.intro (DrawOk.mk (by first | (simp only [List.map_cons, List.map_nil, List.nil_append, List.cons_append, List.append_nil, updsL, List.length_cons, List.length_nil]; decide +kernel) | exact rfl)) ?_; conv => whnf) | (refine And.intro rfl ?_; conv => whnf) | (refine And.intro (fun _ => ?_) (fun h => Bool.noConfusion h); conv => whnf) | (refine And.intro (fun h => Bool.noConfusion h) (fun _ => ?_); conv => whnf))
  refine ⟨_, _, hv, ?_⟩
  (conv => whnf); repeat (first | (refine And.intro (DrawOk.mk (by first | (simp only [List.map_cons, List.map_nil, List.nil_append, List.cons_append, List.append_nil, updsL, List.length_cons, List.length_nil]; decide +kernel) | exact rfl)) ?_; conv => whnf) | (refine And.intro rfl ?_; conv => whnf) | (refine And.intro (fun _ => ?_) (fun h => Bool.noConfusion h); conv => whnf) | (refine And.intro (fun h => Bool.noConfusion h) (fun _ => ?_); conv => whnf))
  refine ⟨_, _, hd, ?_⟩
  (conv => whnf); repeat (first | (refine And.intro (DrawOk.mk (by first | (simp only [List.map_cons, List.map_nil, List.nil_append, List.cons_append, List.append_nil, updsL, List.length_cons, List.length_nil]; decide +kernel) | exact rfl)) ?_; conv => whnf) | (refine And.intro rfl ?_; conv => whnf) | (refine And.intro (fun _ => ?_) (fun h => Bool.noConfusion h); conv => whnf) | (refine And.intro (fun h => Bool.noConfusion h) (fun _ => ?_); conv => whnf))
  refine And.intro (fun h => absurd h (by simp [h1])) (fun _ => ?_)
  (conv => whnf); repeat (first | (refine And.intro (DrawOk.mk (by first | (simp only [List.map_cons, List.map_nil, List.nil_append, List.cons_append, List.append_nil, updsL, List.length_cons, List.length_nil]; decide +kernel) | exact rfl)) ?_; conv => whnf) | (refine And.intro rfl ?_; conv => whnf) | (refine And.intro (fun _ => ?_) (fun h => Bool.noConfusion h); conv => whnf) | (refine And.intro (fun h => Bool.noConfusion h) (fun _ => ?_); conv => whnf))
  refine And.intro (fun h => absurd h (by simp [h2])) (fun _ => ?_)
  (conv => whnf); repeat (first | (refine And.intro (DrawOk.mk (by first | (simp only [List.map_cons, List.map_nil, List.nil_append, List.cons_append, List.append_nil, updsL, List.length_cons, List.length_nil]; decide +kernel) | exact rfl)) ?_; conv => whnf) | (refine And.intro rfl ?_; conv => whnf) | (refine And.intro (fun _ => ?_) (fun h => Bool.noConfusion h); conv => whnf) | (refine And.intro (fun h => Bool.noConfusion h) (fun _ => ?_); conv => whnf))
  refine ⟨_, _, hi, ?_⟩
  (conv => whnf); repeat (first | (refine And.intro (DrawOk.mk (by first | (simp only [List.map_cons, List.map_nil, List.nil_append, List.cons_append, List.append_nil, updsL, List.length_cons, List.length_nil]; decide +kernel) | exact rfl)) ?_; conv => whnf) | (refine And.intro rfl ?_; conv => whnf) | (refine And.intro (fun _ => ?_) (fun h => Bool.noConfusion h); conv => whnf) | (refine And.intro (fun h => Bool.noConfusion h) (fun _ => ?_); conv => whnf))
  refine Exists.intro [] (And.intro List.nodup_nil ?_); ((conv => whnf); repeat (first | (refine And.intro (DrawOk.mk (by first | (simp only [List.map_cons, List.map_nil, List.nil_append, List.cons_append, List.append_nil, updsL, List.length_cons, List.length_nil]; decide +kernel) | exact rfl)) ?_; conv => whnf) | (refine And.intro rfl ?_; conv => whnf) | (refine And.intro (fun _ => ?_) (fun h => Bool.noConfusion h); conv => whnf) | (refine And.intro (fun h => Bool.noConfusion h) (fun _ => ?_); conv => whnf)))
  rfl
end Go.Proofs.Ytijajfldpaadnaa.Ab
