/- A loop's head: the slots that a round writes are forgotten but for those that are named; rows that are not kept never turn again. No condition. -/
import Derived.Test.YtikchieadclbhaaGreatDoorZ21
namespace Go.Proofs.YtikchieadclbhaaGreatDoor.Ab
set_option linter.unusedVariables false
set_option linter.unusedSimpArgs false
open Go.RowKit

/-- One cell said anew. H: the entries; D: is the entry given up? -/
def cv1 (H : Nat → Blk) (D : Nat → Bool) (x y : AV1) : Prop :=
  match y with
  | .un => True
  | .i (.sl es) => match x with
    | .own b g => match H b with
      | .row g' _ _ es' => g' = g ∧ D b = true ∧ es' = es
      | .froz g' es' => g' = g ∧ es' = es
      | _ => False
    | .nl => es = []
    | .slx es' => es' = es
    | .i (.sl es') => es' = es
    | .sly es' _ => es' = es
    | _ => False
  | .i (.sc v) => match x with
    | .lit b => Value.bool b = v
    | .i (.sc u) => u = v
    | _ => False
  | .nl => x = .nl
  | .ptr b g off => x = .ptr b g off
  | .own b g => x = .own b g
  | .eptr b g sz k off => x = .eptr b g sz k off
  | .pim cs => x = .pim cs
  | .slx es => x = .slx es
  | .sly es c => x = .sly es c
  | .osub b g sz lo hi => x = .osub b g sz lo hi
  | .clo f ps => x = .clo f ps
  | .lit b => x = .lit b
  | .bl => x = .bl
def cvL (H : Nat → Blk) (D : Nat → Bool) : List AV1 → List AV1 → Prop
  | [], [] => True
  | x :: l, y :: m => cv1 H D x y ∧ cvL H D l m
  | _, _ => False
def cvV (H : Nat → Blk) (D : Nat → Bool) (x y : AV) : Prop :=
  match y with
  | .c .un => True
  | .c y => match x with
    | .c x => cv1 H D x y
    | .agg _ => False
  | .agg ds => match x with
    | .agg cs => cvL H D cs ds
    | .c _ => False
def cvVs (H : Nat → Blk) (D : Nat → Bool) : List AV → List AV → Prop
  | [], [] => True
  | x :: l, y :: m => cvV H D x y ∧ cvVs H D l m
  | _, _ => False
def cvT (H : Nat → Blk) (D : Nat → Bool) (x y : AT) : Prop :=
  match y with
  | .v (.c .un) => True
  | .v y => match x with
    | .v x => cvV H D x y
    | .tup _ => False
  | .tup ys => match x with
    | .tup xs => cvVs H D xs ys
    | .v _ => False
def cvB (H : Nat → Blk) (D : Nat → Bool) (x y : Blk) : Prop :=
  match y with
  | .dead g => x.gen = g
  | .var g ds => match x with
    | .var g' cs => g' = g ∧ cvL H D cs ds
    | _ => False
  | .row g E sz es => x = .row g E sz es
  | .froz g es => x = .froz g es
  | .mp g kk ag f => x = .mp g kk ag f
  | .rowp g E sz es N => x = .rowp g E sz es N
def Blk.isDead : Blk → Bool
  | .dead _ => true
  | _ => false
/-- The state said anew. -/
structure Back (S S0 : St) : Prop where
  lt : S.t.length = S0.t.length
  lh : S.h.length = S0.h.length
  tt : ∀ (i : Nat) x y, S.t[i]? = some x → S0.t[i]? = some y → cvT S.blk (fun b => (S0.blk b).isDead) x y
  hh : ∀ (i : Nat) x y, S.h[i]? = some x → S0.h[i]? = some y → cvB S.blk (fun b => (S0.blk b).isDead) x y

theorem cvL_get {H : Nat → Blk} {D : Nat → Bool} {l m : List AV1} (h : cvL H D l m) : l.length = m.length ∧ ∀ (i : Nat) x y, l[i]? = some x → m[i]? = some y → cv1 H D x y := by
  induction l generalizing m with
  | nil => cases m with
    | nil => exact ⟨rfl, fun i x y hx => by simp at hx⟩
    | cons y m => exact h.elim
  | cons x l ih => cases m with
    | nil => exact h.elim
    | cons y m =>
      obtain ⟨h1, h2⟩ := ih h.2
      refine ⟨by simp [h1], fun i x' y' hx hy => ?_⟩
      cases i with
      | zero => simp at hx hy; subst hx hy; exact h.1
      | succ i => exact h2 i x' y' (by simpa using hx) (by simpa using hy)
theorem cvVs_get {H : Nat → Blk} {D : Nat → Bool} {l m : List AV} (h : cvVs H D l m) : l.length = m.length ∧ ∀ (i : Nat) x y, l[i]? = some x → m[i]? = some y → cvV H D x y := by
  induction l generalizing m with
  | nil => cases m with
    | nil => exact ⟨rfl, fun i x y hx => by simp at hx⟩
    | cons y m => exact h.elim
  | cons x l ih => cases m with
    | nil => exact h.elim
    | cons y m =>
      obtain ⟨h1, h2⟩ := ih h.2
      refine ⟨by simp [h1], fun i x' y' hx hy => ?_⟩
      cases i with
      | zero => simp at hx hy; subst hx hy; exact h.1
      | succ i => exact h2 i x' y' (by simpa using hx) (by simpa using hy)
section
variable {P : Program} {T : Nat → TI} {W0 : Ent} {w : World} {ok : Nat → Prop} {σ : Nat → Nat → Value} {S S0 : St} {a : Act}

/-- What is ok behind the turn: the rows that are given up. -/
def GiveOk (S : St) (σ : Nat → Nat → Value) (ok : Nat → Prop) (D : Nat → Bool) (k : Nat) : Prop := ok k ∨ ∃ (b : Nat) (B : Blk), D b = true ∧ S.h[b]? = some B ∧ B.at σ b = some k

theorem cv1_rep (hC : Conf W0 ok σ S a w) {D : Nat → Bool} {x y : AV1} {v : Value} (h : cv1 S.blk D x y) (hx : Rep1 w ok σ S.G x v) : Rep1 w (GiveOk S σ ok D) σ S.G y v := by
  have up : ∀ {y : AV1}, Rep1 w ok σ S.G y v → Rep1 w (GiveOk S σ ok D) σ S.G y v := fun hr => Rep1.mono (later_ok (fun _ h => Or.inl h) w σ S.G) hr
  unfold cv1 at h
  split at h
  · exact trivial
  · rename_i es
    split at h
    · rename_i b g
      obtain ⟨_, hv, _⟩ := hx
      split at h
      · rename_i g' E sz es' hb
        obtain ⟨rfl, hD, rfl⟩ := h
        have hbs := blk_some hb (fun g e => by cases e)
        show RepI w _ (.sl es') v
        rw [hv]
        refine row_RepI (hC.blk b _ hbs) (fun _ h => Or.inl h) (fun n hn => Or.inr ⟨b, _, hD, hbs, ?_⟩)
        obtain ⟨xs, e1, _⟩ := hC.blk b _ hbs
        simp only [Blk.at]
        rcases e1.2 with ⟨e5, _⟩ | ⟨mm, cap, cur, e5, _⟩
        · rw [e5] at hn; simp [Value.ownBlock] at hn
        · rw [e5] at hn ⊢; simpa [Value.blkNo, Value.ownBlock] using hn
      · rename_i g' es' hb
        obtain ⟨rfl, rfl⟩ := h
        have hR : RepI w ok (.sl es') (σ b g') := hC.blk b _ (blk_some hb (fun g e => by cases e))
        rw [← hv] at hR
        exact up (y := .i (.sl es')) hR
      · exact h.elim
    · subst h
      rw [show v = .slice none 0 0 from hx]
      exact RepI.nil _ _ (Nat.zero_le _)
    · rename_i es'
      subst h
      obtain ⟨A, _, hr⟩ := hx
      exact up (y := .i (.sl es')) hr
    · subst h; exact up hx
    · rename_i es' c
      subst h
      obtain ⟨A, _, hr, _⟩ := hx
      exact up (y := .i (.sl es')) hr
    · exact h.elim
  · rename_i u
    split at h
    · rename_i b
      subst h
      rw [show v = .bool b from hx]
      exact RepI.sc _ rfl
    · subst h; exact up hx
    · exact h.elim
  all_goals (subst h; exact up hx)

theorem cvV_rep (hC : Conf W0 ok σ S a w) {D : Nat → Bool} {x y : AV} {v : Value} (h : cvV S.blk D x y) (hx : RepV w ok σ S.G x v) : RepV w (GiveOk S σ ok D) σ S.G y v := by
  unfold cvV at h
  split at h
  · exact trivial
  · split at h
    · exact cv1_rep hC h hx
    · exact h.elim
  · split at h
    · obtain ⟨l1, l2⟩ := cvL_get h
      obtain ⟨arr, e1, e2, e3⟩ := hx
      refine ⟨arr, e1, by rw [e2, l1], fun j u y hu hy => ?_⟩
      rename_i cs
      have hj : j < cs.length := by rw [l1]; exact (List.getElem?_eq_some_iff.1 hy).1
      obtain ⟨r1, r2⟩ := e3 j u _ hu (List.getElem?_eq_getElem hj)
      exact ⟨cv1_rep hC (l2 j _ y (List.getElem?_eq_getElem hj) hy) r1, r2⟩
    · exact h.elim

theorem cvT_rep (hC : Conf W0 ok σ S a w) {D : Nat → Bool} {x y : AT} {v : Value} (h : cvT S.blk D x y) (hx : RepT w ok σ S.G x v) : RepT w (GiveOk S σ ok D) σ S.G y v := by
  unfold cvT at h
  split at h
  · exact trivial
  · split at h
    · exact cvV_rep hC h hx
    · exact h.elim
  · split at h
    · obtain ⟨l1, l2⟩ := cvVs_get h
      obtain ⟨arr, e1, e2, e3⟩ := hx
      refine ⟨arr, e1, by rw [e2, l1], fun j u y hu hy => ?_⟩
      rename_i xs
      have hj : j < xs.length := by rw [l1]; exact (List.getElem?_eq_some_iff.1 hy).1
      exact cvV_rep hC (l2 j _ y (List.getElem?_eq_getElem hj) hy) (e3 j u _ hu (List.getElem?_eq_getElem hj))
    · exact h.elim

theorem cvB_gen {H : Nat → Blk} {D : Nat → Bool} {x y : Blk} (h : cvB H D x y) : y.gen = x.gen := by
  unfold cvB at h
  split at h
  · rw [h]; rfl
  · split at h
    · rw [← h.1]; rfl
    · exact h.elim
  · rw [h]
  · rw [h]
  · rw [h]
  · rw [h]

theorem Back.ghost (h : Back S S0) : Ghost S S0 := by
  intro W0 ok σ a w hC
  obtain ⟨t1, h1, t2, h2⟩ := h
  have hG : S0.G = S.G := by
    funext c
    unfold St.G
    by_cases hc : c < S.h.length
    · rw [List.getElem?_eq_getElem hc, List.getElem?_eq_getElem (show c < S0.h.length by omega)]
      exact cvB_gen (h2 c _ _ (List.getElem?_eq_getElem hc) (List.getElem?_eq_getElem (show c < S0.h.length by omega)))
    · rw [List.getElem?_eq_none (by omega), List.getElem?_eq_none (by omega)]
  have hof : ∀ (b : Nat) B, S0.h[b]? = some B → ∃ C, S.h[b]? = some C ∧ cvB S.blk (fun b => (S0.blk b).isDead) C B := by
    intro b B hB
    have hb : b < S.h.length := by rw [h1]; exact (List.getElem?_eq_some_iff.1 hB).1
    exact ⟨_, List.getElem?_eq_getElem hb, h2 b _ _ (List.getElem?_eq_getElem hb) hB⟩
  have hatt : ∀ {b : Nat} {B C : Blk} {n : Nat}, cvB S.blk (fun b => (S0.blk b).isDead) C B → B.at σ b = some n → C.at σ b = some n := by
    intro b B C n h hn
    unfold cvB at h
    split at h
    · simp [Blk.at] at hn
    · split at h
      · obtain ⟨rfl, _⟩ := h; exact hn
      · exact h.elim
    · rw [h]; exact hn
    · rw [h]; exact hn
    · rw [h]; exact hn
    · rw [h]; exact hn
  have hblk0 : ∀ {b : Nat} {B : Blk}, S0.h[b]? = some B → S0.blk b = B := by
    intro b B hB
    unfold St.blk
    rw [nthO_eq, hB]; rfl
  -- a block that stays in use is not given up
  have hno : ∀ {b : Nat} {B C : Blk} {n : Nat}, S0.h[b]? = some B → S.h[b]? = some C → B.isDead = false → C.at σ b = some n → ¬ ok n → ¬ GiveOk S σ ok (fun b => (S0.blk b).isDead) n := by
    intro b B C n hB hC' hd hn hk hh
    rcases hh with hh | ⟨b', B', hD, hB', hn'⟩
    · exact hk hh
    · have hne : b ≠ b' := by
        rintro rfl
        have hD' : (S0.blk b).isDead = true := hD
        rw [hblk0 hB, hd] at hD'
        cases hD'
      exact hC.apart b b' C B' hC' hB' hne n hn hn'
  refine ⟨GiveOk S σ ok (fun b => (S0.blk b).isDead), σ, hC.below, hC.hole, fun k => ⟨fun hk => Or.inl ((hC.base k).1 hk), fun hk => ?_⟩, hC.defers, fun k hk => ?_, by rw [hC.size, t1], fun i v x hv hx => ?_, fun b B hB => ?_, fun b b' B B' hB hB' hne n hn hn' => ?_⟩
  · rcases hk with hk | ⟨b, B, _, hB, hn⟩
    · exact (hC.base k).2 hk
    · exact Or.inr (at_bounds (hC.blk b B hB) hn).1
  · rcases hk with hk | ⟨b, B, _, hB, hn⟩
    · exact hC.okb k hk
    · exact (at_bounds (hC.blk b B hB) hn).2.1
  · have hi : i < S.t.length := by rw [t1]; exact (List.getElem?_eq_some_iff.1 hx).1
    rw [hG]
    exact cvT_rep hC (t2 i _ x (List.getElem?_eq_getElem hi) hx) (hC.tmp i v _ hv (List.getElem?_eq_getElem hi))
  · obtain ⟨C, hC', hcv⟩ := hof b B hB
    have hR := hC.blk b C hC'
    have hL := later_ok (ok := ok) (ok' := GiveOk S σ ok (fun b => (S0.blk b).isDead)) (fun _ h => Or.inl h) w σ S.G
    rw [hG]
    have hcv' := hcv
    unfold cvB at hcv
    split at hcv
    · exact trivial
    · rename_i g ds
      split at hcv
      · rename_i g' cs
        obtain ⟨rfl, hcv⟩ := hcv
        obtain ⟨l1, l2⟩ := cvL_get hcv
        obtain ⟨n, arr, ty, e1, e2, e3, e4, e5, e6⟩ := hR
        refine ⟨n, arr, ty, e1, e2, hno hB hC' rfl (by simp [Blk.at, e1, Value.blkNo]) e3, e4, by rw [e5, l1], fun j u y hu hy => ?_⟩
        have hj : j < cs.length := by rw [l1]; exact (List.getElem?_eq_some_iff.1 hy).1
        obtain ⟨r1, r2⟩ := e6 j u _ hu (List.getElem?_eq_getElem hj)
        exact ⟨cv1_rep hC (l2 j _ y (List.getElem?_eq_getElem hj) hy) r1, r2⟩
      · exact hcv.elim
    · subst hcv
      refine RepB.keep hL (Nat.le_refl _) (gen_le hC') hR (fun n hn => ⟨rfl, hno hB hC' rfl hn (at_bounds hR hn).2.2⟩)
    · subst hcv
      refine RepB.keep hL (Nat.le_refl _) (gen_le hC') hR (fun n hn => ⟨rfl, hno hB hC' rfl hn (at_bounds hR hn).2.2⟩)
    · subst hcv
      refine RepB.keep hL (Nat.le_refl _) (gen_le hC') hR (fun n hn => ⟨rfl, hno hB hC' rfl hn (at_bounds hR hn).2.2⟩)
    · subst hcv
      refine RepB.keep hL (Nat.le_refl _) (gen_le hC') hR (fun n hn => ⟨rfl, hno hB hC' rfl hn (at_bounds hR hn).2.2⟩)
  · obtain ⟨C, hC1, hcv1⟩ := hof b B hB
    obtain ⟨C', hC2, hcv2⟩ := hof b' B' hB'
    exact hC.apart b b' C C' hC1 hC2 hne n (hatt hcv1 hn) (hatt hcv2 hn')

/-- An empty slice becomes a row of the call's own. -/
theorem Ghost.ownNil (t b E sz : Nat) (ht : nthO S.t t = some (.v (.c .nl))) (hb : b < S.h.length) : Ghost S (S.put (some t) (.v (.c (.own b (S.G b + 1)))) [(b, .row (S.G b + 1) E sz [])]) := by
  intro W0 ok σ a w hC
  rw [nthO_eq] at ht
  have htl := (List.getElem?_eq_some_iff.1 ht).1
  have hta : t < a.tmps.size := by rw [hC.size]; exact htl
  have hv : a.tmps[t] = .slice none 0 0 := hC.tmp t _ _ (Array.getElem?_eq_getElem hta) ht
  have hσ : ∀ c g, g ≤ S.G c → (if c = b ∧ g = S.G b + 1 then Value.slice none 0 0 else σ c g) = σ c g := by
    intro c g hg
    rw [if_neg]
    rintro ⟨rfl, rfl⟩
    omega
  have hGd : (S.put none (.v (.c .un)) [(b, Blk.row (S.G b + 1) E sz [])]).G b = S.G b + 1 := by simp [St.G, St.put, hb, Blk.gen]
  have hC1 := hC.step (w' := w) (row := none) (ok' := ok) (σ' := fun c g => if c = b ∧ g = S.G b + 1 then Value.slice none 0 0 else σ c g) (b := b) (B' := .row (S.G b + 1) E sz []) (dst := some t) (r := .v (.c (.own b (S.G b + 1)))) (v := .slice none 0 0)
    (grown_refl w) (by simp) (fun _ h => h) hC.okb (fun _ h => Or.inl h) hb (by simp [Blk.gen]) hσ
    ⟨[], by simpa using OwnR.of (World.ownsRow_nil w _ _ _), by simp, ⟨by simp [Value.ownBlock], by simp [Value.ownBlock], fun _ A l c e => by
      simp only [and_self, if_true] at e
      injection e with _ _ e
      exact e.symm⟩, fun k e j x hk => by simp at hk⟩
    (fun n hn => by simp [Blk.at, Value.blkNo] at hn)
    ⟨by rw [hGd]; exact Nat.le_refl _, by simp, rfl⟩
  have e : a.put (some t) (.slice none 0 0) = a := by
    obtain ⟨tmps, defers⟩ := a
    simp only [Act.put]
    congr 1
    apply Array.ext_getElem?
    intro i
    by_cases hi : t = i
    · subst hi
      rw [Array.getElem?_setIfInBounds_self, if_pos hta, ← hv]
      exact (Array.getElem?_eq_getElem hta).symm
    · rw [Array.getElem?_setIfInBounds_ne hi]
  rw [e] at hC1
  exact ⟨_, _, hC1⟩
/-- An empty slice in a variable's cell becomes a row of the call's own. -/
theorem Ghost.ownNilV (v j b E sz g : Nat) (cs : List AV1) (hv : S.blk v = .var g cs) (hj : nthO cs j = some .nl) (hb : b < S.h.length) (hne : b ≠ v) :
    Ghost S ((S.put none (.v (.c .un)) [(b, .row (S.G b + 1) E sz [])]).put none (.v (.c .un)) [(v, .var g (cs.set j (.own b (S.G b + 1))))]) := by
  intro W0 ok σ a w hC
  rw [nthO_eq] at hj
  have hvs := blk_some hv (fun g e => by cases e)
  have hvl : v < S.h.length := (List.getElem?_eq_some_iff.1 hvs).1
  have hσ : ∀ c g, g ≤ S.G c → (if c = b ∧ g = S.G b + 1 then Value.slice none 0 0 else σ c g) = σ c g := by
    intro c g hg
    rw [if_neg]
    rintro ⟨rfl, rfl⟩
    omega
  have hGd : (S.put none (.v (.c .un)) [(b, Blk.row (S.G b + 1) E sz [])]).G b = S.G b + 1 := by simp [St.G, St.put, hb, Blk.gen]
  have hC1 := hC.step (w' := w) (row := none) (ok' := ok) (σ' := fun c g => if c = b ∧ g = S.G b + 1 then Value.slice none 0 0 else σ c g) (b := b) (B' := .row (S.G b + 1) E sz []) (dst := none) (r := .v (.c .un)) (v := undef)
    (grown_refl w) (by simp) (fun _ h => h) hC.okb (fun _ h => Or.inl h) hb (by simp [Blk.gen]) hσ
    ⟨[], by simpa using OwnR.of (World.ownsRow_nil w _ _ _), by simp, ⟨by simp [Value.ownBlock], by simp [Value.ownBlock], fun _ A l c e => by
      simp only [and_self, if_true] at e
      injection e with _ _ e
      exact e.symm⟩, fun k e j x hk => by simp at hk⟩
    (fun n hn => by simp [Blk.at, Value.blkNo] at hn)
    trivial
  have hv1 : (S.put none (.v (.c .un)) [(b, Blk.row (S.G b + 1) E sz [])]).h[v]? = some (.var g cs) := by
    simp only [St.put, List.foldl_cons, List.foldl_nil]
    rw [List.getElem?_set_ne hne]
    exact hvs
  generalize hS1 : S.put none (.v (.c .un)) [(b, Blk.row (S.G b + 1) E sz [])] = S1 at hC1 hv1 hGd ⊢
  have hvl1 : v < S1.h.length := (List.getElem?_eq_some_iff.1 hv1).1
  have hg1 : S1.G v = g := by unfold St.G; rw [hv1]; rfl
  obtain ⟨n, arr, ty, e1, e2, e3, e4, e5, e6⟩ := hC1.blk v _ hv1
  have hGe : (S1.put none (.v (.c .un)) [(v, Blk.var g (cs.set j (.own b (S.G b + 1))))]).G = S1.G := by
    funext c
    by_cases hc : c = v
    · subst hc; rw [hg1]; simp [St.G, St.put, hvl1, Blk.gen]
    · simp [St.G, St.put, List.getElem?_set_ne (fun e => hc e.symm)]
  refine ⟨ok, _, hC1.step (w' := w) (row := none) (b := v) (B' := .var g (cs.set j (.own b (S.G b + 1)))) (dst := none) (r := .v (.c .un)) (v := undef)
    (grown_refl w) (by simp) (fun _ h => h) hC1.okb (fun _ h => Or.inl h) hvl1 (by rw [hg1]; exact Nat.le_refl _) (fun _ _ _ => rfl) ?_ (fun n' hn' c C hc hC' hn'' => ?_) trivial⟩
  · rw [hGe]
    refine ⟨n, arr, ty, e1, e2, e3, e4, by rw [e5, List.length_set], fun i u y hu hy => ?_⟩
    by_cases hij : j = i
    · subst hij
      have hjl := (List.getElem?_eq_some_iff.1 hj).1
      rw [List.getElem?_set_self hjl] at hy
      injection hy with hy
      subst hy
      obtain ⟨r1, r2⟩ := e6 j u _ hu hj
      exact ⟨⟨by rw [hGd]; exact Nat.le_refl _, by rw [show u = .slice none 0 0 from r1]; simp, r2⟩, r2⟩
    · rw [List.getElem?_set_ne hij] at hy
      exact e6 i u y hu hy
  · exact hC1.apart v c _ C hv1 hC' (fun e => hc e.symm) n' hn' hn''
/-- A row under another number. -/
theorem Ghost.move (t b b' g E sz : Nat) (es : List (List IV)) (ht : nthO S.t t = some (.v (.c (.own b g)))) (hbk : S.blk b = .row g E sz es) (hne : b' ≠ b) (hb' : b' < S.h.length) :
    Ghost S ((S.put none (.v (.c .un)) [(b, .dead g)]).put (some t) (.v (.c (.own b' (S.G b' + 1)))) [(b', .row (S.G b' + 1) E sz es)]) := by
  intro W0 ok σ a w hC
  rw [nthO_eq] at ht
  have htl := (List.getElem?_eq_some_iff.1 ht).1
  have hta : t < a.tmps.size := by rw [hC.size]; exact htl
  obtain ⟨_, hv, hv1⟩ := hC.tmp t _ _ (Array.getElem?_eq_getElem hta) ht
  have hbs := blk_some hbk (fun g e => by cases e)
  have hbl : b < S.h.length := (List.getElem?_eq_some_iff.1 hbs).1
  have hgen : S.G b = g := by rw [blk_gen, hbk]; rfl
  have hweak : Weak S (S.put none (.v (.c .un)) [(b, .dead g)]) := by
    have hT : ∀ l : List AT, weakT l l := by
      intro l
      induction l with
      | nil => exact trivial
      | cons x l ih => exact ⟨Or.inr rfl, ih⟩
    have hH : ∀ l : List Blk, weakH l l := by
      intro l
      induction l with
      | nil => exact trivial
      | cons x l ih => exact ⟨Or.inr rfl, ih⟩
    have hS : ∀ (l : List Blk) (b : Nat) (B : Blk), l[b]? = some B → weakH l (l.set b (.dead B.gen)) := by
      intro l
      induction l with
      | nil => intro b B h; simp at h
      | cons x l ih =>
        intro b B h
        cases b with
        | zero => simp at h; subst h; exact ⟨Or.inl rfl, hH l⟩
        | succ b => exact ⟨Or.inr rfl, ih b B (by simpa using h)⟩
    exact ⟨hT _, hS _ _ _ hbs⟩
  have hC0 := hC.weak hweak
  have hR := hC.blk b _ hbs
  generalize hS1 : S.put none (.v (.c .un)) [(b, .dead g)] = S1 at hC0
  have hG1 : S1.G = S.G := by rw [← hS1]; exact weak_G hweak
  have hl1 : S1.h.length = S.h.length := by rw [← hS1]; simp [St.put]
  have hσ : ∀ c k, k ≤ S1.G c → (if c = b' ∧ k = S.G b' + 1 then a.tmps[t] else σ c k) = σ c k := by
    intro c k hk
    rw [if_neg]
    rintro ⟨rfl, rfl⟩
    rw [hG1] at hk
    omega
  have hGd : (S1.put none (.v (.c .un)) [(b', Blk.row (S.G b' + 1) E sz es)]).G b' = S.G b' + 1 := by simp [St.G, St.put, hl1, hb', Blk.gen]
  have hself : (if b' = b' ∧ S.G b' + 1 = S.G b' + 1 then a.tmps[t] else σ b' (S.G b' + 1)) = a.tmps[t] := by simp
  have hC1 := hC0.step (w' := w) (row := none) (ok' := ok) (σ' := fun c k => if c = b' ∧ k = S.G b' + 1 then a.tmps[t] else σ c k) (b := b') (B' := .row (S.G b' + 1) E sz es) (dst := some t) (r := .v (.c (.own b' (S.G b' + 1)))) (v := a.tmps[t])
    (grown_refl w) (by simp) (fun _ h => h) hC0.okb (fun _ h => Or.inl h) (by rw [hl1]; exact hb') (by rw [hG1]; simp [Blk.gen]) hσ
    (by
      obtain ⟨xs, e1, e2, e3, e4⟩ := hR
      rw [← hv] at e1 e3
      exact ⟨xs, by simpa using e1, e2, by simpa using e3, e4⟩)
    (fun n hn c C hc hC' => by
      have hn1 : (Blk.row g E sz es).at σ b = some n := by
        simp only [Blk.at, and_self, if_true] at hn ⊢
        rw [hv] at hn
        exact hn
      rw [← hS1] at hC'
      by_cases hcb : c = b
      · subst hcb
        have : C = .dead g := by simpa [St.put, hbl, eq_comm] using hC'
        subst this
        simp [Blk.at]
      · have hC2 : S.h[c]? = some C := by simpa [St.put, List.getElem?_set_ne (fun e => hcb e.symm)] using hC'
        exact hC.apart b c _ C hbs hC2 (fun e => hcb e.symm) n hn1)
    ⟨by rw [hGd]; exact Nat.le_refl _, by simp, hv1⟩
  have e : a.put (some t) a.tmps[t] = a := by
    obtain ⟨tmps, defers⟩ := a
    simp only [Act.put]
    congr 1
    apply Array.ext_getElem?
    intro i
    by_cases hi : t = i
    · subst hi
      rw [Array.getElem?_setIfInBounds_self, if_pos hta]
      exact (Array.getElem?_eq_getElem hta).symm
    · rw [Array.getElem?_setIfInBounds_ne hi]
  rw [e] at hC1
  exact ⟨_, _, hC1⟩
end

/-! ### The head of a loop -/
def setsT : List (Nat × AT) → List AT → List AT
  | [], t => t
  | (n, x) :: u, t => setsT u (t.set n x)
def setsH : List (Nat × Blk) → List Blk → List Blk
  | [], t => t
  | (n, x) :: u, t => setsH u (t.set n x)
/-- The slots of a list are kept, all others forgotten. -/
def keepT (t : List AT) : List Nat → List AT → List AT
  | [], u => u
  | n :: l, u => keepT t l (match nthO t n with
    | some x => u.set n x
    | none => u)
def keepH (h : List Blk) : List Nat → List Blk → List Blk
  | [], u => u
  | n :: l, u => keepH h l (match nthO h n with
    | some x => u.set n x
    | none => u)
def unT : List AT → List AT
  | [] => []
  | _ :: l => .v (.c .un) :: unT l
def deadH (gs : Nat → Nat) : Nat → List Blk → List Blk
  | _, [] => []
  | n, _ :: l => .dead (gs n) :: deadH gs (n + 1) l
/-- The state at a loop's head: what is kept, what is said. -/
def head (kt kh : List Nat) (gs : Nat → Nat) (vs : List (Nat × AT)) (hs : List (Nat × Blk)) : St → St
  | .mk t h => .mk (setsT vs (keepT t kt (unT t))) (setsH hs (keepH h kh (deadH gs 0 h)))

theorem setsT_get (u : List (Nat × AT)) : ∀ (t : List AT), (setsT u t).length = t.length ∧ ∀ (i : Nat) y, (setsT u t)[i]? = some y → (i, y) ∈ u ∨ t[i]? = some y := by
  induction u with
  | nil => intro t; exact ⟨rfl, fun i y h => Or.inr h⟩
  | cons p u ih =>
    intro t
    obtain ⟨n, x⟩ := p
    obtain ⟨h1, h2⟩ := ih (t.set n x)
    refine ⟨by simp [setsT, h1], fun i y h => ?_⟩
    rcases h2 i y h with h | h
    · exact Or.inl (List.mem_cons_of_mem _ h)
    · by_cases hi : n = i
      · subst hi
        rw [List.getElem?_set_self'] at h
        cases ht : t[n]? with
        | none => rw [ht] at h; simp at h
        | some z => rw [ht] at h; simp at h; subst h; exact Or.inl List.mem_cons_self
      · rw [List.getElem?_set_ne hi] at h
        exact Or.inr h
theorem setsH_get (u : List (Nat × Blk)) : ∀ (t : List Blk), (setsH u t).length = t.length ∧ ∀ (i : Nat) y, (setsH u t)[i]? = some y → (i, y) ∈ u ∨ t[i]? = some y := by
  induction u with
  | nil => intro t; exact ⟨rfl, fun i y h => Or.inr h⟩
  | cons p u ih =>
    intro t
    obtain ⟨n, x⟩ := p
    obtain ⟨h1, h2⟩ := ih (t.set n x)
    refine ⟨by simp [setsH, h1], fun i y h => ?_⟩
    rcases h2 i y h with h | h
    · exact Or.inl (List.mem_cons_of_mem _ h)
    · by_cases hi : n = i
      · subst hi
        rw [List.getElem?_set_self'] at h
        cases ht : t[n]? with
        | none => rw [ht] at h; simp at h
        | some z => rw [ht] at h; simp at h; subst h; exact Or.inl List.mem_cons_self
      · rw [List.getElem?_set_ne hi] at h
        exact Or.inr h
theorem keepT_get (t : List AT) (l : List Nat) : ∀ (u : List AT), (keepT t l u).length = u.length ∧ ∀ (i : Nat) y, (keepT t l u)[i]? = some y → (i ∈ l ∧ t[i]? = some y) ∨ u[i]? = some y := by
  induction l with
  | nil => intro u; exact ⟨rfl, fun i y h => Or.inr h⟩
  | cons n l ih =>
    intro u
    simp only [keepT]
    cases hn : nthO t n with
    | none =>
      obtain ⟨h1, h2⟩ := ih u
      refine ⟨h1, fun i y h => ?_⟩
      rcases h2 i y h with h | h
      · exact Or.inl ⟨List.mem_cons_of_mem _ h.1, h.2⟩
      · exact Or.inr h
    | some x =>
      obtain ⟨h1, h2⟩ := ih (u.set n x)
      refine ⟨by simp [h1], fun i y h => ?_⟩
      rcases h2 i y h with h | h
      · exact Or.inl ⟨List.mem_cons_of_mem _ h.1, h.2⟩
      · by_cases hi : n = i
        · subst hi
          rw [List.getElem?_set_self'] at h
          rw [nthO_eq] at hn
          cases hu : u[n]? with
          | none => rw [hu] at h; simp at h
          | some z => rw [hu] at h; simp at h; subst h; exact Or.inl ⟨List.mem_cons_self, hn⟩
        · rw [List.getElem?_set_ne hi] at h
          exact Or.inr h
theorem keepH_get (t : List Blk) (l : List Nat) : ∀ (u : List Blk), (keepH t l u).length = u.length ∧ ∀ (i : Nat) y, (keepH t l u)[i]? = some y → (i ∈ l ∧ t[i]? = some y) ∨ u[i]? = some y := by
  induction l with
  | nil => intro u; exact ⟨rfl, fun i y h => Or.inr h⟩
  | cons n l ih =>
    intro u
    simp only [keepH]
    cases hn : nthO t n with
    | none =>
      obtain ⟨h1, h2⟩ := ih u
      refine ⟨h1, fun i y h => ?_⟩
      rcases h2 i y h with h | h
      · exact Or.inl ⟨List.mem_cons_of_mem _ h.1, h.2⟩
      · exact Or.inr h
    | some x =>
      obtain ⟨h1, h2⟩ := ih (u.set n x)
      refine ⟨by simp [h1], fun i y h => ?_⟩
      rcases h2 i y h with h | h
      · exact Or.inl ⟨List.mem_cons_of_mem _ h.1, h.2⟩
      · by_cases hi : n = i
        · subst hi
          rw [List.getElem?_set_self'] at h
          rw [nthO_eq] at hn
          cases hu : u[n]? with
          | none => rw [hu] at h; simp at h
          | some z => rw [hu] at h; simp at h; subst h; exact Or.inl ⟨List.mem_cons_self, hn⟩
        · rw [List.getElem?_set_ne hi] at h
          exact Or.inr h
theorem unT_get (t : List AT) : (unT t).length = t.length ∧ ∀ (i : Nat) y, (unT t)[i]? = some y → y = .v (.c .un) := by
  induction t with
  | nil => exact ⟨rfl, fun i y h => by simp [unT] at h⟩
  | cons x t ih =>
    refine ⟨by simp [unT, ih.1], fun i y h => ?_⟩
    cases i with
    | zero => simp [unT] at h; exact h.symm
    | succ i => exact ih.2 i y (by simpa [unT] using h)
theorem deadH_get (gs : Nat → Nat) (t : List Blk) : ∀ n, (deadH gs n t).length = t.length ∧ ∀ (i : Nat) y, (deadH gs n t)[i]? = some y → y = .dead (gs (n + i)) := by
  induction t with
  | nil => intro n; exact ⟨rfl, fun i y h => by simp [deadH] at h⟩
  | cons x t ih =>
    intro n
    obtain ⟨h1, h2⟩ := ih (n + 1)
    refine ⟨by simp [deadH, h1], fun i y h => ?_⟩
    cases i with
    | zero => simp [deadH] at h; rw [← h]; rfl
    | succ i => rw [h2 i y (by simpa [deadH] using h), show n + 1 + i = n + (i + 1) by omega]

/-- What is kept is as it was; what is said holds. -/
def eqT (H : Nat → Blk) (D : Nat → Bool) (t' t : List AT) : List Nat → Prop
  | [] => True
  | n :: l => match nthO t' n, nthO t n with
    | some x, some y => cvT H D x y ∧ eqT H D t' t l
    | _, _ => eqT H D t' t l
def eqH (H : Nat → Blk) (D : Nat → Bool) (t' t : List Blk) : List Nat → Prop
  | [] => True
  | n :: l => match nthO t' n, nthO t n with
    | some x, some y => cvB H D x y ∧ eqH H D t' t l
    | _, _ => eqH H D t' t l
def valT (H : Nat → Blk) (D : Nat → Bool) (t' : List AT) : List (Nat × AT) → Prop
  | [] => True
  | (n, y) :: l => match nthO t' n with
    | some x => cvT H D x y ∧ valT H D t' l
    | none => valT H D t' l
def valH (H : Nat → Blk) (D : Nat → Bool) (t' : List Blk) : List (Nat × Blk) → Prop
  | [] => True
  | (n, y) :: l => match nthO t' n with
    | some x => cvB H D x y ∧ valH H D t' l
    | none => valH H D t' l
theorem eqT_mem {H : Nat → Blk} {D : Nat → Bool} {t' t : List AT} {l : List Nat} (h : eqT H D t' t l) {i : Nat} (hi : i ∈ l) {x y : AT} (hx : t'[i]? = some x) (hy : t[i]? = some y) : cvT H D x y := by
  induction l with
  | nil => cases hi
  | cons n l ih =>
    simp only [eqT] at h
    rw [nthO_eq, nthO_eq] at h
    rcases List.mem_cons.1 hi with rfl | hi
    · rw [hx, hy] at h; exact h.1
    · split at h
      · exact ih h.2 hi
      · exact ih h hi
theorem eqH_mem {H : Nat → Blk} {D : Nat → Bool} {t' t : List Blk} {l : List Nat} (h : eqH H D t' t l) {i : Nat} (hi : i ∈ l) {x y : Blk} (hx : t'[i]? = some x) (hy : t[i]? = some y) : cvB H D x y := by
  induction l with
  | nil => cases hi
  | cons n l ih =>
    simp only [eqH] at h
    rw [nthO_eq, nthO_eq] at h
    rcases List.mem_cons.1 hi with rfl | hi
    · rw [hx, hy] at h; exact h.1
    · split at h
      · exact ih h.2 hi
      · exact ih h hi
theorem valT_mem {H : Nat → Blk} {D : Nat → Bool} {t' : List AT} {l : List (Nat × AT)} (h : valT H D t' l) {i : Nat} {x y : AT} (hi : (i, y) ∈ l) (hx : t'[i]? = some x) : cvT H D x y := by
  induction l with
  | nil => cases hi
  | cons p l ih =>
    obtain ⟨n, z⟩ := p
    simp only [valT] at h
    rw [nthO_eq] at h
    rcases List.mem_cons.1 hi with e | hi
    · injection e with e1 e2
      subst e1 e2
      rw [hx] at h; exact h.1
    · split at h
      · exact ih h.2 hi
      · exact ih h hi
theorem valH_mem {H : Nat → Blk} {D : Nat → Bool} {t' : List Blk} {l : List (Nat × Blk)} (h : valH H D t' l) {i : Nat} {x y : Blk} (hi : (i, y) ∈ l) (hx : t'[i]? = some x) : cvB H D x y := by
  induction l with
  | nil => cases hi
  | cons p l ih =>
    obtain ⟨n, z⟩ := p
    simp only [valH] at h
    rw [nthO_eq] at h
    rcases List.mem_cons.1 hi with e | hi
    · injection e with e1 e2
      subst e1 e2
      rw [hx] at h; exact h.1
    · split at h
      · exact ih h.2 hi
      · exact ih h hi

/-- The state S' is one at the head of the loop that began with S. -/
def Fits (kt kh : List Nat) (vs : List (Nat × AT)) (hs : List (Nat × Blk)) (S S' : St) : Prop :=
  match S, S' with
  | .mk t h, .mk t' h' => Nat.beq t'.length t.length = true ∧ Nat.beq h'.length h.length = true ∧
    eqT (St.mk t' h').blk (fun b => ((head kt kh (St.mk t' h').G vs hs (.mk t h)).blk b).isDead) t' t kt ∧ valT (St.mk t' h').blk (fun b => ((head kt kh (St.mk t' h').G vs hs (.mk t h)).blk b).isDead) t' vs ∧
    eqH (St.mk t' h').blk (fun b => ((head kt kh (St.mk t' h').G vs hs (.mk t h)).blk b).isDead) h' h kh ∧ valH (St.mk t' h').blk (fun b => ((head kt kh (St.mk t' h').G vs hs (.mk t h)).blk b).isDead) h' hs

theorem Fits.back {kt kh : List Nat} {vs : List (Nat × AT)} {hs : List (Nat × Blk)} {S S' : St} (h : Fits kt kh vs hs S S') : Back S' (head kt kh S'.G vs hs S) := by
  obtain ⟨t, hp⟩ := S
  obtain ⟨t', hp'⟩ := S'
  obtain ⟨l1, l2, e1, e2, e3, e4⟩ := h
  have l1 := Nat.eq_of_beq_eq_true l1
  have l2 := Nat.eq_of_beq_eq_true l2
  obtain ⟨a1, a2⟩ := setsT_get vs (keepT t kt (unT t))
  obtain ⟨b1, b2⟩ := keepT_get t kt (unT t)
  obtain ⟨c1, c2⟩ := unT_get t
  obtain ⟨f1, f2⟩ := setsH_get hs (keepH hp kh (deadH (St.mk t' hp').G 0 hp))
  obtain ⟨g1, g2⟩ := keepH_get hp kh (deadH (St.mk t' hp').G 0 hp)
  obtain ⟨k1, k2⟩ := deadH_get (St.mk t' hp').G hp 0
  refine ⟨by simp only [head]; rw [a1, b1, c1]; exact l1, by simp only [head]; rw [f1, g1, k1]; exact l2, fun i x y hx hy => ?_, fun i x y hx hy => ?_⟩
  · rcases a2 i y hy with h | h
    · exact valT_mem e2 h hx
    · rcases b2 i y h with h | h
      · exact eqT_mem e1 h.1 hx h.2
      · rw [c2 i y h]; exact trivial
  · rcases f2 i y hy with h | h
    · exact valH_mem e4 h hx
    · rcases g2 i y h with h | h
      · exact eqH_mem e3 h.1 hx h.2
      · rw [k2 i y h]
        show x.gen = _
        rw [Nat.zero_add]
        unfold St.G
        rw [show (St.mk t' hp').h[i]? = some x from hx]
        rfl

/-- What holds at the head of each round. -/
def LI (kt kh : List Nat) {X : Type} (vs : X → (Nat → Nat) → List (Nat × AT)) (hs : X → (Nat → Nat) → List (Nat × Blk)) (inv : X → Prop) (μ : X → Nat) (S : St) (n : Nat) (S0 : St) : Prop :=
  ∃ gs x, S0 = head kt kh gs (vs x gs) (hs x gs) S ∧ inv x ∧ μ x = n
theorem again {kt kh : List Nat} {X : Type} {vs : X → (Nat → Nat) → List (Nat × AT)} {hs : X → (Nat → Nat) → List (Nat × Blk)} {inv : X → Prop} {μ : X → Nat} {S S' : St} {n : Nat} (y : X) (hinv : inv y) (hlt : μ y < n)
    (h : Fits kt kh (vs y S'.G) (hs y S'.G) S S') : ∃ m S1, Ghost S' S1 ∧ LI kt kh vs hs inv μ S m S1 ∧ m < n :=
  ⟨_, _, h.back.ghost, ⟨_, y, rfl, hinv, rfl⟩, hlt⟩
theorem againG {kt kh : List Nat} {X : Type} {vs : X → (Nat → Nat) → List (Nat × AT)} {hs : X → (Nat → Nat) → List (Nat × Blk)} {inv : X → Prop} {μ : X → Nat} {S S' S2 : St} {n : Nat} (y : X) (hG : Ghost S' S2) (hinv : inv y) (hlt : μ y < n)
    (h : Fits kt kh (vs y S2.G) (hs y S2.G) S S2) : ∃ m S1, Ghost S' S1 ∧ LI kt kh vs hs inv μ S m S1 ∧ m < n :=
  ⟨_, _, hG.trans h.back.ghost, ⟨_, y, rfl, hinv, rfl⟩, hlt⟩
theorem vc_loop {T : Nat → TI} {P : Program} {c : Code} {S : St} {Q : Ex → St → Prop} (kt kh : List Nat) {X : Type} (vs : X → (Nat → Nat) → List (Nat × AT)) (hs : X → (Nat → Nat) → List (Nat × Blk)) (inv : X → Prop) (μ : X → Nat)
    (S1 : St) (hS1 : Ghost S S1) (x0 : X) (hinv : inv x0) (hstart : Fits kt kh (vs x0 S1.G) (hs x0 S1.G) S1 S1)
    (hstep : ∀ gs x, inv x → layS (head kt kh gs (vs x gs) (hs x gs) S1) fun S0 => vc T P c S0 fun e S' => match e with
      | .normal => ∃ m S2, Ghost S' S2 ∧ LI kt kh vs hs inv μ S1 m S2 ∧ m < μ x
      | .exit id => Q (.exit id) S'
      | .ret => Q .ret S') : LoopVC (fun S0 K => vc T P c S0 K) S Q := by
  refine ⟨LI kt kh vs hs inv μ S1, Starts.of (hS1.trans hstart.back.ghost) ⟨_, x0, rfl, hinv, rfl⟩, ?_⟩
  rintro n S0 ⟨gs, x, rfl, hx, rfl⟩
  have h := hstep gs x hx
  rw [layS_eq] at h
  exact h
/-- As vc_loop; what the state is described as at the first round hangs on the state itself. -/
theorem vc_loopE {T : Nat → TI} {P : Program} {c : Code} {S : St} {Q : Ex → St → Prop} (kt kh : List Nat) {X : Type} (vs : X → (Nat → Nat) → List (Nat × AT)) (hs : X → (Nat → Nat) → List (Nat × Blk)) (inv : X → Prop) (μ : X → Nat)
    (S1 : St) (hstart : ∀ (W0 : Ent) (ok : Nat → Prop) (σ : Nat → Nat → Value) (a : Act) (w : World), Conf W0 ok σ S a w → ∃ x0 S2, inv x0 ∧ (∃ ok' σ', Conf W0 ok' σ' S2 a w) ∧ Fits kt kh (vs x0 S2.G) (hs x0 S2.G) S1 S2)
    (hstep : ∀ gs x, inv x → layS (head kt kh gs (vs x gs) (hs x gs) S1) fun S0 => vc T P c S0 fun e S' => match e with
      | .normal => ∃ m S2, Ghost S' S2 ∧ LI kt kh vs hs inv μ S1 m S2 ∧ m < μ x
      | .exit id => Q (.exit id) S'
      | .ret => Q .ret S') : LoopVC (fun S0 K => vc T P c S0 K) S Q := by
  refine ⟨LI kt kh vs hs inv μ S1, fun W0 ok σ a w hC => ?_, ?_⟩
  · obtain ⟨x0, S2, hinv, ⟨ok', σ', hC2⟩, hf⟩ := hstart W0 ok σ a w hC
    exact ⟨_, _, hf.back.ghost W0 ok' σ' a w hC2, _, x0, rfl, hinv, rfl⟩
  rintro n S0 ⟨gs, x, rfl, hx, rfl⟩
  have h := hstep gs x hx
  rw [layS_eq] at h
  exact h
/-- What holds where ways join. -/
def JI (kt kh : List Nat) {X : Type} (vs : X → (Nat → Nat) → List (Nat × AT)) (hs : X → (Nat → Nat) → List (Nat × Blk)) (inv : X → Prop) (S : St) (S0 : St) : Prop :=
  ∃ gs x, S0 = head kt kh gs (vs x gs) (hs x gs) S ∧ inv x
theorem joined {kt kh : List Nat} {X : Type} {vs : X → (Nat → Nat) → List (Nat × AT)} {hs : X → (Nat → Nat) → List (Nat × Blk)} {inv : X → Prop} {S S' : St} (y : X) (hinv : inv y)
    (h : Fits kt kh (vs y S'.G) (hs y S'.G) S S') : ∃ S1, Ghost S' S1 ∧ JI kt kh vs hs inv S S1 :=
  ⟨_, h.back.ghost, ⟨_, y, rfl, hinv⟩⟩
theorem vc_join {T : Nat → TI} {P : Program} {c d : Code} {S : St} {Q : Ex → St → Prop} (kt kh : List Nat) {X : Type} (vs : X → (Nat → Nat) → List (Nat × AT)) (hs : X → (Nat → Nat) → List (Nat × Blk)) (inv : X → Prop)
    (hx : vc T P c S fun e S' => match e with
      | .normal => ∃ S1, Ghost S' S1 ∧ JI kt kh vs hs inv S S1
      | .exit id => Q (.exit id) S'
      | .ret => Q .ret S')
    (hy : ∀ gs x, inv x → layS (head kt kh gs (vs x gs) (hs x gs) S) fun S0 => vc T P d S0 Q) : JoinVC (fun K => vc T P c S K) (fun S' => vc T P d S' Q) Q := by
  refine ⟨JI kt kh vs hs inv S, hx, ?_⟩
  rintro S1 ⟨gs, x, rfl, hx⟩
  have h := hy gs x hx
  rw [layS_eq] at h
  exact h
end Go.Proofs.YtikchieadclbhaaGreatDoor.Ab
