/- The contract of a whole function, from the abstract walk of its body. No condition. -/
import Derived.Test.YtikchieadclbhaaGreatDoorZ19
namespace Go.Proofs.YtikchieadclbhaaGreatDoor.Ab
set_option linter.unusedVariables false
set_option linter.unusedSimpArgs false
open Go.RowKit

/-- The state when the body begins: n slots, m entries. -/
def St0 (args : List AV) (n m : Nat) : St := ⟨args.map .v ++ List.replicate (n - args.length) (.v (.c .un)), List.replicate m (.dead 0)⟩

def resK (T : Nat → TI) (S : St) : List ResultVar → (List AV → Prop) → Prop
  | [], K => K []
  | .tmp t :: rs, K => match S.ev (.tmp t) with
    | .v x => resK T S rs fun xs => K (x :: xs)
    | .tup _ => False
  | .cell p ty :: rs, K => effLoad T S.blk ty (S.ev (.tmp p)) fun r _ _ => match r with
    | .v x => resK T S rs fun xs => K (x :: xs)
    | .tup _ => False

def idxIn : List Nat → Nat → Nat → Option Nat
  | [], _, _ => none
  | x :: l, b, j => match Nat.beq x b with
    | true => some j
    | false => idxIn l b (j + 1)

/-- A cell of a variable that never turns again. -/
def outIV (m : List Nat) (H : Nat → Blk) : AV1 → (IV → Prop) → Prop
  | .i x, K => K x
  | .nl, K => K (.sl [])
  | .slx es, K => K (.sl es)
  | .lit b, K => K (.sc (.bool b))
  | .own b g, K => match idxIn m b 0 with
    | some _ => False
    | none => match H b with
      | .row g' _ _ es => g' = g ∧ K (.sl es)
      | .froz g' es => g' = g ∧ K (.sl es)
      | _ => False
  | .sly es _, K => K (.sl es)
  | _, _ => False
def outIVs (m : List Nat) (H : Nat → Blk) : List AV1 → (List IV → Prop) → Prop
  | [], K => K []
  | x :: l, K => outIV m H x fun y => outIVs m H l fun z => K (y :: z)
def outCap (m : List Nat) (H : Nat → Blk) : Cap → (Cap → Prop) → Prop
  | .ptr b g off, K => match idxIn m b 0 with
    | some _ => False
    | none => match H b with
      | .var g' cs => g' = g ∧ outIVs m H cs fun ms => K (.pim (ms.drop off))
      | _ => False
  | .pim cs, K => K (.pim cs)
  | .sc v, K => K (.sc v)
def outCaps (m : List Nat) (H : Nat → Blk) : List Cap → (List Cap → Prop) → Prop
  | [], K => K []
  | x :: l, K => outCap m H x fun y => outCaps m H l fun z => K (y :: z)

/-- A cell as it is handed out: the entries in m go as rows of the caller's own, all others never turn again. -/
def outCell (m : List Nat) (H : Nat → Blk) : AV1 → (AV1 → Prop) → Prop
  | .i x, K => K (.i x)
  | .nl, K => K (.i (.sl []))
  | .slx es, K => K (.i (.sl es))
  | .lit b, K => K (.i (.sc (.bool b)))
  | .own b g, K => match idxIn m b 0 with
    | some j => match H b with
      | .row g' _ _ _ => g' = g ∧ K (.own j 0)
      | .mp g' _ _ _ => g' = g ∧ K (.own j 0)
      | _ => False
    | none => match H b with
      | .row g' E _ es => match Nat.ble 2000000 E with
        | true => g' = g ∧ K (.sly es es.length)
        | false => g' = g ∧ K (.i (.sl es))
      | .froz g' es => g' = g ∧ K (.i (.sl es))
      | _ => False
  | .sly es _, K => K (.i (.sl es))
  | .osub b g sz lo hi, K => match idxIn m b 0 with
    | some _ => False
    | none => match H b with
      | .row g' _ sz' es => g' = g ∧ sz' = sz ∧ K (.i (.sl ((es.take hi).drop lo)))
      | _ => False
  | .ptr b g off, K => match idxIn m b 0 with
    | some j => match H b with
      | .var g' _ => g' = g ∧ K (.ptr j 0 off)
      | _ => False
    | none => False
  | .pim cs, K => K (.pim cs)
  | .clo f ps, K => outCaps m H ps fun qs => K (.clo f qs)
  | _, _ => False
def outCells (m : List Nat) (H : Nat → Blk) : List AV1 → (List AV1 → Prop) → Prop
  | [], K => K []
  | x :: l, K => outCell m H x fun y => outCells m H l fun z => K (y :: z)
def outV (m : List Nat) (H : Nat → Blk) : AV → (AV → Prop) → Prop
  | .c x, K => outCell m H x fun y => K (.c y)
  | .agg cs, K => outCells m H cs fun ds => K (.agg ds)
def outVs (m : List Nat) (H : Nat → Blk) : List AV → (List AV → Prop) → Prop
  | [], K => K []
  | x :: l, K => outV m H x fun y => outVs m H l fun z => K (y :: z)
def outB (m : List Nat) (H : Nat → Blk) : List Nat → (List Blk → Prop) → Prop
  | [], K => K []
  | b :: l, K => match H b with
    | .row _ E sz es => outB m H l fun z => K (.row 0 E sz es :: z)
    | .var _ cs => outCells m H cs fun ds => outB m H l fun z => K (.var 0 ds :: z)
    | .mp _ kk ag f => outB m H l fun z => K (.mp 0 kk ag f :: z)
    | _ => False
def oneT : List AV → AT
  | [x] => .v x
  | xs => .tup xs
/-- The end of a body. -/
def endK (T : Nat → TI) (S : St) (rs : List ResultVar) (m : List Nat) (K : List Blk → AT → Prop) : Prop :=
  resK T S rs fun xs => outVs m S.blk xs fun ys => outB m S.blk m fun bs => K bs (oneT ys)

section
variable {P : Program} {T : Nat → TI} {W0 : Ent} {w w' : World} {ok ok' : Nat → Prop} {σ σc : Nat → Nat → Value} {S : St} {a : Act}

theorem res_rep (hT : TabOk P T) (hC : Conf W0 ok σ S a w) (rs : List ResultVar) : ∀ {K : List AV → Prop}, resK T S rs K → ∃ (xs : List AV) (vs : List Value), K xs ∧ xs.length = rs.length ∧ vs.length = rs.length ∧
    (rs.mapM fun (r : ResultVar) => match r with
      | .tmp t => (Pure.pure (a.tmps.getD t undef) : Sem Value)
      | .cell p t => do loadVar t (← asAddr (a.tmps.getD p undef))).run P w = .ok vs w ∧ ∀ (j : Nat) x v, xs[j]? = some x → vs[j]? = some v → RepV w ok σ S.G x v := by
  induction rs with
  | nil => intro K h; exact ⟨[], [], h, rfl, rfl, by simp, fun j x v hx => by simp at hx⟩
  | cons r rs ih =>
    intro K h
    cases r with
    | tmp t =>
      simp only [resK] at h
      have hx := ev_rep hC (.tmp t)
      split at h
      · rename_i x hev
        rw [hev] at hx
        obtain ⟨xs, vs, h1, h2, h3, h4, h5⟩ := ih h
        refine ⟨_, a.tmps.getD t undef :: vs, h1, by simp [h2], by simp [h3], ?_, fun j y v hy hv => ?_⟩
        · simp only [List.mapM_cons, Sem.run_bind, Sem.run_pure, Result.andThen_ok, h4]
        · cases j with
          | zero => simp only [List.getElem?_cons_zero, Option.some.injEq] at hy hv; subst hy hv; exact hx
          | succ j => exact h5 j y v (by simpa using hy) (by simpa using hv)
      · exact h.elim
    | cell p ty =>
      simp only [resK] at h
      obtain ⟨v, w1, r, u, d, hrun, hK, hu, _⟩ := done_load (o := { dst := none, op := .load ty (.tmp p), type := 0, pos := "", after := #[], guard := none }) hT hC rfl h
      have hld : ∃ v r, (do loadVar ty (← asAddr (a.tmps.getD p undef)) : Sem Value).run P w = .ok v w ∧ RepT w ok σ S.G r v ∧ (match r with | .v x => resK T S rs fun xs => K (x :: xs) | .tup _ => False) := by
        have hx := ev_rep hC (.tmp p)
        have hxe : a.eval (.tmp p) = a.tmps.getD p undef := rfl
        unfold effLoad at h
        have hk : (T ty).k ≠ .none := fun e => by rw [e] at h; exact h
        split at h
        · exact h.elim
        split at h
        · rename_i b g off hev
          rw [hev] at hx
          split at h
          · rename_i g' cs hb
            obtain ⟨rfl, h⟩ := h
            have hbs := blk_some hb (fun g e => by cases e)
            obtain ⟨n, arr, tty, e1, _, _, e2, e3, e4⟩ := hC.blk b _ hbs
            obtain ⟨_, m, e5, e6⟩ := hx
            rw [e1] at e5
            obtain rfl : n = m := by injection e5 with e5; injection e5 with e5; injection e5
            obtain ⟨v, r, h1, h2, h3⟩ := part_load (ad := ⟨n, 0, none⟩) (off := off) hT hk (fun j y hy => by
              have hj : j < arr.size := by rw [e3]; exact (List.getElem?_eq_some_iff.1 hy).1
              have hc := cell_of_row w n j arr tty (0, 0) e2
              exact ⟨arr[j], by rw [add_at, Nat.zero_add, hc]; exact Array.getElem?_eq_getElem hj, e4 j _ y (Array.getElem?_eq_getElem hj) hy⟩) h
            rw [add_at, Nat.zero_add] at h1
            refine ⟨v, r, ?_, h2, h3⟩
            rw [hxe] at e6
            rw [e6]
            simp only [asAddr, Sem.run_bind, Sem.run_pure, Result.andThen_ok, h1]
          · exact h.elim
        · rename_i cs hev
          rw [hev] at hx
          obtain ⟨ad, e1, e2, e3⟩ := hx
          obtain ⟨v, r, h1, h2, h3⟩ := part_load (ad := ad) (off := 0) hT hk (fun j y hy => by
            rw [List.getElem?_map] at hy
            obtain ⟨z, hz, rfl⟩ := Option.map_eq_some_iff.1 hy
            obtain ⟨u, hu, hr⟩ := e3 j z hz
            exact ⟨u, hu, hr, oneCell_of_RepI hr⟩) h
          rw [show ad.add 0 = ad by simp [Addr.add]] at h1
          refine ⟨v, r, ?_, h2, h3⟩
          rw [hxe] at e1
          rw [e1]
          simp only [asAddr, Sem.run_bind, Sem.run_pure, Result.andThen_ok, h1]
        · rename_i b g sz k off hev
          rw [hev] at hx
          split at h
          · rename_i g' E sz' es hb
            obtain ⟨rfl, rfl, e, he, h⟩ := h
            have hbs := blk_some hb (fun g e => by cases e)
            obtain ⟨xs, e1, e2, _, e4⟩ := hC.blk b _ hbs
            obtain ⟨_, m, l, c, e5, e6⟩ := hx
            obtain ⟨v, r, h1, h2, h3⟩ := part_load (ad := ⟨m, k * sz', none⟩) (off := off) hT hk (fun j y hy => by
              rw [List.getElem?_map] at hy
              obtain ⟨z, hz, rfl⟩ := Option.map_eq_some_iff.1 hy
              obtain ⟨u, hu, hr, ho⟩ := e4 k e j z he hz
              exact ⟨u, by rw [add_at]; exact row_cells e1 e5 _ _ hu, hr, ho⟩) h
            rw [add_at] at h1
            refine ⟨v, r, ?_, h2, h3⟩
            rw [hxe] at e6
            rw [e6]
            simp only [asAddr, Sem.run_bind, Sem.run_pure, Result.andThen_ok, h1]
          · exact h.elim
        · exact h.elim
      obtain ⟨v, r, h1, h2, h3⟩ := hld
      split at h3
      · rename_i x
        obtain ⟨xs, vs, k1, k2, k3, k4, k5⟩ := ih h3
        refine ⟨_, v :: vs, k1, by simp [k2], by simp [k3], ?_, fun j y u hy hu => ?_⟩
        · rw [List.mapM_cons, Sem.run_bind, h1]
          simp only [Result.andThen_ok, Sem.run_bind, k4, Sem.run_pure]
        · cases j with
          | zero => simp at hy hu; subst hy hu; exact h2
          | succ j => exact k5 j y u (by simpa using hy) (by simpa using hu)
      · exact h3.elim

theorem idxIn_spec {m : List Nat} {b : Nat} : ∀ {j k : Nat}, idxIn m b j = some k → j ≤ k ∧ m[k - j]? = some b := by
  induction m with
  | nil => intro j k h; cases h
  | cons x m ih =>
    intro j k h
    simp only [idxIn] at h
    split at h
    · rename_i hb
      injection h with h
      subst h
      have := Nat.eq_of_beq_eq_true hb
      subst this
      exact ⟨Nat.le_refl _, by simp⟩
    · obtain ⟨h1, h2⟩ := ih h
      refine ⟨by omega, ?_⟩
      rw [show k - j = (k - (j + 1)) + 1 by omega, List.getElem?_cons_succ]
      exact h2
theorem idxIn_none {m : List Nat} {b : Nat} : ∀ {j : Nat}, idxIn m b j = none → b ∉ m := by
  induction m with
  | nil => intro j _; simp
  | cons x m ih =>
    intro j h
    simp only [idxIn] at h
    split at h
    · cases h
    · rename_i hb
      intro hm
      rcases List.mem_cons.1 hm with rfl | hm
      · rw [Nat.beq_refl] at hb; cases hb
      · exact ih h hm

/-- What is ok when the body has ended: the rows that are not handed out as the caller's own never turn again. -/
def OutOk (S : St) (σ : Nat → Nat → Value) (ok : Nat → Prop) (m : List Nat) (k : Nat) : Prop := ok k ∨ ∃ (b : Nat) (B : Blk), b ∉ m ∧ S.h[b]? = some B ∧ B.at σ b = some k
def outσ (S : St) (σ : Nat → Nat → Value) (m : List Nat) : Nat → Nat → Value := fun j _ => match m[j]? with | some b => σ b (S.G b) | none => undef

theorem outIV_rep (hC : Conf W0 ok σ S a w) {m : List Nat} {x : AV1} {v : Value} (hx : Rep1 w ok σ S.G x v) {K : IV → Prop} (h : outIV m S.blk x K) : ∃ y, K y ∧ RepI w (OutOk S σ ok m) y v := by
  have up : ∀ {y : IV}, RepI w ok y v → RepI w (OutOk S σ ok m) y v := fun hr => RepI.mono (fun _ h => Or.inl h) (fun _ _ => rfl) hr
  cases x with
  | i x => exact ⟨_, h, up hx⟩
  | nl => exact ⟨_, h, by rw [show v = .slice none 0 0 from hx]; exact RepI.nil _ _ (Nat.zero_le _)⟩
  | slx es => obtain ⟨A, _, hr⟩ := hx; exact ⟨_, h, up hr⟩
  | lit b => exact ⟨_, h, by rw [show v = .bool b from hx]; exact RepI.sc _ rfl⟩
  | own b g =>
    obtain ⟨_, hv, h1⟩ := hx
    simp only [outIV] at h
    split at h
    · exact h.elim
    · rename_i hj
      have hnm := idxIn_none hj
      split at h
      · rename_i g' E sz es hb
        obtain ⟨rfl, h⟩ := h
        have hbs := blk_some hb (fun g e => by cases e)
        refine ⟨_, h, ?_⟩
        rw [hv]
        refine row_RepI (hC.blk b _ hbs) (fun _ h => Or.inl h) (fun n hn => Or.inr ⟨b, _, hnm, hbs, ?_⟩)
        obtain ⟨xs, e1, _⟩ := hC.blk b _ hbs
        simp only [Blk.at]
        rcases e1.2 with ⟨e5, _⟩ | ⟨mm, cap, cur, e5, _⟩
        · rw [e5] at hn; simp [Value.ownBlock] at hn
        · rw [e5] at hn ⊢; simpa [Value.blkNo, Value.ownBlock] using hn
      · rename_i g' es hb
        obtain ⟨rfl, h⟩ := h
        have hR : RepI w ok (.sl es) (σ b g') := hC.blk b _ (blk_some hb (fun g e => by cases e))
        rw [← hv] at hR
        exact ⟨_, h, up hR⟩
      · exact h.elim
  | sly es c => obtain ⟨A, _, hr, _⟩ := hx; exact ⟨_, h, up hr⟩
  | _ => exact h.elim
theorem outIVs_rep (hC : Conf W0 ok σ S a w) {m : List Nat} (cs : List AV1) : ∀ {arr : List Value} {K : List IV → Prop}, (∀ (j : Nat) u x, arr[j]? = some u → cs[j]? = some x → Rep1 w ok σ S.G x u) → arr.length = cs.length → outIVs m S.blk cs K →
    ∃ ms, K ms ∧ ms.length = cs.length ∧ ∀ (j : Nat) u y, arr[j]? = some u → ms[j]? = some y → RepI w (OutOk S σ ok m) y u := by
  induction cs with
  | nil => intro arr K hv hl h; exact ⟨[], h, rfl, fun j u y _ hy => by simp at hy⟩
  | cons c cs ih =>
    intro arr K hv hl h
    cases arr with
    | nil => simp at hl
    | cons v vs =>
      obtain ⟨y, h1, h2⟩ := outIV_rep hC (hv 0 v c rfl rfl) h
      obtain ⟨ms, h3, h4, h5⟩ := ih (fun j u x hu hx => hv (j + 1) u x (by simpa using hu) (by simpa using hx)) (by simpa using hl) h1
      refine ⟨_, h3, by simp [h4], fun j u y hu hy => ?_⟩
      cases j with
      | zero => simp at hu hy; subst hu hy; exact h2
      | succ j => exact h5 j u y (by simpa using hu) (by simpa using hy)
theorem outCap_rep (hC : Conf W0 ok σ S a w) {m : List Nat} {x : Cap} {v : Value} (hx : RepC w ok σ S.G x v) {K : Cap → Prop} (h : outCap m S.blk x K) {σ' : Nat → Nat → Value} {G' : Nat → Nat} : ∃ y, K y ∧ RepC w (OutOk S σ ok m) σ' G' y v := by
  cases x with
  | pim cs =>
    refine ⟨_, h, ?_⟩
    have hx' : RepC w ok σ' G' (.pim cs) v := hx
    exact repC_ok (fun _ h => Or.inl h) hx'
  | sc u => exact ⟨_, h, hx⟩
  | ptr b g off =>
    obtain ⟨_, n', h1, h2⟩ := hx
    simp only [outCap] at h
    split at h
    · exact h.elim
    rename_i hj
    have hnm := idxIn_none hj
    split at h
    case h_2 => exact h.elim
    rename_i g' cs hb
    obtain ⟨rfl, h⟩ := h
    have hbs := blk_some hb (fun g e => by cases e)
    obtain ⟨n, arr, ty, e1, e2, e3, e4, e5, e6⟩ := hC.blk b _ hbs
    rw [e1] at h1
    obtain rfl : n = n' := by injection h1 with e; injection e with e; injection e
    obtain ⟨ms, k1, k2, k3⟩ := outIVs_rep hC cs (arr := arr.toList) (fun j u x hu hx => (e6 j u x (by simpa using hu) hx).1) (by simpa using e5) h
    refine ⟨_, k1, _, h2, Or.inr ⟨b, _, hnm, hbs, by simp [Blk.at, e1, Value.blkNo]⟩, fun j x hx => ?_⟩
    rw [List.getElem?_drop] at hx
    have hjl : off + j < arr.size := by rw [e5, ← k2]; exact (List.getElem?_eq_some_iff.1 hx).1
    have hc := cell_of_row w n (off + j) arr ty (0, 0) e4
    exact ⟨arr[off + j], by rw [add_at, hc]; exact Array.getElem?_eq_getElem hjl, k3 (off + j) _ x (by simp [hjl]) hx⟩
theorem outCaps_rep (hC : Conf W0 ok σ S a w) {m : List Nat} {σ' : Nat → Nat → Value} {G' : Nat → Nat} (ps : List Cap) : ∀ {vs : List Value} {K : List Cap → Prop}, vs.length = ps.length → (∀ (j : Nat) p u, ps[j]? = some p → vs[j]? = some u → RepC w ok σ S.G p u) → outCaps m S.blk ps K →
    ∃ qs, K qs ∧ qs.length = ps.length ∧ ∀ (j : Nat) p u, qs[j]? = some p → vs[j]? = some u → RepC w (OutOk S σ ok m) σ' G' p u := by
  induction ps with
  | nil => intro vs K hl hv h; exact ⟨[], h, rfl, fun j p u hp => by simp at hp⟩
  | cons c cs ih =>
    intro vs K hl hv h
    cases vs with
    | nil => simp at hl
    | cons v vs =>
      obtain ⟨y, h1, h2⟩ := outCap_rep hC (hv 0 c v rfl rfl) h
      obtain ⟨ms, h3, h4, h5⟩ := ih (by simpa using hl) (fun j u x hu hx => hv (j + 1) u x (by simpa using hu) (by simpa using hx)) h1
      refine ⟨_, h3, by simp [h4], fun j u y hu hy => ?_⟩
      cases j with
      | zero => simp at hu hy; subst hu hy; exact h2
      | succ j => exact h5 j u y (by simpa using hu) (by simpa using hy)

theorem outCell_rep (hC : Conf W0 ok σ S a w) {m : List Nat} {x : AV1} {v : Value} (hx : Rep1 w ok σ S.G x v) (ho : v.oneCell' = true) {K : AV1 → Prop} (h : outCell m S.blk x K) :
    ∃ y, K y ∧ Rep1 w (OutOk S σ ok m) (outσ S σ m) (fun _ => 0) y v := by
  have up : ∀ {y : IV}, RepI w ok y v → RepI w (OutOk S σ ok m) y v := fun hr => RepI.mono (fun _ h => Or.inl h) (fun _ _ => rfl) hr
  cases x with
  | i x => exact ⟨_, h, up hx⟩
  | nl => exact ⟨_, h, by rw [show v = .slice none 0 0 from hx]; exact RepI.nil _ _ (Nat.zero_le _)⟩
  | slx es => obtain ⟨A, _, hr⟩ := hx; exact ⟨_, h, up hr⟩
  | lit b => exact ⟨_, h, by rw [show v = .bool b from hx]; exact RepI.sc _ rfl⟩
  | own b g =>
    obtain ⟨_, hv, h1⟩ := hx
    simp only [outCell] at h
    split at h
    · rename_i j hj
      obtain ⟨_, hj⟩ := idxIn_spec hj
      rw [Nat.sub_zero] at hj
      split at h
      · rename_i g' E sz es hb
        obtain ⟨rfl, h⟩ := h
        refine ⟨_, h, Nat.le_refl _, ?_, h1⟩
        have hg : S.G b = g' := by rw [blk_gen, hb]; rfl
        simp [outσ, hj, hg, hv]
      · rename_i g' kk ag f hb
        obtain ⟨rfl, h⟩ := h
        refine ⟨_, h, Nat.le_refl _, ?_, h1⟩
        have hg : S.G b = g' := by rw [blk_gen, hb]; rfl
        simp [outσ, hj, hg, hv]
      · exact h.elim
    · rename_i hj
      have hnm := idxIn_none hj
      split at h
      · rename_i g' E sz es hb
        have hbs := blk_some hb (fun g e => by cases e)
        have hrow : g' = g → RepI w (OutOk S σ ok m) (.sl es) v := by
          rintro rfl
          rw [hv]
          refine row_RepI (hC.blk b _ hbs) (fun _ h => Or.inl h) (fun n hn => Or.inr ⟨b, _, hnm, hbs, ?_⟩)
          obtain ⟨xs, e1, _⟩ := hC.blk b _ hbs
          simp only [Blk.at]
          rcases e1.2 with ⟨e5, _⟩ | ⟨mm, cap, cur, e5, _⟩
          · rw [e5] at hn; simp [Value.ownBlock] at hn
          · rw [e5] at hn ⊢; simpa [Value.blkNo, Value.ownBlock] using hn
        split at h
        · rename_i hCX
          obtain ⟨rfl, h⟩ := h
          obtain ⟨xs, e1, _, e3, _⟩ := hC.blk b _ hbs
          obtain ⟨A, c, q1, q2⟩ := row_slice e1
          have hc := e3.cap (Nat.le_of_ble_eq_true hCX) A _ c q1
          subst hc
          refine ⟨_, h, A, by rw [hv, q1], hrow rfl, fun e => ?_⟩
          subst e
          rcases e1.2 with ⟨e5, e6⟩ | ⟨mm, cap, cur, e5, _⟩
          · exact e6
          · rw [q1] at e5; cases e5
        · obtain ⟨rfl, h⟩ := h
          exact ⟨_, h, hrow rfl⟩
      · rename_i g' es hb
        obtain ⟨rfl, h⟩ := h
        have hR : RepI w ok (.sl es) (σ b g') := hC.blk b _ (blk_some hb (fun g e => by cases e))
        rw [← hv] at hR
        exact ⟨_, h, up hR⟩
      · exact h.elim
  | ptr b g off =>
    obtain ⟨_, n, h1, h2⟩ := hx
    simp only [outCell] at h
    split at h
    · rename_i j hj
      obtain ⟨_, hj⟩ := idxIn_spec hj
      rw [Nat.sub_zero] at hj
      split at h
      · rename_i g' cs hb
        obtain ⟨rfl, h⟩ := h
        have hg : S.G b = g' := by rw [blk_gen, hb]; rfl
        exact ⟨_, h, Nat.le_refl _, n, by simp [outσ, hj, hg, h1], h2⟩
      · exact h.elim
    · exact h.elim
  | sly es c => obtain ⟨A, _, hr, _⟩ := hx; exact ⟨_, h, up hr⟩
  | osub b g sz lo hi =>
    obtain ⟨_, A, A', n, c, hv, q1, q2, q3, hvv, q5⟩ := hx
    simp only [outCell] at h
    split at h
    · exact h.elim
    rename_i hj
    have hnm := idxIn_none hj
    split at h
    · rename_i g' E sz' es hb
      obtain ⟨rfl, rfl, h⟩ := h
      have hbs := blk_some hb (fun g e => by cases e)
      obtain ⟨xs, e1, e2, _⟩ := hC.blk b _ hbs
      rw [hv] at e1
      obtain rfl := row_len e1
      refine ⟨_, h, ?_⟩
      show RepI w _ (.sl _) v
      rw [hvv]
      have hw := row_RepI (ok' := OutOk S σ ok m) (hC.blk b _ hbs) (fun _ h => Or.inl h) (fun n hn => Or.inr ⟨b, _, hnm, hbs, by
        simp only [Blk.at]
        rw [hv] at hn ⊢
        rcases e1.2 with ⟨e5, _⟩ | ⟨mm, cap, cur, e5, _⟩
        · rw [e5] at hn; simp [Value.ownBlock] at hn
        · rw [e5] at hn ⊢; simpa [Value.blkNo, Value.ownBlock] using hn⟩)
      rw [hv] at hw
      exact osub_RepI hw q1 q2 q5 e2
    · exact h.elim
  | pim cs =>
    have hx' : Rep1 w ok (outσ S σ m) (fun _ => 0) (.pim cs) v := hx
    exact ⟨_, h, rep1_ok (fun _ h => Or.inl h) hx'⟩
  | clo f ps =>
    obtain ⟨vs, e, hl, hr⟩ := hx
    obtain ⟨qs, k1, k2, k3⟩ := outCaps_rep (σ' := outσ S σ m) (G' := fun _ => 0) hC ps hl hr h
    exact ⟨_, k1, vs, e, by rw [hl, k2], k3⟩
  | _ => exact h.elim

theorem outCells_rep (hC : Conf W0 ok σ S a w) {m : List Nat} (cs : List AV1) : ∀ {vs : List Value} {K : List AV1 → Prop}, vs.length = cs.length → (∀ (j : Nat) u x, vs[j]? = some u → cs[j]? = some x → Rep1 w ok σ S.G x u ∧ u.oneCell' = true) → outCells m S.blk cs K →
    ∃ ds, K ds ∧ ds.length = cs.length ∧ ∀ (j : Nat) u x, vs[j]? = some u → ds[j]? = some x → Rep1 w (OutOk S σ ok m) (outσ S σ m) (fun _ => 0) x u ∧ u.oneCell' = true := by
  induction cs with
  | nil => intro vs K hl hv h; exact ⟨[], h, rfl, fun j u x hu hx => by simp at hx⟩
  | cons c cs ih =>
    intro vs K hl hv h
    cases vs with
    | nil => simp at hl
    | cons v vs =>
      obtain ⟨r1, r2⟩ := hv 0 v c rfl rfl
      obtain ⟨y, h1, h2⟩ := outCell_rep hC r1 r2 h
      obtain ⟨ds, h3, h4, h5⟩ := ih (by simpa using hl) (fun j u x hu hx => hv (j + 1) u x (by simpa using hu) (by simpa using hx)) h1
      refine ⟨_, h3, by simp [h4], fun j u x hu hx => ?_⟩
      cases j with
      | zero => simp at hu hx; subst hu hx; exact ⟨h2, r2⟩
      | succ j => exact h5 j u x (by simpa using hu) (by simpa using hx)

theorem outV_rep (hC : Conf W0 ok σ S a w) {m : List Nat} {x : AV} {v : Value} (hx : RepV w ok σ S.G x v) (ho : ∀ y, x = .c y → y.known = true) {K : AV → Prop} (h : outV m S.blk x K) :
    ∃ y, K y ∧ RepV w (OutOk S σ ok m) (outσ S σ m) (fun _ => 0) y v := by
  cases x with
  | c x =>
    obtain ⟨y, h1, h2⟩ := outCell_rep hC hx (oneCell_of_known hx (ho x rfl)) h
    exact ⟨_, h1, h2⟩
  | agg cs =>
    obtain ⟨arr, e1, e2, e3⟩ := hx
    obtain ⟨ds, h1, h2, h3⟩ := outCells_rep hC cs (vs := arr.toList) (by simpa using e2) (fun j u x hu hx => e3 j u x (by simpa using hu) hx) h
    exact ⟨_, h1, arr, e1, by rw [e2, h2], fun j u x hu hx => h3 j u x (by simpa using hu) hx⟩

theorem outVs_rep (hC : Conf W0 ok σ S a w) {m : List Nat} (xs : List AV) : ∀ {vs : List Value} {K : List AV → Prop}, vs.length = xs.length → (∀ (j : Nat) x v, xs[j]? = some x → vs[j]? = some v → RepV w ok σ S.G x v) → outVs m S.blk xs K →
    ∃ ys, K ys ∧ ys.length = xs.length ∧ ∀ (j : Nat) x v, ys[j]? = some x → vs[j]? = some v → RepV w (OutOk S σ ok m) (outσ S σ m) (fun _ => 0) x v := by
  induction xs with
  | nil => intro vs K hl hv h; exact ⟨[], h, rfl, fun j x v hx => by simp at hx⟩
  | cons x xs ih =>
    intro vs K hl hv h
    cases vs with
    | nil => simp at hl
    | cons v vs =>
      have hkn : ∀ y, x = .c y → y.known = true := by
        intro y e
        subst e
        cases y <;> first | rfl | exact h.elim
      obtain ⟨y, h1, h2⟩ := outV_rep hC (hv 0 x v rfl rfl) hkn h
      obtain ⟨ys, h3, h4, h5⟩ := ih (by simpa using hl) (fun j x' v' hx hv' => hv (j + 1) x' v' (by simpa using hx) (by simpa using hv')) h1
      refine ⟨_, h3, by simp [h4], fun j x' v' hx hv' => ?_⟩
      cases j with
      | zero => simp at hx hv'; subst hx hv'; exact h2
      | succ j => exact h5 j x' v' (by simpa using hx) (by simpa using hv')

theorem outB_rep (hC : Conf W0 ok σ S a w) {m : List Nat} (hnd : m.Nodup) (l : List Nat) : ∀ {i : Nat} {K : List Blk → Prop}, (∀ j, l[j]? = m[i + j]?) → outB m S.blk l K →
    ∃ bs, K bs ∧ (∀ (j : Nat) B, bs[j]? = some B → B.gen = 0 ∧ RepB W0.bs w (OutOk S σ ok m) (outσ S σ m) (fun _ => 0) (i + j) B ∧ ∃ b C, m[i + j]? = some b ∧ S.h[b]? = some C ∧ B.at (outσ S σ m) (i + j) = C.at σ b) := by
  induction l with
  | nil => intro i K _ h; exact ⟨[], h, fun j B hB => by simp at hB⟩
  | cons b l ih =>
    intro i K hl h
    have hb0 : m[i]? = some b := by have := hl 0; simpa using this.symm
    have hσ : ∀ g, S.G b = g → outσ S σ m i 0 = σ b g := by intro g hg; simp [outσ, hb0, hg]
    have hno : ∀ {C : Blk} {n : Nat}, S.h[b]? = some C → C.at σ b = some n → ¬ ok n → ¬ OutOk S σ ok m n := by
      intro C n hC' hn hk hh
      rcases hh with hh | ⟨b', B', hb', hB', hn'⟩
      · exact hk hh
      · have hne : b ≠ b' := fun e => hb' (e ▸ List.mem_of_getElem? hb0)
        exact hC.apart b b' C B' hC' hB' hne n hn hn'
    simp only [outB] at h
    have hrest : ∀ j, l[j]? = m[i + 1 + j]? := fun j => by have := hl (j + 1); rw [show i + 1 + j = i + (j + 1) by omega]; simpa using this
    split at h
    · rename_i g E sz es hb
      have hbs := blk_some hb (fun g e => by cases e)
      have hg : S.G b = g := by rw [blk_gen, hb]; rfl
      obtain ⟨bs, h1, h2⟩ := ih hrest h
      have hat : (Blk.row 0 E sz es).at (outσ S σ m) i = (Blk.row g E sz es).at σ b := by simp only [Blk.at]; rw [hσ g hg]
      refine ⟨_, h1, fun j B hB => ?_⟩
      cases j with
      | zero =>
        simp at hB
        subst hB
        refine ⟨rfl, ?_, b, _, hb0, hbs, hat⟩
        obtain ⟨xs, e1, e2, e3, e4⟩ := hC.blk b _ hbs
        refine ⟨xs, by rw [Nat.add_zero, hσ g hg]; exact e1, e2, ⟨fun n hn => ?_, by rw [Nat.add_zero, hσ g hg]; exact e3.has, by rw [Nat.add_zero, hσ g hg]; exact e3.cap⟩, fun k e j x hk hj => ?_⟩
        · rw [Nat.add_zero, hσ g hg] at hn
          refine hno hbs ?_ (e3.nok n hn)
          simp only [Blk.at]
          rcases e1.2 with ⟨e5, _⟩ | ⟨mm, cap, cur, e5, _⟩
          · rw [e5] at hn; simp [Value.ownBlock] at hn
          · rw [e5] at hn ⊢; simpa [Value.blkNo, Value.ownBlock] using hn
        · obtain ⟨u, hu, hr, ho⟩ := e4 k e j x hk hj
          exact ⟨u, hu, RepI.mono (fun _ h => Or.inl h) (fun _ _ => rfl) hr, ho⟩
      | succ j =>
        have := h2 j B (by simpa using hB)
        rwa [show i + (j + 1) = i + 1 + j by omega]
    · rename_i g cs hb
      have hbs := blk_some hb (fun g e => by cases e)
      have hg : S.G b = g := by rw [blk_gen, hb]; rfl
      obtain ⟨n, arr, ty, e1, e2, e3, e4, e5, e6⟩ := hC.blk b _ hbs
      obtain ⟨ds, h1, k2, k3⟩ := outCells_rep hC cs (vs := arr.toList) (by simpa using e5) (fun j u x hu hx => e6 j u x (by simpa using hu) hx) h
      obtain ⟨bs, h1, h2⟩ := ih hrest h1
      have hat : (Blk.var 0 ds).at (outσ S σ m) i = (Blk.var g cs).at σ b := by simp only [Blk.at]; rw [hσ g hg]
      refine ⟨_, h1, fun j B hB => ?_⟩
      cases j with
      | zero =>
        simp at hB
        subst hB
        refine ⟨rfl, ?_, b, _, hb0, hbs, hat⟩
        refine ⟨n, arr, ty, by rw [Nat.add_zero, hσ g hg]; exact e1, e2, hno hbs (by simp [Blk.at, e1, Value.blkNo]) e3, e4, by rw [e5, k2], fun j u x hu hx => k3 j u x (by simpa using hu) hx⟩
      | succ j =>
        have := h2 j B (by simpa using hB)
        rwa [show i + (j + 1) = i + 1 + j by omega]
    · rename_i g kk ag f hb
      have hbs := blk_some hb (fun g e => by cases e)
      have hg : S.G b = g := by rw [blk_gen, hb]; rfl
      obtain ⟨n, es, clock, e1, e2, e3, e4, e5⟩ := hC.blk b _ hbs
      obtain ⟨bs, h1, h2⟩ := ih hrest h
      have hat : (Blk.mp 0 kk ag f).at (outσ S σ m) i = (Blk.mp g kk ag f).at σ b := by simp only [Blk.at]; rw [hσ g hg]
      refine ⟨_, h1, fun j B hB => ?_⟩
      cases j with
      | zero =>
        simp at hB
        subst hB
        refine ⟨rfl, ?_, b, _, hb0, hbs, hat⟩
        exact ⟨n, es, clock, by rw [Nat.add_zero, hσ g hg]; exact e1, e2, hno hbs (by simp [Blk.at, e1, Value.blkNo]) e3, e4, RepM.mono (fun _ h => Or.inl h) (fun _ _ => rfl) e5⟩
      | succ j =>
        have := h2 j B (by simpa using hB)
        rwa [show i + (j + 1) = i + 1 + j by omega]
    · exact h.elim

theorem run_results (hT : TabOk P T) (hC : Conf W0 ok σ S a w) {fn : Func} {rs : List ResultVar} (hr : fn.results = rs.toArray) {K : List AV → Prop} (h : resK T S rs K) :
    ∃ (xs : List AV) (v : Value) (vs : List Value), K xs ∧ (results fn a.tmps).run P w = .ok v w ∧ vs.length = xs.length ∧ (∀ (j : Nat) x v, xs[j]? = some x → vs[j]? = some v → RepV w ok σ S.G x v) ∧ v = (if h : vs.toArray.size = 1 then vs.toArray[0] else .tuple vs.toArray) := by
  obtain ⟨xs, vs, h1, h2, h3, h4, h5⟩ := res_rep hT hC rs h
  refine ⟨xs, _, vs, h1, ?_, by omega, h5, rfl⟩
  unfold results
  rw [hr, Array.mapM_eq_mapM_toList]
  simp only [Sem.run_bind, Sem.run_map]
  exact congrArg (fun z : Result (List Value) => (z.andThen fun a w' => Result.ok a.toArray w').andThen fun a w' => Result.ok (if h : a.size = 1 then a[0] else Value.tuple a) w') h4

/-- THE CONTRACT, from the walk. -/
theorem fun_of_vc (hT : TabOk P T) (hm : P.follows .mixedOrders = true) {f : FuncId} {fn : Func} {c : Code} {args : List AV} {bs : List Blk} {res : AT} {rs : List ResultVar} (hf : P.funcs[f]? = some fn) (hb : fn.body = some c) (hn : (fn.name == "runtime.NumGoroutine") = false)
    (hr : fn.results = rs.toArray) (hargs : args.all (fun x => okV 0 x) = true) (m : Nat)
    (h : vc T P c (St0 args fn.ntmps m) (fun e S' => match e with
      | .exit _ => False
      | _ => ∃ ids : List Nat, ids.Nodup ∧ endK T S' rs ids fun bs' res' => bs' = bs ∧ res' = res)) : Fun P f args bs res := by
  refine ⟨⟨fn, hf, by rw [hb]; rfl, hn⟩, fun w ok argv hok hsz hrep => ?_⟩
  refine calls_of_wp hf hb (wp_mono (vc_sound (W0 := ⟨w, ok, [], none, hok.ent [] (by simp)⟩) hT hm c ⟨ok, fun _ _ => undef, ?_⟩ h) ?_)
  · refine ⟨⟨rfl, rfl, rfl, Nat.le_refl _, fun _ _ _ => rfl⟩, fun _ _ _ e => (by cases e), fun k => ⟨fun h => h, Or.inl⟩, rfl, hok.1, by simp [St0]; omega, fun i v x hv hx => ?_, fun b B hB => ?_, fun b b' B B' hB hB' hne n hn => ?_⟩
    · simp only [St0] at hx
      rw [List.getElem?_append] at hx
      split at hx
      · rename_i hi
        rw [List.length_map] at hi
        rw [List.getElem?_map] at hx
        obtain ⟨y, hy, rfl⟩ := Option.map_eq_some_iff.1 hx
        rw [Array.getElem?_append, if_pos (by omega)] at hv
        have hk : okV 0 y = true := List.all_eq_true.1 hargs y (List.mem_of_getElem? hy)
        exact ok0_rep (x := .v y) hk (hrep i v y hv hy)
      · have := List.mem_of_getElem? hx
        rw [List.eq_of_mem_replicate this]
        exact trivial
    · have := List.mem_of_getElem? hB
      simp only [St0] at this
      rw [List.eq_of_mem_replicate this]
      exact trivial
    · have := List.mem_of_getElem? hB
      simp only [St0] at this
      rw [List.eq_of_mem_replicate this] at hn
      simp [Blk.at] at hn
  · have fin : ∀ {a' : Act} {w' : World} {S' : St}, (∃ ok' σ', Conf ⟨w, ok, [], none, hok.ent [] (by simp)⟩ ok' σ' S' a' w') → (∃ ids : List Nat, ids.Nodup ∧ endK T S' rs ids fun bs' res' => bs' = bs ∧ res' = res) →
        a'.defers = [] ∧ ∃ v, (results fn a'.tmps).run P w' = .ok v w' ∧ ∃ v1 ok' σ, Ending.returned v = .returned v1 ∧ Below w.heap.size w w' ∧ (∀ k, ok k → ok' k) ∧ (∀ k, ok' k → ok k ∨ (w.heap.size ≤ k ∧ k < w'.heap.size)) ∧
          RepT w' ok' σ (fun _ => 0) res v1 ∧ (∀ (b : Nat) B, bs[b]? = some B → B.gen = 0 ∧ RepB w.heap.size w' ok' σ (fun _ => 0) b B) ∧
          (∀ (b b' : Nat) B B', bs[b]? = some B → bs[b']? = some B' → b ≠ b' → ∀ n, B.at σ b = some n → B'.at σ b' ≠ some n) := by
      rintro a' w' S' ⟨ok', σ', hC⟩ ⟨ids, hnd, hE⟩
      obtain ⟨xs, v, vs, h1, h2, h3, h4, h5⟩ := run_results (fn := fn) hT hC hr hE
      obtain ⟨ys, k1, k2, k3⟩ := outVs_rep hC xs h3 h4 h1
      obtain ⟨bs', ⟨rfl, rfl⟩, k5⟩ := outB_rep hC hnd ids (i := 0) (fun j => by rw [Nat.zero_add]) k1
      refine ⟨hC.defers, v, h2, v, OutOk S' σ' ok' ids, outσ S' σ' ids, rfl, ⟨hC.below.os, hC.below.tape, hC.below.output, hC.below.size, fun k hk => hC.below.block k hk (by simp)⟩, fun k hk => Or.inl ((hC.base k).1 hk), fun k hk => ?_, ?_, fun b B hB => ?_, fun b b' B B' hB hB' hne n hn hn' => ?_⟩
      · rcases hk with hk | ⟨b, B, _, hB, hn⟩
        · rcases (hC.base k).2 hk with h | h
          · exact Or.inl h
          · exact Or.inr ⟨h.resolve_right (fun e => by cases e), hC.okb k hk⟩
        · exact Or.inr ⟨(at_bounds (hC.blk b B hB) hn).1.resolve_right (fun e => by cases e), (at_bounds (hC.blk b B hB) hn).2.1⟩
      · rw [h5]
        have hl : vs.length = ys.length := by omega
        match ys, vs, hl with
        | [], [], _ => exact ⟨#[], by simp, rfl, fun j u x hu hx => by simp at hx⟩
        | [y], [u], _ => exact k3 0 y u rfl rfl
        | y :: y' :: ys, u :: u' :: us, hl =>
          refine ⟨(u :: u' :: us).toArray, by simp, by simpa using hl, fun j z x hz hx => k3 j x z hx (by simpa using hz)⟩
      · have := k5 b B hB
        rw [Nat.zero_add] at this
        exact ⟨this.1, this.2.1⟩
      · obtain ⟨_, _, c, C, e1, e2, e3⟩ := k5 b B hB
        obtain ⟨_, _, c', C', e1', e2', e3'⟩ := k5 b' B' hB'
        rw [Nat.zero_add] at e1 e3 e1' e3'
        rw [e3] at hn
        rw [e3'] at hn'
        have hcc : c ≠ c' := by
          intro e
          subst e
          have hb : b < ids.length := (List.getElem?_eq_some_iff.1 e1).1
          have hb' : b' < ids.length := (List.getElem?_eq_some_iff.1 e1').1
          exact hne ((List.getElem?_inj hb hnd).1 (e1.trans e1'.symm))
        exact hC.apart c c' C C' e2 e2' hcc n hn hn'
    intro e a' w' he
    cases e with
    | normal => obtain ⟨S', hC, hE⟩ := he; exact fin hC hE
    | ret => obtain ⟨S', hC, hE⟩ := he; exact fin hC hE
    | exit id => obtain ⟨S', hC, hE⟩ := he; exact hE.elim
    | goto l => exact he.elim
    | panic c => exact he.elim
    | outgrown => exact he.elim
def StP (cs : List AV1) (args : List AV) (n m : Nat) : St := ⟨.v (.c (.ptr 0 0 0)) :: (args.map .v ++ List.replicate (n - (args.length + 1)) (.v (.c .un))), .var 0 cs :: List.replicate m (.dead 0)⟩

/-- The contract of a function whose first argument points to a variable of the caller's. -/
theorem funP_of_vc (hT : TabOk P T) (hm : P.follows .mixedOrders = true) {f : FuncId} {fn : Func} {c : Code} {cs : List AV1} {args : List AV} {cs' : List AV1} {res : AT} {rs : List ResultVar} (hf : P.funcs[f]? = some fn) (hb : fn.body = some c) (hn : (fn.name == "runtime.NumGoroutine") = false)
    (hr : fn.results = rs.toArray) (hargs : args.all (fun x => okV 0 x) = true) (hcs : cs.all isI = true) (hcs' : cs'.all isI = true) (hres : okT 0 res = true) (m : Nat)
    (h : vc T P c (StP cs args fn.ntmps m) (fun e S' => match e with
      | .exit _ => False
      | _ => S'.G 0 = 0 ∧ endK T S' rs [0] fun bs' res' => bs' = [.var 0 cs'] ∧ res' = res)) : FunP P f cs args cs' res := by
  refine ⟨⟨fn, hf, by rw [hb]; rfl, hn⟩, fun w ok mm arr ty argv hok hmm hnok hBe hsz hrep => ?_⟩
  have hml : mm < w.heap.size := (Array.getElem?_eq_some_iff.1 hmm).1
  refine calls_of_wp hf hb (wp_mono (vc_sound (W0 := ⟨w, ok, [mm], some 0, hok.ent [mm] (fun k hk => by rw [List.mem_singleton.1 hk]; exact hnok)⟩) hT hm c ⟨ok, fun _ _ => .pointer (some ⟨mm, 0, none⟩), ?_⟩ h) ?_)
  · refine ⟨⟨rfl, rfl, rfl, Nat.le_refl _, fun _ _ _ => rfl⟩, fun hb i m _ e => (by cases i with | zero => (injection e with e; rw [e]) | succ i => cases e), fun k => ⟨fun h => h, Or.inl⟩, rfl, hok.1, by simp [StP]; omega, fun i v x hv hx => ?_, fun b B hB => ?_, fun b b' B B' hB hB' hne n hn => ?_⟩
    · cases i with
      | zero =>
        have e1 : x = .v (.c (.ptr 0 0 0)) := by simpa [StP, eq_comm] using hx
        have e2 : v = .pointer (some ⟨mm, 0, none⟩) := by
          rw [Array.getElem?_append, if_pos (by simp; omega), Array.getElem?_append, if_pos (by simp)] at hv
          simpa [eq_comm] using hv
        subst e1 e2
        exact ⟨Nat.le_refl _, mm, rfl, rfl⟩
      | succ i =>
        simp only [StP, List.getElem?_cons_succ] at hx
        rw [List.getElem?_append] at hx
        split at hx
        · rename_i hi
          rw [List.length_map] at hi
          rw [List.getElem?_map] at hx
          obtain ⟨y, hy, rfl⟩ := Option.map_eq_some_iff.1 hx
          rw [Array.getElem?_append, if_pos (by simp; omega)] at hv
          rw [Array.getElem?_append, if_neg (by simp)] at hv
          have hk : okV 0 y = true := List.all_eq_true.1 hargs y (List.mem_of_getElem? hy)
          exact ok0_rep (x := .v y) hk (hrep i v y (by simpa using hv) hy)
        · have := List.mem_of_getElem? hx
          rw [List.eq_of_mem_replicate this]
          exact trivial
    · cases b with
      | zero =>
        have e1 : B = .var 0 cs := by simpa [StP, eq_comm] using hB
        subst e1
        have hb' := bears_isI (σ' := fun _ _ => .pointer (some ⟨mm, 0, none⟩)) (G' := (StP cs args fn.ntmps m).G) hcs hBe
        exact ⟨mm, arr, ty, rfl, Or.inr (List.mem_singleton.2 rfl), hnok, hmm, hb'.1, hb'.2⟩
      | succ b =>
        simp only [StP, List.getElem?_cons_succ] at hB
        have := List.mem_of_getElem? hB
        rw [List.eq_of_mem_replicate this]
        exact trivial
    · cases b with
      | zero =>
        cases b' with
        | zero => exact absurd rfl hne
        | succ b' =>
          simp only [StP, List.getElem?_cons_succ] at hB'
          have := List.mem_of_getElem? hB'
          rw [List.eq_of_mem_replicate this]
          simp [Blk.at]
      | succ b =>
        simp only [StP, List.getElem?_cons_succ] at hB
        have := List.mem_of_getElem? hB
        rw [List.eq_of_mem_replicate this] at hn
        simp [Blk.at] at hn
  · have fin : ∀ {a' : Act} {w' : World} {S' : St}, (∃ ok' σ', Conf ⟨w, ok, [mm], some 0, hok.ent [mm] (fun k hk => by rw [List.mem_singleton.1 hk]; exact hnok)⟩ ok' σ' S' a' w') → (S'.G 0 = 0 ∧ endK T S' rs [0] fun bs' res' => bs' = [.var 0 cs'] ∧ res' = res) →
        a'.defers = [] ∧ ∃ v, (results fn a'.tmps).run P w' = .ok v w' ∧ ∃ v1 ok' arr' ty', Ending.returned v = .returned v1 ∧ w.grownBy w' (some mm) ∧ (∀ k, ok k → ok' k) ∧ (∀ k, ok' k → ok k ∨ (w.heap.size ≤ k ∧ k < w'.heap.size)) ∧
          w'.heap[mm]? = some (.cells arr' ty' (0, 0)) ∧ Bears w' ok' (fun _ _ => undef) (fun _ => 0) arr' cs' ∧ RepT w' ok' (fun _ _ => undef) (fun _ => 0) res v1 := by
      rintro a' w' S' ⟨ok', σ', hC⟩ ⟨hG, hE⟩
      obtain ⟨xs, v, vs, h1, h2, h3, h4, h5⟩ := run_results (fn := fn) hT hC hr hE
      obtain ⟨ys, k1, k2, k3⟩ := outVs_rep hC xs h3 h4 h1
      obtain ⟨bs', ⟨rfl, rfl⟩, k5⟩ := outB_rep hC (m := [0]) (by simp) [0] (i := 0) (fun j => by rw [Nat.zero_add]) k1
      have hσ := hC.hole 0 0 mm rfl rfl
      obtain ⟨_, hB, b0, C0, e1, e2, e3⟩ := k5 0 _ rfl
      obtain ⟨n, arr', ty', q1, q2, q3, q4, q5, q6⟩ := hB
      have q0 : outσ S' σ' [0] 0 0 = .pointer (some ⟨mm, 0, none⟩) := by simpa [outσ, hG] using hσ
      have hnm : n = mm := by
        rw [Nat.zero_add, q0] at q1
        injection q1 with q1; injection q1 with q1; injection q1 with q1; exact q1.symm
      subst hnm
      refine ⟨hC.defers, v, h2, v, OutOk S' σ' ok' [0], arr', ty', rfl, ⟨hC.below.os, hC.below.tape, hC.below.output, hC.below.size, fun k hk hne => hC.below.block k hk (fun e => hne (by rw [List.mem_singleton.1 e]))⟩, fun k hk => Or.inl ((hC.base k).1 hk), fun k hk => ?_, q4, ?_, ?_⟩
      · have own : ∀ {k : Nat}, (⟨w.heap.size, [n]⟩ : Bs).has k → OutOk S' σ' ok' [0] k → w.heap.size ≤ k := by
          intro k h hk
          refine h.resolve_right (fun e => ?_)
          exact q3 (List.mem_singleton.1 e ▸ hk)
        have hk0 := hk
        rcases hk with hk' | ⟨b, B, hb, hB, hn⟩
        · rcases (hC.base k).2 hk' with h | h
          · exact Or.inl h
          · exact Or.inr ⟨own h hk0, hC.okb k hk'⟩
        · exact Or.inr ⟨own (at_bounds (hC.blk b B hB) hn).1 hk0, (at_bounds (hC.blk b B hB) hn).2.1⟩
      · exact bears_isI hcs' (show Bears _ _ (outσ S' σ' [0]) (fun _ => 0) _ _ from ⟨q5, q6⟩)
      · refine ok0_rep (σ := outσ S' σ' [0]) (G := fun _ => 0) hres ?_
        rw [h5]
        have hl : vs.length = ys.length := by omega
        match ys, vs, hl with
        | [], [], _ => exact ⟨#[], by simp, rfl, fun j u x hu hx => by simp at hx⟩
        | [y], [u], _ => exact k3 0 y u rfl rfl
        | y :: y' :: ys, u :: u' :: us, hl =>
          refine ⟨(u :: u' :: us).toArray, by simp, by simpa using hl, fun j z x hz hx => k3 j x z hx (by simpa using hz)⟩
    intro e a' w' he
    cases e with
    | normal => obtain ⟨S', hC, hE⟩ := he; exact fin hC hE
    | ret => obtain ⟨S', hC, hE⟩ := he; exact fin hC hE
    | exit id => obtain ⟨S', hC, hE⟩ := he; exact hE.elim
    | goto l => exact he.elim
    | panic c => exact he.elim
    | outgrown => exact he.elim

/-- The same, of a function that answers a new row. -/
theorem funPR_of_vc (hT : TabOk P T) (hm : P.follows .mixedOrders = true) {f : FuncId} {fn : Func} {c : Code} {cs : List AV1} {args : List AV} {cs' : List AV1} {E sz : Nat} {es : List (List IV)} {rs : List ResultVar} (hf : P.funcs[f]? = some fn) (hb : fn.body = some c) (hn : (fn.name == "runtime.NumGoroutine") = false)
    (hr : fn.results = rs.toArray) (hargs : args.all (fun x => okV 0 x) = true) (hcs : cs.all isI = true) (hcs' : cs'.all isI = true) (m : Nat)
    (h : vc T P c (StP cs args fn.ntmps m) (fun e S' => match e with
      | .exit _ => False
      | _ => S'.G 0 = 0 ∧ ∃ q, q ≠ 0 ∧ endK T S' rs [0, q] fun bs' res' => bs' = [.var 0 cs', .row 0 E sz es] ∧ res' = .v (.c (.own 1 0)))) : FunPR P f cs args cs' E sz es := by
  refine ⟨⟨fn, hf, by rw [hb]; rfl, hn⟩, fun w ok mm arr ty argv hok hmm hnok hBe hsz hrep => ?_⟩
  have hml : mm < w.heap.size := (Array.getElem?_eq_some_iff.1 hmm).1
  refine calls_of_wp hf hb (wp_mono (vc_sound (W0 := ⟨w, ok, [mm], some 0, hok.ent [mm] (fun k hk => by rw [List.mem_singleton.1 hk]; exact hnok)⟩) hT hm c ⟨ok, fun _ _ => .pointer (some ⟨mm, 0, none⟩), ?_⟩ h) ?_)
  · refine ⟨⟨rfl, rfl, rfl, Nat.le_refl _, fun _ _ _ => rfl⟩, fun hb i m _ e => (by cases i with | zero => (injection e with e; rw [e]) | succ i => cases e), fun k => ⟨fun h => h, Or.inl⟩, rfl, hok.1, by simp [StP]; omega, fun i v x hv hx => ?_, fun b B hB => ?_, fun b b' B B' hB hB' hne n hn => ?_⟩
    · cases i with
      | zero =>
        have e1 : x = .v (.c (.ptr 0 0 0)) := by simpa [StP, eq_comm] using hx
        have e2 : v = .pointer (some ⟨mm, 0, none⟩) := by
          rw [Array.getElem?_append, if_pos (by simp; omega), Array.getElem?_append, if_pos (by simp)] at hv
          simpa [eq_comm] using hv
        subst e1 e2
        exact ⟨Nat.le_refl _, mm, rfl, rfl⟩
      | succ i =>
        simp only [StP, List.getElem?_cons_succ] at hx
        rw [List.getElem?_append] at hx
        split at hx
        · rename_i hi
          rw [List.length_map] at hi
          rw [List.getElem?_map] at hx
          obtain ⟨y, hy, rfl⟩ := Option.map_eq_some_iff.1 hx
          rw [Array.getElem?_append, if_pos (by simp; omega)] at hv
          rw [Array.getElem?_append, if_neg (by simp)] at hv
          have hk : okV 0 y = true := List.all_eq_true.1 hargs y (List.mem_of_getElem? hy)
          exact ok0_rep (x := .v y) hk (hrep i v y (by simpa using hv) hy)
        · have := List.mem_of_getElem? hx
          rw [List.eq_of_mem_replicate this]
          exact trivial
    · cases b with
      | zero =>
        have e1 : B = .var 0 cs := by simpa [StP, eq_comm] using hB
        subst e1
        have hb' := bears_isI (σ' := fun _ _ => .pointer (some ⟨mm, 0, none⟩)) (G' := (StP cs args fn.ntmps m).G) hcs hBe
        exact ⟨mm, arr, ty, rfl, Or.inr (List.mem_singleton.2 rfl), hnok, hmm, hb'.1, hb'.2⟩
      | succ b =>
        simp only [StP, List.getElem?_cons_succ] at hB
        have := List.mem_of_getElem? hB
        rw [List.eq_of_mem_replicate this]
        exact trivial
    · cases b with
      | zero =>
        cases b' with
        | zero => exact absurd rfl hne
        | succ b' =>
          simp only [StP, List.getElem?_cons_succ] at hB'
          have := List.mem_of_getElem? hB'
          rw [List.eq_of_mem_replicate this]
          simp [Blk.at]
      | succ b =>
        simp only [StP, List.getElem?_cons_succ] at hB
        have := List.mem_of_getElem? hB
        rw [List.eq_of_mem_replicate this] at hn
        simp [Blk.at] at hn
  · have fin : ∀ {a' : Act} {w' : World} {S' : St}, (∃ ok' σ', Conf ⟨w, ok, [mm], some 0, hok.ent [mm] (fun k hk => by rw [List.mem_singleton.1 hk]; exact hnok)⟩ ok' σ' S' a' w') → (S'.G 0 = 0 ∧ ∃ q, q ≠ 0 ∧ endK T S' rs [0, q] fun bs' res' => bs' = [.var 0 cs', .row 0 E sz es] ∧ res' = .v (.c (.own 1 0))) →
        a'.defers = [] ∧ ∃ v, (results fn a'.tmps).run P w' = .ok v w' ∧ ∃ v1 ok' arr' ty', Ending.returned v = .returned v1 ∧ w.grownBy w' (some mm) ∧ (∀ k, ok k → ok' k) ∧ (∀ k, ok' k → ok k ∨ (w.heap.size ≤ k ∧ k < w'.heap.size)) ∧
          w'.heap[mm]? = some (.cells arr' ty' (0, 0)) ∧ Bears w' ok' (fun _ _ => undef) (fun _ => 0) arr' cs' ∧ v1.oneCell' = true ∧ RepB w.heap.size w' ok' (fun _ _ => v1) (fun _ => 0) 0 (.row 0 E sz es) := by
      rintro a' w' S' ⟨ok', σ', hC⟩ ⟨hG, q, hq0, hE⟩
      obtain ⟨xs, v, vs, h1, h2, h3, h4, h5⟩ := run_results (fn := fn) hT hC hr hE
      obtain ⟨ys, k1, k2, k3⟩ := outVs_rep hC xs h3 h4 h1
      have hnd : [0, q].Nodup := by simp [eq_comm, hq0]
      obtain ⟨bs', ⟨rfl, hys⟩, k5⟩ := outB_rep hC hnd [0, q] (i := 0) (fun j => by rw [Nat.zero_add]) k1
      have hσ := hC.hole 0 0 mm rfl rfl
      obtain ⟨_, hB, b0, C0, e1, e2, e3⟩ := k5 0 _ rfl
      obtain ⟨_, hB1, b1, C1, f1, f2, f3⟩ := k5 1 _ rfl
      obtain ⟨n, arr', ty', q1, q2, q3, q4, q5, q6⟩ := hB
      have q0 : outσ S' σ' [0, q] 0 0 = .pointer (some ⟨mm, 0, none⟩) := by simpa [outσ, hG] using hσ
      have hnm : n = mm := by
        rw [Nat.zero_add, q0] at q1
        injection q1 with q1; injection q1 with q1; injection q1 with q1; exact q1.symm
      subst hnm
      have hv : v = outσ S' σ' [0, q] 1 0 ∧ v.oneCell' = true := by
        rw [h5]
        have hl : vs.length = ys.length := by omega
        match ys, vs, hl, hys with
        | [y], [u], _, hys =>
          have hys' : AT.v y = AT.v (.c (.own 1 0)) := hys
          have hy : y = .c (.own 1 0) := by injection hys'
          have := k3 0 y u rfl rfl
          rw [hy] at this
          exact this.2
      have hap : ∀ n', (Blk.row 0 E sz es).at (outσ S' σ' [0, q]) 1 = some n' → n' ≠ n := by
        intro n' hn' e
        subst e
        rw [show (0 : Nat) + 1 = 1 from rfl] at f3
        rw [show (0 : Nat) + 0 = 0 from rfl] at e3
        rw [f3] at hn'
        have hc : b0 ≠ b1 := by
          have a1 : b0 = 0 := by simpa [eq_comm] using e1
          have a2 : b1 = q := by simpa [eq_comm] using f1
          rw [a1, a2]
          exact fun e => hq0 e.symm
        refine hC.apart b0 b1 C0 C1 e2 f2 hc n' ?_ hn'
        rw [← e3]
        simp only [Blk.at, q0, Value.blkNo]
      have own : ∀ {k : Nat}, (⟨w.heap.size, [n]⟩ : Bs).has k → OutOk S' σ' ok' [0, q] k → w.heap.size ≤ k := by
        intro k h hk
        refine h.resolve_right (fun e => ?_)
        exact q3 (List.mem_singleton.1 e ▸ hk)
      refine ⟨hC.defers, v, h2, v, OutOk S' σ' ok' [0, q], arr', ty', rfl, ⟨hC.below.os, hC.below.tape, hC.below.output, hC.below.size, fun k hk hne => hC.below.block k hk (fun e => hne (by rw [List.mem_singleton.1 e]))⟩, fun k hk => Or.inl ((hC.base k).1 hk), fun k hk => ?_, q4, ?_, hv.2, ?_⟩
      · have hk0 := hk
        rcases hk with hk' | ⟨b, B, hb, hB, hn⟩
        · rcases (hC.base k).2 hk' with h | h
          · exact Or.inl h
          · exact Or.inr ⟨own h hk0, hC.okb k hk'⟩
        · exact Or.inr ⟨own (at_bounds (hC.blk b B hB) hn).1 hk0, (at_bounds (hC.blk b B hB) hn).2.1⟩
      · exact bears_isI hcs' (show Bears _ _ (outσ S' σ' [0, q]) (fun _ => 0) _ _ from ⟨q5, q6⟩)
      · obtain ⟨xs, r1, r2, r3, r4⟩ := hB1
        rw [show (0 : Nat) + 1 = 1 from rfl, ← hv.1] at r1 r3
        refine ⟨xs, r1, r2, ⟨r3.nok, fun m hm => ?_, r3.cap⟩, r4⟩
        refine Or.inl ((r3.has m hm).resolve_right (fun e => ?_))
        refine hap m ?_ (List.mem_singleton.1 e)
        simp only [Blk.at]
        rw [← hv.1]
        rcases r1.2 with ⟨e', _⟩ | ⟨m', cap, cur, e', _⟩
        · rw [e'] at hm; simp [Value.ownBlock] at hm
        · rw [e'] at hm ⊢; simpa [Value.blkNo, Value.ownBlock] using hm
    intro e a' w' he
    cases e with
    | normal => obtain ⟨S', hC, hE⟩ := he; exact fin hC hE
    | ret => obtain ⟨S', hC, hE⟩ := he; exact fin hC hE
    | exit id => obtain ⟨S', hC, hE⟩ := he; exact hE.elim
    | goto l => exact he.elim
    | panic c => exact he.elim
    | outgrown => exact he.elim

def StA (E sz : Nat) (es : List (List IV)) (args : List AV) (n m : Nat) : St := ⟨.v (.c (.own 0 0)) :: (args.map .v ++ List.replicate (n - (args.length + 1)) (.v (.c .un))), .row 0 E sz es :: List.replicate m (.dead 0)⟩
/-- The end of a body that answers the row. -/
def endA (T : Nat → TI) (S : St) (rs : List ResultVar) (E sz : Nat) (es' : List (List IV)) : Prop :=
  resK T S rs fun xs => match xs with
    | [.c (.own b g)] => match S.blk b with
      | .row g' E' sz' es0 => g' = g ∧ E' = E ∧ sz' = sz ∧ es0 = es'
      | _ => False
    | [.c (.osub b g sz1 lo hi)] => match S.blk b with
      | .row g' E' sz' es0 => g' = g ∧ E' = E ∧ sz' = sz ∧ sz1 = sz ∧ lo = 0 ∧ E < CX ∧ es0.take hi = es'
      | _ => False
    | _ => False
/-- The contract of a function that turns the row that is its first argument, and answers it. -/
theorem funA_of_vc (hT : TabOk P T) (hm : P.follows .mixedOrders = true) {f : FuncId} {fn : Func} {c : Code} {E sz : Nat} {es es' : List (List IV)} {args : List AV} {rs : List ResultVar} (hf : P.funcs[f]? = some fn) (hb : fn.body = some c) (hn : (fn.name == "runtime.NumGoroutine") = false)
    (hr : fn.results = rs.toArray) (hargs : args.all (fun x => okV 0 x) = true) (m : Nat)
    (h : vc T P c (StA E sz es args fn.ntmps m) (fun e S' => match e with
      | .exit _ => False
      | _ => endA T S' rs E sz es')) : FunA P f E sz es args es' := by
  refine ⟨⟨fn, hf, by rw [hb]; rfl, hn⟩, fun w ok v0 xs argv hok hown hlen hnok hcap hcell hsz hrep => ?_⟩
  have hv1 : v0.oneCell' = true := by
    rcases hown.2 with ⟨rfl, _⟩ | ⟨m, cap, cur, rfl, _⟩ <;> rfl
  have hmem : ∀ {k : Nat}, k ∈ (Value.ownBlock v0).toList ↔ Value.ownBlock v0 = some k := by
    intro k
    cases Value.ownBlock v0 <;> simp
    exact eq_comm
  refine calls_of_wp hf hb (wp_mono (vc_sound (W0 := ⟨w, ok, (Value.ownBlock v0).toList, none, hok.ent _ (fun k hk => hnok k (by simpa using hk))⟩) hT hm c ⟨ok, fun _ _ => v0, ?_⟩ h) ?_)
  · refine ⟨⟨rfl, rfl, rfl, Nat.le_refl _, fun _ _ _ => rfl⟩, fun hb i m e => (by cases e), fun k => ⟨fun h => h, Or.inl⟩, rfl, hok.1, by simp [StA]; omega, fun i v x hv hx => ?_, fun b B hB => ?_, fun b b' B B' hB hB' hne n hn => ?_⟩
    · cases i with
      | zero =>
        have e1 : x = .v (.c (.own 0 0)) := by simpa [StA, eq_comm] using hx
        have e2 : v = v0 := by
          rw [Array.getElem?_append, if_pos (by simp; omega), Array.getElem?_append, if_pos (by simp)] at hv
          simpa [eq_comm] using hv
        subst e1 e2
        exact ⟨Nat.le_refl _, rfl, hv1⟩
      | succ i =>
        simp only [StA, List.getElem?_cons_succ] at hx
        rw [List.getElem?_append] at hx
        split at hx
        · rename_i hi
          rw [List.length_map] at hi
          rw [List.getElem?_map] at hx
          obtain ⟨y, hy, rfl⟩ := Option.map_eq_some_iff.1 hx
          rw [Array.getElem?_append, if_pos (by simp; omega)] at hv
          rw [Array.getElem?_append, if_neg (by simp)] at hv
          have hk : okV 0 y = true := List.all_eq_true.1 hargs y (List.mem_of_getElem? hy)
          exact ok0_rep (x := .v y) hk (hrep i v y (by simpa using hv) hy)
        · have := List.mem_of_getElem? hx
          rw [List.eq_of_mem_replicate this]
          exact trivial
    · cases b with
      | zero =>
        have e1 : B = .row 0 E sz es := by simpa [StA, eq_comm] using hB
        subst e1
        exact ⟨xs, hown, hlen, ⟨hnok, fun m hm => Or.inr (hmem.2 hm), hcap⟩, hcell⟩
      | succ b =>
        simp only [StA, List.getElem?_cons_succ] at hB
        have := List.mem_of_getElem? hB
        rw [List.eq_of_mem_replicate this]
        exact trivial
    · cases b with
      | zero =>
        cases b' with
        | zero => exact absurd rfl hne
        | succ b' =>
          simp only [StA, List.getElem?_cons_succ] at hB'
          have := List.mem_of_getElem? hB'
          rw [List.eq_of_mem_replicate this]
          simp [Blk.at]
      | succ b =>
        simp only [StA, List.getElem?_cons_succ] at hB
        have := List.mem_of_getElem? hB
        rw [List.eq_of_mem_replicate this] at hn
        simp [Blk.at] at hn
  · have fin : ∀ {a' : Act} {w' : World} {S' : St}, (∃ ok' σ', Conf ⟨w, ok, (Value.ownBlock v0).toList, none, hok.ent _ (fun k hk => hnok k (by simpa using hk))⟩ ok' σ' S' a' w') → endA T S' rs E sz es' →
        a'.defers = [] ∧ ∃ v, (results fn a'.tmps).run P w' = .ok v w' ∧ ∃ v1 xs', Ending.returned v = .returned v1 ∧ w.grownBy w' (Value.ownBlock v0) ∧ OwnR w' 0 E sz v1 es'.length xs' ∧ (∀ e ∈ es', e.length = sz) ∧ (∀ m, Value.ownBlock v1 = some m → Value.ownBlock v0 = some m ∨ w.heap.size ≤ m) ∧ (CX ≤ E → ∀ A l c, v1 = .slice A l c → c = es'.length) ∧
          ∀ (k : Nat) e j x, es'[k]? = some e → e[j]? = some x → ∃ u, xs'[k * sz + j]? = some u ∧ RepI w' (fun _ => True) x u ∧ u.oneCell' = true := by
      rintro a' w' S' ⟨ok', σ', hC⟩ hE
      obtain ⟨ys, v, vs, h1, h2, h3, h4, h5⟩ := run_results (fn := fn) hT hC hr hE
      have hgrow : w.grownBy w' (Value.ownBlock v0) := ⟨hC.below.os, hC.below.tape, hC.below.output, hC.below.size, fun k hk hne => hC.below.block k hk (fun e => hne (hmem.1 e).symm)⟩
      have hhas : ∀ m, (⟨w.heap.size, (Value.ownBlock v0).toList⟩ : Bs).has m → Value.ownBlock v0 = some m ∨ w.heap.size ≤ m := fun m hm => hm.elim (fun h => Or.inr h) (fun h => Or.inl (hmem.1 h))
      split at h1
      · rename_i b g
        split at h1
        case h_2 => exact h1.elim
        rename_i g' E' sz' es0 hbk
        obtain ⟨rfl, rfl, rfl, rfl⟩ := h1
        match vs, h3 with
        | [u], _ =>
          obtain ⟨_, hv, _⟩ := h4 0 _ u rfl rfl
          have hvu : v = u := by rw [h5]; rfl
          obtain ⟨zs, e1, e2, e3, e4⟩ := hC.blk b _ (blk_some hbk (fun g e => by cases e))
          rw [← hv, ← hvu] at e1 e3
          exact ⟨hC.defers, v, h2, v, zs, rfl, hgrow, e1, e2, fun m hm => hhas m (e3.has m hm), e3.cap, fun k e j x hk hj => by
            obtain ⟨u, hu, hr, ho⟩ := e4 k e j x hk hj
            exact ⟨u, hu, RepI.mono (fun _ _ => trivial) (fun _ _ => rfl) hr, ho⟩⟩
      · rename_i b g sz1 lo hi
        split at h1
        case h_2 => exact h1.elim
        rename_i g' E' sz' es0 hbk
        obtain ⟨rfl, rfl, rfl, rfl, rfl, hEC, rfl⟩ := h1
        match vs, h3 with
        | [u], _ =>
          obtain ⟨_, A, A', n, c, hv, q1, q2, q3, hvv, q5⟩ := h4 0 _ u rfl rfl
          have hvu : v = u := by rw [h5]; rfl
          obtain ⟨zs, e1, e2, e3, e4⟩ := hC.blk b _ (blk_some hbk (fun g e => by cases e))
          rw [hv] at e1
          obtain rfl := row_len e1
          obtain rfl : A' = A := by rw [q5 (Or.inl rfl), map_add0]
          rw [Nat.sub_zero, Nat.sub_zero, ← hvu] at hvv
          have hlt : (es0.take hi).length = hi := by rw [List.length_take]; omega
          have hle : hi * sz1 ≤ es0.length * sz1 := Nat.mul_le_mul_right _ q2
          refine ⟨hC.defers, v, h2, v, zs.take (hi * sz1), rfl, hgrow, ?_, fun e he => e2 e (List.mem_of_mem_take he), fun m hm => hhas m (e3.has m ?_), fun h => absurd h (by omega), ?_⟩
          · rw [hlt]
            refine ⟨by rw [List.length_take, e1.1]; omega, ?_⟩
            rcases e1.2 with ⟨e5, e6⟩ | ⟨m, cap, cur, e5, e6, e7, e8, e9, e10, e11⟩
            · left
              injection e5 with e5 e5' e5''
              exact ⟨by rw [hvv, e5, e5'']; congr 1; omega, by omega⟩
            · right
              injection e5 with e5 e5' e5''
              refine ⟨m, c, cur, by rw [hvv, e5], e6, by rw [e5'']; exact e7, by omega, by rw [e5'']; exact e9, by rw [e10, e5''], ?_⟩
              rw [← e11, List.take_take, Nat.min_eq_left hle]
          · rw [hv]
            rw [hvv] at hm
            cases A' <;> exact hm
          · have hc1 := cells_cut (R := fun y u => RepI w' (fun _ => True) y u ∧ u.oneCell' = true) (lo := 0) e1.1 q2 e2 (fun k e j y hk hj => by
              obtain ⟨u, hu, hr, ho⟩ := e4 k e j y hk hj
              exact ⟨u, hu, RepI.mono (fun _ _ => trivial) (fun _ _ => rfl) hr, ho⟩)
            simpa only [Nat.zero_mul, List.drop_zero] using hc1
      · exact h1.elim
    intro e a' w' he
    cases e with
    | normal => obtain ⟨S', hC, hE⟩ := he; exact fin hC hE
    | ret => obtain ⟨S', hC, hE⟩ := he; exact fin hC hE
    | exit id => obtain ⟨S', hC, hE⟩ := he; exact hE.elim
    | goto l => exact he.elim
    | panic c => exact he.elim
    | outgrown => exact he.elim
end
end Go.Proofs.YtikchieadclbhaaGreatDoor.Ab
