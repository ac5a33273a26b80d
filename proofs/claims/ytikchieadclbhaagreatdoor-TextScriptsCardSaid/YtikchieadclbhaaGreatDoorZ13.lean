/- Calls, and every operation at once: the model follows the abstract step. No condition. -/
import Derived.Test.YtikchieadclbhaaGreatDoorZ12
namespace Go.Proofs.YtikchieadclbhaaGreatDoor.Ab
set_option linter.unusedVariables false
set_option linter.unusedSimpArgs false
open Go.RowKit

/-- The operation goes on, and what it leaves is borne. -/
def Goes (P : Program) (W0 : Ent) (S : St) (o : Oper) (a : Act) (w : World) (K : Kont) (Q : Exit → Act → World → Prop) : Prop :=
  o.wp P a w (fun a' w' => ∃ r u d, K r u d ∧ (∀ p ∈ u, p.1 < S.h.length) ∧ ∃ ok σ, Conf W0 ok σ (S.put o.dst r u) a' w') Q

section
variable {P : Program} {T : Nat → TI} {W0 : Ent} {w w' : World} {ok ok' : Nat → Prop} {σ σc : Nat → Nat → Value} {S : St} {a : Act} {o : Oper} {K : Kont} {Q : Exit → Act → World → Prop}

theorem Done.goes (h : Done P W0 S o a w K) : Goes P W0 S o a w K Q := by
  obtain ⟨v, w', r, u, d, hrun, hK, hu, ok, σ, hC⟩ := h
  unfold Goes Oper.wp
  rcases hrun with hrun | ⟨hrun, rfl⟩
  · rw [hrun]; exact ⟨r, u, d, hK, hu, ok, σ, hC⟩
  · rw [hrun]; exact ⟨r, u, d, hK, hu, ok, σ, hC⟩

theorem run_enter {f : FuncId} (h : Enters P f) (args : Array Value) : (callFunc f args).run P w = .ok (.enter f args) w := by
  obtain ⟨fn, h1, h2, h3⟩ := h
  unfold callFunc
  simp only [Sem.run_bind, run_program, Result.andThen_ok, h1, h3, h2, Bool.false_eq_true, if_false]
  rfl

theorem run_call {f : FuncId} (h : Enters P f) {args : Array Operand} {tys : Array TypeId} (ho : o.op = .call { callee := .value (.func f), args := args, argTypes := tys }) :
    (execOp a.eval o).run P w = .ok (.enter f (args.map a.eval)) w := by
  simp [execOp, ho, resolve, Act.eval, Deferred.ofValue, invoke, run_enter h]

/-- The function that a value is, and what it holds. -/
def asFn : AT → Option (FuncId × List Cap)
  | .v (.c (.i (.sc (.func (.func f) ⟨[]⟩ ⟨[]⟩)))) => some (f, [])
  | .v (.c (.clo f ps)) => some (f, ps)
  | _ => none
def capT : Cap → AT
  | .ptr b g off => .v (.c (.ptr b g off))
  | .pim cs => .v (.c (.pim cs))
  | .sc v => .v (.c (.i (.sc v)))
theorem run_callv {x : Operand} {f : FuncId} {caps : List Value} (hx : a.eval x = .func (.func f) #[] caps.toArray) (h : Enters P f) {args : List Operand} {tys : Array TypeId} (ho : o.op = .call { callee := .value x, args := args.toArray, argTypes := tys }) :
    (execOp a.eval o).run P w = .ok (.enter f (args.map a.eval ++ caps).toArray) w := by
  simp [execOp, ho, resolve, hx, Deferred.ofValue, invoke, run_enter h]

theorem Below.toGrown {w w' : World} (h : Below w.heap.size w w') : w.grownBy w' none := ⟨h.os, h.tape, h.output, h.size, fun k hk _ => h.block k hk⟩

theorem own_mono {base base' : Nat} {E sz n : Nat} {v : Value} {xs : List Value} (h : OwnR w base E sz v n xs) (hb : base' ≤ base) : OwnR w base' E sz v n xs := by
  refine ⟨h.1, ?_⟩
  rcases h.2 with h | ⟨g, cap, cur, e, h1, r⟩
  · exact Or.inl h
  · exact Or.inr ⟨g, cap, cur, e, Nat.le_trans hb h1, r⟩

theorem RepB.reloc {base base' : Bs} {b b' g' : Nat} {B : Blk} {G : Nat → Nat} (h : RepB base w ok σc (fun _ => 0) b B) (hg : B.gen = 0) (hp : B.pure = true) (hb : base'.n ≤ base.n ∧ (∀ k, k ∈ base.hole → k ∈ base'.hole)) (hσ : σ b' g' = σc b 0) : RepB base' w ok σ G b' (B.reGen g') := by
  cases B with
  | dead g => cases hp
  | froz g es => cases hp
  | rowp g E sz es N => cases hp
  | var g cs =>
    obtain rfl : g = 0 := hg
    obtain ⟨n, arr, ty, e1, e2, e3, e4, e5, e6⟩ := h
    refine ⟨n, arr, ty, by rw [hσ]; exact e1, e2.imp (Nat.le_trans hb.1) (hb.2 n), e3, e4, e5, fun j u x hu hx => ?_⟩
    have hi : isI x = true := List.all_eq_true.1 hp x (List.mem_of_getElem? hx)
    exact ⟨rep_isI hi (e6 j u x hu hx).1, (e6 j u x hu hx).2⟩
  | mp g kk ag f =>
    obtain rfl : g = 0 := hg
    obtain ⟨m, es, clock, e1, e2, e3, e4, e5⟩ := h
    exact ⟨m, es, clock, by rw [hσ]; exact e1, e2.imp (Nat.le_trans hb.1) (hb.2 m), e3, e4, e5⟩
  | row g E sz es =>
    obtain rfl : g = 0 := hg
    obtain ⟨xs, e1, e2, e3, e4⟩ := h
    exact ⟨xs, by rw [hσ]; exact e1, e2, by rw [hσ]; exact ⟨e3.nok, fun m hm => (e3.has m hm).imp (Nat.le_trans hb.1) (hb.2 m), e3.cap⟩, e4⟩

theorem at_reGen {b b' g' : Nat} {B : Blk} (hg : B.gen = 0) (hσ : σ b' g' = σc b 0) : (B.reGen g').at σ b' = B.at σc b := by
  cases B with
  | dead g => rfl
  | froz g es => rfl
  | var g cs =>
    obtain rfl : g = 0 := hg
    show Value.blkNo (σ b' g') = Value.blkNo (σc b 0)
    rw [hσ]
  | row g E sz es =>
    obtain rfl : g = 0 := hg
    show Value.blkNo (σ b' g') = Value.blkNo (σc b 0)
    rw [hσ]
  | mp g kk ag f =>
    obtain rfl : g = 0 := hg
    show Value.blkNo (σ b' g') = Value.blkNo (σc b 0)
    rw [hσ]
  | rowp g E sz es N =>
    obtain rfl : g = 0 := hg
    show Value.blkNo (σ b' g') = Value.blkNo (σc b 0)
    rw [hσ]

theorem gen_reGen (B : Blk) (g : Nat) : (B.reGen g).gen = g := by cases B <;> rfl

/-- The answer's new rows become entries, one after the other. -/
theorem add_rows (bs : List Blk) : ∀ (j d : Nat) (S : St) (σ : Nat → Nat → Value), Conf W0 ok σ S a w → d + bs.length ≤ S.h.length →
    (∀ (i : Nat) B, bs[i]? = some B → B.gen = 0 ∧ B.pure = true ∧ RepB W0.bs w ok σc (fun _ => 0) (j + i) B) →
    (∀ (i : Nat) B n, bs[i]? = some B → B.at σc (j + i) = some n → ∀ (c : Nat) C, S.h[c]? = some C → C.at σ c ≠ some n) →
    (∀ (i i' : Nat) B B', bs[i]? = some B → bs[i']? = some B' → i ≠ i' → ∀ n, B.at σc (j + i) = some n → B'.at σc (j + i') ≠ some n) →
    ∃ σ', Conf W0 ok σ' (S.put none (.v (.c .un)) (updsOf S.blk d bs)) a w ∧ (∀ c g, g ≤ S.G c → σ' c g = σ c g) ∧ (∀ i, i < bs.length → σ' (d + i) (S.G (d + i) + 1) = σc (j + i) 0) ∧
      (∀ i, i < bs.length → (S.put none (.v (.c .un)) (updsOf S.blk d bs)).G (d + i) = S.G (d + i) + 1) ∧ (∀ c, (c < d ∨ d + bs.length ≤ c) → (S.put none (.v (.c .un)) (updsOf S.blk d bs)).G c = S.G c) := by
  induction bs with
  | nil =>
    intro j d S σ hC _ _ _ _
    exact ⟨σ, hC, fun _ _ _ => rfl, fun i hi => by simp at hi, fun i hi => by simp at hi, fun _ _ => rfl⟩
  | cons B bs ih =>
    intro j d S σ hC hlen hB hfresh hap
    simp only [List.length_cons] at hlen
    obtain ⟨g0, p0, r0⟩ := hB 0 B rfl
    have hd : d < S.h.length := by omega
    have hσ0 : ∀ c g, g ≤ S.G c → (if c = d ∧ g = S.G d + 1 then σc j 0 else σ c g) = σ c g := by
      intro c g hg
      rw [if_neg]
      rintro ⟨rfl, rfl⟩
      omega
    have hself : (if d = d ∧ S.G d + 1 = S.G d + 1 then σc j 0 else σ d (S.G d + 1)) = σc j 0 := by simp
    have hC1 : Conf W0 ok (fun c g => if c = d ∧ g = S.G d + 1 then σc j 0 else σ c g) (S.put none (.v (.c .un)) [(d, B.reGen (S.G d + 1))]) (a.put none undef) w := by
      refine hC.step (row := none) (grown_refl w) (by simp) (fun _ h => h) hC.okb (fun _ h => Or.inl h) hd (by rw [gen_reGen]; omega) hσ0 ?_ ?_ trivial
      · exact RepB.reloc (b := j) (by simpa using r0) g0 p0 ⟨Nat.le_refl _, fun _ h => h⟩ hself
      · intro n hn c C hc hC' hn'
        rw [at_reGen (b := j) g0 hself] at hn
        exact hfresh 0 B n rfl (by simpa using hn) c C hC' hn'
    have hblk1 : ∀ c, c ≠ d → (S.put none (.v (.c .un)) [(d, B.reGen (S.G d + 1))]).blk c = S.blk c := by
      intro c hc
      unfold St.blk
      rw [nthO_eq, nthO_eq]
      simp [St.put, List.getElem?_set_ne (fun e => hc e.symm)]
    have hG1 : ∀ c, c ≠ d → (S.put none (.v (.c .un)) [(d, B.reGen (S.G d + 1))]).G c = S.G c := fun c hc => by simp [St.G, St.put, List.getElem?_set_ne (fun e => hc e.symm)]
    have hGd : (S.put none (.v (.c .un)) [(d, B.reGen (S.G d + 1))]).G d = S.G d + 1 := by simp [St.G, St.put, hd, gen_reGen]
    have hupd : ∀ (l : List Blk) (d' : Nat), d < d' → updsOf (S.put none (.v (.c .un)) [(d, B.reGen (S.G d + 1))]).blk d' l = updsOf S.blk d' l := by
      intro l
      induction l with
      | nil => intro d' _; rfl
      | cons x l ih2 => intro d' hd'; simp only [updsOf]; rw [hblk1 d' (by omega), ih2 (d' + 1) (by omega)]
    obtain ⟨σ', h1, h2, h3, h4, h5⟩ := ih (j + 1) (d + 1) _ _ hC1 (by simp [St.put]; omega)
      (fun i C hi => by have := hB (i + 1) C (by simpa using hi); rwa [show j + (i + 1) = j + 1 + i by omega] at this)
      (fun i C n hi hn c C' hC' hn' => by
        by_cases hc : c = d
        · subst hc
          have : C' = B.reGen (S.G c + 1) := by simpa [St.put, hd, eq_comm] using hC'
          subst this
          rw [at_reGen (b := j) g0 hself] at hn'
          exact hap 0 (i + 1) B C rfl (by simpa using hi) (by omega) n (by simpa using hn') (by rw [show j + (i + 1) = j + 1 + i by omega]; exact hn)
        · have e : S.h[c]? = some C' := by simpa [St.put, List.getElem?_set_ne (fun e => hc e.symm)] using hC'
          rw [at_same hσ0 (gen_le e)] at hn'
          exact hfresh (i + 1) C n (by simpa using hi) (by rw [show j + (i + 1) = j + 1 + i by omega]; exact hn) c C' e hn')
      (fun i i' C C' hi hi' hne n hn hn' => hap (i + 1) (i' + 1) C C' (by simpa using hi) (by simpa using hi') (by omega) n (by rw [show j + (i + 1) = j + 1 + i by omega]; exact hn) (by rw [show j + (i' + 1) = j + 1 + i' by omega]; exact hn'))
    rw [hupd bs (d + 1) (by omega)] at h1 h4 h5
    have hst : (S.put none (.v (.c .un)) [(d, B.reGen (S.G d + 1))]).put none (.v (.c .un)) (updsOf S.blk (d + 1) bs) = S.put none (.v (.c .un)) (updsOf S.blk d (B :: bs)) := by
      simp [St.put, updsOf, blk_gen]
    rw [hst] at h1 h4 h5
    refine ⟨σ', h1, fun c g hg => ?_, fun i hi => ?_, fun i hi => ?_, fun c hc => ?_⟩
    · rw [h2 c g (by by_cases hc : c = d; (subst hc; omega); (rw [hG1 c hc]; exact hg))]
      exact hσ0 c g hg
    · cases i with
      | zero =>
        rw [Nat.add_zero, Nat.add_zero, h2 d (S.G d + 1) (by omega)]
        exact hself
      | succ i =>
        have := h3 i (by simpa using hi)
        rw [hG1 _ (by omega)] at this
        rw [show d + (i + 1) = d + 1 + i by omega, show j + (i + 1) = j + 1 + i by omega]
        exact this
    · cases i with
      | zero => rw [Nat.add_zero, h5 d (by omega)]; exact hGd
      | succ i =>
        have := h4 i (by simpa using hi)
        rw [hG1 _ (by omega)] at this
        rw [show d + (i + 1) = d + 1 + i by omega]
        exact this
    · simp only [List.length_cons] at hc
      rw [h5 c (by omega)]
      exact hG1 c (by omega)

theorem clo_fast {f : Nat} {ps : List Cap} (hk : ps.all Cap.fast = true) {v : Value} {σ σ' : Nat → Nat → Value} {G G' : Nat → Nat} (hx : Rep1 w ok σ G (.clo f ps) v) : Rep1 w ok σ' G' (.clo f ps) v := by
  obtain ⟨vs, e, hl, hr⟩ := hx
  refine ⟨vs, e, hl, fun j p u hp hu => ?_⟩
  have h1 := hr j p u hp hu
  have h2 := List.all_eq_true.1 hk p (List.mem_of_getElem? hp)
  cases p with
  | ptr b g off => cases h2
  | pim cs => exact h1
  | sc u => exact h1
theorem reloc1_rep {n : Nat} {x : AV1} {v : Value} {G : Nat → Nat} {ids : Nat → Nat × Nat} (hx : Rep1 w ok σc (fun _ => 0) x v) (hk : ok1 n x = true) (hσ : ∀ i, i < n → σ (ids i).1 (ids i).2 = σc i 0 ∧ (ids i).2 ≤ G (ids i).1) : Rep1 w ok σ G (reloc1 ids x) v := by
  cases x with
  | i x => exact hx
  | own b g =>
    cases g with
    | zero =>
      have hb : b < n := by simpa [ok1] using hk
      obtain ⟨_, h1, h2⟩ := hx
      exact ⟨(hσ b hb).2, by rw [(hσ b hb).1]; exact h1, h2⟩
    | succ g => cases hk
  | ptr b g off =>
    cases g with
    | zero =>
      have hb : b < n := by simpa [ok1] using hk
      obtain ⟨_, h1⟩ := hx
      exact ⟨(hσ b hb).2, by rw [(hσ b hb).1]; exact h1⟩
    | succ g => cases hk
  | pim cs => exact hx
  | sly es c => exact hx
  | clo f ps => exact clo_fast hk hx
  | _ => cases hk
theorem relocV_rep {n : Nat} {x : AV} {v : Value} {G : Nat → Nat} {ids : Nat → Nat × Nat} (hx : RepV w ok σc (fun _ => 0) x v) (hk : okV n x = true) (hσ : ∀ i, i < n → σ (ids i).1 (ids i).2 = σc i 0 ∧ (ids i).2 ≤ G (ids i).1) : RepV w ok σ G (relocV ids x) v := by
  cases x with
  | c x => exact reloc1_rep hx hk hσ
  | agg cs =>
    obtain ⟨arr, e1, e2, e3⟩ := hx
    refine ⟨arr, e1, by simpa using e2, fun j u x hu hx => ?_⟩
    rw [List.getElem?_map] at hx
    obtain ⟨y, hy, rfl⟩ := Option.map_eq_some_iff.1 hx
    exact ⟨reloc1_rep (e3 j u y hu hy).1 (List.all_eq_true.1 hk y (List.mem_of_getElem? hy)) hσ, (e3 j u y hu hy).2⟩
theorem relocT_rep {n : Nat} {x : AT} {v : Value} {G : Nat → Nat} {ids : Nat → Nat × Nat} (hx : RepT w ok σc (fun _ => 0) x v) (hk : okT n x = true) (hσ : ∀ i, i < n → σ (ids i).1 (ids i).2 = σc i 0 ∧ (ids i).2 ≤ G (ids i).1) : RepT w ok σ G (relocT ids x) v := by
  cases x with
  | v x => exact relocV_rep hx hk hσ
  | tup xs =>
    obtain ⟨arr, e1, e2, e3⟩ := hx
    refine ⟨arr, e1, by simpa using e2, fun j u x hu hx => ?_⟩
    rw [List.getElem?_map] at hx
    obtain ⟨y, hy, rfl⟩ := Option.map_eq_some_iff.1 hx
    exact relocV_rep (e3 j u y hu hy) (List.all_eq_true.1 hk y (List.mem_of_getElem? hy)) hσ
theorem reloc_none {x : AT} (hk : okT 0 x = true) (ids : Nat → Nat × Nat) : relocT ids x = x := by
  have h1 : ∀ y, ok1 0 y = true → reloc1 ids y = y := by
    intro y hy
    cases y with
    | own b g => cases g <;> simp [ok1] at hy
    | ptr b g off => cases g <;> simp [ok1] at hy
    | _ => rfl
  have hV : ∀ y, okV 0 y = true → relocV ids y = y := by
    intro y hy
    cases y with
    | c x => simp [relocV, h1 x hy]
    | agg cs =>
      simp only [relocV]
      congr 1
      conv => rhs; rw [← List.map_id cs]
      exact List.map_congr_left fun z hz => h1 z (List.all_eq_true.1 hy z hz)
  cases x with
  | v x => simp [relocT, hV x hk]
  | tup xs =>
    simp only [relocT]
    congr 1
    conv => rhs; rw [← List.map_id xs]
    exact List.map_congr_left fun z hz => hV z (List.all_eq_true.1 hk z hz)

theorem reloc_congr {n : Nat} {x : AT} (hk : okT n x = true) {ids ids' : Nat → Nat × Nat} (h : ∀ j, j < n → ids j = ids' j) : relocT ids x = relocT ids' x := by
  have h1 : ∀ y, ok1 n y = true → reloc1 ids y = reloc1 ids' y := by
    intro y hy
    cases y with
    | own b g =>
      cases g with
      | zero => simp only [reloc1]; rw [h b (by simpa [ok1] using hy)]
      | succ g => rfl
    | ptr b g off =>
      cases g with
      | zero => simp only [reloc1]; rw [h b (by simpa [ok1] using hy)]
      | succ g => rfl
    | _ => rfl
  have hV : ∀ y, okV n y = true → relocV ids y = relocV ids' y := by
    intro y hy
    cases y with
    | c x => simp [relocV, h1 x hy]
    | agg cs =>
      simp only [relocV]
      congr 1
      exact List.map_congr_left fun z hz => h1 z (List.all_eq_true.1 hy z hz)
  cases x with
  | v x => simp [relocT, hV x hk]
  | tup xs =>
    simp only [relocT]
    congr 1
    exact List.map_congr_left fun z hz => hV z (List.all_eq_true.1 hk z hz)

/-- Plain values read the same whatever is ok. -/
theorem sc_rep {x : AT} {v : Value} {ok1' ok2 : Nat → Prop} {G : Nat → Nat} (h : scT x = true) (hx : RepT w ok1' σ G x v) : RepT w ok2 σ G x v := by
  have h1 : ∀ {y : AV1} {u : Value}, sc1 y = true → Rep1 w ok1' σ G y u → Rep1 w ok2 σ G y u := by
    intro y u hy hu
    cases y with
    | i z =>
      cases z with
      | sc z => cases hu; exact RepI.sc _ (by assumption)
      | sl es => cases hy
    | _ => cases hy
  have hV : ∀ {y : AV} {u : Value}, scV y = true → RepV w ok1' σ G y u → RepV w ok2 σ G y u := by
    intro y u hy hu
    cases y with
    | c y => exact h1 hy hu
    | agg cs =>
      obtain ⟨arr, e1, e2, e3⟩ := hu
      exact ⟨arr, e1, e2, fun j u x hu hx => ⟨h1 (List.all_eq_true.1 hy x (List.mem_of_getElem? hx)) (e3 j u x hu hx).1, (e3 j u x hu hx).2⟩⟩
  cases x with
  | v x => exact hV h hx
  | tup xs =>
    obtain ⟨arr, e1, e2, e3⟩ := hx
    exact ⟨arr, e1, e2, fun j u x hu hx => hV (List.all_eq_true.1 h x (List.mem_of_getElem? hx)) (e3 j u x hu hx)⟩

theorem updsOf_lt {H : Nat → Blk} (bs : List Blk) : ∀ (d n : Nat), d + bs.length ≤ n → ∀ p ∈ updsOf H d bs, p.1 < n := by
  induction bs with
  | nil => intro d n _ p hp; simp [updsOf] at hp
  | cons B bs ih =>
    intro d n h p hp
    simp only [List.length_cons] at h
    simp only [updsOf, List.mem_cons] at hp
    rcases hp with rfl | hp
    · show d < n; omega
    · exact ih (d + 1) n (by omega) p hp

theorem updsOf_congr {H H' : Nat → Blk} (h : ∀ c, (H' c).gen = (H c).gen) (bs : List Blk) : ∀ d, updsOf H' d bs = updsOf H d bs := by
  induction bs with
  | nil => intro d; rfl
  | cons B bs ih => intro d; simp only [updsOf]; rw [h, ih]
theorem foldl_set_get (u : List (Nat × Blk)) : ∀ (h : List Blk) (b : Nat), b ∉ u.map (·.1) → (u.foldl (fun h p => h.set p.1 p.2) h)[b]? = h[b]? := by
  induction u with
  | nil => intro h b _; rfl
  | cons p u ih =>
    intro h b hb
    simp only [List.map_cons, List.mem_cons, not_or] at hb
    simp only [List.foldl_cons]
    rw [ih _ b hb.2, List.getElem?_set_ne (fun e => hb.1 e.symm)]
theorem put_put (S : St) (dst : Option Tmp) (r r0 : AT) (u u' : List (Nat × Blk)) : (S.put none r0 u).put dst r u' = S.put dst r (u ++ u') := by simp [St.put, List.foldl_append]
theorem put_hlen (S : St) (dst : Option Tmp) (r : AT) (u : List (Nat × Blk)) : (S.put dst r u).h.length = S.h.length := by
  simp only [St.put]
  generalize S.h = h
  induction u generalizing h with
  | nil => rfl
  | cons p u ih => simp only [List.foldl_cons]; rw [ih]; simp

theorem ok0_rep {x : AT} (hk : okT 0 x = true) {v : Value} {σ σ' : Nat → Nat → Value} {G G' : Nat → Nat} (hx : RepT w ok σ G x v) : RepT w ok σ' G' x v := by
  have h1 : ∀ {y : AV1} {u : Value}, ok1 0 y = true → Rep1 w ok σ G y u → Rep1 w ok σ' G' y u := by
    intro y u hy hu
    cases y with
    | own b g => cases g <;> simp [ok1] at hy
    | ptr b g off => cases g <;> simp [ok1] at hy
    | i x => exact hu
    | pim cs => exact hu
    | sly es c => exact hu
    | clo f ps => exact clo_fast hy hu
    | _ => cases hy
  have hV : ∀ {y : AV} {u : Value}, okV 0 y = true → RepV w ok σ G y u → RepV w ok σ' G' y u := by
    intro y u hy hu
    cases y with
    | c y => exact h1 hy hu
    | agg cs =>
      obtain ⟨arr, e1, e2, e3⟩ := hu
      exact ⟨arr, e1, e2, fun j u x hu hx => ⟨h1 (List.all_eq_true.1 hy x (List.mem_of_getElem? hx)) (e3 j u x hu hx).1, (e3 j u x hu hx).2⟩⟩
  cases x with
  | v x => exact hV hk hx
  | tup xs =>
    obtain ⟨arr, e1, e2, e3⟩ := hx
    exact ⟨arr, e1, e2, fun j u x hu hx => hV (List.all_eq_true.1 hk x (List.mem_of_getElem? hx)) (e3 j u x hu hx)⟩

/-- A call whose arguments never turn, or are handed over. -/
theorem call_full (hC : Conf W0 ok σ S a w) {f : FuncId} {az : List AV} {vs : List Value} {bs : List Blk} {res : AT} {dst : Option Tmp} (hF : Fun P f az bs res) (hl : vs.length = az.length)
    (hrep : ∀ (j : Nat) v x, vs[j]? = some v → az[j]? = some x → RepV w ok (fun _ _ => undef) (fun _ => 0) x v) {d : Nat} (hokT : okT bs.length res = true) (hpure : bs.all Blk.pure = true) (hfit : d + bs.length ≤ S.h.length) :
    Calls P f vs.toArray w fun e w' => ∃ v, e = .returned v ∧ ∃ ok' σ', Conf W0 ok' σ' (S.put dst (relocT (fun j => (d + j, (S.blk (d + j)).gen + 1)) res) (updsOf S.blk d bs)) (a.put dst v) w' := by
  obtain ⟨hEn, hF⟩ := hF
  refine (hF w ok vs.toArray hC.okw (by simpa using hl) (fun j v x hv hx => hrep j v x (by simpa using hv) hx)).mono ?_
  rintro e w' ⟨v, ok', σc, rfl, hbel, hs1, hs2, hres', hbs, hap⟩
  refine ⟨v, rfl, ?_⟩
  have hgrow := Below.toGrown hbel
  have hC1 : Conf W0 ok' σ (S.put none (.v (.c .un)) []) (a.put none v) w' :=
    hC.stay hgrow hs1 (fun k hk => by rcases hs2 k hk with h | h; (exact Nat.lt_of_lt_of_le (hC.okb k h) hbel.size); (exact h.2)) (fun k hk => by rcases hs2 k hk with h | h; (exact Or.inl h); (exact Or.inr h.1)) trivial
  have hbase : ∀ (i : Nat) B, bs[i]? = some B → RepB W0.bs w' ok' σc (fun _ => 0) i B := by
    intro i B hi
    have hg := (hbs i B hi).1
    have hr := RepB.reloc (base' := W0.bs) (b := i) (b' := i) (g' := 0) (σ := σc) (G := fun _ => 0) (hbs i B hi).2 hg (List.all_eq_true.1 hpure B (List.mem_of_getElem? hi)) ⟨hC.below.size, fun _ h => by cases h⟩ rfl
    cases B <;> simp only [Blk.gen] at hg <;> subst hg <;> exact hr
  obtain ⟨σ', h1, h2, h3, h4, h5⟩ := add_rows (σc := σc) bs 0 d (S.put none (.v (.c .un)) []) σ hC1 hfit
    (fun i B hi => ⟨(hbs i B hi).1, List.all_eq_true.1 hpure B (List.mem_of_getElem? hi), by rw [Nat.zero_add]; exact hbase i B hi⟩)
    (fun i B n hi hn c C hc hn' => by
      rw [Nat.zero_add] at hn
      have e1 : w.heap.size ≤ n := (at_bounds (hbs i B hi).2 hn).1.resolve_right (fun h => by cases h)
      have e2 := (at_bounds (hC.blk c C hc) hn').2.1
      omega)
    (fun i i' B B' hi hi' hne n hn hn' => by
      rw [Nat.zero_add] at hn hn'
      exact hap i i' B B' hi hi' hne n hn hn')
  have hGe : (S.put none (.v (.c .un)) []).G = S.G := rfl
  have hbe : (S.put none (.v (.c .un)) []).blk = S.blk := rfl
  rw [hbe] at h1 h4 h5
  have hresF : RepT w' ok' σ' ((S.put none (.v (.c .un)) []).put none (.v (.c .un)) (updsOf S.blk d bs)).G (relocT (fun j => (d + j, (S.blk (d + j)).gen + 1)) res) v := by
    refine relocT_rep (n := bs.length) hres' hokT (fun i hi => ?_)
    have e1 := h3 i hi
    have e2 := h4 i hi
    rw [hGe, Nat.zero_add] at e1
    rw [hGe] at e2
    refine ⟨by rw [← blk_gen]; exact e1, ?_⟩
    show (S.blk (d + i)).gen + 1 ≤ _
    rw [← blk_gen, e2]
    exact Nat.le_refl _
  have hC2 := h1.stay (dst := dst) (v := v) (r := relocT (fun j => (d + j, (S.blk (d + j)).gen + 1)) res) (grown_refl w') (fun _ h => h) h1.okb (fun _ h => Or.inl h) hresF
  exact ⟨ok', σ', hC2⟩

/-- A call that answers a plain value. -/
theorem call_scal (hC : Conf W0 ok σ S a w) {f : FuncId} {az : List AV} {vs : List Value} {res : AT} {dst : Option Tmp} {rd : List Nat} (hF : Fun P f az [] res) (hl : vs.length = az.length)
    (hrep : ∀ (j : Nat) v x, vs[j]? = some v → az[j]? = some x → RepV w (Lent S σ ok rd) (fun _ _ => undef) (fun _ => 0) x v) (hokT : okT 0 res = true) (hsc : scT res = true) :
    Calls P f vs.toArray w fun e w' => ∃ v, e = .returned v ∧ ∃ ok' σ', Conf W0 ok' σ' (S.put dst res []) (a.put dst v) w' := by
  obtain ⟨hEn, hF⟩ := hF
  have hokcb : ∀ k, Lent S σ ok rd k → k < w.heap.size := by
    intro k hk
    rcases hk with hk | ⟨b, B, _, hb, hk⟩
    · exact hC.okb k hk
    · exact (at_bounds (hC.blk b B hb) hk).2.1
  refine (hF w _ vs.toArray (hC.okw.mono (fun _ h => Or.inl h) hokcb) (by simpa using hl) (fun j v x hv hx => hrep j v x (by simpa using hv) hx)).mono ?_
  rintro e w' ⟨v, ok2, σc, rfl, hbel, hok2, hok2n, hres, hbs, hap⟩
  refine ⟨v, rfl, fun k => ok k ∨ (ok2 k ∧ w.heap.size ≤ k ∧ k < w'.heap.size), σ, ?_⟩
  refine hC.stay (Below.toGrown hbel) (fun _ h => Or.inl h) (fun k hk => ?_) (fun k hk => ?_) (ok0_rep hokT (sc_rep hsc hres))
  · rcases hk with hk | hk
    · exact Nat.lt_of_lt_of_le (hC.okb k hk) hbel.size
    · exact hk.2.2
  · rcases hk with hk | hk
    · exact Or.inl hk
    · exact Or.inr hk.2.1

theorem goes_call (hC : Conf W0 ok σ S a w) {f : FuncId} {xs : List AT} {vs : List Value} (hrun : Enters P f → (execOp a.eval o).run P w = .ok (.enter f vs.toArray) w) (hl : vs.length = xs.length)
    (hrep : ∀ (j : Nat) x v, xs[j]? = some x → vs[j]? = some v → RepT w ok σ S.G x v) (h : effCall P S.blk S.h.length o.dst f xs K) : Goes P W0 S o a w K Q := by
  unfold effCall at h
  split at h
  · exact h.elim
  rename_i d hd
  obtain ⟨az, t, rd, hA, bs, res, hF, h⟩ := argsIK_iff.1 h
  obtain ⟨al, ar⟩ := hA.rep hC
  have hrow := hA.rowish
  split at h
  · exact h.elim
  rename_i hchk
  simp only [Bool.and_eq_true] at hchk
  obtain ⟨⟨hokT, hpure⟩, hfit⟩ := hchk
  have hfit' := Nat.le_of_ble_eq_true hfit
  have hpick : ∀ {j : Nat} {x : AV}, az[j]? = some x → ∃ y, xs[j]? = some y := by
    intro j x hx
    have hj := (List.getElem?_eq_some_iff.1 hx).1
    rw [al] at hj
    exact ⟨_, List.getElem?_eq_getElem hj⟩
  unfold Goes Oper.wp
  rw [hrun hF.1, Oper.upon_enter]
  -- handed over
  have full : t ≠ .vars → afterCall S.blk d bs res rd (frz S.blk rd) K →
      Calls P f vs.toArray w fun e w' => ∃ v, e = .returned v ∧ ∃ r u d, K r u d ∧ (∀ p ∈ u, p.1 < S.h.length) ∧ ∃ ok σ, Conf W0 ok σ (S.put o.dst r u) (a.put o.dst v) w' := by
    intro ht hk
    obtain ⟨ok2, hC2, s1, s2, s3⟩ := hC.handed ht hrow
    have hgens : ∀ c, ((S.put none (.v (.c .un)) (frz S.blk rd)).blk c).gen = (S.blk c).gen := fun c => by rw [← blk_gen, ← blk_gen, s3]
    have hc := call_full hC2 (dst := o.dst) (d := d) hF (by rw [hl, al]) (fun j v x hv hx => by
      obtain ⟨y, hy⟩ := hpick hx
      exact repV_ok s2 (ar j y x v hy hx (hrep j y v hy hv)).1) hokT hpure (by rw [put_hlen]; exact hfit')
    refine hc.mono ?_
    rintro e w' ⟨v, rfl, ok', σ', hC3⟩
    have hfr : ∀ p ∈ frz S.blk rd, p.1 < S.h.length := by
      intro p hp
      obtain ⟨g, E, sz, es, h1, _⟩ := frz_mem hp
      exact (List.getElem?_eq_some_iff.1 (blk_some h1 (fun g e => by cases e))).1
    rw [put_put, updsOf_congr hgens] at hC3
    have hrl : relocT (fun j => (d + j, ((S.put none (.v (.c .un)) (frz S.blk rd)).blk (d + j)).gen + 1)) res = relocT (fun j => (d + j, (S.blk (d + j)).gen + 1)) res := by
      congr 1
      funext j
      rw [hgens]
    rw [hrl] at hC3
    unfold afterCall at hk
    split at hk
    · rw [reloc_none hokT] at hC3
      rw [show updsOf S.blk d [] = [] from rfl, List.append_nil] at hC3
      exact ⟨v, rfl, res, _, rd, hk, hfr, ok', σ', hC3⟩
    · obtain ⟨l, g1, g2, g3⟩ := idsK_eq S.blk bs d _ hk
      rw [← g2, ← reloc_congr hokT g3] at hC3
      refine ⟨v, rfl, _, _, _, g1, fun p hp => ?_, ok', σ', hC3⟩
      rcases List.mem_append.1 hp with hp | hp
      · exact hfr p hp
      · exact updsOf_lt bs d _ hfit' p (by rw [← g2]; exact hp)
  have scal : (scT res && bs.isEmpty) = true → K res [] rd →
      Calls P f vs.toArray w fun e w' => ∃ v, e = .returned v ∧ ∃ r u d, K r u d ∧ (∀ p ∈ u, p.1 < S.h.length) ∧ ∃ ok σ, Conf W0 ok σ (S.put o.dst r u) (a.put o.dst v) w' := by
    intro hsc hk
    simp only [Bool.and_eq_true, List.isEmpty_iff] at hsc
    obtain ⟨hsc, rfl⟩ := hsc
    refine (call_scal hC (dst := o.dst) (rd := rd) hF (by rw [hl, al]) (fun j v x hv hx => by
      obtain ⟨y, hy⟩ := hpick hx
      exact (ar j y x v hy hx (hrep j y v hy hv)).1) hokT hsc).mono ?_
    rintro e w' ⟨v, rfl, ok', σ', hC3⟩
    exact ⟨v, rfl, res, [], rd, hk, by simp, ok', σ', hC3⟩
  have key : Calls P f vs.toArray w fun e w' => ∃ v, e = .returned v ∧ ∃ r u d, K r u d ∧ (∀ p ∈ u, p.1 < S.h.length) ∧ ∃ ok σ, Conf W0 ok σ (S.put o.dst r u) (a.put o.dst v) w' := by
   cases t with
   | no =>
     refine full (by simp) ?_
     rw [frz_none rd (hrow.1 rfl)]
     exact h
   | rows =>
     dsimp only at h
     split at h
     · rename_i hsc; exact scal hsc h
     · rw [frzK_eq] at h; exact full (by simp) h
   | vars =>
     dsimp only at h
     split at h
     · rename_i hsc; exact scal hsc h
     · exact h.elim
  refine key.mono ?_
  rintro e w' ⟨v, rfl, hh⟩
  exact hh

/-- A call that turns a row of the caller's own. -/
theorem goes_callA (hC : Conf W0 ok σ S a w) {f : FuncId} {x : AT} {v0 : Value} {xs : List AT} {vs : List Value} (hrun : Enters P f → (execOp a.eval o).run P w = .ok (.enter f (v0 :: vs).toArray) w) (hl : vs.length = xs.length)
    (hx : RepT w ok σ S.G x v0) (hrep : ∀ (j : Nat) x v, xs[j]? = some x → vs[j]? = some v → RepT w ok σ S.G x v) (h : effCallA P S.blk S.h.length o.dst f x xs K) : Goes P W0 S o a w K Q := by
  have scal : ∀ {w' : World} {y : IV} {u : Value}, isScI y = true → RepI w' (fun _ => True) y u → ∀ (ok' : Nat → Prop), RepI w' ok' y u := by
    intro w' y u hy hr ok'
    cases hr with
    | sc _ h => exact .sc _ h
    | nil => cases hy
    | sl => cases hy
  have main : ∀ {b E sz : Nat} {es es' : List (List IV)} {ys : List Value} {az : List AV} {t : Ln} {rd : List Nat} {kd : List Nat}, b < S.h.length → OwnR w 0 E sz v0 es.length ys → (∀ e ∈ es, e.length = sz) → (∀ m, Value.ownBlock v0 = some m → ¬ Lent S σ ok rd m) → (∀ m, Value.ownBlock v0 = some m → W0.bs.has m ∧ ¬ ok m ∧ ∀ c C, c ≠ b → S.h[c]? = some C → C.at σ c ≠ some m) →
      (CX ≤ E → ∀ A l c, v0 = .slice A l c → c = es.length) → (∀ (k : Nat) e j x, es[k]? = some e → e[j]? = some x → ∃ u, ys[k * sz + j]? = some u ∧ RepI w ok x u ∧ u.oneCell' = true) →
      ArgsI S.blk xs az t rd → FunA P f E sz es az es' → (∀ e ∈ es', ∀ y ∈ e, isScI y = true) → K (.v (.c (.own b (S.G b + 1)))) [(b, .row (S.G b + 1) E sz es')] kd → Goes P W0 S o a w K Q := by
    intro b E sz es es' ys az t rd kd hbl e1 e2 hnl hhas hcx e4 hA hF hsc hK
    obtain ⟨al, ar⟩ := hA.rep hC
    obtain ⟨hEn, hF⟩ := hF
    have hokcb : ∀ k, Lent S σ ok rd k → k < w.heap.size := by
      intro k hk
      rcases hk with hk | ⟨b, B, _, hb, hk⟩
      · exact hC.okb k hk
      · exact (at_bounds (hC.blk b B hb) hk).2.1
    unfold Goes Oper.wp
    rw [hrun hEn, Oper.upon_enter, show (v0 :: vs).toArray = #[v0] ++ vs.toArray by simp]
    refine (hF w (Lent S σ ok rd) v0 ys vs.toArray (hC.okw.mono (fun _ h => Or.inl h) hokcb) e1 e2 hnl hcx (fun k e j x hk hj => by
      obtain ⟨u, hu, hr, ho⟩ := e4 k e j x hk hj
      exact ⟨u, hu, repI_ok (fun _ h => Or.inl h) hr, ho⟩) (by simpa [al] using hl) (fun j v x hv hx => by
        have hj := (List.getElem?_eq_some_iff.1 hx).1
        rw [al] at hj
        exact (ar j _ x v (List.getElem?_eq_getElem hj) hx (hrep j _ v (List.getElem?_eq_getElem hj) (by simpa using hv))).1)).mono ?_
    rintro e w' ⟨v', zs, rfl, hg, r1, r2, r3, r4, r5⟩
    have hv1 : v'.oneCell' = true := by
      rcases r1.2 with ⟨rfl, _⟩ | ⟨m, cap, cur, rfl, _⟩ <;> rfl
    have hob : Value.blkNo v' = Value.ownBlock v' := by
      rcases r1.2 with ⟨rfl, _⟩ | ⟨m, cap, cur, rfl, _⟩ <;> rfl
    have hσ : ∀ c g, g ≤ S.G c → (if c = b ∧ g = S.G b + 1 then v' else σ c g) = σ c g := by
      intro c g hg
      rw [if_neg]
      rintro ⟨rfl, rfl⟩
      omega
    have hGd : (S.put none (.v (.c .un)) [(b, Blk.row (S.G b + 1) E sz es')]).G b = S.G b + 1 := by simp [St.G, St.put, hbl, Blk.gen]
    have hnok : ∀ n, Value.ownBlock v' = some n → ¬ ok n := by
      intro n hn hk
      rcases r3 n hn with h | h
      · exact (hhas n h).2.1 hk
      · have := hC.okb n hk; omega
    refine ⟨_, _, _, hK, by simp [hbl], ok, fun c g => if c = b ∧ g = S.G b + 1 then v' else σ c g, ?_⟩
    refine hC.step (row := Value.ownBlock v0) hg (fun n hn => hhas n hn) (fun _ h => h) (fun k hk => Nat.lt_of_lt_of_le (hC.okb k hk) hg.size) (fun _ h => Or.inl h) hbl (by simp [Blk.gen]) hσ ?_ ?_ ?_
    · refine ⟨zs, by simpa using r1, r2, by
        simp only [and_self, if_true]
        refine ⟨hnok, fun n hn => ?_, r4⟩
        rcases r3 n hn with h | h
        · exact (hhas n h).1
        · exact Or.inl (Nat.le_trans hC.below.size h), fun k e j x hk hj => ?_⟩
      obtain ⟨u, hu, hr, ho⟩ := r5 k e j x hk hj
      exact ⟨u, hu, scal (hsc e (List.mem_of_getElem? hk) x (List.mem_of_getElem? hj)) hr _, ho⟩
    · intro n hn c C hc hC' hn'
      have hn1 : Value.ownBlock v' = some n := by rw [← hob]; simpa [Blk.at] using hn
      rcases r3 n hn1 with h | h
      · exact (hhas n h).2.2 c C hc hC' hn'
      · have := (at_bounds (hC.blk c C hC') hn').2.1
        omega
    · exact ⟨by rw [hGd]; exact Nat.le_refl _, by simp, hv1⟩
  unfold effCallA at h
  split at h
  · rename_i b g
    obtain ⟨hg, hv, _⟩ := hx
    split at h
    case h_2 => exact h.elim
    rename_i g' E sz es hb
    obtain ⟨rfl, h⟩ := h
    obtain ⟨az, t, rd, hA, es', hF, hsc, h⟩ := argsIK_iff.1 h
    split at h
    · exact h.elim
    rename_i hrd
    have hbs := blk_some hb (fun g e => by cases e)
    have hbl : b < S.h.length := (List.getElem?_eq_some_iff.1 hbs).1
    obtain ⟨ys, e1, e2, e3, e4⟩ := hC.blk b _ hbs
    rw [← hv] at e1 e3
    have hgen : S.G b = g' := by rw [blk_gen, hb]; rfl
    rw [← hgen] at h
    have hat : ∀ m, Value.ownBlock v0 = some m → (Blk.row g' E sz es).at σ b = some m := by
      intro m hm
      simp only [Blk.at]
      rw [← hv]
      rcases e1.2 with ⟨e5, _⟩ | ⟨m', cap, cur, e5, _⟩
      · rw [e5] at hm; simp [Value.ownBlock] at hm
      · rw [e5] at hm ⊢; simpa [Value.blkNo, Value.ownBlock] using hm
    have hapart : ∀ m, Value.ownBlock v0 = some m → ∀ c C, c ≠ b → S.h[c]? = some C → C.at σ c ≠ some m := fun m hm c C hc hC' hn' => hC.apart b c _ C hbs hC' (fun e => hc e.symm) m (hat m hm) hn'
    refine main hbl e1 e2 (fun m hm hh => ?_) (fun m hm => ⟨e3.has m hm, e3.nok m hm, hapart m hm⟩) e3.cap e4 hA hF hsc h
    rcases hh with hh | ⟨c, C, hc, hC', hn⟩
    · exact e3.nok m hm hh
    · refine hapart m hm c C ?_ hC' hn
      rintro rfl
      have : rd.any (fun d => Nat.beq d c) = true := List.any_eq_true.2 ⟨c, hc, Nat.beq_refl c⟩
      rw [hrd] at this
      cases this
  · have hv : v0 = .slice none 0 0 := hx
    split at h
    · exact h.elim
    rename_i d hd
    split at h
    case h_2 => exact h.elim
    rename_i hdl
    have hdl' : d < S.h.length := by rw [Nat.blt_eq] at hdl; exact hdl
    obtain ⟨az, t, rd, hA, E, sz, es', hF, hsc, h⟩ := argsIK_iff.1 h
    rw [genK_eq, ← blk_gen] at h
    exact main (es := []) (ys := []) hdl' ⟨by simp, Or.inl ⟨hv, rfl⟩⟩ (by simp) (by rw [hv]; simp [Value.ownBlock]) (by rw [hv]; simp [Value.ownBlock]) (fun _ A l c e => by rw [hv] at e; injection e with _ _ e; exact e.symm) (fun k e j x hk => by simp at hk) hA hF hsc h
  · exact h.elim
/-- A call that turns a row of the caller's own in place. -/
theorem goes_callS (hC : Conf W0 ok σ S a w) {f : FuncId} {x : AT} {v0 : Value} {xs : List AT} {vs : List Value} (hrun : Enters P f → (execOp a.eval o).run P w = .ok (.enter f (v0 :: vs).toArray) w) (hl : vs.length = xs.length)
    (hx : RepT w ok σ S.G x v0) (hrep : ∀ (j : Nat) x v, xs[j]? = some x → vs[j]? = some v → RepT w ok σ S.G x v) (h : effCallS P S.blk f x xs K) : Goes P W0 S o a w K Q := by
  have scal : ∀ {w' : World} {y : IV} {u : Value}, isScI y = true → RepI w' (fun _ => True) y u → ∀ (ok' : Nat → Prop), RepI w' ok' y u := by
    intro w' y u hy hr ok'
    cases hr with
    | sc _ h => exact .sc _ h
    | nil => cases hy
    | sl => cases hy
  unfold effCallS at h
  split at h
  case h_2 => exact h.elim
  rename_i b g
  obtain ⟨hg, hv, _⟩ := hx
  split at h
  case h_2 => exact h.elim
  rename_i g' E sz es hb
  obtain ⟨rfl, h⟩ := h
  obtain ⟨az, t, rd, hA, es', hF, hsc, h⟩ := argsIK_iff.1 h
  split at h
  · exact h.elim
  rename_i hrd
  have hbs := blk_some hb (fun g e => by cases e)
  have hbl : b < S.h.length := (List.getElem?_eq_some_iff.1 hbs).1
  obtain ⟨ys, e1, e2, e3, e4⟩ := hC.blk b _ hbs
  have e1' := e1
  have e3' := e3
  rw [← hv] at e1 e3
  have hgen : S.G b = g' := by rw [blk_gen, hb]; rfl
  have hat : ∀ m, Value.ownBlock v0 = some m → (Blk.row g' E sz es).at σ b = some m := by
    intro m hm
    simp only [Blk.at]
    rw [← hv]
    rcases e1.2 with ⟨e5, _⟩ | ⟨m', cap, cur, e5, _⟩
    · rw [e5] at hm; simp [Value.ownBlock] at hm
    · rw [e5] at hm ⊢; simpa [Value.blkNo, Value.ownBlock] using hm
  have hapart : ∀ m, Value.ownBlock v0 = some m → ∀ c C, c ≠ b → S.h[c]? = some C → C.at σ c ≠ some m := fun m hm c C hc hC' hn' => hC.apart b c _ C hbs hC' (fun e => hc e.symm) m (hat m hm) hn'
  have hnl : ∀ m, Value.ownBlock v0 = some m → ¬ Lent S σ ok rd m := by
    intro m hm hh
    rcases hh with hh | ⟨c, C, hc, hC', hn⟩
    · exact e3.nok m hm hh
    · refine hapart m hm c C ?_ hC' hn
      rintro rfl
      have : rd.any (fun d => Nat.beq d c) = true := List.any_eq_true.2 ⟨c, hc, Nat.beq_refl c⟩
      rw [hrd] at this
      cases this
  obtain ⟨al, ar⟩ := hA.rep hC
  obtain ⟨hEn, hF⟩ := hF
  have hokcb : ∀ k, Lent S σ ok rd k → k < w.heap.size := by
    intro k hk
    rcases hk with hk | ⟨b, B, _, hb, hk⟩
    · exact hC.okb k hk
    · exact (at_bounds (hC.blk b B hb) hk).2.1
  unfold Goes Oper.wp
  rw [hrun hEn, Oper.upon_enter, show (v0 :: vs).toArray = #[v0] ++ vs.toArray by simp]
  refine (hF w (Lent S σ ok rd) v0 ys vs.toArray (hC.okw.mono (fun _ h => Or.inl h) hokcb) e1 e2 hnl (fun k e j x hk hj => by
    obtain ⟨u, hu, hr, ho⟩ := e4 k e j x hk hj
    exact ⟨u, hu, repI_ok (fun _ h => Or.inl h) hr, ho⟩) (by simpa [al] using hl) (fun j v x hv hx => by
      have hj := (List.getElem?_eq_some_iff.1 hx).1
      rw [al] at hj
      exact (ar j _ x v (List.getElem?_eq_getElem hj) hx (hrep j _ v (List.getElem?_eq_getElem hj) (by simpa using hv))).1)).mono ?_
  rintro e w' ⟨zs, rfl, hgr, r1, rl, r2, r5⟩
  refine ⟨_, _, _, h, by simp [hbl], ok, σ, ?_⟩
  refine hC.step (row := Value.ownBlock v0) hgr (fun n hn => ⟨e3.has n hn, e3.nok n hn, hapart n hn⟩) (fun _ h => h) (fun k hk => Nat.lt_of_lt_of_le (hC.okb k hk) hgr.size) (fun _ h => Or.inl h) hbl (by rw [hgen]; exact Nat.le_refl _) (fun _ _ _ => rfl) ?_ ?_ ?_
  · refine ⟨zs, by rw [← hv]; exact r1, r2, by
      refine ⟨e3'.nok, e3'.has, fun hE A l c e => ?_⟩
      rw [rl]
      exact e3'.cap hE A l c e, fun k e j x hk hj => ?_⟩
    obtain ⟨u, hu, hr, ho⟩ := r5 k e j x hk hj
    exact ⟨u, hu, scal (hsc e (List.mem_of_getElem? hk) x (List.mem_of_getElem? hj)) hr _, ho⟩
  · intro n hn c C hc hC' hn'
    have hn1 : Value.ownBlock v0 = some n := by
      have hn2 : Value.blkNo (σ b g') = some n := by simpa [Blk.at] using hn
      rw [← hv] at hn2
      rcases e1.2 with ⟨e5, _⟩ | ⟨m', cap, cur, e5, _⟩
      · rw [e5] at hn2; simp [Value.blkNo] at hn2
      · rw [e5] at hn2 ⊢; simpa [Value.blkNo, Value.ownBlock] using hn2
    exact hapart n hn1 c C hc hC' hn'
  · exact ⟨#[], rfl, rfl, fun j u x hu hx => by simp at hx⟩
end
end Go.Proofs.YtikchieadclbhaaGreatDoor.Ab
