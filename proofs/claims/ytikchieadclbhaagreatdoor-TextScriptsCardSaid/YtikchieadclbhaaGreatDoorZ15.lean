/- Every operation at once, and a plain region. No condition. -/
import Derived.Test.YtikchieadclbhaaGreatDoorZ14
namespace Go.Proofs.YtikchieadclbhaaGreatDoor.Ab
set_option linter.unusedVariables false
set_option linter.unusedSimpArgs false
open Go.RowKit

section
variable {P : Program} {T : Nat → TI} {W0 : Ent} {w w' : World} {ok ok' : Nat → Prop} {σ σc : Nat → Nat → Value} {S : St} {a : Act} {o : Oper} {K : Kont} {Q : Exit → Act → World → Prop}

theorem goes_callP (hC : Conf W0 ok σ S a w) {f : FuncId} {p : Operand} {args : List Operand} {tys : Array TypeId} {b g : Nat} (ho : o.op = .call { callee := .value (.func f), args := (p :: args).toArray, argTypes := tys })
    (hp : S.ev p = .v (.c (.ptr b g 0))) (h : effCallP P S.blk f b g (args.map S.ev) K) : Goes P W0 S o a w K Q := by
  unfold effCallP at h
  split at h
  case h_2 => exact h.elim
  rename_i g' cs hb
  obtain ⟨rfl, h⟩ := h
  have hbs := blk_some hb (fun g e => by cases e)
  have hbl : b < S.h.length := (List.getElem?_eq_some_iff.1 hbs).1
  have hpp := ev_rep hC p
  rw [hp] at hpp
  obtain ⟨cs0, t0, d0, hA0, h⟩ := cellsIK_iff.1 h
  obtain ⟨az, t, rd, hA, cs', res, hF, h⟩ := argsIK_iff.1 h
  split at h
  · exact h.elim
  rename_i hchk
  simp only [Bool.and_eq_true] at hchk
  obtain ⟨hokT, hcsI'⟩ := hchk
  have hrow := hA0.rowish.join hA.rowish
  have hkey : t0.join t ≠ .vars ∧ K res (frz S.blk (d0 ++ rd) ++ [(b, .var g' cs')]) (b :: (d0 ++ rd)) := by
    generalize t0.join t = tt at h hrow ⊢
    cases tt with
    | no => exact ⟨by simp, by rw [frz_none _ (hrow.1 rfl)]; exact h⟩
    | rows => exact ⟨by simp, by dsimp only at h; rw [frzK_eq] at h; exact h⟩
    | vars => exact h.elim
  obtain ⟨ht, hK⟩ := hkey
  obtain ⟨ok2, hC2, s1, s2, s3⟩ := hC.handed ht hrow
  have hnot : b ∉ (frz S.blk (d0 ++ rd)).map (·.1) := by
    intro hm
    obtain ⟨q, hq, e⟩ := List.mem_map.1 hm
    obtain ⟨g2, E, sz, es, h1, _⟩ := frz_mem hq
    rw [show q.1 = b from e, hb] at h1
    cases h1
  have hbs2 : (S.put none (.v (.c .un)) (frz S.blk (d0 ++ rd))).h[b]? = some (.var g' cs) := by
    show ((frz S.blk (d0 ++ rd)).foldl (fun h p => h.set p.1 p.2) S.h)[b]? = _
    rw [foldl_set_get _ _ _ hnot]
    exact hbs
  obtain ⟨hEn, hF⟩ := hF
  obtain ⟨n, arr, ty, e1, _, _, e2, e3, e4⟩ := hC.blk b _ hbs
  obtain ⟨n2, arr2, ty2, e1', e0, eno, e2', _, _⟩ := hC2.blk b _ hbs2
  obtain rfl : n = n2 := by rw [e1] at e1'; injection e1' with e; injection e with e; injection e
  obtain ⟨_, n', e5, e6⟩ := hpp
  rw [e1] at e5
  obtain rfl : n = n' := by injection e5 with e5; injection e5 with e5; injection e5
  obtain ⟨l1, l2, l3⟩ := hA0.rep hC
  obtain ⟨al, ar⟩ := hA.rep hC
  unfold Goes Oper.wp
  rw [run_call hEn ho, Oper.upon_enter]
  have hargv : ((p :: args).toArray.map a.eval) = #[.pointer (some ⟨n, 0, none⟩)] ++ (args.map a.eval).toArray := by
    simp [e6]
  rw [hargv]
  have hrep : ∀ (j : Nat) v x, (args.map a.eval).toArray[j]? = some v → az[j]? = some x → RepV w ok2 (fun _ _ => undef) (fun _ => 0) x v := by
    intro j v x hv hx
    rw [List.getElem?_toArray, List.getElem?_map] at hv
    obtain ⟨y, hy, rfl⟩ := Option.map_eq_some_iff.1 hv
    exact repV_ok (fun k hk => s2 k hk.right) (ar j (S.ev y) x _ (by rw [List.getElem?_map, hy]; rfl) hx (ev_rep hC y)).1
  have hBe : Bears w ok2 (fun _ _ => undef) (fun _ => 0) arr cs0 := by
    refine ⟨by rw [e3, l1], fun j u x hu hx => ?_⟩
    have hj := (List.getElem?_eq_some_iff.1 hx).1
    rw [l1] at hj
    obtain ⟨r1, r2⟩ := e4 j u _ hu (List.getElem?_eq_getElem hj)
    exact ⟨rep1_ok (fun k hk => s2 k hk.left) (l3 j _ x u (List.getElem?_eq_getElem hj) hx r1).1, r2⟩
  refine (hF w ok2 n arr ty (args.map a.eval).toArray hC2.okw e2 eno hBe (by simp [al]) hrep).mono ?_
  rintro e w' ⟨v, ok3, arr', ty', rfl, hg, hok2, hok2n, hheap, hBe', hres⟩
  have hgen : (S.put none (.v (.c .un)) (frz S.blk (d0 ++ rd))).G b = g' := by rw [s3, blk_gen, hb]; rfl
  have hbl2 : b < (S.put none (.v (.c .un)) (frz S.blk (d0 ++ rd))).h.length := by rw [put_hlen]; exact hbl
  have hGe : ((S.put none (.v (.c .un)) (frz S.blk (d0 ++ rd))).put none (.v (.c .un)) [(b, Blk.var g' cs')]).G = (S.put none (.v (.c .un)) (frz S.blk (d0 ++ rd))).G := by
    generalize (S.put none (.v (.c .un)) (frz S.blk (d0 ++ rd))) = S2 at hgen hbl2 ⊢
    funext c
    by_cases hc : c = b
    · subst hc; rw [hgen]; simp [St.G, St.put, hbl2, Blk.gen]
    · simp [St.G, St.put, List.getElem?_set_ne (fun e => hc e.symm)]
  have hnlt : n < w.heap.size := (Array.getElem?_eq_some_iff.1 e2).1
  refine ⟨res, _, _, hK, ?_, ok3, σ, ?_⟩
  · intro q hq
    rcases List.mem_append.1 hq with hq | hq
    · obtain ⟨g2, E, sz, es, h1, _⟩ := frz_mem hq
      exact (List.getElem?_eq_some_iff.1 (blk_some h1 (fun g e => by cases e))).1
    · simp at hq; subst hq; exact hbl
  rw [← put_put (r0 := .v (.c .un))]
  refine hC2.step (row := some n) hg (fun n' hn' => ?_) hok2 (fun k hk => ?_) (fun k hk => ?_) hbl2 (by rw [hgen]; exact Nat.le_refl _) (fun _ _ _ => rfl) ?_ (fun n' hn' c C hc hC' hn'' => ?_) ?_
  · injection hn' with hn'
    subst hn'
    exact ⟨e0, eno, fun c C hc hC' hn'' => hC2.apart b c _ C hbs2 hC' (fun e => hc e.symm) n (by simp [Blk.at, e1, Value.blkNo]) hn''⟩
  · rcases hok2n k hk with h | h
    · exact Nat.lt_of_lt_of_le (hC2.okb k h) hg.size
    · exact h.2
  · rcases hok2n k hk with h | h
    · exact Or.inl h
    · right
      refine ⟨Or.inl (Nat.le_trans hC.below.size h.1), ?_⟩
      intro c C hc hC' hn
      have := (at_bounds (hC2.blk c C hC') hn).2.1
      omega
  · rw [hGe]
    refine ⟨n, arr', ty', e1, e0, fun hk => ?_, hheap, hBe'.1, (bears_isI hcsI' hBe').2⟩
    rcases hok2n n hk with h | h
    · exact eno h
    · omega
  · exact hC2.apart b c _ C hbs2 hC' (fun e => hc e.symm) n' (by simpa [Blk.at] using hn') hn''
  · rw [hGe]
    exact ok0_rep hokT hres

theorem goes_callPR (hC : Conf W0 ok σ S a w) {f : FuncId} {p : Operand} {args : List Operand} {tys : Array TypeId} (ho : o.op = .call { callee := .value (.func f), args := (p :: args).toArray, argTypes := tys })
    (h : effCallPR P S.blk S.h.length o.dst f (S.ev p) (args.map S.ev) K) : Goes P W0 S o a w K Q := by
  have hpp := ev_rep hC p
  unfold effCallPR at h
  split at h
  · exact h.elim
  rename_i d hdst
  split at h
  case h_2 => exact h.elim
  rename_i b g off hp
  rw [hp] at hpp
  split at h
  case h_2 => exact h.elim
  rename_i g' cs hb
  obtain ⟨rfl, rfl, h⟩ := h
  have hbs := blk_some hb (fun g e => by cases e)
  have hbl : b < S.h.length := (List.getElem?_eq_some_iff.1 hbs).1
  obtain ⟨cs0, t0, d0, hA0, hx2⟩ := cellsIK_iff.1 h
  clear h
  obtain ⟨az, t, rd, hA, cs', E, sz, es, hF, h⟩ := argsIK_iff.1 hx2
  clear hx2
  split at h
  · exact h.elim
  rename_i hchk
  simp only [Bool.and_eq_true, Bool.not_eq_true'] at hchk
  obtain ⟨⟨hcsI', hdn⟩, hdb⟩ := hchk
  have hdl : d < S.h.length := by rw [Nat.blt_eq] at hdn; exact hdn
  have hne : d ≠ b := fun e => by rw [e, Nat.beq_refl] at hdb; cases hdb
  split at h
  case h_2 => exact h.elim
  rename_i hj
  have hjj : t0 = .no ∧ t = .no := by cases t0 <;> cases t <;> first | exact ⟨rfl, rfl⟩ | cases hj
  obtain ⟨rfl, rfl⟩ := hjj
  rw [genK_eq] at h
  obtain ⟨hEn, hF⟩ := hF
  obtain ⟨n, arr, ty, e1, e0, eno, e2, e3, e4⟩ := hC.blk b _ hbs
  obtain ⟨_, n', e5, e6⟩ := hpp
  rw [e1] at e5
  obtain rfl : n = n' := by injection e5 with e5; injection e5 with e5; injection e5
  obtain ⟨l1, l2, l3⟩ := hA0.rep hC
  obtain ⟨al, ar⟩ := hA.rep hC
  unfold Goes Oper.wp
  rw [run_call hEn ho, Oper.upon_enter]
  have hargv : ((p :: args).toArray.map a.eval) = #[.pointer (some ⟨n, 0, none⟩)] ++ (args.map a.eval).toArray := by
    simp [e6]
  rw [hargv]
  have hrep : ∀ (j : Nat) v x, (args.map a.eval).toArray[j]? = some v → az[j]? = some x → RepV w ok (fun _ _ => undef) (fun _ => 0) x v := by
    intro j v x hv hx
    rw [List.getElem?_toArray, List.getElem?_map] at hv
    obtain ⟨y, hy, rfl⟩ := Option.map_eq_some_iff.1 hv
    exact (ar j (S.ev y) x _ (by rw [List.getElem?_map, hy]; rfl) hx (ev_rep hC y)).2 rfl
  have hBe : Bears w ok (fun _ _ => undef) (fun _ => 0) arr cs0 := by
    refine ⟨by rw [e3, l1], fun j u x hu hx => ?_⟩
    have hj := (List.getElem?_eq_some_iff.1 hx).1
    rw [l1] at hj
    obtain ⟨r1, r2⟩ := e4 j u _ hu (List.getElem?_eq_getElem hj)
    exact ⟨(l3 j _ x u (List.getElem?_eq_getElem hj) hx r1).2 rfl, r2⟩
  refine (hF w ok n arr ty (args.map a.eval).toArray hC.okw e2 eno hBe (by simp [al]) hrep).mono ?_
  rintro e w' ⟨v, ok3, arr', ty', rfl, hg, hok2, hok2n, hheap, hBe', hv1, hrow⟩
  have hgen : S.G b = g' := by rw [blk_gen, hb]; rfl
  have hGe : (S.put none (.v (.c .un)) [(b, Blk.var g' cs')]).G = S.G := by
    funext c
    by_cases hc : c = b
    · subst hc; rw [hgen]; simp [St.G, St.put, hbl, Blk.gen]
    · simp [St.G, St.put, List.getElem?_set_ne (fun e => hc e.symm)]
  have hnlt : n < w.heap.size := (Array.getElem?_eq_some_iff.1 e2).1
  have hCv : Conf W0 ok3 σ (S.put none (.v (.c .un)) [(b, Blk.var g' cs')]) (a.put none undef) w' := by
    refine hC.step (row := some n) hg (fun n' hn' => ?_) hok2 (fun k hk => ?_) (fun k hk => ?_) hbl (by rw [hgen]; exact Nat.le_refl _) (fun _ _ _ => rfl) ?_ (fun n' hn' c C hc hC' hn'' => ?_) trivial
    · injection hn' with hn'
      subst hn'
      exact ⟨e0, eno, fun c C hc hC' hn'' => hC.apart b c _ C hbs hC' (fun e => hc e.symm) n (by simp [Blk.at, e1, Value.blkNo]) hn''⟩
    · rcases hok2n k hk with h | h
      · exact Nat.lt_of_lt_of_le (hC.okb k h) hg.size
      · exact h.2
    · rcases hok2n k hk with h | h
      · exact Or.inl h
      · right
        refine ⟨Or.inl (Nat.le_trans hC.below.size h.1), ?_⟩
        intro c C hc hC' hn
        have := (at_bounds (hC.blk c C hC') hn).2.1
        omega
    · rw [hGe]
      refine ⟨n, arr', ty', e1, e0, fun hk => ?_, hheap, hBe'.1, (bears_isI hcsI' hBe').2⟩
      rcases hok2n n hk with h | h
      · exact eno h
      · omega
    · exact hC.apart b c _ C hbs hC' (fun e => hc e.symm) n' (by simpa [Blk.at] using hn') hn''
  have hbe : ∀ c, c ≠ b → (S.put none (.v (.c .un)) [(b, Blk.var g' cs')]).blk c = S.blk c := by
    intro c hc
    unfold St.blk
    rw [nthO_eq, nthO_eq]
    simp [St.put, List.getElem?_set_ne (fun e => hc e.symm)]
  have hbase : RepB W0.bs w' ok3 (fun _ _ => v) (fun _ => 0) (0 + 0) (.row 0 E sz es) := by
    exact RepB.reloc (base' := W0.bs) (b := 0) (b' := 0) (g' := 0) (σ := fun _ _ => v) (G := fun _ => 0) hrow rfl rfl ⟨hC.below.size, fun _ h => by cases h⟩ rfl
  have hfresh : ∀ n', (Blk.row 0 E sz es).at (fun _ _ => v) (0 + 0) = some n' → w.heap.size ≤ n' := fun n' hn => (at_bounds hrow hn).1.resolve_right (fun h => by cases h)
  obtain ⟨σ', h1, h2, h3, h4, h5⟩ := add_rows (σc := fun _ _ => v) [.row 0 E sz es] 0 d _ σ hCv (by rw [put_hlen, List.length_singleton]; exact hdl)
    (fun i B hi => by
      cases i with
      | zero => (injection hi with hi; subst hi; exact ⟨rfl, rfl, hbase⟩)
      | succ i => cases hi)
    (fun i B n' hi hn c C hc hn' => by
      cases i with
      | succ i => cases hi
      | zero =>
        injection hi with hi
        subst hi
        have q1 := hfresh n' hn
        by_cases hcb : c = b
        · subst hcb
          have : C = Blk.var g' cs' := by simpa [St.put, hbl, eq_comm] using hc
          subst this
          simp only [Blk.at, e1, Value.blkNo, Option.some.injEq] at hn'
          omega
        · have hc' : S.h[c]? = some C := by simpa [St.put, List.getElem?_set_ne (fun e => hcb e.symm)] using hc
          have := (at_bounds (hC.blk c C hc') hn').2.1
          omega)
    (fun i i' B B' hi hi' hne n' hn hn' => by
      cases i with
      | succ i => cases hi
      | zero =>
        cases i' with
        | zero => exact absurd rfl hne
        | succ i' => cases hi')
  have e3' := h3 0 (by simp)
  have e4' := h4 0 (by simp)
  rw [hGe, Nat.add_zero] at e3'
  rw [hGe, Nat.add_zero] at e4'
  have hu : updsOf (S.put none (.v (.c .un)) [(b, Blk.var g' cs')]).blk d [.row 0 E sz es] = [(d, .row ((S.blk d).gen + 1) E sz es)] := by
    simp only [updsOf]
    rw [hbe d hne]
    rfl
  rw [hu] at h1 e4'
  have hC2 := h1.stay (dst := o.dst) (v := v) (r := .v (.c (.own d ((S.blk d).gen + 1)))) (grown_refl w') (fun _ h => h) h1.okb (fun _ h => Or.inl h) (by
    rw [← blk_gen]
    exact ⟨by rw [← blk_gen] at e4'; rw [e4']; exact Nat.le_refl _, e3'.symm, hv1⟩)
  refine ⟨_, _, _, h, ?_, ok3, σ', ?_⟩
  · intro q hq
    rcases List.mem_cons.1 hq with rfl | hq
    · exact hbl
    · simp at hq; subst hq; exact hdl
  · rw [put_put, put_put] at hC2
    exact hC2

def markedB (T : Nat → TI) (k : Nat) : Bool := Nat.beq (T k).size 1
/-- One operation, whatever it is. -/
def eff (T : Nat → TI) (P : Program) (n : Nat) (dst : Option Tmp) (ρ : Operand → AT) (H : Nat → Blk) (K : Kont) : Op → Prop
  | .move x => K (ρ x) [] []
  | .assign x => K (ρ x) [] []
  | .pick c x y => effPick (ρ c) (ρ x) (ρ y) K
  | .alloc t => effAlloc T H n dst t K
  | .box t x => effBox T H n dst t (ρ x) K
  | .load t x => effLoad T H t (ρ x) K
  | .store t x y => match dst with
    | none => effStore T H t (ρ x) (ρ y) K
    | some _ => False
  | .nilCheck x => effNil (ρ x) K
  | .fieldAddr s x f => effField T s (ρ x) f K
  | .indexAddr t x i => effIndex T H t (ρ x) (ρ i) K
  | .extract x j => effExtract (ρ x) j K
  | .binOp op t x y _ => effBin T op t (ρ x) (ρ y) K
  | .unOp op _ x => effUn op (ρ x) K
  | .convert s d x => effConvN T H n dst s d (ρ x) K
  | .index t x i => effIndexV T t (ρ x) (ρ i) K
  | .field s x f => effFieldV T s (ρ x) f K
  | .makeFunc (.func f) ⟨[]⟩ ⟨l⟩ => capsK (l.map ρ) fun ps => K (.v (.c (.clo f ps))) [] []
  | .slice t x lo hi mx => effSlice T H t (ρ x) (lo.map ρ) (hi.map ρ) (mx.map ρ) K
  | .lookup t x i cok => effLookup T H t (ρ x) (ρ i) cok K
  | .makeSlice t l c => effMake T H n dst t (ρ l) (ρ c) K
  | .build t ps => effBuild T ρ t ps K
  | .buildSlice t len ps => effBuildSlice T H n dst ρ t len ps K
  | .call { callee := .builtin .len, args := ⟨[x]⟩, argTypes := ⟨[t]⟩ } => effLen T H t (ρ x) K
  | .call { callee := .builtin .min, args := ⟨[x, y]⟩, argTypes := ⟨[_, _]⟩ } => effMin false (ρ x) (ρ y) K
  | .call { callee := .builtin .max, args := ⟨[x, y]⟩, argTypes := ⟨[_, _]⟩ } => effMin true (ρ x) (ρ y) K
  | .call { callee := .builtin .copy, args := ⟨[x, y]⟩, argTypes := ⟨[t, _]⟩ } => effCopy T H t (ρ x) (ρ y) K
  | .call { callee := .builtin .append, args := ⟨[x, y]⟩, argTypes := ⟨[t, t']⟩ } => match Nat.beq t t' with
    | true => effAppend T H n dst t (ρ x) (ρ y) K
    | false => False
  | .call { callee := .value (.func f), args := ⟨x :: l⟩, argTypes := _ } => match markedB T (2000000 + f) with
    | true => effCallA P H n dst f (ρ x) (l.map ρ) K
    | false => match markedB T (6000000 + f) with
     | true => effCallS P H f (ρ x) (l.map ρ) K
     | false => match markedB T (8000000 + f) with
     | true => effCallPR P H n dst f (ρ x) (l.map ρ) K
     | false => match ρ x with
      | .v (.c (.ptr b g 0)) => effCallP P H f b g (l.map ρ) K
      | y => effCall P H n dst f (y :: l.map ρ) K
  | .call { callee := .value (.func f), args := ⟨[]⟩, argTypes := _ } => effCall P H n dst f [] K
  | .call { callee := .value (.tmp t), args := ⟨l⟩, argTypes := _ } => match asFn (ρ (.tmp t)) with
    | some (f, ps) => effCall P H n dst f (l.map ρ ++ ps.map capT) K
    | none => False
  | _ => False

theorem args_rep (hC : Conf W0 ok σ S a w) (l : List Operand) : ∀ (j : Nat) x v, (l.map S.ev)[j]? = some x → (l.map a.eval)[j]? = some v → RepT w ok σ S.G x v := by
  intro j x v hx hv
  rw [List.getElem?_map] at hx hv
  obtain ⟨y, hy, rfl⟩ := Option.map_eq_some_iff.1 hx
  rw [hy] at hv
  injection hv with hv
  subst hv
  exact ev_rep hC y
theorem eff_goes (hT : TabOk P T) (hC : Conf W0 ok σ S a w) (h : eff T P S.h.length o.dst S.ev S.blk K o.op) : Goes P W0 S o a w K Q := by
  generalize hop : o.op = op at h
  unfold eff at h
  split at h
  · exact (done_move hC (Or.inl hop) h).goes
  · exact (done_move hC (Or.inr hop) h).goes
  · exact (done_pick hC hop h).goes
  · exact (done_alloc hT hC hop h).goes
  · exact (done_box hC hop h).goes
  · exact (done_load hT hC hop h).goes
  · split at h
    · rename_i hd
      exact (done_store hT hC hop h hd).goes
    · exact h.elim
  · exact (done_nil hC hop h).goes
  · exact (done_field hT hC hop h).goes
  · exact (done_index hT hC hop h).goes
  · exact (done_extract hC hop h).goes
  · exact (done_bin hT hC hop h).goes
  · exact (done_un hC hop h).goes
  · exact (done_convN hT hC hop h).goes
  · exact (done_indexV hT hC hop h).goes
  · exact (done_fieldV hT hC hop h).goes
  · exact (done_makeFunc hC hop h).goes
  · exact (done_slice hT hC hop h).goes
  · exact (done_lookup hT hC hop h).goes
  · exact (done_make hT hC hop h).goes
  · exact (done_build hT hC hop h).goes
  · exact (done_buildSlice hT hC hop h).goes
  · exact (done_len hT hC hop h).goes
  · exact (done_min hC hop h).goes
  · exact (done_max hC hop h).goes
  · exact (done_copy hT hC hop h).goes
  · split at h
    · rename_i hb
      have := Nat.eq_of_beq_eq_true hb
      subst this
      exact (done_append hT hC hop h).goes
    · exact h.elim
  · split at h
    · rename_i f x l tys _ _
      exact goes_callA hC (vs := l.map a.eval) (fun hE => by rw [run_call hE hop]; simp) (by simp) (ev_rep hC x) (args_rep hC l) h
    split at h
    · rename_i f x l tys _ _ _ _
      exact goes_callS hC (vs := l.map a.eval) (fun hE => by rw [run_call hE hop]; simp) (by simp) (ev_rep hC x) (args_rep hC l) h
    split at h
    · exact goes_callPR hC hop h
    split at h
    · rename_i hev
      exact goes_callP hC hop hev h
    · rename_i f x l tys _ _ _ _ _ _ _ _
      exact goes_call hC (vs := (x :: l).map a.eval) (fun hE => by rw [run_call hE hop]; simp) (by simp) (args_rep hC (x :: l)) h
  · exact goes_call hC (vs := []) (fun hE => by rw [run_call hE hop]; simp) rfl (fun j x v hx => by simp at hx) h
  · rename_i t l tys
    split at h
    · rename_i f ps hf
      have hr := ev_rep hC (.tmp t)
      unfold asFn at hf
      split at hf
      · rename_i hev
        injection hf with hf
        injection hf with hf1 hf2
        subst hf1 hf2
        rw [hev] at hr
        have hx : a.eval (.tmp t) = .func (.func _) #[] ([] : List Value).toArray := RepI_sc hr
        exact goes_call hC (vs := l.map a.eval) (fun hE => by rw [run_callv hx hE hop]; simp) (by simp) (args_rep hC l) (by simpa using h)
      · rename_i hev
        injection hf with hf
        injection hf with hf1 hf2
        subst hf1 hf2
        rw [hev] at hr
        obtain ⟨vs, hx, hvl, hvr⟩ := hr
        refine goes_call hC (vs := l.map a.eval ++ vs) (fun hE => run_callv hx hE hop) (by simp [hvl]) (fun j x v hx hv => ?_) h
        rw [List.getElem?_append] at hx hv
        simp only [List.length_map] at hx hv
        split at hx
        · rename_i hj
          rw [if_pos hj] at hv
          exact args_rep hC l j x v hx hv
        · rename_i hj
          rw [if_neg hj] at hv
          rw [List.getElem?_map] at hx
          obtain ⟨q, hq, rfl⟩ := Option.map_eq_some_iff.1 hx
          have hq' := hvr _ q v hq hv
          cases q with
          | ptr b g off => exact hq'
          | pim cs => exact hq'
          | sc u =>
            obtain ⟨rfl, ho⟩ := hq'
            exact RepI.sc _ ho
      · cases hf
    · exact h.elim
  · exact h.elim

/-! ### Operations that stand in plain regions alone -/
/-- Is it one of these? -/
def isX (T : Nat → TI) : Op → Bool
  | .makeMap _ none => true
  | .mapUpdate _ _ _ _ => true
  | .insert _ _ _ _ => true
  | .call { callee := .builtin .clear, args := ⟨[_]⟩, argTypes := ⟨[_]⟩ } => true
  | .call { callee := .builtin .cap, args := ⟨[_]⟩, argTypes := ⟨[_]⟩ } => true
  | .call { callee := .builtin .append, args := ⟨[_, _]⟩, argTypes := ⟨[t, t']⟩ } => match Nat.beq t t' with
    | true => false
    | false => true
  | _ => false
def effX (T : Nat → TI) (P : Program) (n : Nat) (dst : Option Tmp) (ρ : Operand → AT) (H : Nat → Blk) (K : Kont) : Op → Prop
  | .makeMap t none => effMakeMap T H n dst t K
  | .mapUpdate t x i y => match dst with
    | none => effMapUpdate T H t (ρ x) (ρ i) (ρ y) K
    | some _ => False
  | .insert t x i y => match dst with
    | none => effMapUpdate T H t (ρ x) (ρ i) (ρ y) K
    | some _ => False
  | .call { callee := .builtin .clear, args := ⟨[x]⟩, argTypes := ⟨[t]⟩ } => effClear T H t (ρ x) K
  | .call { callee := .builtin .cap, args := ⟨[x]⟩, argTypes := ⟨[t]⟩ } => effCap T t (ρ x) K
  | .call { callee := .builtin .append, args := ⟨[x, y]⟩, argTypes := ⟨[t, t']⟩ } => effAppMake T H n dst t t' (ρ x) (ρ y) K
  | _ => False
theorem effX_goes (hT : TabOk P T) (hC : Conf W0 ok σ S a w) (h : effX T P S.h.length o.dst S.ev S.blk K o.op) : Goes P W0 S o a w K Q := by
  generalize hop : o.op = op at h
  unfold effX at h
  split at h
  · exact (done_makeMap hT hC hop h).goes
  · split at h
    · rename_i hd
      exact (done_mapUpdate hT hC (Or.inl hop) h hd).goes
    · exact h.elim
  · split at h
    · rename_i hd
      exact (done_mapUpdate hT hC (Or.inr hop) h hd).goes
    · exact h.elim
  · exact (done_clear hT hC hop h).goes
  · exact (done_cap hT hC hop h).goes
  · exact (done_appMake hT hC hop h).goes
  · exact h.elim

/-! ### Own rows that are laid into rows for good -/
def ownA : AT → Bool
  | .v (.c (.own _ _)) => true
  | .v (.c (.osub _ _ _ _ _)) => true
  | .v (.agg cs) => cs.any fun x => match x with
    | .own _ _ => true
    | .osub _ _ _ _ _ => true
    | _ => false
  | _ => false
/-- Does the operation lay own rows into a row? -/
def ownF (T : Nat → TI) (ρ : Operand → AT) : Op → Bool
  | .store t x y => match ρ x with
    | .v (.c (.eptr _ _ _ _ _)) => ownA (ρ y)
    | .v (.c (.ptr _ _ _)) => match markedB T (3000000 + t) with
      | true => ownA (ρ y)
      | false => false
    | _ => false
  | .buildSlice _ _ ⟨[(_, x)]⟩ => ownA (ρ x)
  | _ => false
/-- A value whose rows never turn from here on. -/
def convK (H : Nat → Blk) (x : AT) (K : AT → List Nat → Prop) : Prop :=
  match x with
  | .v (.c y) => cellIK H y fun z t d => match t with
    | .vars => False
    | _ => K (.v (.c (.i z))) d
  | .v (.agg cs) => cellsIK H cs fun m t d => match t with
    | .vars => False
    | _ => K (.v (.agg m)) d
  | .tup _ => False
def effF (T : Nat → TI) (n : Nat) (dst : Option Tmp) (ρ : Operand → AT) (H : Nat → Blk) (K : Kont) : Op → Prop
  | .store t x y => match dst with
    | none => match ρ x with
      | .v (.c (.eptr b g sz k off)) => convK H (ρ y) fun z d => match d.any (fun c => Nat.beq c b) with
        | true => False
        | false => frzK H d fun fz => effStore T H t (.v (.c (.eptr b g sz k off))) z fun r u _ => K r (fz ++ u) []
      | .v (.c (.ptr b g off)) => convK H (ρ y) fun z d => match d.any (fun c => Nat.beq c b) with
        | true => False
        | false => frzK H d fun fz => effStore T H t (.v (.c (.ptr b g off))) z fun r u _ => K r (fz ++ u) []
      | _ => False
    | some _ => False
  | .buildSlice t len ⟨[(i, x)]⟩ => convK H (ρ x) fun z d => frzK H d fun fz => effBuildSlice T H n dst (fun _ => z) t len ⟨[(i, x)]⟩ fun r u _ => K r (fz ++ u) []
  | _ => False

theorem notvars {t : Ln} {p : Prop} (h : match t with
    | .vars => False
    | _ => p) : t ≠ .vars ∧ p := by
  cases t with
  | vars => exact h.elim
  | no => exact ⟨by simp, h⟩
  | rows => exact ⟨by simp, h⟩
theorem conv_of (hC : Conf W0 ok σ S a w) {x : AT} {v : Value} (hx : RepT w ok σ S.G x v) {K : AT → List Nat → Prop} (h : convK S.blk x K) :
    ∃ z d t, K z d ∧ t ≠ .vars ∧ Rowish S.blk t d ∧ ∀ (ok' : Nat → Prop) (G : Nat → Nat), (∀ k, Lent S σ ok d k → ok' k) → RepT w ok' σ G z v := by
  unfold convK at h
  split at h
  · obtain ⟨y, t, d, hc, hk⟩ := cellIK_iff.1 h
    obtain ⟨hv, hk⟩ := notvars hk
    exact ⟨_, _, t, hk, hv, hc.rowish, fun ok' G hl => repI_ok hl (hc.rep hC hx).1⟩
  · obtain ⟨m, t, d, hc, hk⟩ := cellsIK_iff.1 h
    obtain ⟨l1, l2, l3⟩ := hc.rep hC
    obtain ⟨hv, hk⟩ := notvars hk
    refine ⟨_, _, t, hk, hv, hc.rowish, fun ok' G hl => ?_⟩
    obtain ⟨arr, rfl, e2, e3⟩ := hx
    refine ⟨arr, rfl, by rw [e2, l1], fun j u y hu hy => ?_⟩
    have hj := (List.getElem?_eq_some_iff.1 hy).1
    rw [l1] at hj
    obtain ⟨r1, r2⟩ := e3 j u _ hu (List.getElem?_eq_getElem hj)
    exact ⟨rep_isI (List.all_eq_true.1 l2 y (List.mem_of_getElem? hy)) (rep1_ok hl (l3 j _ y u (List.getElem?_eq_getElem hj) hy r1).1), r2⟩
  · exact h.elim
theorem effStore_eptr {H H' : Nat → Blk} {t b g sz k off : Nat} {z : AT} (hb : H' b = H b) (h : effStore T H t (.v (.c (.eptr b g sz k off))) z K) : effStore T H' t (.v (.c (.eptr b g sz k off))) z K := by
  unfold effStore at h ⊢
  dsimp only at h ⊢
  rw [hb]
  exact h
theorem effStore_ptr {H H' : Nat → Blk} {t b g off : Nat} {z : AT} (hb : H' b = H b) (h : effStore T H t (.v (.c (.ptr b g off))) z K) : effStore T H' t (.v (.c (.ptr b g off))) z K := by
  unfold effStore at h ⊢
  dsimp only at h ⊢
  rw [hb]
  exact h
theorem effBuildSlice_gen {H H' : Nat → Blk} {n : Nat} {dst : Option Tmp} {ρ : Operand → AT} {t len : Nat} {ps : Array (Nat × Operand)} (hg : ∀ c, (H' c).gen = (H c).gen) (h : effBuildSlice T H n dst ρ t len ps K) : effBuildSlice T H' n dst ρ t len ps K := by
  unfold effBuildSlice at h ⊢
  simp only [genK_eq] at h ⊢
  simp only [hg]
  exact h
theorem done_frz {d : List Nat} (h : Done P W0 (S.put none (.v (.c .un)) (frz S.blk d)) o a w fun r u _ => K r (frz S.blk d ++ u) []) : Done P W0 S o a w K := by
  obtain ⟨v, w', r, u, dd, hrun, hK, hu, ok, σ', hC⟩ := h
  refine ⟨v, w', r, _, _, hrun, hK, fun p hp => ?_, ok, σ', by rw [← put_put (r0 := .v (.c .un))]; exact hC⟩
  rcases List.mem_append.1 hp with hp | hp
  · obtain ⟨g, E, sz, es, h1, _⟩ := frz_mem hp
    exact (List.getElem?_eq_some_iff.1 (blk_some h1 (fun g e => by cases e))).1
  · have := hu p hp
    rwa [put_hlen] at this
theorem frz_blk {d : List Nat} {b : Nat} (hb : d.any (fun c => Nat.beq c b) = false) : (S.put none (.v (.c .un)) (frz S.blk d)).blk b = S.blk b := by
  have hnot : b ∉ (frz S.blk d).map (·.1) := by
    intro hm
    obtain ⟨q, hq, e⟩ := List.mem_map.1 hm
    have : ∀ {l : List Nat}, q ∈ frz S.blk l → q.1 ∈ l := by
      intro l
      induction l with
      | nil => intro h; simp [frz] at h
      | cons c l ih =>
        intro h
        simp only [frz] at h
        split at h
        · rcases List.mem_cons.1 h with h | h
          · rw [h]; exact List.mem_cons_self
          · exact List.mem_cons_of_mem _ (ih h)
        · exact List.mem_cons_of_mem _ (ih h)
    have hm' := this hq
    rw [e] at hm'
    have : d.any (fun c => Nat.beq c b) = true := List.any_eq_true.2 ⟨b, hm', Nat.beq_refl b⟩
    rw [hb] at this
    cases this
  unfold St.blk
  rw [nthO_eq, nthO_eq]
  show (((frz S.blk d).foldl (fun h p => h.set p.1 p.2) S.h)[b]?).getD _ = _
  rw [foldl_set_get _ _ _ hnot]
theorem ev_put (S : St) (r : AT) (u : List (Nat × Blk)) (x : Operand) : (S.put none r u).ev x = S.ev x := by cases x <;> rfl
theorem effF_goes (hT : TabOk P T) (hC : Conf W0 ok σ S a w) (h : effF T S.h.length o.dst S.ev S.blk K o.op) : Goes P W0 S o a w K Q := by
  generalize hop : o.op = op at h
  unfold effF at h
  split at h
  · rename_i t x y
    split at h
    case h_2 => exact h.elim
    rename_i hd
    split at h
    case h_3 => exact h.elim
    · rename_i b g sz k off hev
      obtain ⟨z, d, tt, h, ht, hrow, hrep⟩ := conv_of hC (ev_rep hC y) h
      split at h
      · exact h.elim
      rename_i hnb
      rw [frzK_eq] at h
      obtain ⟨ok2, hC2, s1, s2, s3⟩ := hC.handed ht hrow
      refine (done_frz (d := d) (done_storeG hT hC2 (hrep ok2 _ s2) hop ?_ hd)).goes
      rw [ev_put, hev]
      exact effStore_eptr (frz_blk hnb) h
    · rename_i b g off hev
      obtain ⟨z, d, tt, h, ht, hrow, hrep⟩ := conv_of hC (ev_rep hC y) h
      split at h
      · exact h.elim
      rename_i hnb
      rw [frzK_eq] at h
      obtain ⟨ok2, hC2, s1, s2, s3⟩ := hC.handed ht hrow
      refine (done_frz (d := d) (done_storeG hT hC2 (hrep ok2 _ s2) hop ?_ hd)).goes
      rw [ev_put, hev]
      exact effStore_ptr (frz_blk hnb) h
  · rename_i t len i x
    obtain ⟨z, d, tt, h, ht, hrow, hrep⟩ := conv_of hC (ev_rep hC x) h
    rw [frzK_eq] at h
    obtain ⟨ok2, hC2, s1, s2, s3⟩ := hC.handed ht hrow
    refine (done_frz (d := d) (done_buildSliceG hT hC2 (ρ := fun _ => z) (fun p hp => ?_) hop ?_)).goes
    · have : p = (i, x) := by simpa using hp
      subst this
      exact hrep ok2 _ s2
    · rw [put_hlen]
      exact effBuildSlice_gen (fun c => by rw [← blk_gen, ← blk_gen, s3]) h
  · exact h.elim

/-! ### A region -/
/-- The state with its slots laid out. -/
def layS (S : St) (K : St → Prop) : Prop :=
  match S with
  | .mk t h => lay t fun t => lay h fun h => K (.mk t h)
theorem layS_eq (S : St) (K : St → Prop) : layS S K = K S := by obtain ⟨t, h⟩ := S; unfold layS; simp only [lay_eq]

/-- Is another operation of the region guarded by this one? -/
def isG (f : List Oper) (k : Nat) : Bool := f.any fun o => match o.guard with
  | some (j, _) => Nat.beq j k
  | none => false
/-- Is the operation wanted? -/
def wantK (f : List Oper) (o : Oper) (S : St) : Option Bool :=
  match o.guard with
  | none => some true
  | some (j, want) => match (nthO f j).bind (·.dst) with
    | none => none
    | some t => match nthO S.t t with
      | some (.v (.c (.lit b))) => some (b == want)
      | some (.tup []) => some false
      | _ => none
/-- A test is decided where it is made. -/
def gsplit (g : Bool) (r : AT) (K : AT → Prop) : Prop :=
  match g with
  | false => K r
  | true => match r with
    | .v (.c (.i (.sc (.bool b)))) => (b = true → K (.v (.c (.lit true)))) ∧ (b = false → K (.v (.c (.lit false))))
    | .v (.c (.lit b)) => K (.v (.c (.lit b)))
    | _ => False

/-- One operation of a region: its place k. -/
def stepK (T : Nat → TI) (P : Program) (f : List Oper) (k : Nat) (o : Oper) (S : St) (K : St → List Nat → List Nat → Prop) : Prop :=
  match wantK f o S with
  | some true => eff T P S.h.length o.dst S.ev S.blk (fun r u d => gsplit (isG f k) r fun r' => putK S o.dst r' u fun S' => K S' d (u.map (·.1))) o.op
  | some false => putK S o.dst (.tup []) [] fun S' => K S' [] []
  | none => False

/-- Is it a function value that holds something, and one that counts? -/
def cloA : AT → Bool
  | .v (.c (.clo _ ps)) => ps.any fun p => match p with
    | .ptr _ _ _ => true
    | _ => false
  | _ => false
/-- A call that may turn variables of the caller's: what it calls, its arguments. -/
def callV (ρ : Operand → AT) : Op → Option (FuncId × List AT)
  | .call c => match c.callee with
    | .value x => match x with
      | .func f => match (c.args.toList.map ρ).any cloA with
        | true => some (f, c.args.toList.map ρ)
        | false => none
      | .tmp t => match ρ (.tmp t) with
        | .v (.c (.clo f ps)) => match cloA (.v (.c (.clo f ps))) with
          | true => some (f, c.args.toList.map ρ ++ ps.map fun p => .v (.c (match p with
            | .ptr b g off => .ptr b g off
            | .pim cs => .pim cs
            | .sc v => .i (.sc v))))
          | false => none
        | _ => none
      | _ => none
    | _ => none
  | _ => none
/-- An operation of those that stand in plain regions alone. -/
def stepX (T : Nat → TI) (P : Program) (f : List Oper) (k : Nat) (o : Oper) (S : St) (K : St → Prop) : Prop :=
  match wantK f o S with
  | some true => effX T P S.h.length o.dst S.ev S.blk (fun r u _ => gsplit (isG f k) r fun r' => putK S o.dst r' u K) o.op
  | some false => putK S o.dst (.tup []) [] K
  | none => False
/-- An operation that lays own rows into a row. -/
def stepF (T : Nat → TI) (f : List Oper) (k : Nat) (o : Oper) (S : St) (K : St → Prop) : Prop :=
  match wantK f o S with
  | some true => effF T S.h.length o.dst S.ev S.blk (fun r u _ => gsplit (isG f k) r fun r' => putK S o.dst r' u K) o.op
  | some false => putK S o.dst (.tup []) [] K
  | none => False
/-- One operation of a plain region. -/
def stepV (T : Nat → TI) (P : Program) (f : List Oper) (k : Nat) (o : Oper) (S : St) (K : St → Prop) : Prop :=
  match ownF T S.ev o.op with
  | true => stepF T f k o S K
  | false => match isX T o.op with
  | true => stepX T P f k o S K
  | false => match callV S.ev o.op with
  | none => stepK T P f k o S fun S' _ _ => K S'
  | some (h, xs) => (stepK T P f k o S fun S' _ _ => K S') ∨ (match o.guard with
    | none => effCallV P S.blk h xs fun r u _ => putK S o.dst r u K
    | some _ => False)

/-- The operations of a region, in the text's order; f: all of them; k: the place of the next. -/
def vcOps (T : Nat → TI) (P : Program) (f : List Oper) (k : Nat) (l : List Oper) (S : St) (K : St → Prop) : Prop :=
  List.rec (motive := fun _ => Nat → St → (St → Prop) → Prop) (fun _ S K => K S) (fun o _ ih k S K => stepV T P f k o S fun S' => ih (k + 1) S' K) l k S K

theorem want_of (hC : Conf W0 ok σ S a w) {f : List Oper} {o : Oper} {b : Bool} (h : wantK f o S = some b) : Region.wanted o (yielded f.toArray a.tmps) = b := by
  unfold wantK at h
  split at h
  · rename_i hg
    injection h with h
    subst h
    simp [Region.wanted, hg]
  · rename_i j want hg
    split at h
    · cases h
    rename_i t ht
    split at h
    · rename_i c hc
      injection h with h
      rw [nthO_eq] at hc
      have htl := (List.getElem?_eq_some_iff.1 hc).1
      have hta : t < a.tmps.size := by rw [hC.size]; exact htl
      have hv : a.tmps[t] = .bool c := hC.tmp t _ _ (Array.getElem?_eq_getElem hta) hc
      have hy : yielded f.toArray a.tmps j = some c := by
        unfold yielded
        rw [List.getElem?_toArray, ← nthO_eq, ht]
        simp only [Option.bind_some, Array.getElem?_eq_getElem hta, hv]
      simp [Region.wanted, hg, hy, h]
    · rename_i hc
      injection h with h
      subst h
      rw [nthO_eq] at hc
      have htl := (List.getElem?_eq_some_iff.1 hc).1
      have hta : t < a.tmps.size := by rw [hC.size]; exact htl
      obtain ⟨arr, hv, _⟩ := hC.tmp t _ _ (Array.getElem?_eq_getElem hta) hc
      have hy : yielded f.toArray a.tmps j = none := by
        unfold yielded
        rw [List.getElem?_toArray, ← nthO_eq, ht]
        simp only [Option.bind_some, Array.getElem?_eq_getElem hta, hv]
      simp [Region.wanted, hg, hy]
    · cases h

theorem skip_op (hC : Conf W0 ok σ S a w) (dst : Option Tmp) : Conf W0 ok σ (S.put dst (.tup []) []) (a.put dst undef) w :=
  hC.stay (grown_refl w) (fun _ h => h) hC.okb (fun _ h => Or.inl h) ⟨#[], rfl, rfl, fun j u x hu hx => by simp at hx⟩

theorem conf_lit {dst : Option Tmp} {r r' : AT} {u : List (Nat × Blk)} (hC : Conf W0 ok σ (S.put dst r u) a w) (hr : ∃ b, r = .v (.c (.i (.sc (.bool b)))) ∧ r' = .v (.c (.lit b))) : Conf W0 ok σ (S.put dst r' u) a w := by
  obtain ⟨b, rfl, rfl⟩ := hr
  refine ⟨hC.below, hC.hole, hC.base, hC.defers, hC.okb, by rw [hC.size, put_len, put_len], fun i v x h1 h2 => ?_, hC.blk, hC.apart⟩
  cases dst with
  | none => exact hC.tmp i v x h1 h2
  | some t =>
    by_cases hi : t = i
    · subst hi
      have htl : t < S.t.length := by
        have := (List.getElem?_eq_some_iff.1 h2).1
        simpa [St.put] using this
      have e2 : x = .v (.c (.lit b)) := by simpa [St.put, htl, eq_comm] using h2
      subst e2
      have h3 : RepT w ok σ (S.put (some t) (.v (.c (.i (.sc (.bool b))))) u).G (.v (.c (.i (.sc (.bool b))))) v := hC.tmp t v _ h1 (by simp [St.put, htl])
      exact RepI_sc h3
    · refine hC.tmp i v x h1 ?_
      simpa [St.put, List.getElem?_set_ne hi] using h2

theorem gsplit_rep {dst : Option Tmp} {g : Bool} {r : AT} {u : List (Nat × Blk)} {K : AT → Prop} (hC : Conf W0 ok σ (S.put dst r u) a w) (h : gsplit g r K) : ∃ r', K r' ∧ Conf W0 ok σ (S.put dst r' u) a w := by
  unfold gsplit at h
  split at h
  · exact ⟨r, h, hC⟩
  · split at h
    · rename_i b
      cases b with
      | true => exact ⟨_, h.1 rfl, conf_lit hC ⟨true, rfl, rfl⟩⟩
      | false => exact ⟨_, h.2 rfl, conf_lit hC ⟨false, rfl, rfl⟩⟩
    · exact ⟨_, h, hC⟩
    · exact h.elim

/-- One operation of a region goes on. -/
theorem step_wp (hT : TabOk P T) {f : List Oper} {k : Nat} {o : Oper} {K : St → List Nat → List Nat → Prop} (hC : Conf W0 ok σ S a w) (h : stepK T P f k o S K) {R : Act → World → Prop}
    (hR : ∀ S' d u a' w', (∃ ok σ, Conf W0 ok σ S' a' w') → K S' d u → R a' w') :
    if Region.wanted o (yielded f.toArray a.tmps) then o.wp P a w R Q else R (a.put o.dst undef) w := by
  unfold stepK at h
  split at h
  · rename_i hw
    rw [if_pos (want_of hC hw)]
    refine Oper.wp_mono ?_ (eff_goes hT hC h)
    rintro a' w' ⟨r, u, d, hK, _, ok', σ', hC'⟩
    obtain ⟨r', hK', hC2⟩ := gsplit_rep hC' hK
    rw [putK_eq] at hK'
    exact hR _ _ _ _ _ ⟨ok', σ', hC2⟩ hK'
  · rename_i hw
    rw [if_neg (by rw [want_of hC hw]; simp)]
    rw [putK_eq] at h
    exact hR _ _ _ _ _ ⟨ok, σ, skip_op hC o.dst⟩ h
  · exact h.elim

theorem callV_rep (hC : Conf W0 ok σ S a w) {h : FuncId} {xs : List AT} (hc : callV S.ev o.op = some (h, xs)) :
    ∃ vs : List Value, (Enters P h → (execOp a.eval o).run P w = .ok (.enter h vs.toArray) w) ∧ vs.length = xs.length ∧ ∀ (j : Nat) x v, xs[j]? = some x → vs[j]? = some v → RepT w ok σ S.G x v := by
  cases hop : o.op with
  | call c =>
    rw [hop] at hc
    obtain ⟨callee, args, tys⟩ := c
    simp only [callV] at hc
    split at hc
    · rename_i x
      split at hc
      · rename_i f
        split at hc
        · injection hc with hc
          injection hc with h1 h2
          subst h1 h2
          refine ⟨args.toList.map a.eval, fun hE => ?_, by simp, args_rep hC args.toList⟩
          rw [run_call hE hop]
          congr 2
          apply Array.ext'
          simp
        · cases hc
      · rename_i t
        split at hc
        · rename_i f ps hev
          split at hc
          · injection hc with hc
            injection hc with h1 h2
            subst h1 h2
            have hr := ev_rep hC (.tmp t)
            rw [hev] at hr
            obtain ⟨vs, hx, hvl, hvr⟩ := hr
            refine ⟨args.toList.map a.eval ++ vs, fun hE => run_callv hx hE (args := args.toList) (tys := tys) (by rw [hop]), by simp [hvl], fun j x v hx hv => ?_⟩
            rw [List.getElem?_append] at hx hv
            simp only [List.length_map] at hx hv
            split at hx
            · rename_i hj
              rw [if_pos hj] at hv
              exact args_rep hC args.toList j x v hx hv
            · rename_i hj
              rw [if_neg hj] at hv
              rw [List.getElem?_map] at hx
              obtain ⟨q, hq, rfl⟩ := Option.map_eq_some_iff.1 hx
              have hq' := hvr _ q v hq hv
              cases q with
              | ptr b g off => exact hq'
              | pim cs => exact hq'
              | sc u =>
                obtain ⟨rfl, ho⟩ := hq'
                exact RepI.sc _ ho
          · cases hc
        · cases hc
      · cases hc
    · cases hc
  | _ => rw [hop] at hc; simp [callV] at hc

theorem stepV_wp (hT : TabOk P T) {f : List Oper} {k : Nat} {o : Oper} {K : St → Prop} (hC : Conf W0 ok σ S a w) (h : stepV T P f k o S K) {R : Act → World → Prop}
    (hR : ∀ S' a' w', (∃ ok σ, Conf W0 ok σ S' a' w') → K S' → R a' w') :
    if Region.wanted o (yielded f.toArray a.tmps) then o.wp P a w R Q else R (a.put o.dst undef) w := by
  unfold stepV at h
  split at h
  · unfold stepF at h
    split at h
    · rename_i hw
      rw [if_pos (want_of hC hw)]
      refine Oper.wp_mono ?_ (effF_goes hT hC h)
      rintro a' w' ⟨r, u, d, hK, _, ok', σ', hC'⟩
      obtain ⟨r', hK', hC2⟩ := gsplit_rep hC' hK
      rw [putK_eq] at hK'
      exact hR _ _ _ ⟨ok', σ', hC2⟩ hK'
    · rename_i hw
      rw [if_neg (by rw [want_of hC hw]; simp)]
      rw [putK_eq] at h
      exact hR _ _ _ ⟨ok, σ, skip_op hC o.dst⟩ h
    · exact h.elim
  split at h
  · unfold stepX at h
    split at h
    · rename_i hw
      rw [if_pos (want_of hC hw)]
      refine Oper.wp_mono ?_ (effX_goes hT hC h)
      rintro a' w' ⟨r, u, d, hK, _, ok', σ', hC'⟩
      obtain ⟨r', hK', hC2⟩ := gsplit_rep hC' hK
      rw [putK_eq] at hK'
      exact hR _ _ _ ⟨ok', σ', hC2⟩ hK'
    · rename_i hw
      rw [if_neg (by rw [want_of hC hw]; simp)]
      rw [putK_eq] at h
      exact hR _ _ _ ⟨ok, σ, skip_op hC o.dst⟩ h
    · exact h.elim
  split at h
  · exact step_wp hT hC h (fun S' _ _ a' w' hc hK => hR S' a' w' hc hK)
  · rename_i g xs hcv
    rcases h with h | h
    · exact step_wp hT hC h (fun S' _ _ a' w' hc hK => hR S' a' w' hc hK)
    · split at h
      · rename_i hg
        rw [if_pos (by simp [Region.wanted, hg])]
        obtain ⟨vs, hrun, hl, hrep⟩ := callV_rep (P := P) hC hcv
        refine Oper.wp_mono ?_ (goes_callV hC hrun hl hrep h)
        rintro a' w' ⟨r, u, d, hK, _, ok', σ', hC'⟩
        rw [putK_eq] at hK
        exact hR _ _ _ ⟨ok', σ', hC'⟩ hK
      · exact h.elim

theorem vcOps_sound (hT : TabOk P T) {f : List Oper} (l : List Oper) : ∀ {k : Nat} {S : St} {a : Act} {w : World} {ok : Nat → Prop} {σ : Nat → Nat → Value} {K : St → Prop}, Conf W0 ok σ S a w → vcOps T P f k l S K →
    (∀ S' a' w', (∃ ok σ, Conf W0 ok σ S' a' w') → K S' → Q .normal a' w') → wpList P f.toArray Q l a w := by
  induction l with
  | nil => intro k S a w ok σ K hC h hQ; exact hQ S a w ⟨ok, σ, hC⟩ h
  | cons o l ih =>
    intro k S a w ok σ K hC h hQ
    replace h : stepV T P f k o S fun S' => vcOps T P f (k + 1) l S' K := h
    have := stepV_wp (Q := Q) hT hC h (R := wpList P f.toArray Q l) (fun S' a' w' ⟨ok', σ', hC'⟩ hK => ih hC' hK hQ)
    unfold wpList
    split
    · rename_i hw; rw [if_pos hw] at this; exact Or.inl this
    · rename_i hw; rw [if_neg hw] at this; exact this
end
end Go.Proofs.YtikchieadclbhaaGreatDoor.Ab
