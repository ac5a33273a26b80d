/- Calls that turn several variables of the caller's. No condition. -/
import Derived.Test.YtikchieadclbhaaGreatDoorZ13
namespace Go.Proofs.YtikchieadclbhaaGreatDoor.Ab
set_option linter.unusedVariables false
set_option linter.unusedSimpArgs false
open Go.RowKit

theorem bears_isI {w : World} {ok : Nat → Prop} {σ σ' : Nat → Nat → Value} {G G' : Nat → Nat} {arr : Array Value} {cs : List AV1} (h : cs.all isI = true) (hb : Bears w ok σ G arr cs) : Bears w ok σ' G' arr cs :=
  ⟨hb.1, fun j u x hu hx => ⟨rep_isI (List.all_eq_true.1 h x (List.mem_of_getElem? hx)) (hb.2 j u x hu hx).1, (hb.2 j u x hu hx).2⟩⟩

/-- What was there is as it was, but for some blocks. -/
structure GrownL (w w' : World) (ms : List Nat) : Prop where
  os : w'.os = w.os
  tape : w'.tape = w.tape
  output : w'.output = w.output
  size : w.heap.size ≤ w'.heap.size
  block : ∀ k, k < w.heap.size → k ∉ ms → w'.heap[k]? = w.heap[k]?
/-- A cell that is one value. -/
def isS : AV1 → Bool
  | .i (.sc _) => true
  | _ => false
theorem rep_isS {x : AV1} (h : isS x = true) {w w' : World} {ok ok' : Nat → Prop} {σ σ' : Nat → Nat → Value} {G G' : Nat → Nat} {v : Value} (hx : Rep1 w ok σ G x v) : Rep1 w' ok' σ' G' x v := by
  cases x with
  | i y =>
    cases y with
    | sc u =>
      have e : v = u := RepI_sc hx
      cases hx with
      | sc _ ho => exact RepI.sc _ ho
    | sl es => cases h
  | _ => cases h
theorem bears_isS {w w' : World} {ok ok' : Nat → Prop} {σ σ' : Nat → Nat → Value} {G G' : Nat → Nat} {arr : Array Value} {cs : List AV1} (h : cs.all isS = true) (hb : Bears w ok σ G arr cs) : Bears w' ok' σ' G' arr cs :=
  ⟨hb.1, fun j u x hu hx => ⟨rep_isS (List.all_eq_true.1 h x (List.mem_of_getElem? hx)) (hb.2 j u x hu hx).1, (hb.2 j u x hu hx).2⟩⟩
def σV (ms : List Nat) (b _g : Nat) : Value := .pointer (some ⟨ms.getD b 0, 0, none⟩)
/-- What a call that turns some of the caller's variables answers: pointers in the arguments count these variables. -/
def FunV (P : Program) (f : FuncId) (css : List (List AV1)) (args : List AV) (css' : List (List AV1)) (res : AT) : Prop :=
  Enters P f ∧ ∀ (w : World) (ok : Nat → Prop) (ms : List Nat) (argv : Array Value), OkW w ok → ms.Nodup → ms.length = css.length →
    (∀ (i : Nat) m cs, ms[i]? = some m → css[i]? = some cs → ¬ ok m ∧ ∃ arr ty, w.heap[m]? = some (.cells arr ty (0, 0)) ∧ Bears w ok (fun _ _ => undef) (fun _ => 0) arr cs) →
    argv.size = args.length → (∀ (j : Nat) v x, argv[j]? = some v → args[j]? = some x → RepV w ok (σV ms) (fun _ => 0) x v) →
    Calls P f argv w fun e w' => ∃ v, e = .returned v ∧ GrownL w w' ms ∧
      (∀ (i : Nat) m cs, ms[i]? = some m → css'[i]? = some cs → ∃ arr ty ok2, w'.heap[m]? = some (.cells arr ty (0, 0)) ∧ Bears w' ok2 (fun _ _ => undef) (fun _ => 0) arr cs) ∧
      ∃ ok2, RepT w' ok2 (fun _ _ => undef) (fun _ => 0) res v

def cellsAt : Blk → List AV1
  | .var _ cs => cs
  | _ => []
def isV : Blk → Bool
  | .var _ cs => cs.all isI
  | _ => false
def renC (bs : List Nat) (H : Nat → Blk) : Cap → Cap
  | .ptr i _ off => .ptr (bs.getD i 0) (H (bs.getD i 0)).gen off
  | c => c
def ren1 (bs : List Nat) (H : Nat → Blk) : AV1 → AV1
  | .ptr i _ off => .ptr (bs.getD i 0) (H (bs.getD i 0)).gen off
  | .clo f ps => .clo f (ps.map (renC bs H))
  | x => x
def renV (bs : List Nat) (H : Nat → Blk) : AV → AV
  | .c x => .c (ren1 bs H x)
  | .agg cs => .agg cs
def capOk (n : Nat) : Cap → Bool
  | .ptr i g _ => Nat.blt i n && Nat.beq g 0
  | .pim _ => false
  | .sc _ => true
def argOk1 (n : Nat) : AV1 → Bool
  | .ptr i g _ => Nat.blt i n && Nat.beq g 0
  | .clo _ ps => ps.all (capOk n)
  | .i _ => true
  | _ => false
def argOk (n : Nat) : AV → Bool
  | .c x => argOk1 n x
  | .agg cs => cs.all isI
def nodupB : List Nat → Bool
  | [] => true
  | b :: l => !(l.any (Nat.beq b)) && nodupB l
theorem nodupB_iff : ∀ {l : List Nat}, nodupB l = true → l.Nodup
  | [], _ => List.nodup_nil
  | b :: l, h => by
    simp only [nodupB, Bool.and_eq_true, Bool.not_eq_true', List.any_eq_false] at h
    refine List.nodup_cons.2 ⟨fun hm => ?_, nodupB_iff h.2⟩
    exact h.1 b hm (by simp)
def updV (H : Nat → Blk) : List Nat → List (List AV1) → List (Nat × Blk)
  | b :: bs, cs :: css => (b, .var (H b).gen cs) :: updV H bs css
  | _, _ => []
def effCallV (P : Program) (H : Nat → Blk) (f : FuncId) (args : List AT) (K : Kont) : Prop :=
  ∃ (bs : List Nat) (css' : List (List AV1)) (az : List AV) (res : AT), FunV P f (bs.map fun b => cellsAt (H b)) az css' res ∧ args = az.map (fun x => .v (renV bs H x)) ∧
    (bs.all (fun b => isV (H b)) && nodupB bs && az.all (argOk bs.length) && css'.all (fun cs => cs.all isS) && Nat.beq css'.length bs.length && okT 0 res && scT res) = true ∧
    K res (updV H bs css') bs

theorem updV_mem {H : Nat → Blk} : ∀ {bs : List Nat} {css : List (List AV1)} {p : Nat × Blk}, p ∈ updV H bs css → p.1 ∈ bs
  | [], _, p, h => by simp [updV] at h
  | b :: bs, [], p, h => by simp [updV] at h
  | b :: bs, cs :: css, p, h => by
    simp only [updV, List.mem_cons] at h
    rcases h with rfl | h
    · exact List.mem_cons_self
    · exact List.mem_cons_of_mem _ (updV_mem h)
theorem updV_not {H : Nat → Blk} {bs : List Nat} {css : List (List AV1)} {h : List Blk} {c : Nat} (hc : c ∉ bs) : ((updV H bs css).foldl (fun h p => h.set p.1 p.2) h)[c]? = h[c]? := by
  refine foldl_set_get _ _ _ (fun hm => ?_)
  obtain ⟨p, hp, rfl⟩ := List.mem_map.1 hm
  exact hc (updV_mem hp)
theorem updV_get {H : Nat → Blk} : ∀ {bs : List Nat} {css : List (List AV1)} {h : List Blk}, bs.Nodup → css.length = bs.length → (∀ b ∈ bs, b < h.length) → ∀ {i b : Nat}, bs[i]? = some b →
    ∃ cs, css[i]? = some cs ∧ ((updV H bs css).foldl (fun h p => h.set p.1 p.2) h)[b]? = some (.var (H b).gen cs)
  | [], css, h, _, _, _, i, b, hi => by simp at hi
  | b0 :: bs, [], h, _, hl, _, i, b, hi => by simp at hl
  | b0 :: bs, cs :: css, h, hn, hl, hb, i, b, hi => by
    obtain ⟨n1, n2⟩ := List.nodup_cons.1 hn
    simp only [updV, List.foldl_cons]
    cases i with
    | zero =>
      simp at hi
      subst hi
      refine ⟨cs, rfl, ?_⟩
      rw [updV_not n1, List.getElem?_set_self (hb b0 List.mem_cons_self)]
    | succ i =>
      obtain ⟨cs', h1, h2⟩ := updV_get (css := css) (h := h.set b0 (.var (H b0).gen cs)) n2 (by simpa using hl) (fun b hb' => by simpa using hb b (List.mem_cons_of_mem _ hb')) (by simpa using hi)
      exact ⟨cs', by simpa using h1, h2⟩

section
variable {P : Program} {T : Nat → TI} {W0 : Ent} {w w' : World} {ok ok' : Nat → Prop} {σ σc : Nat → Nat → Value} {S : St} {a : Act} {o : Oper} {K : Kont} {Q : Exit → Act → World → Prop}

theorem goes_callV (hC : Conf W0 ok σ S a w) {f : FuncId} {xs : List AT} {vs : List Value} (hrun : Enters P f → (execOp a.eval o).run P w = .ok (.enter f vs.toArray) w) (hl : vs.length = xs.length)
    (hrep : ∀ (j : Nat) x v, xs[j]? = some x → vs[j]? = some v → RepT w ok σ S.G x v) (h : effCallV P S.blk f xs K) : Goes P W0 S o a w K Q := by
  obtain ⟨bs, css', az, res, ⟨hEn, hF⟩, hargs, hchk, hK⟩ := h
  simp only [Bool.and_eq_true] at hchk
  obtain ⟨⟨⟨⟨⟨⟨hisV, hnd⟩, hok⟩, hisS⟩, hlen⟩, hok0⟩, hsc⟩ := hchk
  have hlen' := Nat.eq_of_beq_eq_true hlen
  have hnd' := nodupB_iff hnd
  obtain ⟨num, hnum⟩ : ∃ num : Nat → Nat, ∀ b, num b = (Value.blkNo (σ b (S.G b))).getD 0 := ⟨_, fun _ => rfl⟩
  have key : ∀ b ∈ bs, ∃ cs arr ty, S.h[b]? = some (.var (S.G b) cs) ∧ S.blk b = .var (S.G b) cs ∧ cs.all isI = true ∧ σ b (S.G b) = .pointer (some ⟨num b, 0, none⟩) ∧ W0.bs.has (num b) ∧ ¬ ok (num b) ∧
      w.heap[num b]? = some (.cells arr ty (0, 0)) ∧ Bears w ok σ S.G arr cs := by
    intro b hb
    have h1 := List.all_eq_true.1 hisV b hb
    unfold isV at h1
    split at h1
    · rename_i g cs hbl
      have hg : S.G b = g := by rw [blk_gen, hbl]; rfl
      subst hg
      have hbs := blk_some hbl (fun g e => by cases e)
      obtain ⟨n, arr, ty, e1, e2, e3, e4, e5, e6⟩ := hC.blk b _ hbs
      have hn : num b = n := by rw [hnum, e1]; rfl
      rw [hn]
      exact ⟨cs, arr, ty, hbs, hbl, h1, e1, e2, e3, e4, e5, e6⟩
    · cases h1
  have hat : ∀ b ∈ bs, ∀ cs, S.h[b]? = some (.var (S.G b) cs) → (Blk.var (S.G b) cs).at σ b = some (num b) := by
    intro b hb cs _
    obtain ⟨_, _, _, _, _, _, e, _⟩ := key b hb
    simp only [Blk.at, e, Value.blkNo]
  have hinj : ∀ b ∈ bs, ∀ c ∈ bs, num b = num c → b = c := by
    intro b hb c hc e
    obtain ⟨cs, _, _, h1, _⟩ := key b hb
    obtain ⟨cs2, _, _, h2, _⟩ := key c hc
    rcases Nat.decEq b c with hne | he
    · exact absurd (e ▸ hat c hc cs2 h2) (hC.apart b c _ _ h1 h2 hne (num b) (hat b hb cs h1))
    · exact he
  have hmem : ∀ k, k ∈ bs.map num → ∃ b ∈ bs, num b = k := fun k hk => by obtain ⟨b, hb, e⟩ := List.mem_map.1 hk; exact ⟨b, hb, e⟩
  have hndm : (bs.map num).Nodup := by
    unfold List.Nodup
    rw [List.pairwise_map]
    exact List.Pairwise.imp_of_mem (fun {x y} hx hy hne e => hne (hinj x hx y hy e)) hnd'
  have hS : ∀ {y : AV1} {u : Value}, argOk1 bs.length y = true → Rep1 w ok σ S.G (ren1 bs S.blk y) u → Rep1 w ok (σV (bs.map num)) (fun _ => 0) y u := by
    have hp : ∀ {i g off : Nat} {u : Value}, i < bs.length → (∃ n, σ (bs.getD i 0) (S.blk (bs.getD i 0)).gen = .pointer (some ⟨n, 0, none⟩) ∧ u = .pointer (some ⟨n, off, none⟩)) → ∃ n, σV (bs.map num) i g = .pointer (some ⟨n, 0, none⟩) ∧ u = .pointer (some ⟨n, off, none⟩) := by
      rintro i g off u hi ⟨n, e1, e2⟩
      have hb : bs.getD i 0 = bs[i] := by simp [List.getD, hi]
      rw [hb] at e1
      obtain ⟨_, _, _, _, _, _, e, _⟩ := key bs[i] (List.getElem_mem hi)
      rw [← blk_gen, e] at e1
      refine ⟨n, ?_, e2⟩
      unfold σV
      rw [show (bs.map num).getD i 0 = num bs[i] by simp [List.getD, hi]]
      exact e1
    intro y u hy hu
    cases y with
    | ptr i g off =>
      simp only [argOk1, Bool.and_eq_true] at hy
      obtain ⟨_, n, e1, e2⟩ := hu
      exact ⟨Nat.le_of_eq (Nat.eq_of_beq_eq_true hy.2), hp (by simpa using hy.1) ⟨n, e1, e2⟩⟩
    | clo f ps =>
      obtain ⟨vs', e, l, r⟩ := hu
      refine ⟨vs', e, by simpa using l, fun j q u hq hu => ?_⟩
      have hq' : capOk bs.length q = true := List.all_eq_true.1 hy q (List.mem_of_getElem? hq)
      have hr := r j (renC bs S.blk q) u (by rw [List.getElem?_map, hq]; rfl) hu
      cases q with
      | ptr i g off =>
        simp only [capOk, Bool.and_eq_true] at hq'
        obtain ⟨_, n, e1, e2⟩ := hr
        exact ⟨Nat.le_of_eq (Nat.eq_of_beq_eq_true hq'.2), hp (by simpa using hq'.1) ⟨n, e1, e2⟩⟩
      | pim cs => cases hq'
      | sc u => exact hr
    | i x => exact hu
    | _ => cases hy
  have hvl : vs.toArray.size = az.length := by rw [List.size_toArray, hl, hargs, List.length_map]
  unfold Goes Oper.wp
  rw [hrun hEn, Oper.upon_enter]
  refine (hF w ok (bs.map num) vs.toArray hC.okw hndm (by simp) (fun i m cs hi hcs => ?_) hvl (fun j v x hv hx => ?_)).mono ?_
  · rw [List.getElem?_map] at hi hcs
    obtain ⟨b, hb, rfl⟩ := Option.map_eq_some_iff.1 hi
    rw [hb] at hcs
    obtain ⟨cs0, arr, ty, q1, q2, q3, q4, q5, q6, q7, q8⟩ := key b (List.mem_of_getElem? hb)
    have : cs = cs0 := by
      simp only [Option.map_some, q2, cellsAt] at hcs
      injection hcs with hcs
      exact hcs.symm
    subst this
    exact ⟨q6, arr, ty, q7, bears_isI q3 q8⟩
  · have hxx : xs[j]? = some (.v (renV bs S.blk x)) := by rw [hargs, List.getElem?_map, hx]; rfl
    have hr : RepV w ok σ S.G (renV bs S.blk x) v := hrep j _ v hxx (by simpa using hv)
    have hxo : argOk bs.length x = true := List.all_eq_true.1 hok x (List.mem_of_getElem? hx)
    cases x with
    | c y => exact hS hxo hr
    | agg cs =>
      obtain ⟨arr, e1, e2, e3⟩ := hr
      exact ⟨arr, e1, e2, fun j u x hu hx => ⟨rep_isI (List.all_eq_true.1 hxo x (List.mem_of_getElem? hx)) (e3 j u x hu hx).1, (e3 j u x hu hx).2⟩⟩
  rintro e w' ⟨v, rfl, hg, hcells, ok2, hres⟩
  have hout : ∀ k, k < w.heap.size → k ∉ bs.map num → w'.heap[k]? = w.heap[k]? := hg.block
  have hbl : ∀ b ∈ bs, b < S.h.length := fun b hb => by
    obtain ⟨_, _, _, q1, _⟩ := key b hb
    exact (List.getElem?_eq_some_iff.1 q1).1
  have hput : ∀ (dst : Option Tmp) (r : AT), (S.put dst r (updV S.blk bs css')).h = (updV S.blk bs css').foldl (fun h p => h.set p.1 p.2) S.h := fun _ _ => rfl
  have hidx : ∀ b ∈ bs, ∃ i, bs[i]? = some b := fun b hb => by
    obtain ⟨i, hi, e⟩ := List.getElem_of_mem hb
    exact ⟨i, by rw [List.getElem?_eq_getElem hi, e]⟩
  have hin : ∀ b ∈ bs, ∃ cs', cs'.all isS = true ∧ (S.put o.dst res (updV S.blk bs css')).h[b]? = some (.var (S.G b) cs') ∧ ∃ arr ty ok2, w'.heap[num b]? = some (.cells arr ty (0, 0)) ∧ Bears w' ok2 (fun _ _ => undef) (fun _ => 0) arr cs' := by
    intro b hb
    obtain ⟨i, hi⟩ := hidx b hb
    obtain ⟨cs', h1, h2⟩ := updV_get (H := S.blk) (h := S.h) hnd' hlen' hbl hi
    exact ⟨cs', List.all_eq_true.1 hisS cs' (List.mem_of_getElem? h1), by rw [hput, h2, blk_gen], hcells i (num b) cs' (by rw [List.getElem?_map, hi]; rfl) h1⟩
  have hold : ∀ c, c ∉ bs → (S.put o.dst res (updV S.blk bs css')).h[c]? = S.h[c]? := fun c hc => by rw [hput, updV_not hc]
  have hGG : (S.put o.dst res (updV S.blk bs css')).G = S.G := by
    funext c
    by_cases hc : c ∈ bs
    · obtain ⟨cs', _, h2, _⟩ := hin c hc
      simp only [St.G, h2]
      rfl
    · simp only [St.G, hold c hc]
  have hL : Later w w' ok ok σ σ S.G S.G := ⟨fun _ h => h, fun k hk => hout k (hC.okb k hk) (fun hm => by
    obtain ⟨b, hb, rfl⟩ := hmem k hm
    obtain ⟨_, _, _, _, _, _, _, _, q6, _⟩ := key b hb
    exact q6 hk), fun _ => Nat.le_refl _, fun _ _ _ => rfl⟩
  have hnot : ∀ c C n, c ∉ bs → S.h[c]? = some C → C.at σ c = some n → n ∉ bs.map num := by
    intro c C n hc hC' hn hm
    obtain ⟨b, hb, rfl⟩ := hmem n hm
    obtain ⟨cs0, _, _, q1, _⟩ := key b hb
    exact hC.apart b c _ C q1 hC' (fun e => hc (e ▸ hb)) (num b) (hat b hb cs0 q1) hn
  refine ⟨res, _, _, hK, fun p hp => hbl _ (updV_mem hp), ok, σ, ?_⟩
  refine ⟨⟨hg.os.trans hC.below.os, hg.tape.trans hC.below.tape, hg.output.trans hC.below.output, Nat.le_trans hC.below.size hg.size, fun k hk hh => ?_⟩, hC.hole, hC.base, by rw [put_defers]; exact hC.defers,
    fun k hk => Nat.lt_of_lt_of_le (hC.okb k hk) hg.size, by rw [put_size, put_len]; exact hC.size, fun i v' x h1 h2 => ?_, fun c C hC' => ?_, fun c c' C C' h1 h2 hne n hn hn' => ?_⟩
  · rw [hout k (Nat.lt_of_lt_of_le hk hC.below.size) (fun hm => ?_)]
    · exact hC.below.block k hk hh
    · obtain ⟨b, hb, rfl⟩ := hmem k hm
      obtain ⟨_, _, _, _, _, _, _, q5, _⟩ := key b hb
      rcases q5 with q5 | q5
      · have : W0.heap.size ≤ num b := q5
        omega
      · exact hh q5
  · rw [hGG]
    rcases put_tmp hC.size h1 h2 with ⟨rfl, rfl⟩ | ⟨h1, h2⟩
    · exact ok0_rep hok0 (sc_rep hsc hres)
    · exact RepT.mono hL (hC.tmp i v' x h1 h2)
  · rw [hGG]
    by_cases hc : c ∈ bs
    · obtain ⟨cs', s1, s2, arr, ty, ok3, s3, s4⟩ := hin c hc
      rw [s2] at hC'
      injection hC' with hC'
      subst hC'
      obtain ⟨_, _, _, _, _, _, q4, q5, q6, _⟩ := key c hc
      have hb := bears_isS (w' := w') (ok' := ok) (σ' := σ) (G' := S.G) s1 s4
      exact ⟨num c, arr, ty, q4, q5, q6, s3, hb.1, hb.2⟩
    · rw [hold c hc] at hC'
      refine RepB.keep hL hg.size (gen_le hC') (hC.blk c C hC') (fun n hn => ?_)
      obtain ⟨k1, k2, k3⟩ := at_bounds (hC.blk c C hC') hn
      exact ⟨hout n k2 (hnot c C n hc hC' hn), k3⟩
  · have hat' : ∀ (c : Nat) (C : Blk), (S.put o.dst res (updV S.blk bs css')).h[c]? = some C → ∃ C0 : Blk, S.h[c]? = some C0 ∧ C.at σ c = C0.at σ c := by
      intro c C hC'
      by_cases hc : c ∈ bs
      · obtain ⟨cs', _, s2, _⟩ := hin c hc
        rw [s2] at hC'
        injection hC' with hC'
        subst hC'
        obtain ⟨cs0, _, _, q1, _⟩ := key c hc
        exact ⟨_, q1, rfl⟩
      · rw [hold c hc] at hC'
        exact ⟨C, hC', rfl⟩
    obtain ⟨C0, p1, p2⟩ := hat' c C h1
    obtain ⟨C0', p1', p2'⟩ := hat' c' C' h2
    exact hC.apart c c' C0 C0' p1 p1' hne n (p2 ▸ hn) (p2' ▸ hn')
end
end Go.Proofs.YtikchieadclbhaaGreatDoor.Ab
