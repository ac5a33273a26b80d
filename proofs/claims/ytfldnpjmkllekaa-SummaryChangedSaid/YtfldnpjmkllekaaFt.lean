/- The contract of a function that turns several variables of the caller's, from the walk. No condition. -/
import Derived.Test.YtfldnpjmkllekaaFs
namespace Go.Proofs.Ytfldnpjmkllekaa.Ab
set_option linter.unusedVariables false
set_option linter.unusedSimpArgs false
open Go.RowKit

def shC (hb : Nat) : Cap → Cap
  | .ptr i _ off => .ptr (hb + i) 0 off
  | c => c
def sh1 (hb : Nat) : AV1 → AV1
  | .ptr i _ off => .ptr (hb + i) 0 off
  | .clo f ps => .clo f (ps.map (shC hb))
  | x => x
def shV (hb : Nat) : AV → AV
  | .c x => .c (sh1 hb x)
  | .agg cs => .agg cs
def StV (hb : Nat) (css : List (List AV1)) (args : List AV) (n : Nat) : St :=
  ⟨args.map (fun x => .v (shV hb x)) ++ List.replicate (n - args.length) (.v (.c .un)), List.replicate hb (.dead 0) ++ css.map (.var 0)⟩
def varsV (h : List Blk) (b : Nat) : List (List AV1) → Prop
  | [] => True
  | cs :: l => nthO h b = some (.var 0 cs) ∧ varsV h (b + 1) l
theorem varsV_get {h : List Blk} : ∀ {l : List (List AV1)} {b : Nat}, varsV h b l → ∀ {i : Nat} {cs : List AV1}, l[i]? = some cs → h[b + i]? = some (.var 0 cs)
  | [], b, _, i, cs, hi => by simp at hi
  | c :: l, b, hv, i, cs, hi => by
    cases i with
    | zero =>
      simp at hi
      subst hi
      rw [← nthO_eq]
      exact hv.1
    | succ i =>
      have := varsV_get hv.2 (i := i) (cs := cs) (by simpa using hi)
      rw [show b + (i + 1) = b + 1 + i by omega]
      exact this
section
variable {P : Program} {T : Nat → TI}
theorem funV_of_vc (hT : TabOk P T) (hm : P.follows .mixedOrders = true) {f : FuncId} {fn : Func} {c : Code} {css : List (List AV1)} {args : List AV} {css' : List (List AV1)} {res : AT} {rs : List ResultVar} (hf : P.funcs[f]? = some fn) (hb : fn.body = some c) (hn : (fn.name == "runtime.NumGoroutine") = false)
    (hr : fn.results = rs.toArray) (hargs : args.all (argOk css.length) = true) (hcss : css.all (fun cs => cs.all isI) = true) (hlen : css'.length = css.length) (hcss' : css'.all (fun cs => cs.all isS) = true) (hres : okT 0 res = true) (m : Nat)
    (h : vc T P c (StV m css args fn.ntmps) (fun e S' => match e with
      | .exit _ => False
      | _ => varsV S'.h m css' ∧ endK T S' rs [] fun bs' res' => bs' = [] ∧ res' = res)) : FunV P f css args css' res := by
  refine ⟨⟨fn, hf, by rw [hb]; rfl, hn⟩, fun w ok ms argv hok hnd hml hbe hsz hrep => ?_⟩
  have hσ0 : ∀ i g, (fun b g => Value.pointer (some ⟨ms.getD (b - m) 0, 0, none⟩)) (m + i) g = σV ms i g := fun i g => by simp [σV]
  refine calls_of_wp hf hb (wp_mono (vc_sound (W0 := ⟨w, ok, ms, m⟩) hT hm c ⟨ok, fun b g => .pointer (some ⟨ms.getD (b - m) 0, 0, none⟩), ?_⟩ h) ?_)
  · have hent : ∀ (b : Nat) B, (StV m css args fn.ntmps).h[b]? = some B → B = .dead 0 ∨ ∃ i cs mm, b = m + i ∧ css[i]? = some cs ∧ ms[i]? = some mm ∧ B = .var 0 cs := by
      intro b B hB
      simp only [StV] at hB
      rw [List.getElem?_append] at hB
      split at hB
      · left
        exact List.eq_of_mem_replicate (List.mem_of_getElem? hB)
      · rename_i hge
        rw [List.length_replicate] at hge hB
        rw [List.getElem?_map] at hB
        obtain ⟨cs, hcs, rfl⟩ := Option.map_eq_some_iff.1 hB
        have hil : b - m < ms.length := by rw [hml]; exact (List.getElem?_eq_some_iff.1 hcs).1
        exact Or.inr ⟨b - m, cs, ms[b - m], by omega, hcs, List.getElem?_eq_getElem hil, rfl⟩
    refine ⟨⟨rfl, rfl, rfl, Nat.le_refl _, fun _ _ _ => rfl⟩, fun i mm e => ?_, fun k => ⟨fun h => h, Or.inl⟩, rfl, hok, by simp [StV]; omega, fun i v x hv hx => ?_, fun b B hB => ?_, fun b b' B B' hB hB' hne n hn => ?_⟩
    · have e' : ms[i]? = some mm := e
      show Value.pointer (some ⟨ms.getD (m + i - m) 0, 0, none⟩) = _
      rw [show m + i - m = i by omega]
      simp [List.getD, e']
    · simp only [StV] at hx
      rw [List.getElem?_append] at hx
      split at hx
      · rename_i hi
        rw [List.length_map] at hi
        rw [List.getElem?_map] at hx
        obtain ⟨y, hy, rfl⟩ := Option.map_eq_some_iff.1 hx
        rw [Array.getElem?_append, if_pos (by omega)] at hv
        have hk : argOk css.length y = true := List.all_eq_true.1 hargs y (List.mem_of_getElem? hy)
        have hr := hrep i v y hv hy
        cases y with
        | agg cs =>
          obtain ⟨arr, e1, e2, e3⟩ := hr
          exact ⟨arr, e1, e2, fun j u x hu hx => ⟨rep_isI (List.all_eq_true.1 hk x (List.mem_of_getElem? hx)) (e3 j u x hu hx).1, (e3 j u x hu hx).2⟩⟩
        | c y =>
          cases y with
          | i x => exact hr
          | ptr i g off =>
            obtain ⟨_, n, e1, e2⟩ := hr
            exact ⟨Nat.zero_le _, n, by rw [← e1]; exact hσ0 i 0, e2⟩
          | clo f ps =>
            obtain ⟨vs', e, l, r⟩ := hr
            refine ⟨vs', e, by simpa using l, fun j q u hq hu => ?_⟩
            rw [List.getElem?_map] at hq
            obtain ⟨q0, hq0, rfl⟩ := Option.map_eq_some_iff.1 hq
            have hq' : capOk css.length q0 = true := List.all_eq_true.1 hk q0 (List.mem_of_getElem? hq0)
            have hr := r j q0 u hq0 hu
            cases q0 with
            | ptr i g off =>
              obtain ⟨_, n, e1, e2⟩ := hr
              exact ⟨Nat.zero_le _, n, by rw [← e1]; exact hσ0 i 0, e2⟩
            | pim cs => cases hq'
            | sc u => exact hr
          | _ => cases hk
      · have := List.mem_of_getElem? hx
        rw [List.eq_of_mem_replicate this]
        exact trivial
    · rcases hent b B hB with rfl | ⟨i, cs, mm, rfl, hcs, hmm, rfl⟩
      · exact trivial
      · obtain ⟨h1, arr, ty, h2, h3⟩ := hbe i mm cs hmm hcs
        have h4 := bears_isI (σ' := fun b g => Value.pointer (some ⟨ms.getD (b - m) 0, 0, none⟩)) (G' := (StV m css args fn.ntmps).G) (List.all_eq_true.1 hcss cs (List.mem_of_getElem? hcs)) h3
        refine ⟨mm, arr, ty, ?_, Or.inr (List.mem_of_getElem? hmm), h1, h2, h4.1, h4.2⟩
        show Value.pointer (some ⟨ms.getD (m + i - m) 0, 0, none⟩) = _
        rw [show m + i - m = i by omega]
        simp [List.getD, hmm]
    · rcases hent b B hB with rfl | ⟨i, cs, mm, rfl, hcs, hmm, rfl⟩
      · simp [Blk.at] at hn
      · rcases hent b' B' hB' with rfl | ⟨i', cs', mm', rfl, hcs', hmm', rfl⟩
        · simp [Blk.at]
        · have hii : i ≠ i' := fun e => hne (by rw [e])
          simp only [Blk.at, Value.blkNo, show m + i - m = i by omega, List.getD, hmm, Option.getD_some] at hn
          simp only [Blk.at, Value.blkNo, show m + i' - m = i' by omega, List.getD, hmm', Option.getD_some]
          injection hn with hn
          subst hn
          intro e
          injection e with e
          subst e
          exact hii ((List.getElem?_inj (List.getElem?_eq_some_iff.1 hmm).1 hnd).1 (hmm.trans hmm'.symm))
  · have fin : ∀ {a' : Act} {w' : World} {S' : St}, (∃ ok' σ', Conf ⟨w, ok, ms, m⟩ ok' σ' S' a' w') → (varsV S'.h m css' ∧ endK T S' rs [] fun bs' res' => bs' = [] ∧ res' = res) →
        a'.defers = [] ∧ ∃ v, (results fn a'.tmps).run P w' = .ok v w' ∧ ∃ v1, Ending.returned v = .returned v1 ∧ GrownL w w' ms ∧
          (∀ (i : Nat) m cs, ms[i]? = some m → css'[i]? = some cs → ∃ arr ty ok2, w'.heap[m]? = some (.cells arr ty (0, 0)) ∧ Bears w' ok2 (fun _ _ => undef) (fun _ => 0) arr cs) ∧
          ∃ ok2, RepT w' ok2 (fun _ _ => undef) (fun _ => 0) res v1 := by
      rintro a' w' S' ⟨ok', σ', hC⟩ ⟨hG, hE⟩
      obtain ⟨xs, v, vs, h1, h2, h3, h4, h5⟩ := run_results (fn := fn) hT hC hr hE
      obtain ⟨ys, k1, k2, k3⟩ := outVs_rep hC xs h3 h4 h1
      obtain ⟨bs', ⟨rfl, rfl⟩, k5⟩ := outB_rep hC (m := []) (by simp) [] (i := 0) (fun j => by rw [Nat.zero_add]) k1
      refine ⟨hC.defers, v, h2, v, rfl, ⟨hC.below.os, hC.below.tape, hC.below.output, hC.below.size, hC.below.block⟩, fun i mm cs hmm hcs => ?_, OutOk S' σ' ok' [], ?_⟩
      · have hB := hC.blk (m + i) _ (varsV_get hG hcs)
        obtain ⟨n, arr', ty', q1, q2, q3, q4, q5, q6⟩ := hB
        have hσ := hC.hole i mm hmm
        have hnm : n = mm := by
          rw [show σ' (m + i) 0 = _ from hσ] at q1
          injection q1 with q1; injection q1 with q1; injection q1 with q1; exact q1.symm
        subst hnm
        exact ⟨arr', ty', ok', q4, bears_isS (List.all_eq_true.1 hcss' cs (List.mem_of_getElem? hcs)) (show Bears w' ok' σ' S'.G arr' cs from ⟨q5, q6⟩)⟩
      · refine ok0_rep (σ := outσ S' σ' []) (G := fun _ => 0) hres ?_
        rw [h5]
        have hl : vs.length = ys.length := by omega
        match ys, vs, hl with
        | [], [], _ => exact ⟨#[], by simp, rfl, fun j u x hu hx => by simp at hx⟩
        | [y], [u], _ => exact k3 0 y u rfl rfl
        | y :: y' :: ys, u :: u' :: us, hl =>
          refine ⟨(u :: u' :: us).toArray, by simp, by simpa using hl, fun j z x hz hx => k3 j x z hx (by simpa using hz)⟩
    intro e a' w' he
    cases e with
    | normal => obtain ⟨S', hC, hE⟩ := he; exact fin hC hE
    | ret => obtain ⟨S', hC, hE⟩ := he; exact fin hC hE
    | exit id => obtain ⟨S', hC, hE⟩ := he; exact hE.elim
    | goto l => exact he.elim
    | panic c => exact he.elim
    | outgrown => exact he.elim
end
end Go.Proofs.Ytfldnpjmkllekaa.Ab
