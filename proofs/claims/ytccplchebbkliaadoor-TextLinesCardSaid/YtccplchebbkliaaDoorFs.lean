/- A contract from the walk, where a change of the description alone comes last; a contract from a law of the library. No condition. -/
import Derived.Test.YtccplchebbkliaaDoorFr
namespace Go.Proofs.YtccplchebbkliaaDoor.Ab
set_option linter.unusedVariables false
set_option linter.unusedSimpArgs false
open Go.RowKit

section
variable {P : Program} {T : Nat → TI} {W0 : Ent} {w w' : World} {ok ok' : Nat → Prop} {σ σc : Nat → Nat → Value} {S : St} {a : Act}

/-- THE CONTRACT, from the walk. -/
theorem fun_of_vc_g (hT : TabOk P T) (hm : P.follows .mixedOrders = true) {f : FuncId} {fn : Func} {c : Code} {args : List AV} {bs : List Blk} {res : AT} {rs : List ResultVar} (hf : P.funcs[f]? = some fn) (hb : fn.body = some c) (hn : (fn.name == "runtime.NumGoroutine") = false)
    (hr : fn.results = rs.toArray) (hargs : args.all (fun x => okV 0 x) = true) (m : Nat)
    (h : vc T P c (St0 args fn.ntmps m) (fun e S' => match e with
      | .exit _ => False
      | _ => ∃ S2, Ghost S' S2 ∧ ∃ ids : List Nat, ids.Nodup ∧ endK T S2 rs ids fun bs' res' => bs' = bs ∧ res' = res)) : Fun P f args bs res := by
  refine ⟨⟨fn, hf, by rw [hb]; rfl, hn⟩, fun w ok argv hok hsz hrep => ?_⟩
  refine calls_of_wp hf hb (wp_mono (vc_sound (W0 := ⟨w, ok, [], none, hok.ent [] (by simp)⟩) hT hm c ⟨ok, fun _ _ => undef, ?_⟩ h) ?_)
  · refine ⟨⟨rfl, rfl, rfl, Nat.le_refl _, fun _ _ _ => rfl⟩, fun _ _ _ e => (by cases e), fun k => ⟨fun h => h, Or.inl⟩, rfl, hok.1, by simp [St0]; omega, fun i v x hv hx => ?_, fun b B hB => ?_, fun b b' B B' hB hB' hne n hn => ?_⟩
    · simp only [St0] at hx
      rw [List.getElem?_append] at hx
      split at hx
      · rename_i hi
        rw [List.length_map] at hi
        rw [List.getElem?_map] at hx
        obtain ⟨y, hy, rfl⟩ := Option.map_eq_some_iff.1 hx
        rw [Array.getElem?_append, if_pos (by omega)] at hv
        have hk : okV 0 y = true := List.all_eq_true.1 hargs y (List.mem_of_getElem? hy)
        exact ok0_rep (x := .v y) hk (hrep i v y hv hy)
      · have := List.mem_of_getElem? hx
        rw [List.eq_of_mem_replicate this]
        exact trivial
    · have := List.mem_of_getElem? hB
      simp only [St0] at this
      rw [List.eq_of_mem_replicate this]
      exact trivial
    · have := List.mem_of_getElem? hB
      simp only [St0] at this
      rw [List.eq_of_mem_replicate this] at hn
      simp [Blk.at] at hn
  · have fin : ∀ {a' : Act} {w' : World} {S' : St}, (∃ ok' σ', Conf ⟨w, ok, [], none, hok.ent [] (by simp)⟩ ok' σ' S' a' w') → (∃ S2, Ghost S' S2 ∧ ∃ ids : List Nat, ids.Nodup ∧ endK T S2 rs ids fun bs' res' => bs' = bs ∧ res' = res) →
        a'.defers = [] ∧ ∃ v, (results fn a'.tmps).run P w' = .ok v w' ∧ ∃ v1 ok' σ, Ending.returned v = .returned v1 ∧ Below w.heap.size w w' ∧ (∀ k, ok k → ok' k) ∧ (∀ k, ok' k → ok k ∨ (w.heap.size ≤ k ∧ k < w'.heap.size)) ∧
          RepT w' ok' σ (fun _ => 0) res v1 ∧ (∀ (b : Nat) B, bs[b]? = some B → B.gen = 0 ∧ RepB w.heap.size w' ok' σ (fun _ => 0) b B) ∧
          (∀ (b b' : Nat) B B', bs[b]? = some B → bs[b']? = some B' → b ≠ b' → ∀ n, B.at σ b = some n → B'.at σ b' ≠ some n) := by
      rintro a' w' S1 ⟨ok1, σ1, hC1⟩ ⟨S', hgh, ids, hnd, hE⟩
      obtain ⟨ok', σ', hC⟩ := hgh _ _ _ _ _ hC1
      obtain ⟨xs, v, vs, h1, h2, h3, h4, h5⟩ := run_results (fn := fn) hT hC hr hE
      obtain ⟨ys, k1, k2, k3⟩ := outVs_rep hC xs h3 h4 h1
      obtain ⟨bs', ⟨rfl, rfl⟩, k5⟩ := outB_rep hC hnd ids (i := 0) (fun j => by rw [Nat.zero_add]) k1
      refine ⟨hC.defers, v, h2, v, OutOk S' σ' ok' ids, outσ S' σ' ids, rfl, ⟨hC.below.os, hC.below.tape, hC.below.output, hC.below.size, fun k hk => hC.below.block k hk (by simp)⟩, fun k hk => Or.inl ((hC.base k).1 hk), fun k hk => ?_, ?_, fun b B hB => ?_, fun b b' B B' hB hB' hne n hn hn' => ?_⟩
      · rcases hk with hk | ⟨b, B, _, hB, hn⟩
        · rcases (hC.base k).2 hk with h | h
          · exact Or.inl h
          · exact Or.inr ⟨h.resolve_right (fun e => by cases e), hC.okb k hk⟩
        · exact Or.inr ⟨(at_bounds (hC.blk b B hB) hn).1.resolve_right (fun e => by cases e), (at_bounds (hC.blk b B hB) hn).2.1⟩
      · rw [h5]
        have hl : vs.length = ys.length := by omega
        match ys, vs, hl with
        | [], [], _ => exact ⟨#[], by simp, rfl, fun j u x hu hx => by simp at hx⟩
        | [y], [u], _ => exact k3 0 y u rfl rfl
        | y :: y' :: ys, u :: u' :: us, hl =>
          refine ⟨(u :: u' :: us).toArray, by simp, by simpa using hl, fun j z x hz hx => k3 j x z hx (by simpa using hz)⟩
      · have := k5 b B hB
        rw [Nat.zero_add] at this
        exact ⟨this.1, this.2.1⟩
      · obtain ⟨_, _, c, C, e1, e2, e3⟩ := k5 b B hB
        obtain ⟨_, _, c', C', e1', e2', e3'⟩ := k5 b' B' hB'
        rw [Nat.zero_add] at e1 e3 e1' e3'
        rw [e3] at hn
        rw [e3'] at hn'
        have hcc : c ≠ c' := by
          intro e
          subst e
          have hb : b < ids.length := (List.getElem?_eq_some_iff.1 e1).1
          have hb' : b' < ids.length := (List.getElem?_eq_some_iff.1 e1').1
          exact hne ((List.getElem?_inj hb hnd).1 (e1.trans e1'.symm))
        exact hC.apart c c' C C' e2 e2' hcc n hn hn'
    intro e a' w' he
    cases e with
    | normal => obtain ⟨S', hC, hE⟩ := he; exact fin hC hE
    | ret => obtain ⟨S', hC, hE⟩ := he; exact fin hC hE
    | exit id => obtain ⟨S', hC, hE⟩ := he; exact hE.elim
    | goto l => exact he.elim
    | panic c => exact he.elim
    | outgrown => exact he.elim

/-- A contract of the library's: plain values in, a plain value out. -/
theorem fun_of_calls {f : FuncId} {args : List Value} {v : Value} (hE : Enters P f) (h1 : v.oneCell' = true) (h : ∀ w, Calls P f args.toArray w fun e w' => e = .returned v ∧ Below w.heap.size w w') : Fun P f (args.map fun x => .c (.i (.sc x))) [] (.v (.c (.i (.sc v)))) := by
  refine ⟨hE, fun w ok argv hok hsz hrep => ?_⟩
  have ha : argv = args.toArray := by
    apply Array.ext
    · simpa using hsz
    · intro i h1 h2
      have := hrep i argv[i] (.c (.i (.sc args[i]))) (Array.getElem?_eq_getElem h1) (by simp at h2; simp [h2])
      have := RepI_sc this
      simpa using this
  rw [ha]
  refine (h w).mono ?_
  rintro e w' ⟨rfl, hb⟩
  exact ⟨v, ok, fun _ _ => undef, rfl, hb, fun _ h => h, fun k hk => Or.inl hk, .sc v h1, fun b B hB => by simp at hB, fun b b' B B' hB => by simp at hB⟩
end
end Go.Proofs.YtccplchebbkliaaDoor.Ab
