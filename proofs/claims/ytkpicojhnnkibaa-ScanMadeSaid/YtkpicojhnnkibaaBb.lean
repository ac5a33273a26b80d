/- Numbers as bytes: what the codec's functions and the document's answer. -/
import Derived.Test.YtkpicojhnnkibaaBa
namespace Go.Proofs.Ytkpicojhnnkibaa.Ab
set_option linter.unusedVariables false
set_option linter.unusedSimpArgs false
open Go.RowKit

theorem args2 {argv : Array Value} {x y : AV} (hs : argv.size = 2) {Q : Value → AV → Prop} (h : ∀ (j : Nat) v z, argv[j]? = some v → [x, y][j]? = some z → Q v z) : ∃ u v, argv = #[u, v] ∧ Q u x ∧ Q v y := by
  refine ⟨argv[0], argv[1], ?_, h 0 _ _ (Array.getElem?_eq_getElem (by omega)) rfl, h 1 _ _ (Array.getElem?_eq_getElem (by omega)) rfl⟩
  apply Array.ext
  · simpa using hs
  · intro i h1 h2
    match i, h2 with
    | 0, _ => rfl
    | 1, _ => rfl
set_option maxRecDepth 100000 in
theorem sjoinF (xs : List ByteArray) (hN : xs.length ≤ 1000) (hlen : (catS xs).size ≤ 140737488355328) : Fun Try.prog 103 [slV (sV xs), strV ByteArray.empty] [] (.v (strV (catS xs))) := by
  refine ⟨⟨_, Try.func103, rfl, by rfl⟩, fun w ok argv hok hsz hrep => ?_⟩
  obtain ⟨u, v, rfl, hu, hv⟩ := args2 hsz hrep
  have hv' : v = .string ByteArray.empty := RepI_sc hv
  subst hv'
  have fin : ∀ {w' : World}, Below w.heap.size w w' → ∃ v ok' σ, Ending.returned (Value.string (catS xs)) = .returned v ∧ Below w.heap.size w w' ∧ (∀ k, ok k → ok' k) ∧ (∀ k, ok' k → ok k ∨ (w.heap.size ≤ k ∧ k < w'.heap.size)) ∧
      RepT w' ok' σ (fun _ => 0) (.v (strV (catS xs))) v ∧ (∀ (b : Nat) B, ([] : List Blk)[b]? = some B → B.gen = 0 ∧ RepB w.heap.size w' ok' σ (fun _ => 0) b B) ∧
      (∀ (b b' : Nat) B B', ([] : List Blk)[b]? = some B → ([] : List Blk)[b']? = some B' → b ≠ b' → ∀ n, B.at σ b = some n → B'.at σ b' ≠ some n) := by
    intro w' hb
    exact ⟨_, ok, fun _ _ => undef, rfl, hb, fun _ h => h, fun k hk => Or.inl hk, .sc _ rfl, fun b B hB => by simp at hB, fun b b' B B' hB => by simp at hB⟩
  have hu' : RepI w ok (.sl (sV xs)) u := hu
  have none : ∀ {A : Option Addr} {c : Nat}, xs = [] → u = .slice A 0 c → Calls Try.prog 103 #[u, .string ByteArray.empty] w fun e w' => ∃ v ok' σ, e = .returned v ∧ Below w.heap.size w w' ∧ (∀ k, ok k → ok' k) ∧ (∀ k, ok' k → ok k ∨ (w.heap.size ≤ k ∧ k < w'.heap.size)) ∧
      RepT w' ok' σ (fun _ => 0) (.v (strV (catS xs))) v ∧ (∀ (b : Nat) B, ([] : List Blk)[b]? = some B → B.gen = 0 ∧ RepB w.heap.size w' ok' σ (fun _ => 0) b B) ∧
      (∀ (b b' : Nat) B B', ([] : List Blk)[b]? = some B → ([] : List Blk)[b']? = some B' → b ≠ b' → ∀ n, B.at σ b = some n → B'.at σ b' ≠ some n) := by
    rintro A c rfl rfl
    refine (Try.strings_Join_none A c ByteArray.empty w).mono ?_
    rintro e w' ⟨rfl, rfl⟩
    exact fin (Below.refl _ _)
  generalize hes : sV xs = es at hu'
  cases hu' with
  | nil A c hm =>
    have : xs = [] := by have := congrArg List.length hes; rw [sLen] at this; exact List.eq_nil_of_length_eq_zero this
    exact none this rfl
  | sl es sz ad c f hok' hc hm hlen' hcell hr =>
    subst hes
    by_cases h0 : xs = []
    · exact none h0 (by rw [sLen, h0]; rfl)
    · have hpos : 0 < xs.length := List.length_pos_iff.2 h0
      have hsz1 : sz = 1 := by rw [← hlen' [.sc (.string xs[0])] (List.mem_map.2 ⟨xs[0], List.getElem_mem hpos, rfl⟩)]; rfl
      subst hsz1
      have hcells : ∀ (j : Nat) x, xs[j]? = some x → w.cell? (ad.add j) = some (.string x) := by
        intro j x hx
        have hj := (List.getElem?_eq_some_iff.1 hx).1
        have h1 := hcell j (by rw [sLen, Nat.mul_one]; exact hj)
        have h2 := hr j [.sc (.string x)] 0 (.sc (.string x)) (by simp [sV, hx]) rfl
        rw [Nat.mul_one, Nat.add_zero] at h2
        rw [h1, RepI_sc h2]
      obtain ⟨bk, o, sp⟩ := ad
      have hsp : sp = Option.none := by
        have h1 := hcells 0 xs[0] (List.getElem?_eq_getElem hpos)
        rw [show ((⟨bk, o, sp⟩ : Addr).add 0) = ⟨bk, o, sp⟩ from rfl] at h1
        cases sp with
        | none => rfl
        | some s =>
          unfold World.cell? at h1
          split at h1
          · simp at h1
          · cases h1
      subst hsp
      rw [sLen]
      have hj := Try.strings_Join bk o c xs ByteArray.empty w (fun j x hx => by rw [← add_at]; exact hcells j x hx) (hok _ hok') (by omega) (by rw [sLen] at hc; exact hc) (by
        rw [show (ByteArray.empty.data.toList : List UInt8) = [] from rfl, join_nil]; exact hlen)
      rw [show (ByteArray.empty.data.toList : List UInt8) = [] from rfl, join_nil] at hj
      refine hj.mono ?_
      rintro e w' ⟨rfl, hb⟩
      exact fin hb
set_option maxRecDepth 100000 in
set_option maxHeartbeats 4000000 in
theorem joinC (xs : List ByteArray) (hN : xs.length ≤ 1000) (hlen : (catS xs).size ≤ 140737488355328) : Fun Try.prog 95 [slV (sV xs)] [] (.v (strV (catS xs))) := by
  refine fun_of_vc tabOk mixOk Try.func95 rfl (by rfl) (rs := [.tmp 2]) rfl rfl 9 ?_; rw [Try.ntmps95]
  (conv => whnf); repeat (first | (refine And.intro (DrawOk.mk (by first | (simp only [List.map_cons, List.map_nil, List.nil_append, List.cons_append, List.append_nil, updsL, List.length_cons, List.length_nil]; decide +kernel) | exact rfl)) ?_; conv => whnf) | (refine And.intro rfl ?_; conv => whnf) | (refine And.intro (fun _ => ?_) (fun h => Bool.noConfusion h); conv => whnf) | (refine And.intro (fun h => Bool.noConfusion h) (fun _ => ?_); conv => whnf))
  refine ⟨_, _, sjoinF xs hN hlen, ?_⟩
  (conv => whnf); repeat (first | (refine And.intro (DrawOk.mk (by first | (simp only [List.map_cons, List.map_nil, List.nil_append, List.cons_append, List.append_nil, updsL, List.length_cons, List.length_nil]; decide +kernel) | exact rfl)) ?_; conv => whnf) | (refine And.intro rfl ?_; conv => whnf) | (refine And.intro (fun _ => ?_) (fun h => Bool.noConfusion h); conv => whnf) | (refine And.intro (fun h => Bool.noConfusion h) (fun _ => ?_); conv => whnf))
  refine Exists.intro [] (And.intro List.nodup_nil ?_); ((conv => whnf); repeat (first | (refine And.intro (DrawOk.mk (by first | (simp only [List.map_cons, List.map_nil, List.nil_append, List.cons_append, List.append_nil, updsL, List.length_cons, List.length_nil]; decide +kernel) | exact rfl)) ?_; conv => whnf) | (refine And.intro rfl ?_; conv => whnf) | (refine And.intro (fun _ => ?_) (fun h => Bool.noConfusion h); conv => whnf) | (refine And.intro (fun h => Bool.noConfusion h) (fun _ => ?_); conv => whnf)))
  rfl
set_option maxRecDepth 100000 in
set_option maxHeartbeats 4000000 in
theorem joinR (xs : List ByteArray) (hN : xs.length ≤ 1000) (hlen : (catS xs).size ≤ 140737488355328) : Fun Try.prog 97 [slV (sV xs)] [] (.v (strV (catS xs))) := by
  refine fun_of_vc tabOk mixOk Try.func97 rfl (by rfl) (rs := [.tmp 2]) rfl rfl 9 ?_; rw [Try.ntmps97]
  (conv => whnf); repeat (first | (refine And.intro (DrawOk.mk (by first | (simp only [List.map_cons, List.map_nil, List.nil_append, List.cons_append, List.append_nil, updsL, List.length_cons, List.length_nil]; decide +kernel) | exact rfl)) ?_; conv => whnf) | (refine And.intro rfl ?_; conv => whnf) | (refine And.intro (fun _ => ?_) (fun h => Bool.noConfusion h); conv => whnf) | (refine And.intro (fun h => Bool.noConfusion h) (fun _ => ?_); conv => whnf))
  refine ⟨_, _, sjoinF xs hN hlen, ?_⟩
  (conv => whnf); repeat (first | (refine And.intro (DrawOk.mk (by first | (simp only [List.map_cons, List.map_nil, List.nil_append, List.cons_append, List.append_nil, updsL, List.length_cons, List.length_nil]; decide +kernel) | exact rfl)) ?_; conv => whnf) | (refine And.intro rfl ?_; conv => whnf) | (refine And.intro (fun _ => ?_) (fun h => Bool.noConfusion h); conv => whnf) | (refine And.intro (fun h => Bool.noConfusion h) (fun _ => ?_); conv => whnf))
  refine Exists.intro [] (And.intro List.nodup_nil ?_); ((conv => whnf); repeat (first | (refine And.intro (DrawOk.mk (by first | (simp only [List.map_cons, List.map_nil, List.nil_append, List.cons_append, List.append_nil, updsL, List.length_cons, List.length_nil]; decide +kernel) | exact rfl)) ?_; conv => whnf) | (refine And.intro rfl ?_; conv => whnf) | (refine And.intro (fun _ => ?_) (fun h => Bool.noConfusion h); conv => whnf) | (refine And.intro (fun h => Bool.noConfusion h) (fun _ => ?_); conv => whnf)))
  rfl
theorem cat2 (a b : List UInt8) : catS [sS a, sS b] = sS (a ++ b) := by simp [catS, sL_S]
theorem cat2' (a b : ByteArray) : catS [a, b] = sS (sL a ++ sL b) := by simp [catS]
end Go.Proofs.Ytkpicojhnnkibaa.Ab
