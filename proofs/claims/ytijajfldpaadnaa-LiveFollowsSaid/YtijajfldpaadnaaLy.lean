/- The counters: two laws. -/
import Derived.Test.YtijajfldpaadnaaLx
namespace Go.Proofs.Ytijajfldpaadnaa.Ab
set_option linter.unusedVariables false
set_option linter.unusedSimpArgs false
open Go.RowKit

theorem counts_of {d : Nat} {e : List IV} (h : ShI tab (d + 1 + 1 + 1) 34 e) : ∃ ls ps : List Int, e = [.sl (wV ls), .sl (wV ps)] := by
  obtain ⟨_, _, rfl, ⟨l, rfl, _, hl⟩, _, _, rfl, ⟨p, rfl, _, hp⟩, rfl⟩ := h
  obtain ⟨ls, rfl⟩ := ints_of l (fun r hr => (hl r hr).2)
  obtain ⟨ps, rfl⟩ := ints_of p (fun r hr => (hp r hr).2)
  exact ⟨ls, ps, rfl⟩
set_option maxRecDepth 100000 in
set_option maxHeartbeats 16000000 in
theorem liveRawF (ls ps : List Int) (z : Int) (a b : Ety) (had has : Bool) (es : List Ety) (h1 : ls.length ≤ 140737488355328) (h2 : ps.length ≤ 140737488355328) (h3 : es.length ≤ 140737488355328) :
    Fun Try.prog 7 [cntV ls ps, i64V z, eV a, eV b, bV had, bV has, slV (eR es)] [] (ATbool true) := by
  have hw : iwrap .i64 (iwrap .i64 (((wV ls).length : Int) + ((wV ps).length : Int)) + ((eR es).length : Int)) = ((ls.length + ps.length + es.length : Nat) : Int) := by
    have w1 : iwrap .i64 (((wV ls).length : Int) + ((wV ps).length : Int)) = ((ls.length + ps.length : Nat) : Int) := (w64_in (by simp [wV]; omega)).trans (by simp [wV])
    rw [w1]
    exact (w64_in (by simp [eR]; omega)).trans (by simp [eR])
  refine fun_of_vc tabOk mixOk Try.func7 rfl (by rfl) (rs := [.tmp 14]) rfl rfl 43 ?_; rw [Try.ntmps7]
  (conv => whnf); repeat (first | (refine And.intro rfl ?_; conv => whnf) | (refine And.intro (fun _ => ?_) (fun h => Bool.noConfusion h); conv => whnf) | (refine And.intro (fun h => Bool.noConfusion h) (fun _ => ?_); conv => whnf))
  rw [hw]
  refine And.intro (fun h => ?_) (fun h => ?_)
  · (conv => whnf); repeat (first | (refine And.intro rfl ?_; conv => whnf) | (refine And.intro (fun _ => ?_) (fun h => Bool.noConfusion h); conv => whnf) | (refine And.intro (fun h => Bool.noConfusion h) (fun _ => ?_); conv => whnf))
    refine ⟨_, _, livAwake, ?_⟩
    (conv => whnf); repeat (first | (refine And.intro rfl ?_; conv => whnf) | (refine And.intro (fun _ => ?_) (fun h => Bool.noConfusion h); conv => whnf) | (refine And.intro (fun h => Bool.noConfusion h) (fun _ => ?_); conv => whnf))
    refine Exists.intro [] (And.intro List.nodup_nil ?_); ((conv => whnf); repeat (first | (refine And.intro rfl ?_; conv => whnf) | (refine And.intro (fun _ => ?_) (fun h => Bool.noConfusion h); conv => whnf) | (refine And.intro (fun h => Bool.noConfusion h) (fun _ => ?_); conv => whnf)))
    rfl
  · have h' := of_decide_eq_false h
    (conv => whnf); repeat (first | (refine And.intro rfl ?_; conv => whnf) | (refine And.intro (fun _ => ?_) (fun h => Bool.noConfusion h); conv => whnf) | (refine And.intro (fun h => Bool.noConfusion h) (fun _ => ?_); conv => whnf))
    refine ⟨_, _, livAgree ls ps z a b had has es (by omega), ?_⟩
    (conv => whnf); repeat (first | (refine And.intro rfl ?_; conv => whnf) | (refine And.intro (fun _ => ?_) (fun h => Bool.noConfusion h); conv => whnf) | (refine And.intro (fun h => Bool.noConfusion h) (fun _ => ?_); conv => whnf))
    refine ⟨_, _, livAwake, ?_⟩
    (conv => whnf); repeat (first | (refine And.intro rfl ?_; conv => whnf) | (refine And.intro (fun _ => ?_) (fun h => Bool.noConfusion h); conv => whnf) | (refine And.intro (fun h => Bool.noConfusion h) (fun _ => ?_); conv => whnf))
    refine Exists.intro [] (And.intro List.nodup_nil ?_); ((conv => whnf); repeat (first | (refine And.intro rfl ?_; conv => whnf) | (refine And.intro (fun _ => ?_) (fun h => Bool.noConfusion h); conv => whnf) | (refine And.intro (fun h => Bool.noConfusion h) (fun _ => ?_); conv => whnf)))
    rfl
end Go.Proofs.Ytijajfldpaadnaa.Ab
namespace Go.Proofs.Ytijajfldpaadnaa
set_option linter.unusedVariables false
set_option linter.unusedSimpArgs false
open Ab
set_option maxRecDepth 100000 in
theorem liveRaw.walk {H : Type} {enc : TypeId × Value → H} {W : World} {base : Nat} (v : Value) (d : DataW H) (p : List MemPlace) (hv : Value.okWide Try.prog W .any base 34 v)
    (h : DataW.Trod enc Try.prog W 0 (fun _ => true) true 34 v d p) (hw : ∀ n ∈ d.weights Try.prog 34, n ≤ 140737488351232)
    (a1 : Int) (_w1 : (Lit.int .i64 a1).wf = true)
    (v2 : Value) (d2 : DataW H) (p2 : List MemPlace) (hv2 : Value.okWide Try.prog W .any base 47 v2) (h2 : DataW.Trod enc Try.prog W 0 (fun _ => true) true 47 v2 d2 p2) (_hw2 : ∀ n ∈ d2.weights Try.prog 47, n ≤ 140737488351232)
    (v3 : Value) (d3 : DataW H) (p3 : List MemPlace) (hv3 : Value.okWide Try.prog W .any base 47 v3) (h3 : DataW.Trod enc Try.prog W 0 (fun _ => true) true 47 v3 d3 p3) (_hw3 : ∀ n ∈ d3.weights Try.prog 47, n ≤ 140737488351232)
    (a4 a5 : Bool)
    (v6 : Value) (d6 : DataW H) (p6 : List MemPlace) (hv6 : Value.okWide Try.prog W .any base 50 v6) (h6 : DataW.Trod enc Try.prog W 0 (fun _ => true) true 50 v6 d6 p6) (hw6 : ∀ n ∈ d6.weights Try.prog 50, n ≤ 140737488351232)
    (W' : World) (hW : W' = W := by rfl) : Calls Try.prog 7 #[v, .int .i64 a1, v2, v3, .bool a4, .bool a5, v6] W' (True1 W') := by
  subst hW
  obtain ⟨r, s1, s2⟩ := open_agg tabOk 6 (t := 34) (by decide +kernel) (by rfl) hv h
  obtain ⟨ls, ps, rfl⟩ := counts_of (d := 3) s1
  obtain ⟨r2, q1, q2⟩ := open_agg tabOk 6 (t := 47) (by decide +kernel) (by rfl) hv2 h2
  obtain ⟨a, rfl⟩ := ety_of (d := 3) q1
  obtain ⟨r3, q3, q4⟩ := open_agg tabOk 6 (t := 47) (by decide +kernel) (by rfl) hv3 h3
  obtain ⟨b, rfl⟩ := ety_of (d := 3) q3
  obtain ⟨es, _, q5, q6⟩ := open_sl tabOk 5 (t := 50) (by decide +kernel) rfl hv6 h6
  obtain ⟨xs, rfl⟩ := etys_of (d := 2) es (fun r hr => (q5 r hr).2)
  have b3 := slice_bound tabOk (e := 47) rfl h6 hw6 (q6 (fun _ _ => undef) (fun _ => 0))
  rw [bytesOf_eq tabOk (fun h => TK.noConfusion h)] at b3
  have b3' : (eR xs).length * 48 ≤ 140737488351232 := b3
  obtain ⟨arr, rfl, hsz, hcells⟩ := s2 (fun _ _ => undef) (fun _ => 0)
  have hsz' : arr.size = 2 := hsz
  have c0 := field_bound tabOk (t := 34) (o := 0) (g := 22) (e := 3) rfl (by decide) rfl rfl h hw (Array.getElem?_eq_getElem (by omega)) (hcells 0 _ _ (Array.getElem?_eq_getElem (by omega)) rfl).1
  have c1 := field_bound tabOk (t := 34) (o := 1) (g := 22) (e := 3) rfl (by decide) rfl rfl h hw (Array.getElem?_eq_getElem (by omega)) (hcells 1 _ _ (Array.getElem?_eq_getElem (by omega)) rfl).1
  rw [bytesOf_eq tabOk (fun h => TK.noConfusion h)] at c0 c1
  have c0' : (wV ls).length * 8 ≤ 140737488351232 := c0
  have c1' : (wV ps).length * 8 ≤ 140737488351232 := c1
  refine law_of_fun (liveRawF ls ps a1 a b a4 a5 xs (by simp [wV] at c0'; omega) (by simp [wV] at c1'; omega) (by simp [eR] at b3'; omega)) rfl (reps_get (vs := [_, _, _, _, _, _, _]) ⟨s2 _ _, .sc _ rfl, q2 _ _, q4 _ _, .sc _ rfl, .sc _ rfl, q6 _ _, trivial⟩)
end Go.Proofs.Ytijajfldpaadnaa
