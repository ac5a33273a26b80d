/- Shards: the sanity check, and that all functions do what the document says. -/
import Derived.Test.YtgjcljjgifnjdaaSf
namespace Go.Proofs.Ytgjcljjgifnjdaa.Ab
set_option linter.unusedVariables false
set_option linter.unusedSimpArgs false
open Go.RowKit

theorem sinst_len (es : List Ety) (e : Ety) : (sinst es e).1.length ≤ es.length + 1 := by
  unfold sinst
  split
  · simp
  · split
    · simp
    · split
      · split <;> simp
      · simp; omega
theorem srel_len (es : List Ety) (b v fz fo tz to m : Int) : (srel es b v fz fo tz to m).1.length ≤ es.length := by
  unfold srel
  split
  · simp
  · split <;> simp
theorem sdrop_len (es : List Ety) (c : Int) : (sdrop es c).1.length ≤ es.length ∧ (sdrop es c).2.length ≤ es.length := by
  unfold sdrop
  split
  · exact ⟨List.length_filter_le _ _, List.length_filter_le _ _⟩
  · simp
theorem sinstE (es : List Ety) (e : Ety) (hl : es.length ≤ 1000000) : Fun Try.prog 17 [slV (eR es), eV e] [] (.tup [slV (eR (sinst es e).1), eV (sinst es e).2.1, bV (sinst es e).2.2]) := sinstF es e.b e.k e.v e.m e.z e.o hl
theorem sinstE' (es : List Ety) (e : Ety) (hl : es.length ≤ 1000000) : Fun Try.prog 21 [slV (eR es), eV e] [] (.tup [slV (eR (sinst es e).1), eV (sinst es e).2.1, bV (sinst es e).2.2]) := sinstF' es e.b e.k e.v e.m e.z e.o hl
theorem neq_self (e : Ety) : (!(eEq e e)) = false := by rw [eEq_self]; rfl

set_option maxRecDepth 100000 in
set_option maxHeartbeats 16000000 in
theorem shAgree (es : List Ety) (e : Ety) (b v cut fz fo tz to : Int) (hl : es.length ≤ 1000) : Fun Try.prog 24 [slV (eR es), eV e, i64V b, i64V v, i64V cut, plV fz fo, plV tz to] [] (ATbool true) := by
  have l1 := sinst_len es e
  have l2 := srel_len es b v fz fo tz to e.m
  have l3 := sdrop_len es cut
  refine fun_of_vc tabOk mixOk Try.func24 rfl (by rfl) (rs := [.tmp 14]) rfl rfl 135 ?_; rw [Try.ntmps24]
  (conv => whnf); repeat ((first | refine And.intro DrawOk.go ?_ | refine And.intro rfl ?_ | refine And.intro (fun _ => ?_) (fun h => Bool.noConfusion h) | refine And.intro (fun h => Bool.noConfusion h) (fun _ => ?_)); conv => whnf)
  refine ⟨_, _, sfindF es b (by omega), ?_⟩
  (conv => whnf); repeat ((first | refine And.intro DrawOk.go ?_ | refine And.intro rfl ?_ | refine And.intro (fun _ => ?_) (fun h => Bool.noConfusion h) | refine And.intro (fun h => Bool.noConfusion h) (fun _ => ?_)); conv => whnf)
  refine ⟨_, _, sfindF' es b (by omega), ?_⟩
  (conv => whnf); repeat ((first | refine And.intro DrawOk.go ?_ | refine And.intro rfl ?_ | refine And.intro (fun _ => ?_) (fun h => Bool.noConfusion h) | refine And.intro (fun h => Bool.noConfusion h) (fun _ => ?_)); conv => whnf)
  refine And.intro (fun h => by simp at h) (fun _ => ?_)
  (conv => whnf); repeat ((first | refine And.intro DrawOk.go ?_ | refine And.intro rfl ?_ | refine And.intro (fun _ => ?_) (fun h => Bool.noConfusion h) | refine And.intro (fun h => Bool.noConfusion h) (fun _ => ?_)); conv => whnf)
  refine And.intro (fun h => by simp at h) (fun _ => ?_)
  (conv => whnf); repeat ((first | refine And.intro DrawOk.go ?_ | refine And.intro rfl ?_ | refine And.intro (fun _ => ?_) (fun h => Bool.noConfusion h) | refine And.intro (fun h => Bool.noConfusion h) (fun _ => ?_)); conv => whnf)
  refine ⟨_, _, svalidF es (by omega), ?_⟩
  (conv => whnf); repeat ((first | refine And.intro DrawOk.go ?_ | refine And.intro rfl ?_ | refine And.intro (fun _ => ?_) (fun h => Bool.noConfusion h) | refine And.intro (fun h => Bool.noConfusion h) (fun _ => ?_)); conv => whnf)
  refine ⟨_, _, svalidF' es (by omega), ?_⟩
  (conv => whnf); repeat ((first | refine And.intro DrawOk.go ?_ | refine And.intro rfl ?_ | refine And.intro (fun _ => ?_) (fun h => Bool.noConfusion h) | refine And.intro (fun h => Bool.noConfusion h) (fun _ => ?_)); conv => whnf)
  refine And.intro (fun h => by simp at h) (fun _ => ?_)
  (conv => whnf); repeat ((first | refine And.intro DrawOk.go ?_ | refine And.intro rfl ?_ | refine And.intro (fun _ => ?_) (fun h => Bool.noConfusion h) | refine And.intro (fun h => Bool.noConfusion h) (fun _ => ?_)); conv => whnf)
  refine ⟨_, _, sinstE es e (by omega), ?_⟩
  (conv => whnf); repeat ((first | refine And.intro DrawOk.go ?_ | refine And.intro rfl ?_ | refine And.intro (fun _ => ?_) (fun h => Bool.noConfusion h) | refine And.intro (fun h => Bool.noConfusion h) (fun _ => ?_)); conv => whnf)
  refine ⟨_, _, sinstE' es e (by omega), ?_⟩
  (conv => whnf); repeat ((first | refine And.intro DrawOk.go ?_ | refine And.intro rfl ?_ | refine And.intro (fun _ => ?_) (fun h => Bool.noConfusion h) | refine And.intro (fun h => Bool.noConfusion h) (fun _ => ?_)); conv => whnf)
  refine ⟨_, _, ssameF _ (by omega), ?_⟩
  (conv => whnf); repeat ((first | refine And.intro DrawOk.go ?_ | refine And.intro rfl ?_ | refine And.intro (fun _ => ?_) (fun h => Bool.noConfusion h) | refine And.intro (fun h => Bool.noConfusion h) (fun _ => ?_)); conv => whnf)
  refine And.intro (fun h => by simp at h) (fun _ => ?_)
  (conv => whnf); repeat ((first | refine And.intro DrawOk.go ?_ | refine And.intro rfl ?_ | refine And.intro (fun _ => ?_) (fun h => Bool.noConfusion h) | refine And.intro (fun h => Bool.noConfusion h) (fun _ => ?_)); conv => whnf)
  refine And.intro (fun h => by simp at h) (fun _ => ?_)
  (conv => whnf); repeat ((first | refine And.intro DrawOk.go ?_ | refine And.intro rfl ?_ | refine And.intro (fun _ => ?_) (fun h => Bool.noConfusion h) | refine And.intro (fun h => Bool.noConfusion h) (fun _ => ?_)); conv => whnf)
  refine ⟨_, _, srelF es b v fz fo tz to e.m (by omega), ?_⟩
  (conv => whnf); repeat ((first | refine And.intro DrawOk.go ?_ | refine And.intro rfl ?_ | refine And.intro (fun _ => ?_) (fun h => Bool.noConfusion h) | refine And.intro (fun h => Bool.noConfusion h) (fun _ => ?_)); conv => whnf)
  refine ⟨_, _, srelF' es b v fz fo tz to e.m (by omega), ?_⟩
  (conv => whnf); repeat ((first | refine And.intro DrawOk.go ?_ | refine And.intro rfl ?_ | refine And.intro (fun _ => ?_) (fun h => Bool.noConfusion h) | refine And.intro (fun h => Bool.noConfusion h) (fun _ => ?_)); conv => whnf)
  refine ⟨_, _, ssameF _ (by omega), ?_⟩
  (conv => whnf); repeat ((first | refine And.intro DrawOk.go ?_ | refine And.intro rfl ?_ | refine And.intro (fun _ => ?_) (fun h => Bool.noConfusion h) | refine And.intro (fun h => Bool.noConfusion h) (fun _ => ?_)); conv => whnf)
  refine And.intro (fun h => by simp at h) (fun _ => ?_)
  (conv => whnf); repeat ((first | refine And.intro DrawOk.go ?_ | refine And.intro rfl ?_ | refine And.intro (fun _ => ?_) (fun h => Bool.noConfusion h) | refine And.intro (fun h => Bool.noConfusion h) (fun _ => ?_)); conv => whnf)
  refine ⟨_, _, sdropF es cut (by omega), ?_⟩
  (conv => whnf); repeat ((first | refine And.intro DrawOk.go ?_ | refine And.intro rfl ?_ | refine And.intro (fun _ => ?_) (fun h => Bool.noConfusion h) | refine And.intro (fun h => Bool.noConfusion h) (fun _ => ?_)); conv => whnf)
  refine ⟨_, _, sdropF' es cut (by omega), ?_⟩
  (conv => whnf); repeat ((first | refine And.intro DrawOk.go ?_ | refine And.intro rfl ?_ | refine And.intro (fun _ => ?_) (fun h => Bool.noConfusion h) | refine And.intro (fun h => Bool.noConfusion h) (fun _ => ?_)); conv => whnf)
  refine ⟨_, _, ssameF _ (by omega), ?_⟩
  (conv => whnf); repeat ((first | refine And.intro DrawOk.go ?_ | refine And.intro rfl ?_ | refine And.intro (fun _ => ?_) (fun h => Bool.noConfusion h) | refine And.intro (fun h => Bool.noConfusion h) (fun _ => ?_)); conv => whnf)
  refine ⟨_, _, ssameF _ (by omega), ?_⟩
  (conv => whnf); repeat ((first | refine And.intro DrawOk.go ?_ | refine And.intro rfl ?_ | refine And.intro (fun _ => ?_) (fun h => Bool.noConfusion h) | refine And.intro (fun h => Bool.noConfusion h) (fun _ => ?_)); conv => whnf)
  refine Exists.intro [] (And.intro List.nodup_nil ?_); ((conv => whnf); repeat ((first | refine And.intro DrawOk.go ?_ | refine And.intro rfl ?_ | refine And.intro (fun _ => ?_) (fun h => Bool.noConfusion h) | refine And.intro (fun h => Bool.noConfusion h) (fun _ => ?_)); conv => whnf))
  rfl

theorem shw1 : Fun Try.prog 17 [slV (eR []), eA 1 1 3 0 0 0] [] (.tup [slV (eR [⟨1, 1, 3, 0, 0, 0⟩]), eV e0, bV true]) := sinstF [] 1 1 3 0 0 0 (by decide)
theorem shw2 : Fun Try.prog 17 [slV (eR [⟨1, 1, 3, 0, 0, 0⟩]), eA 1 1 2 0 0 0] [] (.tup [slV (eR [⟨1, 1, 3, 0, 0, 0⟩]), eA 1 1 3 0 0 0, bV false]) := sinstF [⟨1, 1, 3, 0, 0, 0⟩] 1 1 2 0 0 0 (by decide)
theorem shw3 : Fun Try.prog 18 [slV (eR [⟨1, 1, 3, 0, 0, 0⟩]), i64V 1] [] (.tup [eA 1 1 3 0 0 0, bV true]) := sfindF [⟨1, 1, 3, 0, 0, 0⟩] 1 (by decide)
theorem shw4 : Fun Try.prog 20 [slV (eR [⟨1, 1, 3, 0, 0, 0⟩])] [] (ATbool true) := svalidF [⟨1, 1, 3, 0, 0, 0⟩] (by decide)
set_option maxRecDepth 100000 in
set_option maxHeartbeats 16000000 in
theorem shAwake' (A : List (List IV)) (h1 : Fun Try.prog 17 [slV [], eA 1 1 3 0 0 0] [] (.tup [slV A, eV e0, bV true]))
    (h2 : Fun Try.prog 17 [slV A, eA 1 1 2 0 0 0] [] (.tup [slV A, eA 1 1 3 0 0 0, bV false]))
    (h3 : Fun Try.prog 18 [slV A, i64V 1] [] (.tup [eA 1 1 3 0 0 0, bV true])) (h4 : Fun Try.prog 20 [slV A] [] (ATbool true)) : Fun Try.prog 13 [] [] (ATbool true) := by
  refine fun_of_vc tabOk mixOk Try.func13 rfl (by rfl) (rs := [.tmp 0]) rfl rfl 58 ?_; rw [Try.ntmps13]
  (conv => whnf); repeat ((first | refine And.intro DrawOk.go ?_ | refine And.intro rfl ?_ | refine And.intro (fun _ => ?_) (fun h => Bool.noConfusion h) | refine And.intro (fun h => Bool.noConfusion h) (fun _ => ?_)); conv => whnf)
  refine ⟨_, _, h1, ?_⟩
  (conv => whnf); repeat ((first | refine And.intro DrawOk.go ?_ | refine And.intro rfl ?_ | refine And.intro (fun _ => ?_) (fun h => Bool.noConfusion h) | refine And.intro (fun h => Bool.noConfusion h) (fun _ => ?_)); conv => whnf)
  refine ⟨_, _, h2, ?_⟩
  (conv => whnf); repeat ((first | refine And.intro DrawOk.go ?_ | refine And.intro rfl ?_ | refine And.intro (fun _ => ?_) (fun h => Bool.noConfusion h) | refine And.intro (fun h => Bool.noConfusion h) (fun _ => ?_)); conv => whnf)
  refine ⟨_, _, h3, ?_⟩
  (conv => whnf); repeat ((first | refine And.intro DrawOk.go ?_ | refine And.intro rfl ?_ | refine And.intro (fun _ => ?_) (fun h => Bool.noConfusion h) | refine And.intro (fun h => Bool.noConfusion h) (fun _ => ?_)); conv => whnf)
  refine ⟨_, _, h4, ?_⟩
  (conv => whnf); repeat ((first | refine And.intro DrawOk.go ?_ | refine And.intro rfl ?_ | refine And.intro (fun _ => ?_) (fun h => Bool.noConfusion h) | refine And.intro (fun h => Bool.noConfusion h) (fun _ => ?_)); conv => whnf)
  refine Exists.intro [] (And.intro List.nodup_nil ?_); ((conv => whnf); repeat ((first | refine And.intro DrawOk.go ?_ | refine And.intro rfl ?_ | refine And.intro (fun _ => ?_) (fun h => Bool.noConfusion h) | refine And.intro (fun h => Bool.noConfusion h) (fun _ => ?_)); conv => whnf))
  rfl
theorem shAwake : Fun Try.prog 13 [] [] (ATbool true) := shAwake' _ shw1 shw2 shw3 shw4

set_option maxRecDepth 100000 in
set_option maxHeartbeats 16000000 in
theorem shardRawF (es : List Ety) (e : Ety) (b v cut fz fo tz to : Int) : Fun Try.prog 6 [slV (eR es), eV e, i64V b, i64V v, i64V cut, plV fz fo, plV tz to] [] (ATbool true) := by
  refine fun_of_vc tabOk mixOk Try.func6 rfl (by rfl) (rs := [.tmp 14]) rfl rfl 35 ?_; rw [Try.ntmps6]
  (conv => whnf); repeat ((first | refine And.intro DrawOk.go ?_ | refine And.intro rfl ?_ | refine And.intro (fun _ => ?_) (fun h => Bool.noConfusion h) | refine And.intro (fun h => Bool.noConfusion h) (fun _ => ?_)); conv => whnf)
  refine And.intro (fun h => ?_) (fun h => ?_)
  · (conv => whnf); repeat ((first | refine And.intro DrawOk.go ?_ | refine And.intro rfl ?_ | refine And.intro (fun _ => ?_) (fun h => Bool.noConfusion h) | refine And.intro (fun h => Bool.noConfusion h) (fun _ => ?_)); conv => whnf)
    refine ⟨_, _, shAwake, ?_⟩
    (conv => whnf); repeat ((first | refine And.intro DrawOk.go ?_ | refine And.intro rfl ?_ | refine And.intro (fun _ => ?_) (fun h => Bool.noConfusion h) | refine And.intro (fun h => Bool.noConfusion h) (fun _ => ?_)); conv => whnf)
    refine Exists.intro [] (And.intro List.nodup_nil ?_); ((conv => whnf); repeat ((first | refine And.intro DrawOk.go ?_ | refine And.intro rfl ?_ | refine And.intro (fun _ => ?_) (fun h => Bool.noConfusion h) | refine And.intro (fun h => Bool.noConfusion h) (fun _ => ?_)); conv => whnf))
    rfl
  · have hl : es.length ≤ 200 := by have := of_decide_eq_false h; simp [eR] at this; omega
    (conv => whnf); repeat ((first | refine And.intro DrawOk.go ?_ | refine And.intro rfl ?_ | refine And.intro (fun _ => ?_) (fun h => Bool.noConfusion h) | refine And.intro (fun h => Bool.noConfusion h) (fun _ => ?_)); conv => whnf)
    refine ⟨_, _, shAgree es e b v cut fz fo tz to (by omega), ?_⟩
    (conv => whnf); repeat ((first | refine And.intro DrawOk.go ?_ | refine And.intro rfl ?_ | refine And.intro (fun _ => ?_) (fun h => Bool.noConfusion h) | refine And.intro (fun h => Bool.noConfusion h) (fun _ => ?_)); conv => whnf)
    refine ⟨_, _, shAwake, ?_⟩
    (conv => whnf); repeat ((first | refine And.intro DrawOk.go ?_ | refine And.intro rfl ?_ | refine And.intro (fun _ => ?_) (fun h => Bool.noConfusion h) | refine And.intro (fun h => Bool.noConfusion h) (fun _ => ?_)); conv => whnf)
    refine Exists.intro [] (And.intro List.nodup_nil ?_); ((conv => whnf); repeat ((first | refine And.intro DrawOk.go ?_ | refine And.intro rfl ?_ | refine And.intro (fun _ => ?_) (fun h => Bool.noConfusion h) | refine And.intro (fun h => Bool.noConfusion h) (fun _ => ?_)); conv => whnf))
    rfl
end Go.Proofs.Ytgjcljjgifnjdaa.Ab
namespace Go.Proofs.Ytgjcljjgifnjdaa
set_option linter.unusedVariables false
set_option linter.unusedSimpArgs false
open Ab
set_option maxRecDepth 100000 in
theorem shardRaw.walk {H : Type} {enc : TypeId × Value → H} {W : World} {base : Nat} (v : Value) (d : DataW H) (p : List MemPlace) (hv : Value.okWide Try.prog W .any base 28 v)
    (h : DataW.Trod enc Try.prog W 0 (fun _ => true) true 28 v d p) (hw : ∀ n ∈ d.weights Try.prog 28, n ≤ 140737488351232)
    (v2 : Value) (d2 : DataW H) (p2 : List MemPlace) (hv2 : Value.okWide Try.prog W .any base 34 v2) (h2 : DataW.Trod enc Try.prog W 0 (fun _ => true) true 34 v2 d2 p2) (_hw2 : ∀ n ∈ d2.weights Try.prog 34, n ≤ 140737488351232)
    (a2 : Int) (_w2 : (Lit.int .i64 a2).wf = true) (a3 : Int) (_w3 : (Lit.int .i64 a3).wf = true) (a4 : Int) (_w4 : (Lit.int .i64 a4).wf = true)
    (v5 : Value) (d5 : DataW H) (p5 : List MemPlace) (hv5 : Value.okWide Try.prog W .any base 32 v5) (h5 : DataW.Trod enc Try.prog W 0 (fun _ => true) true 32 v5 d5 p5) (_hw5 : ∀ n ∈ d5.weights Try.prog 32, n ≤ 140737488351232)
    (v6 : Value) (d6 : DataW H) (p6 : List MemPlace) (hv6 : Value.okWide Try.prog W .any base 32 v6) (h6 : DataW.Trod enc Try.prog W 0 (fun _ => true) true 32 v6 d6 p6) (_hw6 : ∀ n ∈ d6.weights Try.prog 32, n ≤ 140737488351232)
    (W' : World) (hW : W' = W := by rfl) : Calls Try.prog 6 #[v, v2, .int .i64 a2, .int .i64 a3, .int .i64 a4, v5, v6] W' (True1 W') := by
  subst hW
  obtain ⟨es, _, q5, q6⟩ := open_sl tabOk 5 (t := 28) (by decide +kernel) rfl hv h
  obtain ⟨xs, rfl⟩ := etys_of (d := 2) es (fun r hr => (q5 r hr).2)
  obtain ⟨r2, q1, q2⟩ := open_agg tabOk 6 (t := 34) (by decide +kernel) (by rfl) hv2 h2
  obtain ⟨e, rfl⟩ := ety_of (d := 3) q1
  obtain ⟨r5, s1, s2⟩ := open_agg tabOk 6 (t := 32) (by decide +kernel) (by rfl) hv5 h5
  obtain ⟨fz, fo, rfl⟩ := place_of (d := 4) s1
  obtain ⟨r6, s3, s4⟩ := open_agg tabOk 6 (t := 32) (by decide +kernel) (by rfl) hv6 h6
  obtain ⟨tz, to, rfl⟩ := place_of (d := 4) s3
  exact law_of_fun (shardRawF xs e a2 a3 a4 fz fo tz to) rfl (reps_get (vs := [_, _, _, _, _, _, _]) ⟨q6 _ _, q2 _ _, .sc _ rfl, .sc _ rfl, .sc _ rfl, s2 _ _, s4 _ _, trivial⟩)
end Go.Proofs.Ytgjcljjgifnjdaa
