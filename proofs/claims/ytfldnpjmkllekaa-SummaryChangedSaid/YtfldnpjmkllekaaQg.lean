/- Records as bytes: records made of numbers; copies of copies. -/
import Derived.Test.YtfldnpjmkllekaaQf
import Derived.Test.YtfldnpjmkllekaaGv
namespace Go.Proofs.Ytfldnpjmkllekaa.Ab
set_option linter.unusedVariables false
set_option linter.unusedSimpArgs false
open Go.RowKit

/-- A record of a block, made of numbers. -/
def mkRec (L : List Int) (k : Nat) (n v : Int) : Rec :=
  if dval L (dnx L (dnx L k)) 4 = 3 then ⟨2, dval L k n, v, 0, ByteArray.empty⟩ else ⟨1, dval L k n, v, 0, vval (dval L (dnx L k) 200)⟩
def nx3 (L : List Int) (k : Nat) : Nat := dnx L (dnx L (dnx L k))
theorem nx3_le {L : List Int} {k : Nat} (h : k ≤ L.length) : nx3 L k ≤ L.length := dnx_le (dnx_le (dnx_le h))
set_option maxRecDepth 100000 in
set_option maxHeartbeats 16000000 in
theorem mkRecF (L : List Int) (k : Nat) (n v : Int) (hl : L.length ≤ 1000000) : FunP Try.prog 30 (dcs L k) [i64V n, i64V v] (dcs L (nx3 L k)) (.v (rV (mkRec L k n v))) := by
  have n1 := nextF L k n hl
  have n2 := nextF L (dnx L k) 200 hl
  have n3 := nextF L (dnx L (dnx L k)) 4 hl
  have hv := valF (dval L (dnx L k) 200)
  unfold mkRec nx3
  generalize dval L (dnx L (dnx L k)) 4 = q at n3 ⊢
  generalize dval L (dnx L k) 200 = u at n2 hv ⊢
  generalize dval L k n = bb at n1 ⊢
  by_cases hq : q = 3
  · subst hq
    rw [if_pos rfl]
    refine funP_of_vc tabOk mixOk Try.func30 rfl (by rfl) (rs := [.cell 6 34]) rfl rfl rfl rfl rfl 26 ?_; rw [Try.ntmps30]
    (conv => whnf); repeat (first | (refine And.intro rfl ?_; conv => whnf) | (refine And.intro (fun _ => ?_) (fun h => Bool.noConfusion h); conv => whnf) | (refine And.intro (fun h => Bool.noConfusion h) (fun _ => ?_); conv => whnf))
    refine ⟨_, _, n1, ?_⟩
    (conv => whnf); repeat (first | (refine And.intro rfl ?_; conv => whnf) | (refine And.intro (fun _ => ?_) (fun h => Bool.noConfusion h); conv => whnf) | (refine And.intro (fun h => Bool.noConfusion h) (fun _ => ?_); conv => whnf))
    refine ⟨_, _, n2, ?_⟩
    (conv => whnf); repeat (first | (refine And.intro rfl ?_; conv => whnf) | (refine And.intro (fun _ => ?_) (fun h => Bool.noConfusion h); conv => whnf) | (refine And.intro (fun h => Bool.noConfusion h) (fun _ => ?_); conv => whnf))
    refine ⟨_, _, hv, ?_⟩
    (conv => whnf); repeat (first | (refine And.intro rfl ?_; conv => whnf) | (refine And.intro (fun _ => ?_) (fun h => Bool.noConfusion h); conv => whnf) | (refine And.intro (fun h => Bool.noConfusion h) (fun _ => ?_); conv => whnf))
    refine ⟨_, _, n3, ?_⟩
    (conv => whnf); repeat (first | (refine And.intro rfl ?_; conv => whnf) | (refine And.intro (fun _ => ?_) (fun h => Bool.noConfusion h); conv => whnf) | (refine And.intro (fun h => Bool.noConfusion h) (fun _ => ?_); conv => whnf))
    rfl
  · rw [if_neg hq]
    refine funP_of_vc tabOk mixOk Try.func30 rfl (by rfl) (rs := [.cell 6 34]) rfl rfl rfl rfl rfl 26 ?_; rw [Try.ntmps30]
    (conv => whnf); repeat (first | (refine And.intro rfl ?_; conv => whnf) | (refine And.intro (fun _ => ?_) (fun h => Bool.noConfusion h); conv => whnf) | (refine And.intro (fun h => Bool.noConfusion h) (fun _ => ?_); conv => whnf))
    refine ⟨_, _, n1, ?_⟩
    (conv => whnf); repeat (first | (refine And.intro rfl ?_; conv => whnf) | (refine And.intro (fun _ => ?_) (fun h => Bool.noConfusion h); conv => whnf) | (refine And.intro (fun h => Bool.noConfusion h) (fun _ => ?_); conv => whnf))
    refine ⟨_, _, n2, ?_⟩
    (conv => whnf); repeat (first | (refine And.intro rfl ?_; conv => whnf) | (refine And.intro (fun _ => ?_) (fun h => Bool.noConfusion h); conv => whnf) | (refine And.intro (fun h => Bool.noConfusion h) (fun _ => ?_); conv => whnf))
    refine ⟨_, _, hv, ?_⟩
    (conv => whnf); repeat (first | (refine And.intro rfl ?_; conv => whnf) | (refine And.intro (fun _ => ?_) (fun h => Bool.noConfusion h); conv => whnf) | (refine And.intro (fun h => Bool.noConfusion h) (fun _ => ?_); conv => whnf))
    refine ⟨_, _, n3, ?_⟩
    (conv => whnf); repeat (first | (refine And.intro rfl ?_; conv => whnf) | (refine And.intro (fun _ => ?_) (fun h => Bool.noConfusion h); conv => whnf) | (refine And.intro (fun h => Bool.noConfusion h) (fun _ => ?_); conv => whnf))
    refine And.intro (fun h => absurd (by simpa using h) hq) (fun _ => ?_)
    (conv => whnf); repeat (first | (refine And.intro rfl ?_; conv => whnf) | (refine And.intro (fun _ => ?_) (fun h => Bool.noConfusion h); conv => whnf) | (refine And.intro (fun h => Bool.noConfusion h) (fun _ => ?_); conv => whnf))
    rfl
theorem mkRec_ok {L : List Int} {k : Nat} {n v : Int} (hn : 1 ≤ n ∧ n ≤ 4294967295) (hv : 0 ≤ v ∧ v ≤ 1099511627776) : rchk (mkRec L k n v) = 0 ∧ (mkRec L k n v).m = 0 ∧ (mkRec L k n v).k ≤ 2 := by
  have hb := dval_in L k (n := n) (by omega) (by omega)
  have hsz := vval_size (dval L (dnx L k) 200)
  unfold mkRec
  split
  · refine ⟨?_, rfl, by dsimp only; omega⟩
    unfold rchk
    dsimp only
    rw [if_neg (by omega), if_neg (by omega), if_neg (by rw [show ByteArray.empty.size = 0 from rfl]; omega)]
  · refine ⟨?_, rfl, by dsimp only; omega⟩
    unfold rchk
    dsimp only
    rw [if_neg (by omega), if_neg (by omega), if_neg (by rw [hsz]; omega)]
/-- The record with another number of moves. -/
def rmv (r : Rec) (m : Int) : Rec := ⟨r.k, r.b, r.v, m, r.p⟩
theorem rmv_ok {r : Rec} (h : rchk r = 0) {m : Int} (hm : 0 ≤ m ∧ m ≤ 255) : rchk (rmv r m) = 0 := by
  obtain ⟨h1, h2, h3, h4, h5, h6, h7⟩ := rchk_ok h
  unfold rchk rmv
  dsimp only
  rw [if_neg (by omega), if_neg (by omega), if_neg (by omega)]
theorem copy_rmv {r : Rec} (h : rchk r = 0) (hk : r.k ≤ 2) {m : Int} (hm : 0 ≤ m ∧ m ≤ 255) : rcopy (rmv r m) = (rmv r (min (m + 1) 255), true) := by
  unfold rcopy
  rw [if_pos ⟨rmv_ok h hm, hk⟩]
  rfl
theorem enc_rmv {r : Rec} (h : rchk r = 0) {m m' : Int} (hm : 0 ≤ m ∧ m ≤ 255) (hm' : 0 ≤ m' ∧ m' ≤ 255) : (sS (encL (rmv r m)) = sS (encL (rmv r m'))) ↔ m = m' := by
  constructor
  · intro e
    have := encL_inj (rmv_ok h hm) (rmv_ok h hm') (sS_inj e)
    exact congrArg Rec.m this
  · rintro rfl; rfl
set_option maxRecDepth 100000 in
set_option maxHeartbeats 32000000 in
theorem recordCopiesF (L : List Int) (n : Int) (hb : L.length ≤ 140737488355328) (hn : 0 ≤ n ∧ n ≤ 65535) : Fun Try.prog 9 [slV (wV L), .c (.i (.sc (.int .u16 n)))] [] (ATbool true) := by
  have hlight := lightF L hb
  by_cases hL : L.length ≤ 300
  · rw [decide_eq_true hL] at hlight
    have hw : iwrap .i64 (1 + ((wV L).length : Int)) = 1 + (L.length : Int) := by rw [wV, List.length_map]; exact w64_in (by omega)
    have hrec := mkRecF L 0 9 (1 + (L.length : Int)) (by omega)
    obtain ⟨r1, r2, r3⟩ := mkRec_ok (L := L) (k := 0) (n := 9) (v := 1 + (L.length : Int)) (by decide) (by omega)
    have hr : mkRec L 0 9 (1 + (L.length : Int)) = rmv (mkRec L 0 9 (1 + (L.length : Int))) 0 := by
      rw [← r2]; rfl
    generalize mkRec L 0 9 (1 + (L.length : Int)) = r at hrec r1 r2 r3 hr
    obtain ⟨N, hN, hN300⟩ : ∃ N : Nat, (iwrap .i64 n).tmod 300 = (N : Int) ∧ N < 300 := by
      rw [show iwrap .i64 n = n from w64_in (by omega), Int.tmod_eq_emod_of_nonneg hn.1]
      exact ⟨(n % 300).toNat, by omega, by omega⟩
    refine fun_of_vc tabOk mixOk Try.func9 rfl (by rfl) (rs := [.tmp 4]) rfl rfl 107 ?_; rw [Try.ntmps9]
    (conv => whnf); repeat (first | (refine And.intro rfl ?_; conv => whnf) | (refine And.intro (fun _ => ?_) (fun h => Bool.noConfusion h); conv => whnf) | (refine And.intro (fun h => Bool.noConfusion h) (fun _ => ?_); conv => whnf))
    refine ⟨_, _, hlight, ?_⟩
    (conv => whnf); repeat (first | (refine And.intro rfl ?_; conv => whnf) | (refine And.intro (fun _ => ?_) (fun h => Bool.noConfusion h); conv => whnf) | (refine And.intro (fun h => Bool.noConfusion h) (fun _ => ?_); conv => whnf))
    refine ⟨_, _, rollF L (by omega), ?_⟩
    (conv => whnf); repeat (first | (refine And.intro rfl ?_; conv => whnf) | (refine And.intro (fun _ => ?_) (fun h => Bool.noConfusion h); conv => whnf) | (refine And.intro (fun h => Bool.noConfusion h) (fun _ => ?_); conv => whnf))
    rw [hw]
    refine ⟨_, _, hrec, ?_⟩
    (conv => whnf); repeat (first | (refine And.intro rfl ?_; conv => whnf) | (refine And.intro (fun _ => ?_) (fun h => Bool.noConfusion h); conv => whnf) | (refine And.intro (fun h => Bool.noConfusion h) (fun _ => ?_); conv => whnf))
    refine vc_loop [1, 5, 6] [5] (X := Nat) (fun i gs => [(7, ATint ((i + 1 : Nat) : Int))]) (fun i gs => [(6, .var 1 [.i (.sc (.int .i64 r.k)), .i (.sc (.int .i64 r.b)), .i (.sc (.int .i64 r.v)), .i (.sc (.int .i64 (min (i : Int) 255))), .i (.sc (.string r.p))])]) (fun i => i ≤ N) (fun i => N - i) _ (Ghost.refl _) 0 (by omega) ?_ ?_
    · (refine And.intro rfl (And.intro rfl ?_)); (repeat' (first | exact trivial | exact rfl | apply And.intro | (refine congrArg (Value.int .i64) (w64_nat ?_); omega)))
      all_goals first | rfl | exact congrArg (Value.int .i64) r2 | (trace_state; sorry)
    rintro gs i hi
    (conv => whnf); repeat (first | (refine And.intro rfl ?_; conv => whnf) | (refine And.intro (fun _ => ?_) (fun h => Bool.noConfusion h); conv => whnf) | (refine And.intro (fun h => Bool.noConfusion h) (fun _ => ?_); conv => whnf))
    refine ⟨by decide, ?_⟩
    (conv => whnf); repeat (first | (refine And.intro rfl ?_; conv => whnf) | (refine And.intro (fun _ => ?_) (fun h => Bool.noConfusion h); conv => whnf) | (refine And.intro (fun h => Bool.noConfusion h) (fun _ => ?_); conv => whnf))
    rw [hN]
    refine And.intro (fun h => ?_) (fun h => ?_)
    · have hlt : i < N := by have := of_decide_eq_true h; omega
      have hm : 0 ≤ min (i : Int) 255 ∧ min (i : Int) 255 ≤ 255 := by omega
      have hmm : min (min (i : Int) 255 + 1) 255 = min ((i + 1 : Nat) : Int) 255 := by omega
      have hm2 : 0 ≤ min (min (i : Int) 255 + 1) 255 ∧ min (min (i : Int) 255 + 1) 255 ≤ 255 := by omega
      have hc := copyF r.k r.b r.v (min (i : Int) 255) r.p
      rw [show rcopy ⟨r.k, r.b, r.v, min (i : Int) 255, r.p⟩ = _ from copy_rmv r1 r3 hm] at hc
      have e1 := rencF r.k r.b r.v (min (i : Int) 255) r.p
      rw [show renc ⟨r.k, r.b, r.v, min (i : Int) 255, r.p⟩ = _ from renc_yes (rmv_ok r1 hm)] at e1
      have e2 := rencF r.k r.b r.v (min (min (i : Int) 255 + 1) 255) r.p
      rw [show renc ⟨r.k, r.b, r.v, min (min (i : Int) 255 + 1) 255, r.p⟩ = _ from renc_yes (rmv_ok r1 hm2)] at e2
      have hiff := enc_rmv r1 hm hm2
      rw [hmm] at hc e2 hiff
      dsimp only [rmv] at hc e1 e2
      unfold rmv at hiff
      generalize sS (encL ⟨r.k, r.b, r.v, min (i : Int) 255, r.p⟩) = A at e1 hiff
      generalize sS (encL ⟨r.k, r.b, r.v, min ((i + 1 : Nat) : Int) 255, r.p⟩) = B at e2 hiff
      (conv => whnf); repeat (first | (refine And.intro rfl ?_; conv => whnf) | (refine And.intro (fun _ => ?_) (fun h => Bool.noConfusion h); conv => whnf) | (refine And.intro (fun h => Bool.noConfusion h) (fun _ => ?_); conv => whnf))
      refine ⟨_, _, hc, ?_⟩
      (conv => whnf); repeat (first | (refine And.intro rfl ?_; conv => whnf) | (refine And.intro (fun _ => ?_) (fun h => Bool.noConfusion h); conv => whnf) | (refine And.intro (fun h => Bool.noConfusion h) (fun _ => ?_); conv => whnf))
      refine ⟨_, _, e1, ?_⟩
      (conv => whnf); repeat (first | (refine And.intro rfl ?_; conv => whnf) | (refine And.intro (fun _ => ?_) (fun h => Bool.noConfusion h); conv => whnf) | (refine And.intro (fun h => Bool.noConfusion h) (fun _ => ?_); conv => whnf))
      refine ⟨_, _, e2, ?_⟩
      (conv => whnf); repeat (first | (refine And.intro rfl ?_; conv => whnf) | (refine And.intro (fun _ => ?_) (fun h => Bool.noConfusion h); conv => whnf) | (refine And.intro (fun h => Bool.noConfusion h) (fun _ => ?_); conv => whnf))
      have hx : (A.toList == B.toList) = (min (i : Int) 255 == 255) := by
        by_cases h5 : min (i : Int) 255 = 255
        · have e : A = B := hiff.mpr (by omega)
          rw [e, h5]; simp
        · have e : ¬ A = B := fun e => h5 (by have := hiff.mp e; omega)
          have e2 : ¬ A.toList = B.toList := fun x => e (toList_inj x)
          rw [beq_eq_false_iff_ne.mpr e2, beq_eq_false_iff_ne.mpr h5]
      repeat' (first | ((refine And.intro (fun h => ?_) (fun h => ?_)) <;> (try simp at h) <;> ((conv => whnf); repeat (first | (refine And.intro rfl ?_; conv => whnf) | (refine And.intro (fun _ => ?_) (fun h => Bool.noConfusion h); conv => whnf) | (refine And.intro (fun h => Bool.noConfusion h) (fun _ => ?_); conv => whnf)))) | fail)
      · rename_i h _ _ _ _ _
        exact absurd (by split <;> omega) h
      · exact absurd hx (by assumption)
      · refine again (i + 1) hlt (by omega) ?_
        (refine And.intro rfl (And.intro rfl ?_)); (repeat' (first | exact trivial | exact rfl | apply And.intro | (refine congrArg (Value.int .i64) (w64_nat ?_); omega)))
        all_goals first | rfl | exact congrArg (Value.int .i64) (w64_in (by omega)) | (trace_state; sorry)
    · (conv => whnf); repeat (first | (refine And.intro rfl ?_; conv => whnf) | (refine And.intro (fun _ => ?_) (fun h => Bool.noConfusion h); conv => whnf) | (refine And.intro (fun h => Bool.noConfusion h) (fun _ => ?_); conv => whnf))
      refine ⟨_, _, rcAwake, ?_⟩
      (conv => whnf); repeat (first | (refine And.intro rfl ?_; conv => whnf) | (refine And.intro (fun _ => ?_) (fun h => Bool.noConfusion h); conv => whnf) | (refine And.intro (fun h => Bool.noConfusion h) (fun _ => ?_); conv => whnf))
      refine Exists.intro [] (And.intro List.nodup_nil ?_); ((conv => whnf); repeat (first | (refine And.intro rfl ?_; conv => whnf) | (refine And.intro (fun _ => ?_) (fun h => Bool.noConfusion h); conv => whnf) | (refine And.intro (fun h => Bool.noConfusion h) (fun _ => ?_); conv => whnf)))
      rfl
  · rw [decide_eq_false hL] at hlight
    refine fun_of_vc tabOk mixOk Try.func9 rfl (by rfl) (rs := [.tmp 4]) rfl rfl 107 ?_; rw [Try.ntmps9]
    (conv => whnf); repeat (first | (refine And.intro rfl ?_; conv => whnf) | (refine And.intro (fun _ => ?_) (fun h => Bool.noConfusion h); conv => whnf) | (refine And.intro (fun h => Bool.noConfusion h) (fun _ => ?_); conv => whnf))
    refine ⟨_, _, hlight, ?_⟩
    (conv => whnf); repeat (first | (refine And.intro rfl ?_; conv => whnf) | (refine And.intro (fun _ => ?_) (fun h => Bool.noConfusion h); conv => whnf) | (refine And.intro (fun h => Bool.noConfusion h) (fun _ => ?_); conv => whnf))
    refine ⟨_, _, rcAwake, ?_⟩
    (conv => whnf); repeat (first | (refine And.intro rfl ?_; conv => whnf) | (refine And.intro (fun _ => ?_) (fun h => Bool.noConfusion h); conv => whnf) | (refine And.intro (fun h => Bool.noConfusion h) (fun _ => ?_); conv => whnf))
    refine Exists.intro [] (And.intro List.nodup_nil ?_); ((conv => whnf); repeat (first | (refine And.intro rfl ?_; conv => whnf) | (refine And.intro (fun _ => ?_) (fun h => Bool.noConfusion h); conv => whnf) | (refine And.intro (fun h => Bool.noConfusion h) (fun _ => ?_); conv => whnf)))
    rfl
end Go.Proofs.Ytfldnpjmkllekaa.Ab
namespace Go.Proofs.Ytfldnpjmkllekaa
set_option linter.unusedVariables false
set_option linter.unusedSimpArgs false
open Ab
set_option maxRecDepth 100000 in
theorem recordCopies.walk {H : Type} {enc : TypeId × Value → H} {W : World} {base : Nat} (v : Value) (d : DataW H) (p : List MemPlace) (hv : Value.okWide Try.prog W .any base 42 v)
    (h : DataW.Trod enc Try.prog W 0 (fun _ => true) true 42 v d p) (hw : ∀ n ∈ d.weights Try.prog 42, n ≤ 140737488351232)
    (a1 : Int) (w1 : (Lit.int .u16 a1).wf = true)
    (W' : World) (hW : W' = W := by rfl) : Calls Try.prog 9 #[v, .int .u16 a1] W' (True1 W') := by
  subst hW
  obtain ⟨es, _, q1, q2⟩ := open_sl tabOk 3 (t := 42) (by decide +kernel) rfl hv h
  obtain ⟨xs, rfl⟩ := ints_of (d := 2) es (fun r hr => (q1 r hr).2)
  have b3 := slice_bound tabOk (e := 3) rfl h hw (q2 (fun _ _ => undef) (fun _ => 0))
  rw [bytesOf_eq tabOk (fun h => TK.noConfusion h)] at b3
  have b3' : (wV xs).length * 8 ≤ 140737488351232 := b3
  exact law_of_fun (recordCopiesF xs a1 (by simp [wV] at b3'; omega) (bounds_u16 w1)) rfl (reps_get (vs := [_, _]) ⟨q2 _ _, .sc _ rfl, trivial⟩)
end Go.Proofs.Ytfldnpjmkllekaa
