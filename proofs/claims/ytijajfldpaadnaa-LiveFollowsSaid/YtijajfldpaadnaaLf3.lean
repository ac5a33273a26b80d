/- The counters follow the installs and drops of a shard: the law. -/
import Derived.Test.YtijajfldpaadnaaLf2
namespace Go.Proofs.Ytijajfldpaadnaa.Ab
set_option linter.unusedVariables false
set_option linter.unusedSimpArgs false
open Go.RowKit

theorem nextE (L : List Int) (k : Nat) (n : Int) (hl : L.length ≤ 1000000) (hk : k ≤ L.length) (hn : 1 ≤ n ∧ n ≤ 1099511627776) : ∃ (k' : Nat) (r : Int), FunP Try.prog 28 (dcs L k) [i64V n] (dcs L k') (.v (i64V r)) ∧ k' ≤ L.length ∧ 0 ≤ r ∧ r < n :=
  ⟨_, _, nextF L k n hl, dnx_le hk, dval_in L k hn.1 hn.2⟩
theorem dropE (s : List Ety) (p : Int) (hv : svalid s = true) (hz : zin s) (hl : s.length ≤ 1000) : ∃ K G : List Ety, Fun Try.prog 29 [slV (eR s), i64V p] [] (.tup [slV (eR K), slV (eR G)]) ∧ svalid K = true ∧ zin (K ++ G) ∧ zin K ∧ cntL s = cntL (K ++ G) ∧ K.length + G.length = s.length := by
  have h := sdropF' s p (by omega)
  rw [sdrop_yes hv] at h
  refine ⟨_, _, h, svalid_filter hv _, fun e he => ?_, fun e he => hz e (List.mem_filter.1 he).1, cnt_split (tomb p) s, len_filters (tomb p) s⟩
  rcases List.mem_append.1 he with h1 | h1
  · exact hz e (List.mem_filter.1 h1).1
  · exact hz e (List.mem_filter.1 h1).1
theorem instE (s : List Ety) (x : Ety) (hv : svalid s = true) (hz : zin s) (hx : 0 ≤ x.z ∧ x.z < 4) (hl : s.length ≤ 1000) : ∃ (s' : List Ety) (o : Ety) (fr : Bool), Fun Try.prog 31 [slV (eR s), eA x.b x.k x.v x.m x.z x.o] [] (.tup [slV (eR s'), eV o, bV fr]) ∧
    svalid s' = true ∧ zin s' ∧ s'.length ≤ s.length + 1 ∧ (fr = true → Fun Try.prog 30 [cntV (cntL s) Z4, eV o, eA x.b x.k x.v x.m x.z x.o, bV (o.k != 0), bV true] [] (.tup [cntV (cntL s') Z4, bV true])) ∧ (fr = false → s' = s) :=
  ⟨_, _, _, sinstF' s x.b x.k x.v x.m x.z x.o (by omega), svalid_inst hv, zin_inst hz hx, sinst_lenL s x, fun h => instStep s x hv hz hx hl h, fun h => instSame hv h⟩

set_option maxRecDepth 100000 in
set_option maxHeartbeats 32000000 in
theorem liveFollowsF' (cn : List Ety → List Int) (Z : List Int) (fnew : Fun Try.prog 26 [i64V 4] [] (.tup [cntV (cn []) Z, i64V 0]))
    (fof : ∀ s, zin s → s.length ≤ 1000000 → Fun Try.prog 32 [i64V 4, slV (eR s)] [] (.tup [cntV (cn s) Z, bV true]))
    (fdrop : ∀ K G, zin (K ++ G) → (K ++ G).length ≤ 1000000 → ∀ j (hj : j < G.length), Fun Try.prog 30 [cntV (cn (K ++ G.drop j)) Z, eV G[j], eV e0, bV true, bV false] [] (.tup [cntV (cn (K ++ G.drop (j + 1))) Z, bV true]))
    (fdr : ∀ s p, svalid s = true → zin s → s.length ≤ 1000 → ∃ K G : List Ety, Fun Try.prog 29 [slV (eR s), i64V p] [] (.tup [slV (eR K), slV (eR G)]) ∧ svalid K = true ∧ zin (K ++ G) ∧ zin K ∧ cn s = cn (K ++ G) ∧ K.length + G.length = s.length)
    (fin : ∀ (s : List Ety) (x : Ety), svalid s = true → zin s → (0 ≤ x.z ∧ x.z < 4) → s.length ≤ 1000 → ∃ (s' : List Ety) (o : Ety) (fr : Bool), Fun Try.prog 31 [slV (eR s), eA x.b x.k x.v x.m x.z x.o] [] (.tup [slV (eR s'), eV o, bV fr]) ∧
      svalid s' = true ∧ zin s' ∧ s'.length ≤ s.length + 1 ∧ (fr = true → Fun Try.prog 30 [cntV (cn s) Z, eV o, eA x.b x.k x.v x.m x.z x.o, bV (o.k != 0), bV true] [] (.tup [cntV (cn s') Z, bV true])) ∧ (fr = false → s' = s))
    (fsame : ∀ s, Fun Try.prog 33 [cntV (cn s) Z, cntV (cn s) Z] [] (ATbool true)) (L : List Int) (hL : L.length ≤ 140737488355328) : Fun Try.prog 5 [slV (wV L)] [] (ATbool true) := by
  have lt := lightF L hL
  by_cases hl3 : L.length ≤ 300
  · rw [decide_eq_true hl3] at lt
    have hl : L.length ≤ 1000000 := by omega
    refine fun_of_vc tabOk mixOk Try.func5 rfl (by rfl) (rs := [.tmp 2]) rfl rfl 124 ?_; rw [Try.ntmps5]
    (conv => whnf); repeat (first | (refine And.intro rfl ?_; conv => whnf) | (refine And.intro (fun _ => ?_) (fun h => Bool.noConfusion h); conv => whnf) | (refine And.intro (fun h => Bool.noConfusion h) (fun _ => ?_); conv => whnf))
    refine ⟨_, _, lt, ?_⟩
    (conv => whnf); repeat (first | (refine And.intro rfl ?_; conv => whnf) | (refine And.intro (fun _ => ?_) (fun h => Bool.noConfusion h); conv => whnf) | (refine And.intro (fun h => Bool.noConfusion h) (fun _ => ?_); conv => whnf))
    refine ⟨_, _, rollF L hl, ?_⟩
    (conv => whnf); repeat (first | (refine And.intro rfl ?_; conv => whnf) | (refine And.intro (fun _ => ?_) (fun h => Bool.noConfusion h); conv => whnf) | (refine And.intro (fun h => Bool.noConfusion h) (fun _ => ?_); conv => whnf))
    refine ⟨_, _, fnew, ?_⟩
    (conv => whnf); repeat (first | (refine And.intro rfl ?_; conv => whnf) | (refine And.intro (fun _ => ?_) (fun h => Bool.noConfusion h); conv => whnf) | (refine And.intro (fun h => Bool.noConfusion h) (fun _ => ?_); conv => whnf))
    refine vc_loop [3, 4, 5] [] (X := Nat × Nat × List Ety) (fun x gs => [(7, ATint x.1), (6, .v (slV (eR x.2.2)))]) (fun x gs => [(4, .var 1 [.i (.sl (wV (cn x.2.2))), .i (.sl (wV Z))]), (23, .var 1 (dcs L x.2.1))]) (fun x => x.1 ≤ 40 ∧ x.2.1 ≤ L.length ∧ x.2.2.length ≤ x.1 ∧ svalid x.2.2 = true ∧ zin x.2.2) (fun x => 40 - x.1) _ (Ghost.refl _) (0, 0, []) ⟨by omega, Nat.zero_le _, by simp, rfl, fun e he => by cases he⟩ ?_ ?_
    · (refine And.intro rfl (And.intro rfl ?_)); (repeat' (first | exact trivial | exact rfl | apply And.intro | (refine congrArg (Value.int .i64) (w64_nat ?_); omega)))
    rintro gs ⟨i, k, s⟩ ⟨hi, hk, hs, hv, hz⟩
    dsimp only at hi hk hs hv hz ⊢
    (conv => whnf); repeat (first | (refine And.intro rfl ?_; conv => whnf) | (refine And.intro (fun _ => ?_) (fun h => Bool.noConfusion h); conv => whnf) | (refine And.intro (fun h => Bool.noConfusion h) (fun _ => ?_); conv => whnf))
    refine And.intro (fun h => ?_) (fun h => ?_)
    · have hlt : i < 40 := by have := of_decide_eq_true h; omega
      (conv => whnf); repeat (first | (refine And.intro rfl ?_; conv => whnf) | (refine And.intro (fun _ => ?_) (fun h => Bool.noConfusion h); conv => whnf) | (refine And.intro (fun h => Bool.noConfusion h) (fun _ => ?_); conv => whnf))
      refine ⟨_, _, restF L k hl hk, ?_⟩
      (conv => whnf); repeat (first | (refine And.intro rfl ?_; conv => whnf) | (refine And.intro (fun _ => ?_) (fun h => Bool.noConfusion h); conv => whnf) | (refine And.intro (fun h => Bool.noConfusion h) (fun _ => ?_); conv => whnf))
      refine And.intro (fun h2 => ?_) (fun h2 => ?_)
      · obtain ⟨k1, b1, n1, hk1, hb1⟩ := nextE L k 6 hl hk (by decide)
        obtain ⟨k2, c1, n2, hk2, hc1⟩ := nextE L k1 2 hl hk1 (by decide)
        obtain ⟨k3, v1, n3, hk3, hv1⟩ := nextE L k2 20 hl hk2 (by decide)
        obtain ⟨k4, z1, n4, hk4, hz1⟩ := nextE L k3 4 hl hk3 (by decide)
        obtain ⟨k5, r5, n5, hk5, _⟩ := nextE L k4 6 hl hk4 (by decide)
        obtain ⟨k6, r6, n6, hk6, _⟩ := nextE L k5 12 hl hk5 (by decide)
        have hw1 : iwrap .i64 (1 + c1) = 1 + c1 := w64_in (by omega)
        have hw2 : iwrap .i64 (1 + v1) = 1 + v1 := w64_in (by omega)
        have hs' : s.length ≤ 1000 := by omega
        (conv => whnf); repeat (first | (refine And.intro rfl ?_; conv => whnf) | (refine And.intro (fun _ => ?_) (fun h => Bool.noConfusion h); conv => whnf) | (refine And.intro (fun h => Bool.noConfusion h) (fun _ => ?_); conv => whnf))
        refine ⟨_, _, n1, ?_⟩
        (conv => whnf); repeat (first | (refine And.intro rfl ?_; conv => whnf) | (refine And.intro (fun _ => ?_) (fun h => Bool.noConfusion h); conv => whnf) | (refine And.intro (fun h => Bool.noConfusion h) (fun _ => ?_); conv => whnf))
        refine ⟨_, _, n2, ?_⟩
        (conv => whnf); repeat (first | (refine And.intro rfl ?_; conv => whnf) | (refine And.intro (fun _ => ?_) (fun h => Bool.noConfusion h); conv => whnf) | (refine And.intro (fun h => Bool.noConfusion h) (fun _ => ?_); conv => whnf))
        refine ⟨_, _, n3, ?_⟩
        (conv => whnf); repeat (first | (refine And.intro rfl ?_; conv => whnf) | (refine And.intro (fun _ => ?_) (fun h => Bool.noConfusion h); conv => whnf) | (refine And.intro (fun h => Bool.noConfusion h) (fun _ => ?_); conv => whnf))
        refine ⟨_, _, n4, ?_⟩
        (conv => whnf); repeat (first | (refine And.intro rfl ?_; conv => whnf) | (refine And.intro (fun _ => ?_) (fun h => Bool.noConfusion h); conv => whnf) | (refine And.intro (fun h => Bool.noConfusion h) (fun _ => ?_); conv => whnf))
        rw [hw1, hw2]
        clear hw1 hw2
        refine ⟨_, _, n5, ?_⟩
        (conv => whnf); repeat (first | (refine And.intro rfl ?_; conv => whnf) | (refine And.intro (fun _ => ?_) (fun h => Bool.noConfusion h); conv => whnf) | (refine And.intro (fun h => Bool.noConfusion h) (fun _ => ?_); conv => whnf))
        refine And.intro (fun h5 => ?_) (fun h5 => ?_)
        · obtain ⟨K, G, d1, vK, zKG, zK, cKG, lKG⟩ := fdr s r6 hv hz hs'
          (conv => whnf); repeat (first | (refine And.intro rfl ?_; conv => whnf) | (refine And.intro (fun _ => ?_) (fun h => Bool.noConfusion h); conv => whnf) | (refine And.intro (fun h => Bool.noConfusion h) (fun _ => ?_); conv => whnf))
          refine ⟨_, _, n6, ?_⟩
          (conv => whnf); repeat (first | (refine And.intro rfl ?_; conv => whnf) | (refine And.intro (fun _ => ?_) (fun h => Bool.noConfusion h); conv => whnf) | (refine And.intro (fun h => Bool.noConfusion h) (fun _ => ?_); conv => whnf))
          refine ⟨_, _, d1, ?_⟩
          (conv => whnf); repeat (first | (refine And.intro rfl ?_; conv => whnf) | (refine And.intro (fun _ => ?_) (fun h => Bool.noConfusion h); conv => whnf) | (refine And.intro (fun h => Bool.noConfusion h) (fun _ => ?_); conv => whnf))
          obtain ⟨C, hC⟩ : ∃ C : Nat → List Int, ∀ j, cn (K ++ G.drop j) = C j := ⟨_, fun _ => rfl⟩
          rw [cKG.trans (hC 0)]
          clear cKG
          refine vc_loop [3, 4, 5, 6, 7, 11] [] (X := Nat) (fun j gs => [(12, ATint j), (9, .v (bV true))]) (fun j gs => [(4, .var 1 [.i (.sl (wV (C j))), .i (.sl (wV Z))]), (23, .var 1 (dcs L k6))]) (fun j => j ≤ G.length) (fun j => G.length - j) _ (Ghost.refl _) 0 (Nat.zero_le _) ?_ ?_
          · (refine And.intro rfl (And.intro rfl ?_)); (repeat' (first | exact trivial | exact rfl | apply And.intro | (refine congrArg (Value.int .i64) (w64_nat ?_); omega)))
          rintro gs2 j hj
          (conv => whnf); repeat (first | (refine And.intro rfl ?_; conv => whnf) | (refine And.intro (fun _ => ?_) (fun h => Bool.noConfusion h); conv => whnf) | (refine And.intro (fun h => Bool.noConfusion h) (fun _ => ?_); conv => whnf))
          refine And.intro (fun h10 => ?_) (fun h10 => ?_)
          · have hjl : j < G.length := by have := of_decide_eq_true h10; rw [eLen] at this; omega
            have st := fdrop K G zKG (by rw [List.length_append]; omega) j hjl
            rw [hC, hC] at st
            (conv => whnf); repeat (first | (refine And.intro rfl ?_; conv => whnf) | (refine And.intro (fun _ => ?_) (fun h => Bool.noConfusion h); conv => whnf) | (refine And.intro (fun h => Bool.noConfusion h) (fun _ => ?_); conv => whnf))
            refine ⟨by omega, _, eItem hjl, rfl, ?_⟩
            (conv => whnf); repeat (first | (refine And.intro rfl ?_; conv => whnf) | (refine And.intro (fun _ => ?_) (fun h => Bool.noConfusion h); conv => whnf) | (refine And.intro (fun h => Bool.noConfusion h) (fun _ => ?_); conv => whnf))
            refine ⟨_, _, st, ?_⟩
            (conv => whnf); repeat (first | (refine And.intro rfl ?_; conv => whnf) | (refine And.intro (fun _ => ?_) (fun h => Bool.noConfusion h); conv => whnf) | (refine And.intro (fun h => Bool.noConfusion h) (fun _ => ?_); conv => whnf))
            refine again (j + 1) hjl (by omega) ?_
            (refine And.intro rfl (And.intro rfl ?_)); (repeat' (first | exact trivial | exact rfl | apply And.intro | (refine congrArg (Value.int .i64) (w64_nat ?_); omega)))
          · have hge : ¬ j < G.length := by have := of_decide_eq_false h10; rw [eLen] at this; omega
            have e : C j = cn K := by rw [← hC, List.drop_of_length_le (by omega), List.append_nil]
            have lK : K.length ≤ 1000000 := by omega
            have lK' : K.length ≤ i + 1 := by omega
            (conv => whnf); repeat (first | (refine And.intro rfl ?_; conv => whnf) | (refine And.intro (fun _ => ?_) (fun h => Bool.noConfusion h); conv => whnf) | (refine And.intro (fun h => Bool.noConfusion h) (fun _ => ?_); conv => whnf))
            refine ⟨_, _, fof K zK lK, ?_⟩
            (conv => whnf); repeat (first | (refine And.intro rfl ?_; conv => whnf) | (refine And.intro (fun _ => ?_) (fun h => Bool.noConfusion h); conv => whnf) | (refine And.intro (fun h => Bool.noConfusion h) (fun _ => ?_); conv => whnf))
            rw [e]
            refine ⟨_, _, fsame K, ?_⟩
            (conv => whnf); repeat (first | (refine And.intro rfl ?_; conv => whnf) | (refine And.intro (fun _ => ?_) (fun h => Bool.noConfusion h); conv => whnf) | (refine And.intro (fun h => Bool.noConfusion h) (fun _ => ?_); conv => whnf))
            refine again (i + 1, k6, K) ⟨hlt, hk6, lK', vK, zK⟩ (by dsimp only; omega) ?_
            (refine And.intro rfl (And.intro rfl ?_)); (repeat' (first | exact trivial | exact rfl | apply And.intro | (refine congrArg (Value.int .i64) (w64_nat ?_); omega)))
        · obtain ⟨s', o, fr, i1, vs', zs', ls', st, same⟩ := fin s ⟨b1, 1 + c1, 1 + v1, 0, z1, 0⟩ hv hz hz1 hs'
          have ls1 : s'.length ≤ 1000000 := by omega
          have ls2 : s'.length ≤ i + 1 := by omega
          (conv => whnf); repeat (first | (refine And.intro rfl ?_; conv => whnf) | (refine And.intro (fun _ => ?_) (fun h => Bool.noConfusion h); conv => whnf) | (refine And.intro (fun h => Bool.noConfusion h) (fun _ => ?_); conv => whnf))
          refine ⟨_, _, i1, ?_⟩
          cases fr with
          | true =>
            have st' := st rfl
            (conv => whnf); repeat (first | (refine And.intro rfl ?_; conv => whnf) | (refine And.intro (fun _ => ?_) (fun h => Bool.noConfusion h); conv => whnf) | (refine And.intro (fun h => Bool.noConfusion h) (fun _ => ?_); conv => whnf))
            refine ⟨_, _, st', ?_⟩
            (conv => whnf); repeat (first | (refine And.intro rfl ?_; conv => whnf) | (refine And.intro (fun _ => ?_) (fun h => Bool.noConfusion h); conv => whnf) | (refine And.intro (fun h => Bool.noConfusion h) (fun _ => ?_); conv => whnf))
            refine ⟨_, _, fof s' zs' ls1, ?_⟩
            (conv => whnf); repeat (first | (refine And.intro rfl ?_; conv => whnf) | (refine And.intro (fun _ => ?_) (fun h => Bool.noConfusion h); conv => whnf) | (refine And.intro (fun h => Bool.noConfusion h) (fun _ => ?_); conv => whnf))
            refine ⟨_, _, fsame s', ?_⟩
            (conv => whnf); repeat (first | (refine And.intro rfl ?_; conv => whnf) | (refine And.intro (fun _ => ?_) (fun h => Bool.noConfusion h); conv => whnf) | (refine And.intro (fun h => Bool.noConfusion h) (fun _ => ?_); conv => whnf))
            refine again (i + 1, k5, s') ⟨hlt, hk5, ls2, vs', zs'⟩ (by dsimp only; omega) ?_
            (refine And.intro rfl (And.intro rfl ?_)); (repeat' (first | exact trivial | exact rfl | apply And.intro | (refine congrArg (Value.int .i64) (w64_nat ?_); omega)))
          | false =>
            obtain rfl := same rfl
            (conv => whnf); repeat (first | (refine And.intro rfl ?_; conv => whnf) | (refine And.intro (fun _ => ?_) (fun h => Bool.noConfusion h); conv => whnf) | (refine And.intro (fun h => Bool.noConfusion h) (fun _ => ?_); conv => whnf))
            refine ⟨_, _, fof s' zs' ls1, ?_⟩
            (conv => whnf); repeat (first | (refine And.intro rfl ?_; conv => whnf) | (refine And.intro (fun _ => ?_) (fun h => Bool.noConfusion h); conv => whnf) | (refine And.intro (fun h => Bool.noConfusion h) (fun _ => ?_); conv => whnf))
            refine ⟨_, _, fsame s', ?_⟩
            (conv => whnf); repeat (first | (refine And.intro rfl ?_; conv => whnf) | (refine And.intro (fun _ => ?_) (fun h => Bool.noConfusion h); conv => whnf) | (refine And.intro (fun h => Bool.noConfusion h) (fun _ => ?_); conv => whnf))
            refine again (i + 1, k5, s') ⟨hlt, hk5, ls2, vs', zs'⟩ (by dsimp only; omega) ?_
            (refine And.intro rfl (And.intro rfl ?_)); (repeat' (first | exact trivial | exact rfl | apply And.intro | (refine congrArg (Value.int .i64) (w64_nat ?_); omega)))
      · (conv => whnf); repeat (first | (refine And.intro rfl ?_; conv => whnf) | (refine And.intro (fun _ => ?_) (fun h => Bool.noConfusion h); conv => whnf) | (refine And.intro (fun h => Bool.noConfusion h) (fun _ => ?_); conv => whnf))
        refine ⟨_, _, livAwake, ?_⟩
        (conv => whnf); repeat (first | (refine And.intro rfl ?_; conv => whnf) | (refine And.intro (fun _ => ?_) (fun h => Bool.noConfusion h); conv => whnf) | (refine And.intro (fun h => Bool.noConfusion h) (fun _ => ?_); conv => whnf))
        refine Exists.intro [] (And.intro List.nodup_nil ?_); ((conv => whnf); repeat (first | (refine And.intro rfl ?_; conv => whnf) | (refine And.intro (fun _ => ?_) (fun h => Bool.noConfusion h); conv => whnf) | (refine And.intro (fun h => Bool.noConfusion h) (fun _ => ?_); conv => whnf)))
        rfl
    · (conv => whnf); repeat (first | (refine And.intro rfl ?_; conv => whnf) | (refine And.intro (fun _ => ?_) (fun h => Bool.noConfusion h); conv => whnf) | (refine And.intro (fun h => Bool.noConfusion h) (fun _ => ?_); conv => whnf))
      refine ⟨_, _, livAwake, ?_⟩
      (conv => whnf); repeat (first | (refine And.intro rfl ?_; conv => whnf) | (refine And.intro (fun _ => ?_) (fun h => Bool.noConfusion h); conv => whnf) | (refine And.intro (fun h => Bool.noConfusion h) (fun _ => ?_); conv => whnf))
      refine Exists.intro [] (And.intro List.nodup_nil ?_); ((conv => whnf); repeat (first | (refine And.intro rfl ?_; conv => whnf) | (refine And.intro (fun _ => ?_) (fun h => Bool.noConfusion h); conv => whnf) | (refine And.intro (fun h => Bool.noConfusion h) (fun _ => ?_); conv => whnf)))
      rfl
  · rw [decide_eq_false hl3] at lt
    refine fun_of_vc tabOk mixOk Try.func5 rfl (by rfl) (rs := [.tmp 2]) rfl rfl 124 ?_; rw [Try.ntmps5]
    (conv => whnf); repeat (first | (refine And.intro rfl ?_; conv => whnf) | (refine And.intro (fun _ => ?_) (fun h => Bool.noConfusion h); conv => whnf) | (refine And.intro (fun h => Bool.noConfusion h) (fun _ => ?_); conv => whnf))
    refine ⟨_, _, lt, ?_⟩
    (conv => whnf); repeat (first | (refine And.intro rfl ?_; conv => whnf) | (refine And.intro (fun _ => ?_) (fun h => Bool.noConfusion h); conv => whnf) | (refine And.intro (fun h => Bool.noConfusion h) (fun _ => ?_); conv => whnf))
    refine ⟨_, _, livAwake, ?_⟩
    (conv => whnf); repeat (first | (refine And.intro rfl ?_; conv => whnf) | (refine And.intro (fun _ => ?_) (fun h => Bool.noConfusion h); conv => whnf) | (refine And.intro (fun h => Bool.noConfusion h) (fun _ => ?_); conv => whnf))
    refine Exists.intro [] (And.intro List.nodup_nil ?_); ((conv => whnf); repeat (first | (refine And.intro rfl ?_; conv => whnf) | (refine And.intro (fun _ => ?_) (fun h => Bool.noConfusion h); conv => whnf) | (refine And.intro (fun h => Bool.noConfusion h) (fun _ => ?_); conv => whnf)))
    rfl
theorem liveFollowsF (L : List Int) (hL : L.length ≤ 140737488355328) : Fun Try.prog 5 [slV (wV L)] [] (ATbool true) :=
  liveFollowsF' cntL Z4 (cnewF 4 (by decide)) ofStep (fun K G hz hl j hj => dropStep K G hz hl hj) dropE instE (fun s => csameF (cntL s) Z4 (by rw [cntL_len]; decide) (by decide)) L hL
end Go.Proofs.Ytijajfldpaadnaa.Ab
namespace Go.Proofs.Ytijajfldpaadnaa
set_option linter.unusedVariables false
set_option linter.unusedSimpArgs false
open Ab
set_option maxRecDepth 100000 in
theorem liveFollows.walk {H : Type} {enc : TypeId × Value → H} {W : World} {base : Nat} (v : Value) (d : DataW H) (p : List MemPlace) (hv : Value.okWide Try.prog W .any base 22 v)
    (h : DataW.Trod enc Try.prog W 0 (fun _ => true) true 22 v d p) (hw : ∀ n ∈ d.weights Try.prog 22, n ≤ 140737488351232)
    (W' : World) (hW : W' = W := by rfl) : Calls Try.prog 5 #[v] W' (True1 W') := by
  subst hW
  obtain ⟨es, _, q1, q2⟩ := open_sl tabOk 3 (t := 22) (by decide +kernel) rfl hv h
  obtain ⟨xs, rfl⟩ := ints_of (d := 2) es (fun r hr => (q1 r hr).2)
  have b3 := slice_bound tabOk (e := 3) rfl h hw (q2 (fun _ _ => undef) (fun _ => 0))
  rw [bytesOf_eq tabOk (fun h => TK.noConfusion h)] at b3
  have b3' : (wV xs).length * 8 ≤ 140737488351232 := b3
  exact law_of_fun (liveFollowsF xs (by simp [wV] at b3'; omega)) rfl (reps_get (vs := [_]) ⟨q2 _ _, trivial⟩)
end Go.Proofs.Ytijajfldpaadnaa
