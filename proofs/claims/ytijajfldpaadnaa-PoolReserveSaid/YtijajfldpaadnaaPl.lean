/- The pool: small configurations, the law's agree and awake, PoolRaw. -/
import Derived.Test.YtijajfldpaadnaaPk
namespace Go.Proofs.Ytijajfldpaadnaa.Ab
set_option linter.unusedVariables false
set_option linter.unusedSimpArgs false
open Go.RowKit

def smallP (c : Cf) : Prop := (3 ≤ c.s ∧ c.s ≤ 6) ∧ (1 ≤ c.b ∧ c.b ≤ 6) ∧ (1 ≤ c.q ∧ c.q ≤ 3) ∧ (1 ≤ c.d ∧ c.d ≤ 3) ∧ (1 ≤ c.h ∧ c.h ≤ 3) ∧ ∃ v, 0 ≤ v ∧ v ≤ 2 ∧ c.z = 2 * Int.tdiv (c.b + 2 + c.s - 1) c.s + 6 + v
theorem dval_nil {k : Nat} {n : Int} {L : List Int} (h : L = []) : dval L k n = 0 := by subst h; rfl
theorem dnx_ge (L : List Int) (k : Nat) : k ≤ dnx L k := by unfold dnx; split <;> omega
set_option maxRecDepth 100000 in
set_option maxHeartbeats 16000000 in
theorem smallF (L : List Int) (k : Nat) (hl : L.length ≤ 1000000) : ∃ c k', FunP Try.prog 54 (dcs L k) [] (dcs L k') (.v (cfV c)) ∧ smallP c ∧ (L = [] → c = ⟨8, 3, 1, 1, 1, 1⟩) ∧ (k ≤ L.length → k' ≤ L.length) := by
  have n1 := nextF L k 4 hl
  have r1 := dval_in L k (n := 4) (by omega) (by omega)
  have z1 : L = [] → dval L k 4 = 0 := dval_nil
  have l1 : k ≤ L.length → dnx L k ≤ L.length := dnx_le
  generalize dval L k 4 = v1 at n1 r1 z1
  generalize dnx L k = k1 at n1 l1
  have n2 := nextF L k1 6 hl
  have r2 := dval_in L k1 (n := 6) (by omega) (by omega)
  have z2 : L = [] → dval L k1 6 = 0 := dval_nil
  have l2 : k1 ≤ L.length → dnx L k1 ≤ L.length := dnx_le
  generalize dval L k1 6 = v2 at n2 r2 z2
  generalize dnx L k1 = k2 at n2 l2
  have n3 := nextF L k2 3 hl
  have r3 := dval_in L k2 (n := 3) (by omega) (by omega)
  have z3 : L = [] → dval L k2 3 = 0 := dval_nil
  have l3 : k2 ≤ L.length → dnx L k2 ≤ L.length := dnx_le
  generalize dval L k2 3 = v3 at n3 r3 z3
  generalize dnx L k2 = k3 at n3 l3
  have n4 := nextF L k3 3 hl
  have r4 := dval_in L k3 (n := 3) (by omega) (by omega)
  have z4 : L = [] → dval L k3 3 = 0 := dval_nil
  have l4 : k3 ≤ L.length → dnx L k3 ≤ L.length := dnx_le
  generalize dval L k3 3 = v4 at n4 r4 z4
  generalize dnx L k3 = k4 at n4 l4
  have n5 := nextF L k4 3 hl
  have r5 := dval_in L k4 (n := 3) (by omega) (by omega)
  have z5 : L = [] → dval L k4 3 = 0 := dval_nil
  have l5 : k4 ≤ L.length → dnx L k4 ≤ L.length := dnx_le
  generalize dval L k4 3 = v5 at n5 r5 z5
  generalize dnx L k4 = k5 at n5 l5
  have n6 := nextF L k5 3 hl
  have r6 := dval_in L k5 (n := 3) (by omega) (by omega)
  have z6 : L = [] → dval L k5 3 = 0 := dval_nil
  have l6 : k5 ≤ L.length → dnx L k5 ≤ L.length := dnx_le
  generalize dval L k5 3 = v6 at n6 r6 z6
  generalize dnx L k5 = k6 at n6 l6
  have hq : Int.tdiv (1 + v2 + 2 + (3 + v1) - 1) (3 + v1) = (1 + v2 + 2 + (3 + v1) - 1) / (3 + v1) := Int.tdiv_eq_ediv_of_nonneg (by omega)
  have hq1 : 0 ≤ (1 + v2 + 2 + (3 + v1) - 1) / (3 + v1) := Int.ediv_nonneg (by omega) (by omega)
  have hq2 : (1 + v2 + 2 + (3 + v1) - 1) / (3 + v1) ≤ 1 + v2 + 2 + (3 + v1) - 1 := Int.ediv_le_self _ (by omega)
  rw [← hq] at hq1 hq2
  refine ⟨⟨2 * Int.tdiv (1 + v2 + 2 + (3 + v1) - 1) (3 + v1) + 6 + v6, 3 + v1, 1 + v2, 1 + v3, 1 + v4, 1 + v5⟩, k6, ?_, ⟨⟨by dsimp only; omega, by dsimp only; omega⟩, ⟨by dsimp only; omega, by dsimp only; omega⟩, ⟨by dsimp only; omega, by dsimp only; omega⟩, ⟨by dsimp only; omega, by dsimp only; omega⟩, ⟨by dsimp only; omega, by dsimp only; omega⟩, v6, by omega, by omega, rfl⟩, ?_, fun h => l6 (l5 (l4 (l3 (l2 (l1 h)))))⟩
  rotate_left
  · intro h
    rw [z1 h, z2 h, z3 h, z4 h, z5 h, z6 h]
    rfl
  have e1 : iwrap .i64 (3 + v1) = 3 + v1 := w64_in (by omega)
  have e2 : iwrap .i64 (1 + v2) = 1 + v2 := w64_in (by omega)
  have e3 : iwrap .i64 (1 + v3) = 1 + v3 := w64_in (by omega)
  have e4 : iwrap .i64 (1 + v4) = 1 + v4 := w64_in (by omega)
  have e5 : iwrap .i64 (1 + v5) = 1 + v5 := w64_in (by omega)
  have e6 : iwrap .i64 (1 + v2 + 2) = 1 + v2 + 2 := w64_in (by omega)
  have e7 : iwrap .i64 (1 + v2 + 2 + (3 + v1)) = 1 + v2 + 2 + (3 + v1) := w64_in (by omega)
  have e8 : iwrap .i64 (1 + v2 + 2 + (3 + v1) - 1) = 1 + v2 + 2 + (3 + v1) - 1 := w64_in (by omega)
  refine funP_of_vc tabOk mixOk Try.func54 rfl (by rfl) (rs := [.cell 2 26]) rfl rfl rfl rfl rfl 41 ?_; rw [Try.ntmps54]
  (conv => whnf); repeat (first | (refine And.intro (DrawOk.mk (by first | (simp only [List.map_cons, List.map_nil, List.nil_append, List.cons_append, List.append_nil, updsL, List.length_cons, List.length_nil]; decide +kernel) | exact rfl)) ?_; conv => whnf) | (refine And.intro rfl ?_; conv => whnf) | (refine And.intro (fun _ => ?_) (fun h => Bool.noConfusion h); conv => whnf) | (refine And.intro (fun h => Bool.noConfusion h) (fun _ => ?_); conv => whnf))
  refine ⟨_, _, n1, ?_⟩
  (conv => whnf); repeat (first | (refine And.intro (DrawOk.mk (by first | (simp only [List.map_cons, List.map_nil, List.nil_append, List.cons_append, List.append_nil, updsL, List.length_cons, List.length_nil]; decide +kernel) | exact rfl)) ?_; conv => whnf) | (refine And.intro rfl ?_; conv => whnf) | (refine And.intro (fun _ => ?_) (fun h => Bool.noConfusion h); conv => whnf) | (refine And.intro (fun h => Bool.noConfusion h) (fun _ => ?_); conv => whnf))
  refine ⟨_, _, n2, ?_⟩
  (conv => whnf); repeat (first | (refine And.intro (DrawOk.mk (by first | (simp only [List.map_cons, List.map_nil, List.nil_append, List.cons_append, List.append_nil, updsL, List.length_cons, List.length_nil]; decide +kernel) | exact rfl)) ?_; conv => whnf) | (refine And.intro rfl ?_; conv => whnf) | (refine And.intro (fun _ => ?_) (fun h => Bool.noConfusion h); conv => whnf) | (refine And.intro (fun h => Bool.noConfusion h) (fun _ => ?_); conv => whnf))
  refine ⟨_, _, n3, ?_⟩
  (conv => whnf); repeat (first | (refine And.intro (DrawOk.mk (by first | (simp only [List.map_cons, List.map_nil, List.nil_append, List.cons_append, List.append_nil, updsL, List.length_cons, List.length_nil]; decide +kernel) | exact rfl)) ?_; conv => whnf) | (refine And.intro rfl ?_; conv => whnf) | (refine And.intro (fun _ => ?_) (fun h => Bool.noConfusion h); conv => whnf) | (refine And.intro (fun h => Bool.noConfusion h) (fun _ => ?_); conv => whnf))
  refine ⟨_, _, n4, ?_⟩
  (conv => whnf); repeat (first | (refine And.intro (DrawOk.mk (by first | (simp only [List.map_cons, List.map_nil, List.nil_append, List.cons_append, List.append_nil, updsL, List.length_cons, List.length_nil]; decide +kernel) | exact rfl)) ?_; conv => whnf) | (refine And.intro rfl ?_; conv => whnf) | (refine And.intro (fun _ => ?_) (fun h => Bool.noConfusion h); conv => whnf) | (refine And.intro (fun h => Bool.noConfusion h) (fun _ => ?_); conv => whnf))
  refine ⟨_, _, n5, ?_⟩
  (conv => whnf); repeat (first | (refine And.intro (DrawOk.mk (by first | (simp only [List.map_cons, List.map_nil, List.nil_append, List.cons_append, List.append_nil, updsL, List.length_cons, List.length_nil]; decide +kernel) | exact rfl)) ?_; conv => whnf) | (refine And.intro rfl ?_; conv => whnf) | (refine And.intro (fun _ => ?_) (fun h => Bool.noConfusion h); conv => whnf) | (refine And.intro (fun h => Bool.noConfusion h) (fun _ => ?_); conv => whnf))
  rw [e1, e2, e3, e4, e5]
  refine ⟨by omega, ?_⟩
  (conv => whnf); repeat (first | (refine And.intro (DrawOk.mk (by first | (simp only [List.map_cons, List.map_nil, List.nil_append, List.cons_append, List.append_nil, updsL, List.length_cons, List.length_nil]; decide +kernel) | exact rfl)) ?_; conv => whnf) | (refine And.intro rfl ?_; conv => whnf) | (refine And.intro (fun _ => ?_) (fun h => Bool.noConfusion h); conv => whnf) | (refine And.intro (fun h => Bool.noConfusion h) (fun _ => ?_); conv => whnf))
  refine ⟨_, _, n6, ?_⟩
  (conv => whnf); repeat (first | (refine And.intro (DrawOk.mk (by first | (simp only [List.map_cons, List.map_nil, List.nil_append, List.cons_append, List.append_nil, updsL, List.length_cons, List.length_nil]; decide +kernel) | exact rfl)) ?_; conv => whnf) | (refine And.intro rfl ?_; conv => whnf) | (refine And.intro (fun _ => ?_) (fun h => Bool.noConfusion h); conv => whnf) | (refine And.intro (fun h => Bool.noConfusion h) (fun _ => ?_); conv => whnf))
  rw [e6, e7, e8]
  generalize Int.tdiv (1 + v2 + 2 + (3 + v1) - 1) (3 + v1) = Q at hq1 hq2
  rw [show iwrap .i64 Q = Q from w64_in (by omega), show iwrap .i64 (2 * Q) = 2 * Q from w64_in (by omega), show iwrap .i64 (2 * Q + 6) = 2 * Q + 6 from w64_in (by omega), show iwrap .i64 (2 * Q + 6 + v6) = 2 * Q + 6 + v6 from w64_in (by omega)]
  rfl
theorem pput_len (p : Po) (c : Cf) (z : Int) : (pput p c z).1.f.length ≤ p.f.length + 1 := by
  unfold pput
  split
  · dsimp only [ins]
    have := bsI_le p.f z
    rw [List.length_append, List.length_take, List.length_cons, List.length_drop]
    omega
  · dsimp only; omega
theorem phost_len (p : Po) (c : Cf) : (phost p c).1.f.length ≤ p.f.length := by
  unfold phost
  split
  · dsimp only; rw [List.length_tail]; omega
  · exact Nat.le_refl _
theorem pclean_len (p : Po) (c : Cf) : (pclean p c).1.f.length ≤ p.f.length := by
  unfold pclean
  split
  · dsimp only; rw [List.length_tail]; omega
  · exact Nat.le_refl _
theorem pleave_len (p : Po) (c : Cf) (b : Bool) : (pleave p c b).1.f.length = p.f.length := by
  cases b <;> unfold pleave <;> dsimp only <;> split <;> rfl
theorem pleaveF (p : Po) (c : Cf) (b : Bool) (hf : p.f.length ≤ 1000000) : Fun Try.prog 63 [poV p, cfV c, bV b] [] (.tup [poV (pleave p c b).1, bV (pleave p c b).2]) := by
  cases b
  · exact pleavefalseF p c hf
  · exact pleavetrueF p c hf
theorem pleaveF' (p : Po) (c : Cf) (b : Bool) (hf : p.f.length ≤ 1000000) : Fun Try.prog 57 [poV p, cfV c, bV b] [] (.tup [poV (pleave p c b).1, bV (pleave p c b).2]) := by
  cases b
  · exact pleavefalseF' p c hf
  · exact pleavetrueF' p c hf
set_option maxRecDepth 100000 in
set_option maxHeartbeats 16000000 in
theorem pagreeF (p : Po) (c : Cf) (z : Int) (host : Bool) (hf : p.f.length ≤ 50000) : Fun Try.prog 52 [poV p, cfV c, i64V z, bV host] [] (ATbool true) := by
  have a1 := pputF p c z (by omega)
  have a2 := pputF' p c z (by omega)
  have a3 := psameF (pput p c z).1 (by have := pput_len p c z; omega)
  have b1 := phostF p c (by omega)
  have b2 := phostF' p c (by omega)
  have b3 := psameF (phost p c).1 (by have := phost_len p c; omega)
  have c1 := pcleanF p c (by omega)
  have c2 := pcleanF' p c (by omega)
  have c3 := psameF (pclean p c).1 (by have := pclean_len p c; omega)
  have d1 := pleaveF p c host (by omega)
  have d2 := pleaveF' p c host (by omega)
  have d3 := psameF (pleave p c host).1 (by have := pleave_len p c host; omega)
  have v1 := pvalidF p c (by omega)
  have v2 := pvalidF' p c (by omega)
  generalize pput p c z = R1 at a1 a2 a3
  generalize phost p c = R2 at b1 b2 b3
  generalize pclean p c = R3 at c1 c2 c3
  generalize pleave p c host = R4 at d1 d2 d3
  generalize pvalid p c = b at v1 v2
  clear hf
  obtain ⟨f, ho, cl⟩ := p
  refine fun_of_vc tabOk mixOk Try.func52 rfl (by rfl) (rs := [.tmp 8]) rfl rfl 113 ?_; rw [Try.ntmps52]
  (conv => whnf); repeat (first | (refine And.intro (DrawOk.mk (by first | (simp only [List.map_cons, List.map_nil, List.nil_append, List.cons_append, List.append_nil, updsL, List.length_cons, List.length_nil]; decide +kernel) | exact rfl)) ?_; conv => whnf) | (refine And.intro rfl ?_; conv => whnf) | (refine And.intro (fun _ => ?_) (fun h => Bool.noConfusion h); conv => whnf) | (refine And.intro (fun h => Bool.noConfusion h) (fun _ => ?_); conv => whnf))
  repeat' (first | ((refine And.intro (fun h => ?_) (fun h => ?_)) <;> (try simp at h) <;> ((conv => whnf); repeat (first | (refine And.intro (DrawOk.mk (by first | (simp only [List.map_cons, List.map_nil, List.nil_append, List.cons_append, List.append_nil, updsL, List.length_cons, List.length_nil]; decide +kernel) | exact rfl)) ?_; conv => whnf) | (refine And.intro rfl ?_; conv => whnf) | (refine And.intro (fun _ => ?_) (fun h => Bool.noConfusion h); conv => whnf) | (refine And.intro (fun h => Bool.noConfusion h) (fun _ => ?_); conv => whnf)))) | (refine ⟨_, _, a1, ?_⟩; ((conv => whnf); repeat (first | (refine And.intro (DrawOk.mk (by first | (simp only [List.map_cons, List.map_nil, List.nil_append, List.cons_append, List.append_nil, updsL, List.length_cons, List.length_nil]; decide +kernel) | exact rfl)) ?_; conv => whnf) | (refine And.intro rfl ?_; conv => whnf) | (refine And.intro (fun _ => ?_) (fun h => Bool.noConfusion h); conv => whnf) | (refine And.intro (fun h => Bool.noConfusion h) (fun _ => ?_); conv => whnf)))) | (refine ⟨_, _, a2, ?_⟩; ((conv => whnf); repeat (first | (refine And.intro (DrawOk.mk (by first | (simp only [List.map_cons, List.map_nil, List.nil_append, List.cons_append, List.append_nil, updsL, List.length_cons, List.length_nil]; decide +kernel) | exact rfl)) ?_; conv => whnf) | (refine And.intro rfl ?_; conv => whnf) | (refine And.intro (fun _ => ?_) (fun h => Bool.noConfusion h); conv => whnf) | (refine And.intro (fun h => Bool.noConfusion h) (fun _ => ?_); conv => whnf)))) | (refine ⟨_, _, a3, ?_⟩; ((conv => whnf); repeat (first | (refine And.intro (DrawOk.mk (by first | (simp only [List.map_cons, List.map_nil, List.nil_append, List.cons_append, List.append_nil, updsL, List.length_cons, List.length_nil]; decide +kernel) | exact rfl)) ?_; conv => whnf) | (refine And.intro rfl ?_; conv => whnf) | (refine And.intro (fun _ => ?_) (fun h => Bool.noConfusion h); conv => whnf) | (refine And.intro (fun h => Bool.noConfusion h) (fun _ => ?_); conv => whnf)))) | (refine ⟨_, _, v1, ?_⟩; ((conv => whnf); repeat (first | (refine And.intro (DrawOk.mk (by first | (simp only [List.map_cons, List.map_nil, List.nil_append, List.cons_append, List.append_nil, updsL, List.length_cons, List.length_nil]; decide +kernel) | exact rfl)) ?_; conv => whnf) | (refine And.intro rfl ?_; conv => whnf) | (refine And.intro (fun _ => ?_) (fun h => Bool.noConfusion h); conv => whnf) | (refine And.intro (fun h => Bool.noConfusion h) (fun _ => ?_); conv => whnf)))) | (refine ⟨_, _, v2, ?_⟩; ((conv => whnf); repeat (first | (refine And.intro (DrawOk.mk (by first | (simp only [List.map_cons, List.map_nil, List.nil_append, List.cons_append, List.append_nil, updsL, List.length_cons, List.length_nil]; decide +kernel) | exact rfl)) ?_; conv => whnf) | (refine And.intro rfl ?_; conv => whnf) | (refine And.intro (fun _ => ?_) (fun h => Bool.noConfusion h); conv => whnf) | (refine And.intro (fun h => Bool.noConfusion h) (fun _ => ?_); conv => whnf)))) | fail)
  all_goals try (exfalso; simp_all; done)
  repeat' (first | ((refine And.intro (fun h => ?_) (fun h => ?_)) <;> (try simp at h) <;> ((conv => whnf); repeat (first | (refine And.intro (DrawOk.mk (by first | (simp only [List.map_cons, List.map_nil, List.nil_append, List.cons_append, List.append_nil, updsL, List.length_cons, List.length_nil]; decide +kernel) | exact rfl)) ?_; conv => whnf) | (refine And.intro rfl ?_; conv => whnf) | (refine And.intro (fun _ => ?_) (fun h => Bool.noConfusion h); conv => whnf) | (refine And.intro (fun h => Bool.noConfusion h) (fun _ => ?_); conv => whnf)))) | (refine ⟨_, _, b1, ?_⟩; ((conv => whnf); repeat (first | (refine And.intro (DrawOk.mk (by first | (simp only [List.map_cons, List.map_nil, List.nil_append, List.cons_append, List.append_nil, updsL, List.length_cons, List.length_nil]; decide +kernel) | exact rfl)) ?_; conv => whnf) | (refine And.intro rfl ?_; conv => whnf) | (refine And.intro (fun _ => ?_) (fun h => Bool.noConfusion h); conv => whnf) | (refine And.intro (fun h => Bool.noConfusion h) (fun _ => ?_); conv => whnf)))) | (refine ⟨_, _, b2, ?_⟩; ((conv => whnf); repeat (first | (refine And.intro (DrawOk.mk (by first | (simp only [List.map_cons, List.map_nil, List.nil_append, List.cons_append, List.append_nil, updsL, List.length_cons, List.length_nil]; decide +kernel) | exact rfl)) ?_; conv => whnf) | (refine And.intro rfl ?_; conv => whnf) | (refine And.intro (fun _ => ?_) (fun h => Bool.noConfusion h); conv => whnf) | (refine And.intro (fun h => Bool.noConfusion h) (fun _ => ?_); conv => whnf)))) | (refine ⟨_, _, b3, ?_⟩; ((conv => whnf); repeat (first | (refine And.intro (DrawOk.mk (by first | (simp only [List.map_cons, List.map_nil, List.nil_append, List.cons_append, List.append_nil, updsL, List.length_cons, List.length_nil]; decide +kernel) | exact rfl)) ?_; conv => whnf) | (refine And.intro rfl ?_; conv => whnf) | (refine And.intro (fun _ => ?_) (fun h => Bool.noConfusion h); conv => whnf) | (refine And.intro (fun h => Bool.noConfusion h) (fun _ => ?_); conv => whnf)))) | fail)
  all_goals try (exfalso; simp_all; done)
  repeat' (first | ((refine And.intro (fun h => ?_) (fun h => ?_)) <;> (try simp at h) <;> ((conv => whnf); repeat (first | (refine And.intro (DrawOk.mk (by first | (simp only [List.map_cons, List.map_nil, List.nil_append, List.cons_append, List.append_nil, updsL, List.length_cons, List.length_nil]; decide +kernel) | exact rfl)) ?_; conv => whnf) | (refine And.intro rfl ?_; conv => whnf) | (refine And.intro (fun _ => ?_) (fun h => Bool.noConfusion h); conv => whnf) | (refine And.intro (fun h => Bool.noConfusion h) (fun _ => ?_); conv => whnf)))) | (refine ⟨_, _, c1, ?_⟩; ((conv => whnf); repeat (first | (refine And.intro (DrawOk.mk (by first | (simp only [List.map_cons, List.map_nil, List.nil_append, List.cons_append, List.append_nil, updsL, List.length_cons, List.length_nil]; decide +kernel) | exact rfl)) ?_; conv => whnf) | (refine And.intro rfl ?_; conv => whnf) | (refine And.intro (fun _ => ?_) (fun h => Bool.noConfusion h); conv => whnf) | (refine And.intro (fun h => Bool.noConfusion h) (fun _ => ?_); conv => whnf)))) | (refine ⟨_, _, c2, ?_⟩; ((conv => whnf); repeat (first | (refine And.intro (DrawOk.mk (by first | (simp only [List.map_cons, List.map_nil, List.nil_append, List.cons_append, List.append_nil, updsL, List.length_cons, List.length_nil]; decide +kernel) | exact rfl)) ?_; conv => whnf) | (refine And.intro rfl ?_; conv => whnf) | (refine And.intro (fun _ => ?_) (fun h => Bool.noConfusion h); conv => whnf) | (refine And.intro (fun h => Bool.noConfusion h) (fun _ => ?_); conv => whnf)))) | (refine ⟨_, _, c3, ?_⟩; ((conv => whnf); repeat (first | (refine And.intro (DrawOk.mk (by first | (simp only [List.map_cons, List.map_nil, List.nil_append, List.cons_append, List.append_nil, updsL, List.length_cons, List.length_nil]; decide +kernel) | exact rfl)) ?_; conv => whnf) | (refine And.intro rfl ?_; conv => whnf) | (refine And.intro (fun _ => ?_) (fun h => Bool.noConfusion h); conv => whnf) | (refine And.intro (fun h => Bool.noConfusion h) (fun _ => ?_); conv => whnf)))) | fail)
  all_goals try (exfalso; simp_all; done)
  repeat' (first | ((refine And.intro (fun h => ?_) (fun h => ?_)) <;> (try simp at h) <;> ((conv => whnf); repeat (first | (refine And.intro (DrawOk.mk (by first | (simp only [List.map_cons, List.map_nil, List.nil_append, List.cons_append, List.append_nil, updsL, List.length_cons, List.length_nil]; decide +kernel) | exact rfl)) ?_; conv => whnf) | (refine And.intro rfl ?_; conv => whnf) | (refine And.intro (fun _ => ?_) (fun h => Bool.noConfusion h); conv => whnf) | (refine And.intro (fun h => Bool.noConfusion h) (fun _ => ?_); conv => whnf)))) | (refine ⟨_, _, d1, ?_⟩; ((conv => whnf); repeat (first | (refine And.intro (DrawOk.mk (by first | (simp only [List.map_cons, List.map_nil, List.nil_append, List.cons_append, List.append_nil, updsL, List.length_cons, List.length_nil]; decide +kernel) | exact rfl)) ?_; conv => whnf) | (refine And.intro rfl ?_; conv => whnf) | (refine And.intro (fun _ => ?_) (fun h => Bool.noConfusion h); conv => whnf) | (refine And.intro (fun h => Bool.noConfusion h) (fun _ => ?_); conv => whnf)))) | (refine ⟨_, _, d2, ?_⟩; ((conv => whnf); repeat (first | (refine And.intro (DrawOk.mk (by first | (simp only [List.map_cons, List.map_nil, List.nil_append, List.cons_append, List.append_nil, updsL, List.length_cons, List.length_nil]; decide +kernel) | exact rfl)) ?_; conv => whnf) | (refine And.intro rfl ?_; conv => whnf) | (refine And.intro (fun _ => ?_) (fun h => Bool.noConfusion h); conv => whnf) | (refine And.intro (fun h => Bool.noConfusion h) (fun _ => ?_); conv => whnf)))) | (refine ⟨_, _, d3, ?_⟩; ((conv => whnf); repeat (first | (refine And.intro (DrawOk.mk (by first | (simp only [List.map_cons, List.map_nil, List.nil_append, List.cons_append, List.append_nil, updsL, List.length_cons, List.length_nil]; decide +kernel) | exact rfl)) ?_; conv => whnf) | (refine And.intro rfl ?_; conv => whnf) | (refine And.intro (fun _ => ?_) (fun h => Bool.noConfusion h); conv => whnf) | (refine And.intro (fun h => Bool.noConfusion h) (fun _ => ?_); conv => whnf)))) | fail)
  all_goals
    refine Exists.intro [] (And.intro List.nodup_nil ?_); ((conv => whnf); repeat (first | (refine And.intro (DrawOk.mk (by first | (simp only [List.map_cons, List.map_nil, List.nil_append, List.cons_append, List.append_nil, updsL, List.length_cons, List.length_nil]; decide +kernel) | exact rfl)) ?_; conv => whnf) | (refine And.intro rfl ?_; conv => whnf) | (refine And.intro (fun _ => ?_) (fun h => Bool.noConfusion h); conv => whnf) | (refine And.intro (fun h => Bool.noConfusion h) (fun _ => ?_); conv => whnf)))
    first
      | rfl
      | (simp; rfl)
set_option maxRecDepth 100000 in
set_option maxHeartbeats 16000000 in
theorem pawakeF : Fun Try.prog 53 [] [] (ATbool true) := by
  obtain ⟨c, k', hs, _, hc, _⟩ := smallF [] 0 (by simp)
  have hc := hc rfl
  subst hc
  have a1 := phostF ⟨[3, 4, 5], -1, -1⟩ ⟨8, 3, 1, 1, 1, 1⟩ (by simp)
  rw [show phost ⟨[3, 4, 5], -1, -1⟩ ⟨8, 3, 1, 1, 1, 1⟩ = (⟨[4, 5], 3, -1⟩, true) by unfold phost; rw [if_pos (by decide +kernel)]; rfl] at a1
  have a2 := pleaveF ⟨[4, 5], 3, -1⟩ ⟨8, 3, 1, 1, 1, 1⟩ true (by simp)
  rw [show pleave ⟨[4, 5], 3, -1⟩ ⟨8, 3, 1, 1, 1, 1⟩ true = (⟨[4, 5], -1, -1⟩, true) by unfold pleave; dsimp only; rw [if_pos (by decide +kernel)]] at a2
  have a3 := phostF ⟨[4, 5], -1, -1⟩ ⟨8, 3, 1, 1, 1, 1⟩ (by simp)
  rw [show phost ⟨[4, 5], -1, -1⟩ ⟨8, 3, 1, 1, 1, 1⟩ = (⟨[4, 5], -1, -1⟩, false) by unfold phost; rw [if_neg (by decide +kernel)]] at a3
  have a4 := pcleanF ⟨[4, 5], -1, -1⟩ ⟨8, 3, 1, 1, 1, 1⟩ (by simp)
  rw [show pclean ⟨[4, 5], -1, -1⟩ ⟨8, 3, 1, 1, 1, 1⟩ = (⟨[5], -1, 4⟩, true) by unfold pclean; rw [if_pos (by decide +kernel)]; rfl] at a4
  refine fun_of_vc tabOk mixOk Try.func53 rfl (by rfl) (rs := [.tmp 0]) rfl rfl 70 ?_; rw [Try.ntmps53]
  (conv => whnf); repeat (first | (refine And.intro (DrawOk.mk (by first | (simp only [List.map_cons, List.map_nil, List.nil_append, List.cons_append, List.append_nil, updsL, List.length_cons, List.length_nil]; decide +kernel) | exact rfl)) ?_; conv => whnf) | (refine And.intro rfl ?_; conv => whnf) | (refine And.intro (fun _ => ?_) (fun h => Bool.noConfusion h); conv => whnf) | (refine And.intro (fun h => Bool.noConfusion h) (fun _ => ?_); conv => whnf))
  refine ⟨_, _, rollF [] (by simp), ?_⟩
  (conv => whnf); repeat (first | (refine And.intro (DrawOk.mk (by first | (simp only [List.map_cons, List.map_nil, List.nil_append, List.cons_append, List.append_nil, updsL, List.length_cons, List.length_nil]; decide +kernel) | exact rfl)) ?_; conv => whnf) | (refine And.intro rfl ?_; conv => whnf) | (refine And.intro (fun _ => ?_) (fun h => Bool.noConfusion h); conv => whnf) | (refine And.intro (fun h => Bool.noConfusion h) (fun _ => ?_); conv => whnf))
  refine ⟨_, _, hs, ?_⟩
  (conv => whnf); repeat (first | (refine And.intro (DrawOk.mk (by first | (simp only [List.map_cons, List.map_nil, List.nil_append, List.cons_append, List.append_nil, updsL, List.length_cons, List.length_nil]; decide +kernel) | exact rfl)) ?_; conv => whnf) | (refine And.intro rfl ?_; conv => whnf) | (refine And.intro (fun _ => ?_) (fun h => Bool.noConfusion h); conv => whnf) | (refine And.intro (fun h => Bool.noConfusion h) (fun _ => ?_); conv => whnf))
  refine ⟨_, _, a1, ?_⟩
  (conv => whnf); repeat (first | (refine And.intro (DrawOk.mk (by first | (simp only [List.map_cons, List.map_nil, List.nil_append, List.cons_append, List.append_nil, updsL, List.length_cons, List.length_nil]; decide +kernel) | exact rfl)) ?_; conv => whnf) | (refine And.intro rfl ?_; conv => whnf) | (refine And.intro (fun _ => ?_) (fun h => Bool.noConfusion h); conv => whnf) | (refine And.intro (fun h => Bool.noConfusion h) (fun _ => ?_); conv => whnf))
  refine ⟨_, _, a2, ?_⟩
  (conv => whnf); repeat (first | (refine And.intro (DrawOk.mk (by first | (simp only [List.map_cons, List.map_nil, List.nil_append, List.cons_append, List.append_nil, updsL, List.length_cons, List.length_nil]; decide +kernel) | exact rfl)) ?_; conv => whnf) | (refine And.intro rfl ?_; conv => whnf) | (refine And.intro (fun _ => ?_) (fun h => Bool.noConfusion h); conv => whnf) | (refine And.intro (fun h => Bool.noConfusion h) (fun _ => ?_); conv => whnf))
  refine ⟨_, _, a3, ?_⟩
  (conv => whnf); repeat (first | (refine And.intro (DrawOk.mk (by first | (simp only [List.map_cons, List.map_nil, List.nil_append, List.cons_append, List.append_nil, updsL, List.length_cons, List.length_nil]; decide +kernel) | exact rfl)) ?_; conv => whnf) | (refine And.intro rfl ?_; conv => whnf) | (refine And.intro (fun _ => ?_) (fun h => Bool.noConfusion h); conv => whnf) | (refine And.intro (fun h => Bool.noConfusion h) (fun _ => ?_); conv => whnf))
  refine ⟨_, _, a4, ?_⟩
  (conv => whnf); repeat (first | (refine And.intro (DrawOk.mk (by first | (simp only [List.map_cons, List.map_nil, List.nil_append, List.cons_append, List.append_nil, updsL, List.length_cons, List.length_nil]; decide +kernel) | exact rfl)) ?_; conv => whnf) | (refine And.intro rfl ?_; conv => whnf) | (refine And.intro (fun _ => ?_) (fun h => Bool.noConfusion h); conv => whnf) | (refine And.intro (fun h => Bool.noConfusion h) (fun _ => ?_); conv => whnf))
  refine Exists.intro [] (And.intro List.nodup_nil ?_); ((conv => whnf); repeat (first | (refine And.intro (DrawOk.mk (by first | (simp only [List.map_cons, List.map_nil, List.nil_append, List.cons_append, List.append_nil, updsL, List.length_cons, List.length_nil]; decide +kernel) | exact rfl)) ?_; conv => whnf) | (refine And.intro rfl ?_; conv => whnf) | (refine And.intro (fun _ => ?_) (fun h => Bool.noConfusion h); conv => whnf) | (refine And.intro (fun h => Bool.noConfusion h) (fun _ => ?_); conv => whnf)))
  rfl
set_option maxRecDepth 100000 in
set_option maxHeartbeats 16000000 in
theorem pRawF (p : Po) (c : Cf) (z : Int) (host : Bool) (hf : p.f.length ≤ 140737488351232) : Fun Try.prog 12 [poV p, cfV c, i64V z, bV host] [] (ATbool true) := by
  have aw := pawakeF
  obtain ⟨f, ho, cl⟩ := p
  dsimp only at hf
  by_cases h : f.length ≤ 100
  · have ag := pagreeF ⟨f, ho, cl⟩ c z host (by dsimp only; omega)
    refine fun_of_vc tabOk mixOk Try.func12 rfl (by rfl) (rs := [.tmp 8]) rfl rfl 27 ?_; rw [Try.ntmps12]
    (conv => whnf); repeat (first | (refine And.intro (DrawOk.mk (by first | (simp only [List.map_cons, List.map_nil, List.nil_append, List.cons_append, List.append_nil, updsL, List.length_cons, List.length_nil]; decide +kernel) | exact rfl)) ?_; conv => whnf) | (refine And.intro rfl ?_; conv => whnf) | (refine And.intro (fun _ => ?_) (fun h => Bool.noConfusion h); conv => whnf) | (refine And.intro (fun h => Bool.noConfusion h) (fun _ => ?_); conv => whnf))
    refine And.intro (fun h => by have := of_decide_eq_true h; rw [pwLen] at this; dsimp only at this; omega) (fun _ => ?_)
    (conv => whnf); repeat (first | (refine And.intro (DrawOk.mk (by first | (simp only [List.map_cons, List.map_nil, List.nil_append, List.cons_append, List.append_nil, updsL, List.length_cons, List.length_nil]; decide +kernel) | exact rfl)) ?_; conv => whnf) | (refine And.intro rfl ?_; conv => whnf) | (refine And.intro (fun _ => ?_) (fun h => Bool.noConfusion h); conv => whnf) | (refine And.intro (fun h => Bool.noConfusion h) (fun _ => ?_); conv => whnf))
    refine ⟨_, _, ag, ?_⟩
    (conv => whnf); repeat (first | (refine And.intro (DrawOk.mk (by first | (simp only [List.map_cons, List.map_nil, List.nil_append, List.cons_append, List.append_nil, updsL, List.length_cons, List.length_nil]; decide +kernel) | exact rfl)) ?_; conv => whnf) | (refine And.intro rfl ?_; conv => whnf) | (refine And.intro (fun _ => ?_) (fun h => Bool.noConfusion h); conv => whnf) | (refine And.intro (fun h => Bool.noConfusion h) (fun _ => ?_); conv => whnf))
    refine ⟨_, _, aw, ?_⟩
    (conv => whnf); repeat (first | (refine And.intro (DrawOk.mk (by first | (simp only [List.map_cons, List.map_nil, List.nil_append, List.cons_append, List.append_nil, updsL, List.length_cons, List.length_nil]; decide +kernel) | exact rfl)) ?_; conv => whnf) | (refine And.intro rfl ?_; conv => whnf) | (refine And.intro (fun _ => ?_) (fun h => Bool.noConfusion h); conv => whnf) | (refine And.intro (fun h => Bool.noConfusion h) (fun _ => ?_); conv => whnf))
    refine Exists.intro [] (And.intro List.nodup_nil ?_); ((conv => whnf); repeat (first | (refine And.intro (DrawOk.mk (by first | (simp only [List.map_cons, List.map_nil, List.nil_append, List.cons_append, List.append_nil, updsL, List.length_cons, List.length_nil]; decide +kernel) | exact rfl)) ?_; conv => whnf) | (refine And.intro rfl ?_; conv => whnf) | (refine And.intro (fun _ => ?_) (fun h => Bool.noConfusion h); conv => whnf) | (refine And.intro (fun h => Bool.noConfusion h) (fun _ => ?_); conv => whnf)))
    rfl
  · refine fun_of_vc tabOk mixOk Try.func12 rfl (by rfl) (rs := [.tmp 8]) rfl rfl 27 ?_; rw [Try.ntmps12]
    (conv => whnf); repeat (first | (refine And.intro (DrawOk.mk (by first | (simp only [List.map_cons, List.map_nil, List.nil_append, List.cons_append, List.append_nil, updsL, List.length_cons, List.length_nil]; decide +kernel) | exact rfl)) ?_; conv => whnf) | (refine And.intro rfl ?_; conv => whnf) | (refine And.intro (fun _ => ?_) (fun h => Bool.noConfusion h); conv => whnf) | (refine And.intro (fun h => Bool.noConfusion h) (fun _ => ?_); conv => whnf))
    refine And.intro (fun _ => ?_) (fun h => by have := of_decide_eq_false h; rw [pwLen] at this; dsimp only at this; omega)
    (conv => whnf); repeat (first | (refine And.intro (DrawOk.mk (by first | (simp only [List.map_cons, List.map_nil, List.nil_append, List.cons_append, List.append_nil, updsL, List.length_cons, List.length_nil]; decide +kernel) | exact rfl)) ?_; conv => whnf) | (refine And.intro rfl ?_; conv => whnf) | (refine And.intro (fun _ => ?_) (fun h => Bool.noConfusion h); conv => whnf) | (refine And.intro (fun h => Bool.noConfusion h) (fun _ => ?_); conv => whnf))
    refine ⟨_, _, aw, ?_⟩
    (conv => whnf); repeat (first | (refine And.intro (DrawOk.mk (by first | (simp only [List.map_cons, List.map_nil, List.nil_append, List.cons_append, List.append_nil, updsL, List.length_cons, List.length_nil]; decide +kernel) | exact rfl)) ?_; conv => whnf) | (refine And.intro rfl ?_; conv => whnf) | (refine And.intro (fun _ => ?_) (fun h => Bool.noConfusion h); conv => whnf) | (refine And.intro (fun h => Bool.noConfusion h) (fun _ => ?_); conv => whnf))
    refine Exists.intro [] (And.intro List.nodup_nil ?_); ((conv => whnf); repeat (first | (refine And.intro (DrawOk.mk (by first | (simp only [List.map_cons, List.map_nil, List.nil_append, List.cons_append, List.append_nil, updsL, List.length_cons, List.length_nil]; decide +kernel) | exact rfl)) ?_; conv => whnf) | (refine And.intro rfl ?_; conv => whnf) | (refine And.intro (fun _ => ?_) (fun h => Bool.noConfusion h); conv => whnf) | (refine And.intro (fun h => Bool.noConfusion h) (fun _ => ?_); conv => whnf)))
    rfl
theorem pool_of {d : Nat} {e : List IV} (h : ShI tab (d + 2 + 1 + 1) 41 e) : ∃ (f : List Int) (h c : Int), e = [.sl (wV f), .sc (.int .i64 h), .sc (.int .i64 c)] := by
  obtain ⟨_, _, rfl, ⟨l, rfl, _, hl⟩, _, _, rfl, ⟨h, rfl, _⟩, _, _, rfl, ⟨c, rfl, _⟩, rfl⟩ := h
  obtain ⟨ls, rfl⟩ := ints_of l (fun r hr => (hl r hr).2)
  exact ⟨ls, h, c, rfl⟩
theorem conf_of {d : Nat} {e : List IV} (h : ShI tab (d + 2 + 1 + 1) 26 e) : ∃ c : Cf, e = [.sc (.int .i64 c.z), .sc (.int .i64 c.s), .sc (.int .i64 c.b), .sc (.int .i64 c.q), .sc (.int .i64 c.d), .sc (.int .i64 c.h)] := by
  obtain ⟨_, _, rfl, ⟨z, rfl, _⟩, _, _, rfl, ⟨s, rfl, _⟩, _, _, rfl, ⟨b, rfl, _⟩, _, _, rfl, ⟨q, rfl, _⟩, _, _, rfl, ⟨dd, rfl, _⟩, _, _, rfl, ⟨hh, rfl, _⟩, rfl⟩ := h
  exact ⟨⟨z, s, b, q, dd, hh⟩, rfl⟩
end Go.Proofs.Ytijajfldpaadnaa.Ab
namespace Go.Proofs.Ytijajfldpaadnaa
set_option linter.unusedVariables false
set_option linter.unusedSimpArgs false
open Ab
set_option maxRecDepth 100000 in
theorem poolRaw.walk {H : Type} {enc : TypeId × Value → H} {W : World} {base : Nat} (v : Value) (d : DataW H) (p : List MemPlace) (hv : Value.okWide Try.prog W .any base 41 v)
    (h : DataW.Trod enc Try.prog W 0 (fun _ => true) true 41 v d p) (hw : ∀ n ∈ d.weights Try.prog 41, n ≤ 140737488351232)
    (v2 : Value) (d2 : DataW H) (p2 : List MemPlace) (hv2 : Value.okWide Try.prog W .any base 26 v2) (h2 : DataW.Trod enc Try.prog W 0 (fun _ => true) true 26 v2 d2 p2) (_hw2 : ∀ n ∈ d2.weights Try.prog 26, n ≤ 140737488351232)
    (a1 : Int) (_w1 : (Lit.int .i64 a1).wf = true) (a2 : Bool)
    (W' : World) (hW : W' = W := by rfl) : Calls Try.prog 12 #[v, v2, .int .i64 a1, .bool a2] W' (True1 W') := by
  subst hW
  obtain ⟨r, s1, s2⟩ := open_agg tabOk 6 (t := 41) (by decide +kernel) (by rfl) hv h
  obtain ⟨f, ho, cl, rfl⟩ := pool_of (d := 2) s1
  obtain ⟨r2, q1, q2⟩ := open_agg tabOk 6 (t := 26) (by decide +kernel) (by rfl) hv2 h2
  obtain ⟨c, rfl⟩ := conf_of (d := 2) q1
  obtain ⟨arr, rfl, hsz, hcells⟩ := s2 (fun _ _ => undef) (fun _ => 0)
  have hsz' : arr.size = 3 := hsz
  have c0 := field_bound tabOk (t := 41) (o := 0) (g := 22) (e := 3) rfl (by decide) rfl rfl h hw (Array.getElem?_eq_getElem (by omega)) (hcells 0 _ _ (Array.getElem?_eq_getElem (by omega)) rfl).1
  rw [bytesOf_eq tabOk (fun h => TK.noConfusion h)] at c0
  have c0' : (wV f).length * 8 ≤ 140737488351232 := c0
  exact law_of_fun (pRawF ⟨f, ho, cl⟩ c a1 a2 (by rw [pwLen] at c0'; dsimp only; omega)) rfl (reps_get (vs := [_, _, _, _]) ⟨s2 _ _, q2 _ _, .sc _ rfl, .sc _ rfl, trivial⟩)
end Go.Proofs.Ytijajfldpaadnaa
