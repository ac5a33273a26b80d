/- The submission queues: the law RingRaw. -/
import Derived.Test.YtopdpfbkdgncaaaRr
import Derived.Test.YtopdpfbkdgncaaaFq
namespace Go.Proofs.Ytopdpfbkdgncaaa.Ab
set_option linter.unusedVariables false
set_option linter.unusedSimpArgs false
open Go.RowKit

theorem rq_of {d : Nat} {r : List IV} (h : ShI tab (d + 3) 50 r) : ∃ q : Rq, r = q.cs := by
  obtain ⟨a, b, rfl, ⟨s, rfl, _⟩, c, e, rfl, ⟨k1, k2, rfl, ⟨k, rfl, _⟩, l1, l2, rfl, ⟨bl, rfl, _⟩, m1, m2, rfl, ⟨da, rfl, _⟩, rfl⟩, rfl⟩ := h
  exact ⟨⟨s, k, bl, da⟩, rfl⟩
theorem rqs_of {d : Nat} (es : List (List IV)) (h : ∀ r ∈ es, ShI tab (d + 3) 50 r) : ∃ xs : List Rq, es = xs.map Rq.cs := by
  induction es with
  | nil => exact ⟨[], rfl⟩
  | cons e es ih =>
    obtain ⟨xs, rfl⟩ := ih (fun r hr => h r (List.mem_cons_of_mem _ hr))
    obtain ⟨q, rfl⟩ := rq_of (h e List.mem_cons_self)
    exact ⟨q :: xs, rfl⟩
theorem ring_of {r : List IV} (h : ShI tab 6 46 r) : ∃ (d : Int) (xs : List Rq), AV.agg (r.map .i) = ringV d xs := by
  obtain ⟨a, b, rfl, ⟨s, rfl, _⟩, c, e, rfl, ⟨es, rfl, _, hes⟩, rfl⟩ := h
  obtain ⟨xs, rfl⟩ := rqs_of (d := 1) es (fun r hr => (hes r hr).2)
  exact ⟨s, xs, rfl⟩

set_option maxRecDepth 100000 in
set_option maxHeartbeats 4000000 in
/-- What is compared with itself is the same. -/
theorem rsame (d : Int) (xs : List Rq) (hl : xs.length ≤ 1000000) : Fun Try.prog 30 [ringV d xs, ringV d xs] [] (ATbool true) := by
  refine fun_of_vc tabOk mixOk Try.func30 rfl (by rfl) (rs := [.tmp 4]) rfl rfl 42 ?_; rw [Try.ntmps30]
  (conv => whnf); repeat (first | (refine And.intro rfl ?_; conv => whnf) | (refine And.intro (fun _ => ?_) (fun h => Bool.noConfusion h); conv => whnf) | (refine And.intro (fun h => Bool.noConfusion h) (fun _ => ?_); conv => whnf))
  refine And.intro (fun h1 => by simp at h1) (fun _ => ?_)
  (conv => whnf); repeat (first | (refine And.intro rfl ?_; conv => whnf) | (refine And.intro (fun _ => ?_) (fun h => Bool.noConfusion h); conv => whnf) | (refine And.intro (fun h => Bool.noConfusion h) (fun _ => ?_); conv => whnf))
  refine And.intro (fun h1 => by simp at h1) (fun _ => ?_)
  (conv => whnf); repeat (first | (refine And.intro rfl ?_; conv => whnf) | (refine And.intro (fun _ => ?_) (fun h => Bool.noConfusion h); conv => whnf) | (refine And.intro (fun h => Bool.noConfusion h) (fun _ => ?_); conv => whnf))
  refine vc_loop [2, 3] [2, 3] (X := Nat) (fun k gs => [(5, ATint k)]) (fun _ _ => []) (fun k => k ≤ xs.length) (fun k => xs.length - k) _ (Ghost.refl _) 0 (by omega) ?_ ?_
  · (refine And.intro rfl (And.intro rfl ?_)); (repeat' (first | exact trivial | exact rfl | apply And.intro | (refine congrArg (Value.int .i64) (w64_nat ?_); omega)))
  rintro gs k hk
  (conv => whnf); repeat (first | (refine And.intro rfl ?_; conv => whnf) | (refine And.intro (fun _ => ?_) (fun h => Bool.noConfusion h); conv => whnf) | (refine And.intro (fun h => Bool.noConfusion h) (fun _ => ?_); conv => whnf))
  refine And.intro (fun h4 => ?_) (fun h4 => ?_)
  · have hlt : k < xs.length := by simpa using h4
    (conv => whnf); repeat (first | (refine And.intro rfl ?_; conv => whnf) | (refine And.intro (fun _ => ?_) (fun h => Bool.noConfusion h); conv => whnf) | (refine And.intro (fun h => Bool.noConfusion h) (fun _ => ?_); conv => whnf))
    refine ⟨by omega, xs[k].cs, item hlt, rfl, ?_⟩
    (conv => whnf); repeat (first | (refine And.intro rfl ?_; conv => whnf) | (refine And.intro (fun _ => ?_) (fun h => Bool.noConfusion h); conv => whnf) | (refine And.intro (fun h => Bool.noConfusion h) (fun _ => ?_); conv => whnf))
    refine ⟨by omega, xs[k].cs, item hlt, rfl, ?_⟩
    (conv => whnf); repeat (first | (refine And.intro rfl ?_; conv => whnf) | (refine And.intro (fun _ => ?_) (fun h => Bool.noConfusion h); conv => whnf) | (refine And.intro (fun h => Bool.noConfusion h) (fun _ => ?_); conv => whnf))
    refine And.intro (fun h5 => by simp at h5) (fun _ => ?_)
    (conv => whnf); repeat (first | (refine And.intro rfl ?_; conv => whnf) | (refine And.intro (fun _ => ?_) (fun h => Bool.noConfusion h); conv => whnf) | (refine And.intro (fun h => Bool.noConfusion h) (fun _ => ?_); conv => whnf))
    refine again (k + 1) hlt (by omega) ?_
    (refine And.intro rfl (And.intro rfl ?_)); (repeat' (first | exact trivial | exact rfl | apply And.intro | (refine congrArg (Value.int .i64) (w64_nat ?_); omega)))
  · (conv => whnf); repeat (first | (refine And.intro rfl ?_; conv => whnf) | (refine And.intro (fun _ => ?_) (fun h => Bool.noConfusion h); conv => whnf) | (refine And.intro (fun h => Bool.noConfusion h) (fun _ => ?_); conv => whnf))
    refine Exists.intro [] (And.intro List.nodup_nil ?_); ((conv => whnf); repeat (first | (refine And.intro rfl ?_; conv => whnf) | (refine And.intro (fun _ => ?_) (fun h => Bool.noConfusion h); conv => whnf) | (refine And.intro (fun h => Bool.noConfusion h) (fun _ => ?_); conv => whnf)))
    rfl

theorem rq_ne (x : Rq) : True := trivial

set_option maxRecDepth 100000 in
set_option maxHeartbeats 4000000 in
theorem ragree (d : Int) (xs : List Rq) (x : Rq) (hl : xs.length ≤ 100000) : Fun Try.prog 29 [ringV d xs, rqV x] [] (ATbool true) := by
  have hls : (rsub d xs x).1.length ≤ 1000000 := by
    unfold rsub
    split
    · dsimp only; omega
    split
    · dsimp only; omega
    split
    · dsimp only; omega
    · simp; omega
  obtain ⟨q, y, b, hr, hq⟩ : ∃ q y b, rtk d xs = .tup [ringV d q, rqV y, bV b] ∧ q.length ≤ 1000000 := by
    unfold rtk
    split
    · rename_i z zs _; exact ⟨_, _, _, rfl, by simp at hl; omega⟩
    · exact ⟨_, _, _, rfl, by omega⟩
  have t1 := rtake d xs (by omega)
  have t2 := rtake' d xs (by omega)
  rw [hr] at t1 t2
  generalize hs : rsub d xs x = s at hls
  obtain ⟨s1, s2⟩ := s
  have u1 := rsubmit d xs x (by omega)
  have u2 := rsubmit' d xs x (by omega)
  rw [hs] at u1 u2
  refine fun_of_vc tabOk mixOk Try.func29 rfl (by rfl) (rs := [.tmp 4]) rfl rfl 73 ?_; rw [Try.ntmps29]
  (conv => whnf); repeat (first | (refine And.intro rfl ?_; conv => whnf) | (refine And.intro (fun _ => ?_) (fun h => Bool.noConfusion h); conv => whnf) | (refine And.intro (fun h => Bool.noConfusion h) (fun _ => ?_); conv => whnf))
  refine ⟨_, _, u1, ?_⟩
  (conv => whnf); repeat (first | (refine And.intro rfl ?_; conv => whnf) | (refine And.intro (fun _ => ?_) (fun h => Bool.noConfusion h); conv => whnf) | (refine And.intro (fun h => Bool.noConfusion h) (fun _ => ?_); conv => whnf))
  refine ⟨_, _, u2, ?_⟩
  (conv => whnf); repeat (first | (refine And.intro rfl ?_; conv => whnf) | (refine And.intro (fun _ => ?_) (fun h => Bool.noConfusion h); conv => whnf) | (refine And.intro (fun h => Bool.noConfusion h) (fun _ => ?_); conv => whnf))
  refine ⟨_, _, t1, ?_⟩
  (conv => whnf); repeat (first | (refine And.intro rfl ?_; conv => whnf) | (refine And.intro (fun _ => ?_) (fun h => Bool.noConfusion h); conv => whnf) | (refine And.intro (fun h => Bool.noConfusion h) (fun _ => ?_); conv => whnf))
  refine ⟨_, _, t2, ?_⟩
  (conv => whnf); repeat (first | (refine And.intro rfl ?_; conv => whnf) | (refine And.intro (fun _ => ?_) (fun h => Bool.noConfusion h); conv => whnf) | (refine And.intro (fun h => Bool.noConfusion h) (fun _ => ?_); conv => whnf))
  refine And.intro (fun _ => ?_) (fun h => by simp at h)
  (conv => whnf); repeat (first | (refine And.intro rfl ?_; conv => whnf) | (refine And.intro (fun _ => ?_) (fun h => Bool.noConfusion h); conv => whnf) | (refine And.intro (fun h => Bool.noConfusion h) (fun _ => ?_); conv => whnf))
  refine And.intro (fun _ => ?_) (fun h => by simp at h)
  (conv => whnf); repeat (first | (refine And.intro rfl ?_; conv => whnf) | (refine And.intro (fun _ => ?_) (fun h => Bool.noConfusion h); conv => whnf) | (refine And.intro (fun h => Bool.noConfusion h) (fun _ => ?_); conv => whnf))
  refine And.intro (fun _ => ?_) (fun h => by simp at h)
  (conv => whnf); repeat (first | (refine And.intro rfl ?_; conv => whnf) | (refine And.intro (fun _ => ?_) (fun h => Bool.noConfusion h); conv => whnf) | (refine And.intro (fun h => Bool.noConfusion h) (fun _ => ?_); conv => whnf))
  refine ⟨_, _, rsame d s1 hls, ?_⟩
  (conv => whnf); repeat (first | (refine And.intro rfl ?_; conv => whnf) | (refine And.intro (fun _ => ?_) (fun h => Bool.noConfusion h); conv => whnf) | (refine And.intro (fun h => Bool.noConfusion h) (fun _ => ?_); conv => whnf))
  refine ⟨_, _, rsame d q hq, ?_⟩
  (conv => whnf); repeat (first | (refine And.intro rfl ?_; conv => whnf) | (refine And.intro (fun _ => ?_) (fun h => Bool.noConfusion h); conv => whnf) | (refine And.intro (fun h => Bool.noConfusion h) (fun _ => ?_); conv => whnf))
  refine ⟨_, _, ringvalid d xs (by omega), ?_⟩
  (conv => whnf); repeat (first | (refine And.intro rfl ?_; conv => whnf) | (refine And.intro (fun _ => ?_) (fun h => Bool.noConfusion h); conv => whnf) | (refine And.intro (fun h => Bool.noConfusion h) (fun _ => ?_); conv => whnf))
  refine ⟨_, _, rvalid' d xs (by omega), ?_⟩
  (conv => whnf); repeat (first | (refine And.intro rfl ?_; conv => whnf) | (refine And.intro (fun _ => ?_) (fun h => Bool.noConfusion h); conv => whnf) | (refine And.intro (fun h => Bool.noConfusion h) (fun _ => ?_); conv => whnf))
  refine Exists.intro [] (And.intro List.nodup_nil ?_); ((conv => whnf); repeat (first | (refine And.intro rfl ?_; conv => whnf) | (refine And.intro (fun _ => ?_) (fun h => Bool.noConfusion h); conv => whnf) | (refine And.intro (fun h => Bool.noConfusion h) (fun _ => ?_); conv => whnf)))
  show ATbool (rvalid d xs == rvalid d xs) = _
  rw [beq_self_eq_true]

def rqS (s : Int) : Rq := ⟨s, 0, 0, ⟨#[]⟩⟩

set_option maxRecDepth 100000 in
set_option maxHeartbeats 4000000 in
theorem rawake : Fun Try.prog 26 [] [] (ATbool true) := by
  have n1 := rnew 1
  rw [if_pos (by omega)] at n1
  have s1 := rsubmit 1 [] (rqS 4) (by simp)
  rw [show rsub 1 [] (rqS 4) = ([rqS 4], 0) from by rfl] at s1
  have s2 := rsubmit 1 [rqS 4] (rqS 5) (by simp)
  rw [show rsub 1 [rqS 4] (rqS 5) = ([rqS 4], 13) from by rfl] at s2
  have t1 := rtake 1 [rqS 4] (by simp)
  rw [show rtk 1 [rqS 4] = .tup [ringV 1 [], rqV (rqS 4), bV true] from by rfl] at t1
  refine fun_of_vc tabOk mixOk Try.func26 rfl (by rfl) (rs := [.tmp 0]) rfl rfl 53 ?_; rw [Try.ntmps26]
  (conv => whnf); repeat (first | (refine And.intro rfl ?_; conv => whnf) | (refine And.intro (fun _ => ?_) (fun h => Bool.noConfusion h); conv => whnf) | (refine And.intro (fun h => Bool.noConfusion h) (fun _ => ?_); conv => whnf))
  refine ⟨_, _, n1, ?_⟩
  (conv => whnf); repeat (first | (refine And.intro rfl ?_; conv => whnf) | (refine And.intro (fun _ => ?_) (fun h => Bool.noConfusion h); conv => whnf) | (refine And.intro (fun h => Bool.noConfusion h) (fun _ => ?_); conv => whnf))
  refine ⟨_, _, s1, ?_⟩
  (conv => whnf); repeat (first | (refine And.intro rfl ?_; conv => whnf) | (refine And.intro (fun _ => ?_) (fun h => Bool.noConfusion h); conv => whnf) | (refine And.intro (fun h => Bool.noConfusion h) (fun _ => ?_); conv => whnf))
  refine ⟨_, _, s2, ?_⟩
  (conv => whnf); repeat (first | (refine And.intro rfl ?_; conv => whnf) | (refine And.intro (fun _ => ?_) (fun h => Bool.noConfusion h); conv => whnf) | (refine And.intro (fun h => Bool.noConfusion h) (fun _ => ?_); conv => whnf))
  refine ⟨_, _, t1, ?_⟩
  (conv => whnf); repeat (first | (refine And.intro rfl ?_; conv => whnf) | (refine And.intro (fun _ => ?_) (fun h => Bool.noConfusion h); conv => whnf) | (refine And.intro (fun h => Bool.noConfusion h) (fun _ => ?_); conv => whnf))
  refine Exists.intro [] (And.intro List.nodup_nil ?_); ((conv => whnf); repeat (first | (refine And.intro rfl ?_; conv => whnf) | (refine And.intro (fun _ => ?_) (fun h => Bool.noConfusion h); conv => whnf) | (refine And.intro (fun h => Bool.noConfusion h) (fun _ => ?_); conv => whnf)))
  rfl

set_option maxRecDepth 100000 in
set_option maxHeartbeats 4000000 in
theorem ringRawF (d : Int) (xs : List Rq) (x : Rq) (n : Int) : Fun Try.prog 7 [ringV d xs, rqV x, i64V n] [] (ATbool true) := by
  refine fun_of_vc tabOk mixOk Try.func7 rfl (by rfl) (rs := [.tmp 6]) rfl rfl 46 ?_; rw [Try.ntmps7]
  (conv => whnf); repeat (first | (refine And.intro rfl ?_; conv => whnf) | (refine And.intro (fun _ => ?_) (fun h => Bool.noConfusion h); conv => whnf) | (refine And.intro (fun h => Bool.noConfusion h) (fun _ => ?_); conv => whnf))
  refine And.intro (fun h1 => ?_) (fun h1 => ?_)
  · (conv => whnf); repeat (first | (refine And.intro rfl ?_; conv => whnf) | (refine And.intro (fun _ => ?_) (fun h => Bool.noConfusion h); conv => whnf) | (refine And.intro (fun h => Bool.noConfusion h) (fun _ => ?_); conv => whnf))
    refine ⟨_, _, rawake, ?_⟩
    (conv => whnf); repeat (first | (refine And.intro rfl ?_; conv => whnf) | (refine And.intro (fun _ => ?_) (fun h => Bool.noConfusion h); conv => whnf) | (refine And.intro (fun h => Bool.noConfusion h) (fun _ => ?_); conv => whnf))
    refine Exists.intro [] (And.intro List.nodup_nil ?_); ((conv => whnf); repeat (first | (refine And.intro rfl ?_; conv => whnf) | (refine And.intro (fun _ => ?_) (fun h => Bool.noConfusion h); conv => whnf) | (refine And.intro (fun h => Bool.noConfusion h) (fun _ => ?_); conv => whnf)))
    rfl
  have hl : xs.length ≤ 100 := by have := of_decide_eq_false h1; rw [List.length_map] at this; omega
  obtain ⟨m, ys, e, hn, hm⟩ : ∃ m ys e, (if 1 ≤ n ∧ n ≤ 8 then [ringV n [], i64V 0] else [ringV 0 [], i64V 1]) = [ringV m ys, i64V e] ∧ ys.length ≤ 1000000 := by
    split
    · exact ⟨_, _, _, rfl, by simp⟩
    · exact ⟨_, _, _, rfl, by simp⟩
  have n1 := rnew n
  have n2 := rnew' n
  rw [hn] at n1 n2
  (conv => whnf); repeat (first | (refine And.intro rfl ?_; conv => whnf) | (refine And.intro (fun _ => ?_) (fun h => Bool.noConfusion h); conv => whnf) | (refine And.intro (fun h => Bool.noConfusion h) (fun _ => ?_); conv => whnf))
  refine ⟨_, _, n1, ?_⟩
  (conv => whnf); repeat (first | (refine And.intro rfl ?_; conv => whnf) | (refine And.intro (fun _ => ?_) (fun h => Bool.noConfusion h); conv => whnf) | (refine And.intro (fun h => Bool.noConfusion h) (fun _ => ?_); conv => whnf))
  refine ⟨_, _, n2, ?_⟩
  (conv => whnf); repeat (first | (refine And.intro rfl ?_; conv => whnf) | (refine And.intro (fun _ => ?_) (fun h => Bool.noConfusion h); conv => whnf) | (refine And.intro (fun h => Bool.noConfusion h) (fun _ => ?_); conv => whnf))
  refine ⟨_, _, ragree d xs x (by omega), ?_⟩
  (conv => whnf); repeat (first | (refine And.intro rfl ?_; conv => whnf) | (refine And.intro (fun _ => ?_) (fun h => Bool.noConfusion h); conv => whnf) | (refine And.intro (fun h => Bool.noConfusion h) (fun _ => ?_); conv => whnf))
  refine And.intro (fun _ => ?_) (fun h => by simp at h)
  (conv => whnf); repeat (first | (refine And.intro rfl ?_; conv => whnf) | (refine And.intro (fun _ => ?_) (fun h => Bool.noConfusion h); conv => whnf) | (refine And.intro (fun h => Bool.noConfusion h) (fun _ => ?_); conv => whnf))
  refine ⟨_, _, rsame m ys hm, ?_⟩
  (conv => whnf); repeat (first | (refine And.intro rfl ?_; conv => whnf) | (refine And.intro (fun _ => ?_) (fun h => Bool.noConfusion h); conv => whnf) | (refine And.intro (fun h => Bool.noConfusion h) (fun _ => ?_); conv => whnf))
  refine ⟨_, _, rawake, ?_⟩
  (conv => whnf); repeat (first | (refine And.intro rfl ?_; conv => whnf) | (refine And.intro (fun _ => ?_) (fun h => Bool.noConfusion h); conv => whnf) | (refine And.intro (fun h => Bool.noConfusion h) (fun _ => ?_); conv => whnf))
  refine Exists.intro [] (And.intro List.nodup_nil ?_); ((conv => whnf); repeat (first | (refine And.intro rfl ?_; conv => whnf) | (refine And.intro (fun _ => ?_) (fun h => Bool.noConfusion h); conv => whnf) | (refine And.intro (fun h => Bool.noConfusion h) (fun _ => ?_); conv => whnf)))
  rfl

theorem three {argv : Array Value} {a b c : AV} {u v w' : Value} {w : World} {ok : Nat → Prop} {σ : Nat → Nat → Value} {G : Nat → Nat} (h1 : RepV w ok σ G a u) (h2 : RepV w ok σ G b v) (h3 : RepV w ok σ G c w') :
    ∀ (j : Nat) (z : Value) (x : AV), (#[u, v, w'] : Array Value)[j]? = some z → [a, b, c][j]? = some x → RepV w ok σ G x z := by
  intro j z x hz hx
  match j with
  | 0 => simp at hz hx; subst hz hx; exact h1
  | 1 => simp at hz hx; subst hz hx; exact h2
  | 2 => simp at hz hx; subst hz hx; exact h3
  | j + 3 => simp at hx
theorem two {a b : AV} {u v : Value} {w : World} {ok : Nat → Prop} {σ : Nat → Nat → Value} {G : Nat → Nat} (h1 : RepV w ok σ G a u) (h2 : RepV w ok σ G b v) :
    ∀ (j : Nat) (z : Value) (x : AV), (#[u, v] : Array Value)[j]? = some z → [a, b][j]? = some x → RepV w ok σ G x z := by
  intro j z x hz hx
  match j with
  | 0 => simp at hz hx; subst hz hx; exact h1
  | 1 => simp at hz hx; subst hz hx; exact h2
  | j + 2 => simp at hx
end Go.Proofs.Ytopdpfbkdgncaaa.Ab
namespace Go.Proofs.Ytopdpfbkdgncaaa
set_option linter.unusedVariables false
set_option linter.unusedSimpArgs false
open Ab

theorem ringRaw.walk {H : Type} {enc : TypeId × Value → H} {W : World} {base : Nat} (v : Value) (d : DataW H) (p : List MemPlace) (hv : Value.okWide Try.prog W .any base 46 v)
    (h : DataW.Trod enc Try.prog W 0 (fun _ => true) true 46 v d p) (_hw : ∀ n ∈ d.weights Try.prog 46, n ≤ 140737488351232)
    (v1 : Value) (d1 : DataW H) (p1 : List MemPlace) (hv1 : Value.okWide Try.prog W .any base 50 v1)
    (h1 : DataW.Trod enc Try.prog W 0 (fun _ => true) true 50 v1 d1 p1) (_hw1 : ∀ n ∈ d1.weights Try.prog 50, n ≤ 140737488351232)
    (a2 : Int) (_w2 : (Lit.int .i64 a2).wf = true) (W' : World) (hW : W' = W := by rfl) : Calls Try.prog 7 #[v, v1, .int .i64 a2] W' (True1 W') := by
  subst hW
  obtain ⟨r, s1, s2⟩ := open_agg tabOk 6 (t := 46) (by decide +kernel) (by rfl) hv h
  obtain ⟨d, xs, e⟩ := ring_of s1
  rw [e] at s2
  obtain ⟨r1, q1, q2⟩ := open_agg tabOk 6 (t := 50) (by decide +kernel) (by rfl) hv1 h1
  obtain ⟨x, rfl⟩ := rq_of (d := 3) q1
  exact law_of_fun (ringRawF d xs x a2) rfl (three (argv := #[]) (s2 _ _) (q2 _ _) (.sc _ rfl))
end Go.Proofs.Ytopdpfbkdgncaaa
