/- The submission queues: valid ones. -/
import Derived.Test.YtopdpfbkdgncaaaTab
namespace Go.Proofs.Ytopdpfbkdgncaaa.Ab
set_option linter.unusedVariables false
set_option linter.unusedSimpArgs false
open Go.RowKit

/-- A request. -/
structure Rq where
  serial : Int
  kind : Int
  block : Int
  data : ByteArray
def Rq.cs (r : Rq) : List IV := [.sc (.int .i64 r.serial), .sc (.int .i64 r.kind), .sc (.int .i64 r.block), .sc (.string r.data)]
def ringV (d : Int) (xs : List Rq) : AV := .agg [.i (.sc (.int .i64 d)), .i (.sl (xs.map Rq.cs))]

def asc : Int → List Rq → Bool
  | _, [] => true
  | l, x :: xs => decide (l < x.serial) && asc x.serial xs
def rvalid (d : Int) (xs : List Rq) : Bool := decide (1 ≤ d ∧ d ≤ 8 ∧ (xs.length : Int) ≤ d) && asc (-1) xs

set_option maxRecDepth 100000 in
set_option maxHeartbeats 4000000 in
theorem ringvalid (d : Int) (xs : List Rq) (hl : xs.length ≤ 1000000) : Fun Try.prog 46 [ringV d xs] [] (ATbool (rvalid d xs)) := by
  refine fun_of_vc tabOk mixOk Try.func46 rfl (by rfl) (rs := [.tmp 2]) rfl rfl 40 ?_; rw [Try.ntmps46]
  (conv => whnf); repeat (first | (refine And.intro rfl ?_; conv => whnf) | (refine And.intro (fun _ => ?_) (fun h => Bool.noConfusion h); conv => whnf) | (refine And.intro (fun h => Bool.noConfusion h) (fun _ => ?_); conv => whnf))
  refine And.intro (fun h1 => ?_) (fun h1 => ?_)
  · (conv => whnf); repeat (first | (refine And.intro rfl ?_; conv => whnf) | (refine And.intro (fun _ => ?_) (fun h => Bool.noConfusion h); conv => whnf) | (refine And.intro (fun h => Bool.noConfusion h) (fun _ => ?_); conv => whnf))
    refine ⟨[], List.nodup_nil, rfl, ?_⟩
    have : rvalid d xs = false := by unfold rvalid; simp at h1 ⊢; intros; omega
    rw [this]; rfl
  · (conv => whnf); repeat (first | (refine And.intro rfl ?_; conv => whnf) | (refine And.intro (fun _ => ?_) (fun h => Bool.noConfusion h); conv => whnf) | (refine And.intro (fun h => Bool.noConfusion h) (fun _ => ?_); conv => whnf))
    refine And.intro (fun h2 => ?_) (fun h2 => ?_)
    · (conv => whnf); repeat (first | (refine And.intro rfl ?_; conv => whnf) | (refine And.intro (fun _ => ?_) (fun h => Bool.noConfusion h); conv => whnf) | (refine And.intro (fun h => Bool.noConfusion h) (fun _ => ?_); conv => whnf))
      refine ⟨[], List.nodup_nil, rfl, ?_⟩
      have : rvalid d xs = false := by unfold rvalid; simp at h2 ⊢; intros; omega
      rw [this]; rfl
    · (conv => whnf); repeat (first | (refine And.intro rfl ?_; conv => whnf) | (refine And.intro (fun _ => ?_) (fun h => Bool.noConfusion h); conv => whnf) | (refine And.intro (fun h => Bool.noConfusion h) (fun _ => ?_); conv => whnf))
      refine And.intro (fun h3 => ?_) (fun h3 => ?_)
      · (conv => whnf); repeat (first | (refine And.intro rfl ?_; conv => whnf) | (refine And.intro (fun _ => ?_) (fun h => Bool.noConfusion h); conv => whnf) | (refine And.intro (fun h => Bool.noConfusion h) (fun _ => ?_); conv => whnf))
        refine ⟨[], List.nodup_nil, rfl, ?_⟩
        have : rvalid d xs = false := by unfold rvalid; simp at h3 ⊢; intros; omega
        rw [this]; rfl
      · (conv => whnf); repeat (first | (refine And.intro rfl ?_; conv => whnf) | (refine And.intro (fun _ => ?_) (fun h => Bool.noConfusion h); conv => whnf) | (refine And.intro (fun h => Bool.noConfusion h) (fun _ => ?_); conv => whnf))
        have hv : rvalid d xs = asc (-1) xs := by
          unfold rvalid
          simp at h1 h2 h3
          rw [decide_eq_true (by omega), Bool.true_and]
        rw [hv]
        refine vc_loop [23, 24] [] (X := Nat × Int) (fun x gs => [(3, ATint x.2), (25, ATint x.1)]) (fun _ _ => []) (fun x => x.1 ≤ xs.length ∧ asc (-1) xs = asc x.2 (xs.drop x.1)) (fun x => xs.length - x.1) _ (Ghost.refl _) (0, -1) ⟨by omega, rfl⟩ ?_ ?_
        · (refine And.intro rfl (And.intro rfl ?_)); (repeat' (first | exact trivial | exact rfl | apply And.intro | (refine congrArg (Value.int .i64) (w64_nat ?_); omega)))
        · rintro gs ⟨k, l⟩ ⟨hk, ha⟩
          dsimp only at hk ha ⊢
          (conv => whnf); repeat (first | (refine And.intro rfl ?_; conv => whnf) | (refine And.intro (fun _ => ?_) (fun h => Bool.noConfusion h); conv => whnf) | (refine And.intro (fun h => Bool.noConfusion h) (fun _ => ?_); conv => whnf))
          refine And.intro (fun h4 => ?_) (fun h4 => ?_)
          · have hlt : k < xs.length := by simpa using h4
            (conv => whnf); repeat (first | (refine And.intro rfl ?_; conv => whnf) | (refine And.intro (fun _ => ?_) (fun h => Bool.noConfusion h); conv => whnf) | (refine And.intro (fun h => Bool.noConfusion h) (fun _ => ?_); conv => whnf))
            refine ⟨by omega, xs[k].cs, by simp [hlt], rfl, ?_⟩
            (conv => whnf); repeat (first | (refine And.intro rfl ?_; conv => whnf) | (refine And.intro (fun _ => ?_) (fun h => Bool.noConfusion h); conv => whnf) | (refine And.intro (fun h => Bool.noConfusion h) (fun _ => ?_); conv => whnf))
            rw [List.drop_eq_getElem_cons hlt] at ha
            refine And.intro (fun h5 => ?_) (fun h5 => ?_)
            · (conv => whnf); repeat (first | (refine And.intro rfl ?_; conv => whnf) | (refine And.intro (fun _ => ?_) (fun h => Bool.noConfusion h); conv => whnf) | (refine And.intro (fun h => Bool.noConfusion h) (fun _ => ?_); conv => whnf))
              refine ⟨[], List.nodup_nil, rfl, ?_⟩
              have : asc (-1) xs = false := by rw [ha]; simp [asc] at h5 ⊢; omega
              rw [this]; rfl
            · (conv => whnf); repeat (first | (refine And.intro rfl ?_; conv => whnf) | (refine And.intro (fun _ => ?_) (fun h => Bool.noConfusion h); conv => whnf) | (refine And.intro (fun h => Bool.noConfusion h) (fun _ => ?_); conv => whnf))
              refine again (k + 1, xs[k].serial) ⟨hlt, ?_⟩ (by dsimp only; omega) ?_
              · rw [ha]; simp [asc] at h5 ⊢; omega
              · (refine And.intro rfl (And.intro rfl ?_)); (repeat' (first | exact trivial | exact rfl | apply And.intro | (refine congrArg (Value.int .i64) (w64_nat ?_); omega)))
          · have hge : ¬ k < xs.length := by simpa using h4
            obtain rfl : k = xs.length := by omega
            (conv => whnf); repeat (first | (refine And.intro rfl ?_; conv => whnf) | (refine And.intro (fun _ => ?_) (fun h => Bool.noConfusion h); conv => whnf) | (refine And.intro (fun h => Bool.noConfusion h) (fun _ => ?_); conv => whnf))
            refine ⟨[], List.nodup_nil, rfl, ?_⟩
            rw [ha, List.drop_length]; rfl
end Go.Proofs.Ytopdpfbkdgncaaa.Ab
