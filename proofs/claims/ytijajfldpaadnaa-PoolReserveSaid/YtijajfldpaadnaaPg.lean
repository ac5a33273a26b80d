/- The pool: clone, least. -/
import Derived.Test.YtijajfldpaadnaaPf
namespace Go.Proofs.Ytijajfldpaadnaa.Ab
set_option linter.unusedVariables false
set_option linter.unusedSimpArgs false
open Go.RowKit

theorem copy1 (l : List (List IV)) (z : List IV) : List.take (List.replicate ((l.length : Int)).toNat z).length l ++ List.drop l.length (List.replicate ((l.length : Int)).toNat z) = l := by
  rw [List.length_replicate, Int.toNat_natCast, List.take_length, List.drop_of_length_le (by simp), List.append_nil]
theorem copy2 (l : List (List IV)) (z : List IV) : splice (List.replicate ((l.length : Int)).toNat z) 0 (List.take (List.replicate ((l.length : Int)).toNat z).length l) = l := by
  rw [List.length_replicate, Int.toNat_natCast, List.take_length, splice_eq _ _ _ (by simp)]
  simp
set_option maxRecDepth 100000 in
set_option maxHeartbeats 16000000 in
theorem pcloneF (f : List Int) (h c : Int) (hf : f.length ≤ 1000000) : Fun Try.prog 106 [poA f h c] [] (.v (poA f h c)) := by
  refine fun_of_vc tabOk mixOk Try.func106 rfl (by rfl) (rs := [.cell 2 41]) rfl rfl 20 ?_; rw [Try.ntmps106]
  (conv => whnf); repeat (first | (refine And.intro (DrawOk.mk (by first | (simp only [List.map_cons, List.map_nil, List.nil_append, List.cons_append, List.append_nil, updsL, List.length_cons, List.length_nil]; decide +kernel) | exact rfl)) ?_; conv => whnf) | (refine And.intro rfl ?_; conv => whnf) | (refine And.intro (fun _ => ?_) (fun h => Bool.noConfusion h); conv => whnf) | (refine And.intro (fun h => Bool.noConfusion h) (fun _ => ?_); conv => whnf))
  refine ⟨by omega, rfl, by rw [Nat.mul_comm]; exact bytes_le (by decide) (by rw [pwLen, Int.toNat_natCast]; omega), by rw [pwLen]; omega, ?_⟩
  (conv => whnf); repeat (first | (refine And.intro (DrawOk.mk (by first | (simp only [List.map_cons, List.map_nil, List.nil_append, List.cons_append, List.append_nil, updsL, List.length_cons, List.length_nil]; decide +kernel) | exact rfl)) ?_; conv => whnf) | (refine And.intro rfl ?_; conv => whnf) | (refine And.intro (fun _ => ?_) (fun h => Bool.noConfusion h); conv => whnf) | (refine And.intro (fun h => Bool.noConfusion h) (fun _ => ?_); conv => whnf))
  refine ⟨wSz f, ?_⟩
  (conv => whnf); repeat (first | (refine And.intro (DrawOk.mk (by first | (simp only [List.map_cons, List.map_nil, List.nil_append, List.cons_append, List.append_nil, updsL, List.length_cons, List.length_nil]; decide +kernel) | exact rfl)) ?_; conv => whnf) | (refine And.intro rfl ?_; conv => whnf) | (refine And.intro (fun _ => ?_) (fun h => Bool.noConfusion h); conv => whnf) | (refine And.intro (fun h => Bool.noConfusion h) (fun _ => ?_); conv => whnf))
  refine Exists.intro [] (And.intro List.nodup_nil ?_); ((conv => whnf); repeat (first | (refine And.intro (DrawOk.mk (by first | (simp only [List.map_cons, List.map_nil, List.nil_append, List.cons_append, List.append_nil, updsL, List.length_cons, List.length_nil]; decide +kernel) | exact rfl)) ?_; conv => whnf) | (refine And.intro rfl ?_; conv => whnf) | (refine And.intro (fun _ => ?_) (fun h => Bool.noConfusion h); conv => whnf) | (refine And.intro (fun h => Bool.noConfusion h) (fun _ => ?_); conv => whnf)))
  rw [copy1]
  rfl
set_option maxRecDepth 100000 in
set_option maxHeartbeats 16000000 in
theorem pcloneC (f : List Int) (h c : Int) (hf : f.length ≤ 1000000) : Fun Try.prog 106 [poA f h c] [] (.v (.agg [.sly (wV f) f.length, .i (.sc (.int .i64 h)), .i (.sc (.int .i64 c))])) := by
  refine fun_of_vc (tabXOk [1000022]) mixOk Try.func106 rfl (by rfl) (rs := [.cell 2 41]) rfl rfl 20 ?_; rw [Try.ntmps106]
  (conv => whnf); repeat (first | (refine And.intro (DrawOk.mk (by first | (simp only [List.map_cons, List.map_nil, List.nil_append, List.cons_append, List.append_nil, updsL, List.length_cons, List.length_nil]; decide +kernel) | exact rfl)) ?_; conv => whnf) | (refine And.intro rfl ?_; conv => whnf) | (refine And.intro (fun _ => ?_) (fun h => Bool.noConfusion h); conv => whnf) | (refine And.intro (fun h => Bool.noConfusion h) (fun _ => ?_); conv => whnf))
  refine ⟨by omega, rfl, by rw [Nat.mul_comm]; exact bytes_le (by decide) (by rw [pwLen, Int.toNat_natCast]; omega), by rw [pwLen]; omega, ?_⟩
  (conv => whnf); repeat (first | (refine And.intro (DrawOk.mk (by first | (simp only [List.map_cons, List.map_nil, List.nil_append, List.cons_append, List.append_nil, updsL, List.length_cons, List.length_nil]; decide +kernel) | exact rfl)) ?_; conv => whnf) | (refine And.intro rfl ?_; conv => whnf) | (refine And.intro (fun _ => ?_) (fun h => Bool.noConfusion h); conv => whnf) | (refine And.intro (fun h => Bool.noConfusion h) (fun _ => ?_); conv => whnf))
  refine ⟨wSz f, ?_⟩
  (conv => whnf); repeat (first | (refine And.intro (DrawOk.mk (by first | (simp only [List.map_cons, List.map_nil, List.nil_append, List.cons_append, List.append_nil, updsL, List.length_cons, List.length_nil]; decide +kernel) | exact rfl)) ?_; conv => whnf) | (refine And.intro rfl ?_; conv => whnf) | (refine And.intro (fun _ => ?_) (fun h => Bool.noConfusion h); conv => whnf) | (refine And.intro (fun h => Bool.noConfusion h) (fun _ => ?_); conv => whnf))
  refine Exists.intro [] (And.intro List.nodup_nil ?_); ((conv => whnf); repeat (first | (refine And.intro (DrawOk.mk (by first | (simp only [List.map_cons, List.map_nil, List.nil_append, List.cons_append, List.append_nil, updsL, List.length_cons, List.length_nil]; decide +kernel) | exact rfl)) ?_; conv => whnf) | (refine And.intro rfl ?_; conv => whnf) | (refine And.intro (fun _ => ?_) (fun h => Bool.noConfusion h); conv => whnf) | (refine And.intro (fun h => Bool.noConfusion h) (fun _ => ?_); conv => whnf)))
  rw [copy2, pwLen]
  rfl
end Go.Proofs.Ytijajfldpaadnaa.Ab
