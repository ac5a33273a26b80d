/- The text's functions, one by one: small ones. No condition. -/
import Derived.Test.YtccplchebbkliaaDoorYh
namespace Go.Proofs.YtccplchebbkliaaDoor.Ab
set_option linter.unusedVariables false
set_option linter.unusedSimpArgs false
open Go.RowKit

/-- As fun_of_calls, where two plain values are answered. -/
theorem fun_of_calls_2 {f : FuncId} {args : List Value} {v1 v2 : Value} (hE : Enters Tryd.prog f) (h1 : v1.oneCell' = true) (h2 : v2.oneCell' = true) (h : ∀ w, gP w → Calls Tryd.prog f args.toArray w fun e w' => e = .returned (.tuple #[v1, v2]) ∧ Below w.heap.size w w') : Fun Tryd.prog f (args.map fun x => .c (.i (.sc x))) [] (.tup [.c (.i (.sc v1)), .c (.i (.sc v2))]) := by
  refine ⟨hE, fun w ok argv hok hsz hrep => ?_⟩
  have ha : argv = args.toArray := by
    apply Array.ext
    · simpa using hsz
    · intro i h1 h2
      have := hrep i argv[i] (.c (.i (.sc args[i]))) (Array.getElem?_eq_getElem h1) (by simp at h2; simp [h2])
      have := RepI_sc this
      simpa using this
  rw [ha]
  refine (h w hok.2.1).mono ?_
  rintro e w' ⟨rfl, hb⟩
  refine ⟨_, ok, fun _ _ => undef, rfl, hb, fun _ h => h, fun k hk => Or.inl hk, ⟨#[v1, v2], rfl, rfl, fun j u x hu hx => ?_⟩, fun b B hB => by simp at hB, fun b b' B B' hB => by simp at hB⟩
  match j, hu, hx with
  | 0, hu, hx => simp at hu hx; subst hu hx; exact .sc _ h1
  | 1, hu, hx => simp at hu hx; subst hu hx; exact .sc _ h2
theorem unhexF (s : ByteArray) (hs : s.size ≤ 35184372088832) : Fun Tryd.prog 12 [strV s] [] (.tup [strV ⟨(unhxS s.data.toList).toArray⟩, bV (unhB s.data.toList)]) :=
  fun_of_calls_2 (args := [.string s]) (v1 := .string ⟨(unhxS s.data.toList).toArray⟩) (v2 := .bool (unhB s.data.toList)) ⟨_, Tryd.func12, rfl, by rfl⟩ rfl rfl (fun w _ => unhexC s w hs)
set_option maxRecDepth 100000 in
theorem fitsF (n : Int) : Fun Tryd.prog 17 [i64V n] [] (ATbool (fit n)) := by
  have hf : fit n = (if n ≥ -1099511627776 then decide (n ≤ 1099511627776) else false) := by
    unfold fit
    split
    · rename_i h
      rw [decide_eq_decide]
      omega
    · rename_i h
      exact decide_eq_false (by omega)
  rw [hf]
  by_cases h1 : n ≥ -1099511627776
  · rw [if_pos h1]
    refine fun_of_vc tabOk mixOk Tryd.func17 rfl (by rfl) (rs := [.tmp 2]) rfl rfl 13 ?_; rw [Tryd.ntmps17]
    (conv => whnf); repeat ((first | refine And.intro DrawOk.go ?_ | refine And.intro rfl ?_ | refine And.intro (fun _ => ?_) (fun h => Bool.noConfusion h) | refine And.intro (fun h => Bool.noConfusion h) (fun _ => ?_)); conv => whnf)
    refine And.intro (fun h => ?_) (fun h => absurd h1 (of_decide_eq_false h))
    (conv => whnf); repeat ((first | refine And.intro DrawOk.go ?_ | refine And.intro rfl ?_ | refine And.intro (fun _ => ?_) (fun h => Bool.noConfusion h) | refine And.intro (fun h => Bool.noConfusion h) (fun _ => ?_)); conv => whnf)
    refine Exists.intro [] (And.intro List.nodup_nil ?_); ((conv => whnf); repeat ((first | refine And.intro DrawOk.go ?_ | refine And.intro rfl ?_ | refine And.intro (fun _ => ?_) (fun h => Bool.noConfusion h) | refine And.intro (fun h => Bool.noConfusion h) (fun _ => ?_)); conv => whnf))
    rfl
  · rw [if_neg h1]
    refine fun_of_vc tabOk mixOk Tryd.func17 rfl (by rfl) (rs := [.tmp 2]) rfl rfl 13 ?_; rw [Tryd.ntmps17]
    (conv => whnf); repeat ((first | refine And.intro DrawOk.go ?_ | refine And.intro rfl ?_ | refine And.intro (fun _ => ?_) (fun h => Bool.noConfusion h) | refine And.intro (fun h => Bool.noConfusion h) (fun _ => ?_)); conv => whnf)
    refine And.intro (fun h => absurd (of_decide_eq_true h) h1) (fun h => ?_)
    (conv => whnf); repeat ((first | refine And.intro DrawOk.go ?_ | refine And.intro rfl ?_ | refine And.intro (fun _ => ?_) (fun h => Bool.noConfusion h) | refine And.intro (fun h => Bool.noConfusion h) (fun _ => ?_)); conv => whnf)
    refine Exists.intro [] (And.intro List.nodup_nil ?_); ((conv => whnf); repeat ((first | refine And.intro DrawOk.go ?_ | refine And.intro rfl ?_ | refine And.intro (fun _ => ?_) (fun h => Bool.noConfusion h) | refine And.intro (fun h => Bool.noConfusion h) (fun _ => ?_)); conv => whnf))
    rfl
end Go.Proofs.YtccplchebbkliaaDoor.Ab
