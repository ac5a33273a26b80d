/- The document's numbers and digits. No condition. -/
import Derived.Test.YtccplchebbkliaaDoorYm
namespace Go.Proofs.YtccplchebbkliaaDoor.Ab
set_option linter.unusedVariables false
set_option linter.unusedSimpArgs false
open Go.RowKit

def u8V (n : Nat) : AV := .c (.i (.sc (.int .u8 (n : Int))))
theorem dec_one (m : Nat) : bytesStr [iwrap .u8 (iwrap .i64 (48 + ((m : Int)).tmod 10))] = sS [UInt8.ofNat (48 + m % 10)] := by
  have e0 : ((m : Int)).tmod 10 = ((m % 10 : Nat) : Int) := rfl
  have e1 : iwrap .i64 (48 + ((m : Int)).tmod 10) = ((48 + m % 10 : Nat) : Int) := by
    rw [e0]
    exact (w64_in (by omega)).trans (by omega)
  rw [bytesStr_eq, e1]
  simp only [List.map_cons, List.map_nil, u8_byte]
theorem dec_quo (m : Nat) (h : m ≤ 1099511627776) : iwrap .i64 (((m : Int)).tdiv 10) = ((m / 10 : Nat) : Int) := by
  have e0 : ((m : Int)).tdiv 10 = ((m / 10 : Nat) : Int) := rfl
  rw [e0]
  exact w64_in (by omega)
set_option maxRecDepth 100000 in
set_option maxHeartbeats 16000000 in
theorem decR (N : Nat) (h : N ≤ 1099511627776) : Fun Tryd.prog 24 [i64V (N : Int)] [] (.v (strV ⟨(Lib.decDigits N).toArray⟩)) := by
  have hlen := dec_len 12 N (by omega)
  refine fun_of_vc tabOk mixOk Tryd.func24 rfl (by rfl) (rs := [.tmp 2]) rfl rfl 27 ?_; rw [Tryd.ntmps24]
  (conv => whnf); repeat ((first | refine And.intro DrawOk.go ?_ | refine And.intro rfl ?_ | refine And.intro (fun _ => ?_) (fun h => Bool.noConfusion h) | refine And.intro (fun h => Bool.noConfusion h) (fun _ => ?_)); conv => whnf)
  refine vc_loop [] [] (X := Nat × List UInt8) (fun x gs => [(0, ATint x.1), (3, .v (strV (sS x.2)))]) (fun _ _ => []) (fun x => x.1 ≤ 1099511627776 ∧ Lib.decDigits N = Lib.decDigits x.1 ++ x.2) (fun x => x.1) _ (Ghost.refl _) (N, []) ⟨h, by simp⟩ ?_ ?_
  · (refine And.intro rfl (And.intro rfl ?_)); (repeat' (first | exact trivial | with_reducible exact cvB_refl _ | exact rfl | apply And.intro))
  rintro gs ⟨m, l⟩ ⟨hm, he⟩
  dsimp only at hm he
  have e1 := dec_one m
  have e2 := dec_quo m hm
  have hsz : 1 + l.length ≤ 100 := by
    have := congrArg List.length he
    rw [List.length_append] at this
    omega
  have ha := dec_app m
  (conv => whnf); repeat ((first | refine And.intro DrawOk.go ?_ | refine And.intro rfl ?_ | refine And.intro (fun _ => ?_) (fun h => Bool.noConfusion h) | refine And.intro (fun h => Bool.noConfusion h) (fun _ => ?_)); conv => whnf)
  refine ⟨by decide, ?_⟩
  (conv => whnf); repeat ((first | refine And.intro DrawOk.go ?_ | refine And.intro rfl ?_ | refine And.intro (fun _ => ?_) (fun h => Bool.noConfusion h) | refine And.intro (fun h => Bool.noConfusion h) (fun _ => ?_)); conv => whnf)
  refine ⟨[iwrap .u8 (iwrap .i64 (48 + ((m : Int)).tmod 10))], rfl, ?_⟩
  (conv => whnf); repeat ((first | refine And.intro DrawOk.go ?_ | refine And.intro rfl ?_ | refine And.intro (fun _ => ?_) (fun h => Bool.noConfusion h) | refine And.intro (fun h => Bool.noConfusion h) (fun _ => ?_)); conv => whnf)
  rw [e1]
  refine ⟨by show 1 + l.length ≤ _; omega, ?_⟩
  (conv => whnf); repeat ((first | refine And.intro DrawOk.go ?_ | refine And.intro rfl ?_ | refine And.intro (fun _ => ?_) (fun h => Bool.noConfusion h) | refine And.intro (fun h => Bool.noConfusion h) (fun _ => ?_)); conv => whnf)
  refine ⟨by decide, ?_⟩
  (conv => whnf); repeat ((first | refine And.intro DrawOk.go ?_ | refine And.intro rfl ?_ | refine And.intro (fun _ => ?_) (fun h => Bool.noConfusion h) | refine And.intro (fun h => Bool.noConfusion h) (fun _ => ?_)); conv => whnf)
  rw [e2]
  refine And.intro (fun h => ?_) (fun h => ?_)
  · have h0 : ((m / 10 : Nat) : Int) = 0 := by simpa only [beq_iff_eq] using h
    have h10 : m < 10 := by omega
    rw [if_pos h10] at ha
    (conv => whnf); repeat ((first | refine And.intro DrawOk.go ?_ | refine And.intro rfl ?_ | refine And.intro (fun _ => ?_) (fun h => Bool.noConfusion h) | refine And.intro (fun h => Bool.noConfusion h) (fun _ => ?_)); conv => whnf)
    refine Exists.intro [] (And.intro List.nodup_nil ?_); ((conv => whnf); repeat ((first | refine And.intro DrawOk.go ?_ | refine And.intro rfl ?_ | refine And.intro (fun _ => ?_) (fun h => Bool.noConfusion h) | refine And.intro (fun h => Bool.noConfusion h) (fun _ => ?_)); conv => whnf))
    refine congrArg (fun s => AT.v (strV s)) (sL_inj ?_)
    rw [sS_append]
    show [UInt8.ofNat (48 + m % 10)] ++ l = Lib.decDigits N
    rw [he, ha, Nat.mod_eq_of_lt h10]
  · have h0 : ¬ ((m / 10 : Nat) : Int) = 0 := by simpa only [beq_eq_false_iff_ne] using h
    have h10 : ¬ m < 10 := by omega
    rw [if_neg h10] at ha
    (conv => whnf); repeat ((first | refine And.intro DrawOk.go ?_ | refine And.intro rfl ?_ | refine And.intro (fun _ => ?_) (fun h => Bool.noConfusion h) | refine And.intro (fun h => Bool.noConfusion h) (fun _ => ?_)); conv => whnf)
    refine again (m / 10, UInt8.ofNat (48 + m % 10) :: l) ⟨by omega, ?_⟩ (by dsimp only; omega) ?_
    · rw [he, ha]; simp
    · (refine And.intro rfl (And.intro rfl ?_)); (repeat' (first | exact trivial | with_reducible exact cvB_refl _ | exact rfl | apply And.intro))
      all_goals exact congrArg Value.string (sS_append _ _)
set_option maxRecDepth 100000 in
set_option maxHeartbeats 16000000 in
theorem dR (n : Int) (h : fit n = true) : Fun Tryd.prog 24 [i64V n] [] (.v (strV (itoS n))) := by
  have hf := fit_iff.1 h
  by_cases h0 : n < 0
  · obtain ⟨m, rfl⟩ : ∃ m : Nat, n = -(m : Int) := ⟨(-n).toNat, by omega⟩
    have hd := decR m (by omega)
    have hlen := dec_len 12 m (by omega)
    have e1 : iwrap .i64 (0 - -(m : Int)) = (m : Int) := (w64_in (by omega)).trans (by omega)
    have e2 : itoS (-(m : Int)) = ⟨#[45]⟩ ++ ⟨(Lib.decDigits m).toArray⟩ := by
      apply sL_inj
      rw [sL_append]
      show Lib.itoa (-(m : Int)) = 45 :: Lib.decDigits m
      unfold Lib.itoa
      rw [if_pos (by omega)]
      congr 2
      omega
    rw [e2]
    generalize hD : Lib.decDigits m = D at hd hlen
    refine fun_of_vc tabOk mixOk Tryd.func24 rfl (by rfl) (rs := [.tmp 2]) rfl rfl 27 ?_; rw [Tryd.ntmps24]
    (conv => whnf); repeat ((first | refine And.intro DrawOk.go ?_ | refine And.intro rfl ?_ | refine And.intro (fun _ => ?_) (fun h => Bool.noConfusion h) | refine And.intro (fun h => Bool.noConfusion h) (fun _ => ?_)); conv => whnf)
    refine And.intro (fun _ => ?_) (fun h => absurd h0 (of_decide_eq_false h))
    (conv => whnf); repeat ((first | refine And.intro DrawOk.go ?_ | refine And.intro rfl ?_ | refine And.intro (fun _ => ?_) (fun h => Bool.noConfusion h) | refine And.intro (fun h => Bool.noConfusion h) (fun _ => ?_)); conv => whnf)
    rw [e1]
    refine ⟨_, _, hd, ?_⟩
    (conv => whnf); repeat ((first | refine And.intro DrawOk.go ?_ | refine And.intro rfl ?_ | refine And.intro (fun _ => ?_) (fun h => Bool.noConfusion h) | refine And.intro (fun h => Bool.noConfusion h) (fun _ => ?_)); conv => whnf)
    refine ⟨by show 1 + D.length ≤ _; omega, ?_⟩
    (conv => whnf); repeat ((first | refine And.intro DrawOk.go ?_ | refine And.intro rfl ?_ | refine And.intro (fun _ => ?_) (fun h => Bool.noConfusion h) | refine And.intro (fun h => Bool.noConfusion h) (fun _ => ?_)); conv => whnf)
    refine Exists.intro [] (And.intro List.nodup_nil ?_); ((conv => whnf); repeat ((first | refine And.intro DrawOk.go ?_ | refine And.intro rfl ?_ | refine And.intro (fun _ => ?_) (fun h => Bool.noConfusion h) | refine And.intro (fun h => Bool.noConfusion h) (fun _ => ?_)); conv => whnf))
    rfl
  · obtain ⟨m, rfl⟩ : ∃ m : Nat, n = (m : Int) := ⟨n.toNat, by omega⟩
    have := decR m (by omega)
    have e : itoS (m : Int) = ⟨(Lib.decDigits m).toArray⟩ := by
      unfold itoS Lib.itoa
      rw [if_neg (by omega), Int.toNat_natCast]
    rw [e]
    exact this
theorem smallF (n : Int) : Fun Tryd.prog 39 [i64V n] [] (ATbool (fit n)) := by
  have hf : fit n = (if n ≥ -1099511627776 then decide (n ≤ 1099511627776) else false) := by
    unfold fit
    split
    · rename_i h
      rw [decide_eq_decide]
      omega
    · rename_i h
      exact decide_eq_false (by omega)
  rw [hf]
  by_cases h1 : n ≥ -1099511627776
  · rw [if_pos h1]
    refine fun_of_vc tabOk mixOk Tryd.func39 rfl (by rfl) (rs := [.tmp 2]) rfl rfl 13 ?_; rw [Tryd.ntmps39]
    (conv => whnf); repeat ((first | refine And.intro DrawOk.go ?_ | refine And.intro rfl ?_ | refine And.intro (fun _ => ?_) (fun h => Bool.noConfusion h) | refine And.intro (fun h => Bool.noConfusion h) (fun _ => ?_)); conv => whnf)
    refine And.intro (fun h => ?_) (fun h => absurd h1 (of_decide_eq_false h))
    (conv => whnf); repeat ((first | refine And.intro DrawOk.go ?_ | refine And.intro rfl ?_ | refine And.intro (fun _ => ?_) (fun h => Bool.noConfusion h) | refine And.intro (fun h => Bool.noConfusion h) (fun _ => ?_)); conv => whnf)
    refine Exists.intro [] (And.intro List.nodup_nil ?_); ((conv => whnf); repeat ((first | refine And.intro DrawOk.go ?_ | refine And.intro rfl ?_ | refine And.intro (fun _ => ?_) (fun h => Bool.noConfusion h) | refine And.intro (fun h => Bool.noConfusion h) (fun _ => ?_)); conv => whnf))
    rfl
  · rw [if_neg h1]
    refine fun_of_vc tabOk mixOk Tryd.func39 rfl (by rfl) (rs := [.tmp 2]) rfl rfl 13 ?_; rw [Tryd.ntmps39]
    (conv => whnf); repeat ((first | refine And.intro DrawOk.go ?_ | refine And.intro rfl ?_ | refine And.intro (fun _ => ?_) (fun h => Bool.noConfusion h) | refine And.intro (fun h => Bool.noConfusion h) (fun _ => ?_)); conv => whnf)
    refine And.intro (fun h => absurd (of_decide_eq_true h) h1) (fun h => ?_)
    (conv => whnf); repeat ((first | refine And.intro DrawOk.go ?_ | refine And.intro rfl ?_ | refine And.intro (fun _ => ?_) (fun h => Bool.noConfusion h) | refine And.intro (fun h => Bool.noConfusion h) (fun _ => ?_)); conv => whnf)
    refine Exists.intro [] (And.intro List.nodup_nil ?_); ((conv => whnf); repeat ((first | refine And.intro DrawOk.go ?_ | refine And.intro rfl ?_ | refine And.intro (fun _ => ?_) (fun h => Bool.noConfusion h) | refine And.intro (fun h => Bool.noConfusion h) (fun _ => ?_)); conv => whnf))
    rfl
end Go.Proofs.YtccplchebbkliaaDoor.Ab
