/- Histories: the code's Check. -/
import Derived.Test.YtmooflgfcebmaaaHb
namespace Go.Proofs.Ytmooflgfcebmaaa.Ab
set_option linter.unusedVariables false
set_option linter.unusedSimpArgs false
open Go.RowKit

theorem begF_nil : begF [] = fun _ => none := by funext v; unfold begF; split <;> rfl
theorem endF_nil : endF [] = fun _ => none := by funext v; unfold endF; split <;> rfl
theorem begF_none {pre : List Ev} {s : Int} (h : pre.find? (fI s) = none) : begF pre (.int .i64 s) = none := by simp [begF, h]
theorem begF_some {pre : List Ev} {s : Int} {y : Ev} (h : pre.find? (fI s) = some y) : begF pre (.int .i64 s) = some (vRow y) := by simp [begF, h]
theorem endF_no {pre : List Ev} {s : Int} (h : pre.any (fR s) = false) : endF pre (.int .i64 s) = none := by simp [endF, h]
theorem endF_yes {pre : List Ev} {s : Int} (h : pre.any (fR s) = true) : endF pre (.int .i64 s) = some [.sc (.bool true)] := by simp [endF, h]

set_option maxRecDepth 100000 in
set_option maxHeartbeats 16000000 in
theorem chkF (n : Int) (l : List Ev) : Fun Try.prog 16 [i64V n, slV (vR l)] [] (.v (i64V (chkH n l))) := by
  by_cases hn : n < 1 ∨ n > 128
  · have hs : chkH n l = 1 := by unfold chkH; rw [if_pos hn]
    rw [hs]
    refine fun_of_vc tabOk mixOk Try.func16 rfl (by rfl) (rs := [.tmp 4]) rfl rfl 102 ?_; rw [Try.ntmps16]
    (conv => whnf); repeat (first | (refine And.intro rfl ?_; conv => whnf) | (refine And.intro (fun _ => ?_) (fun h => Bool.noConfusion h); conv => whnf) | (refine And.intro (fun h => Bool.noConfusion h) (fun _ => ?_); conv => whnf))
    repeat' (first | ((refine And.intro (fun h => ?_) (fun h => ?_)) <;> (try simp at h) <;> ((conv => whnf); repeat (first | (refine And.intro rfl ?_; conv => whnf) | (refine And.intro (fun _ => ?_) (fun h => Bool.noConfusion h); conv => whnf) | (refine And.intro (fun h => Bool.noConfusion h) (fun _ => ?_); conv => whnf)))) | fail)
    all_goals first
      | (exfalso; omega)
      | (refine Exists.intro [] (And.intro List.nodup_nil ?_); ((conv => whnf); repeat (first | (refine And.intro rfl ?_; conv => whnf) | (refine And.intro (fun _ => ?_) (fun h => Bool.noConfusion h); conv => whnf) | (refine And.intro (fun h => Bool.noConfusion h) (fun _ => ?_); conv => whnf)))
         rfl)
  by_cases hl : l.length > 400
  · have hs : chkH n l = 19 := by unfold chkH; rw [if_neg hn, if_pos hl]
    rw [hs]
    refine fun_of_vc tabOk mixOk Try.func16 rfl (by rfl) (rs := [.tmp 4]) rfl rfl 102 ?_; rw [Try.ntmps16]
    (conv => whnf); repeat (first | (refine And.intro rfl ?_; conv => whnf) | (refine And.intro (fun _ => ?_) (fun h => Bool.noConfusion h); conv => whnf) | (refine And.intro (fun h => Bool.noConfusion h) (fun _ => ?_); conv => whnf))
    repeat' (first | ((refine And.intro (fun h => ?_) (fun h => ?_)) <;> (try simp at h) <;> ((conv => whnf); repeat (first | (refine And.intro rfl ?_; conv => whnf) | (refine And.intro (fun _ => ?_) (fun h => Bool.noConfusion h); conv => whnf) | (refine And.intro (fun h => Bool.noConfusion h) (fun _ => ?_); conv => whnf)))) | fail)
    all_goals first
      | (exfalso; omega)
      | (refine Exists.intro [] (And.intro List.nodup_nil ?_); ((conv => whnf); repeat (first | (refine And.intro rfl ?_; conv => whnf) | (refine And.intro (fun _ => ?_) (fun h => Bool.noConfusion h); conv => whnf) | (refine And.intro (fun h => Bool.noConfusion h) (fun _ => ?_); conv => whnf)))
         rfl)
      | (exfalso; rw [vLen] at *; omega)
  have hs : chkH n l = if rgo [] l = true then 0 else 17 := by unfold chkH; rw [if_neg hn, if_neg hl]
  rw [hs]
  generalize hR : rgo [] l = RB
  refine fun_of_vc tabOk mixOk Try.func16 rfl (by rfl) (rs := [.tmp 4]) rfl rfl 102 ?_; rw [Try.ntmps16]
  (conv => whnf); repeat (first | (refine And.intro rfl ?_; conv => whnf) | (refine And.intro (fun _ => ?_) (fun h => Bool.noConfusion h); conv => whnf) | (refine And.intro (fun h => Bool.noConfusion h) (fun _ => ?_); conv => whnf))
  refine And.intro (fun h => by simp at h; omega) (fun h1 => ?_)
  (conv => whnf); repeat (first | (refine And.intro rfl ?_; conv => whnf) | (refine And.intro (fun _ => ?_) (fun h => Bool.noConfusion h); conv => whnf) | (refine And.intro (fun h => Bool.noConfusion h) (fun _ => ?_); conv => whnf))
  refine And.intro (fun h => by simp at h; omega) (fun h2 => ?_)
  (conv => whnf); repeat (first | (refine And.intro rfl ?_; conv => whnf) | (refine And.intro (fun _ => ?_) (fun h => Bool.noConfusion h); conv => whnf) | (refine And.intro (fun h => Bool.noConfusion h) (fun _ => ?_); conv => whnf))
  refine And.intro (fun h => by have := of_decide_eq_true h; rw [vLen] at this; omega) (fun h3 => ?_)
  (conv => whnf); repeat (first | (refine And.intro rfl ?_; conv => whnf) | (refine And.intro (fun _ => ?_) (fun h => Bool.noConfusion h); conv => whnf) | (refine And.intro (fun h => Bool.noConfusion h) (fun _ => ?_); conv => whnf))
  refine vc_loop [22, 23] [] (X := Nat) (fun k gs => [(24, ATint k), (5, .v (.c (.own 20 (gs 20)))), (6, .v (.c (.own 21 (gs 21))))]) (fun k gs => [(20, .mp (gs 20) (.int .i64) true (begF (l.take k))), (21, .mp (gs 21) (.int .i64) false (endF (l.take k)))]) (fun k => k ≤ l.length ∧ rgo (l.take k) (l.drop k) = RB ∧ rgo [] (l.take k) = true) (fun k => l.length - k) _ (Ghost.refl _) 0 ⟨by omega, by simpa using hR, rfl⟩ ?_ ?_
  · (refine And.intro rfl (And.intro rfl ?_)); (repeat' (first | exact trivial | exact rfl | apply And.intro | (refine congrArg (Value.int .i64) (w64_nat ?_); omega)))
    · exact congrArg (Blk.mp _ _ _) begF_nil.symm
    · exact congrArg (Blk.mp _ _ _) endF_nil.symm
  rintro gs k ⟨hk, hF, hP⟩
  (conv => whnf); repeat (first | (refine And.intro rfl ?_; conv => whnf) | (refine And.intro (fun _ => ?_) (fun h => Bool.noConfusion h); conv => whnf) | (refine And.intro (fun h => Bool.noConfusion h) (fun _ => ?_); conv => whnf))
  refine And.intro (fun h1 => ?_) (fun h1 => ?_)
  · have hlt : k < l.length := by have := of_decide_eq_true h1; rw [vLen] at this; omega
    rw [rgo_step hlt] at hF
    have hP1 : rgo [] (l.take (k + 1)) = (rightB (l.take k) l[k] && true) := by
      rw [List.take_succ_eq_append_getElem hlt, rgo_app, hP, Bool.true_and, List.nil_append]; rfl
    have hany := rgo_any hP l[k].s
    have hff := fitF l[k].k l[k].b l[k].d l[k].e l[k].o
    have e1 : l.take (k + 1) = l.take k ++ [l[k]] := List.take_succ_eq_append_getElem hlt
    have hspec : rightB (l.take k) l[k] = if vbad l[k] = true then false
      else if l[k].r = false then ((l.take k).find? (fI l[k].s)).isNone && (!((l.take k).any (fR l[k].s)) && rsE l[k])
      else match (l.take k).find? (fI l[k].s) with
        | none => false
        | some y => !((l.take k).any (fR l[k].s)) && ((y.q == l[k].q) && (cmE y l[k] && fitB l[k].k l[k].e l[k].o)) := rfl
    have p1 := @begF_put (l.take k) l[k]
    have p2 := @begF_ret (l.take k) l[k]
    have p3 := @endF_put (l.take k) l[k]
    have p4 := @endF_inv (l.take k) l[k]
    rw [← e1] at p1 p2 p3 p4
    generalize hRB : rightB (l.take k) l[k] = rb at hF hP1 hspec
    (conv => whnf); repeat (first | (refine And.intro rfl ?_; conv => whnf) | (refine And.intro (fun _ => ?_) (fun h => Bool.noConfusion h); conv => whnf) | (refine And.intro (fun h => Bool.noConfusion h) (fun _ => ?_); conv => whnf))
    refine ⟨by omega, _, vItem hlt, rfl, ?_⟩
    (conv => whnf); repeat (first | (refine And.intro rfl ?_; conv => whnf) | (refine And.intro (fun _ => ?_) (fun h => Bool.noConfusion h); conv => whnf) | (refine And.intro (fun h => Bool.noConfusion h) (fun _ => ?_); conv => whnf))
    generalize hx : l[k] = x at *
    obtain ⟨r, q, s, kk, b, d, e, o⟩ := x
    dsimp only at hany hff hspec p1 p2 p3 p4
    cases ha : (l.take k).any (fR s) with
    | true =>
      rw [ha] at hany hspec
      have g2 := endF_yes ha
      cases hb : (l.take k).find? (fI s) with
      | none => exact absurd hb (hany rfl)
      | some y =>
        rw [hb] at hspec
        have g1 := begF_some hb
        cases r with
        | true =>
          (conv => whnf); repeat (first | (refine And.intro rfl ?_; conv => whnf) | (refine And.intro (fun _ => ?_) (fun h => Bool.noConfusion h); conv => whnf) | (refine And.intro (fun h => Bool.noConfusion h) (fun _ => ?_); conv => whnf))
          repeat' (first | ((refine And.intro (fun h => ?_) (fun h => ?_)) <;> (try simp at h) <;> ((conv => whnf); repeat (first | (refine And.intro rfl ?_; conv => whnf) | (refine And.intro (fun _ => ?_) (fun h => Bool.noConfusion h); conv => whnf) | (refine And.intro (fun h => Bool.noConfusion h) (fun _ => ?_); conv => whnf)))) | (refine ⟨_, g1, ?_⟩; ((conv => whnf); repeat (first | (refine And.intro rfl ?_; conv => whnf) | (refine And.intro (fun _ => ?_) (fun h => Bool.noConfusion h); conv => whnf) | (refine And.intro (fun h => Bool.noConfusion h) (fun _ => ?_); conv => whnf)))) | (refine ⟨_, g2, ?_⟩; ((conv => whnf); repeat (first | (refine And.intro rfl ?_; conv => whnf) | (refine And.intro (fun _ => ?_) (fun h => Bool.noConfusion h); conv => whnf) | (refine And.intro (fun h => Bool.noConfusion h) (fun _ => ?_); conv => whnf)))) | (refine ⟨_, _, hff, ?_⟩; ((conv => whnf); repeat (first | (refine And.intro rfl ?_; conv => whnf) | (refine And.intro (fun _ => ?_) (fun h => Bool.noConfusion h); conv => whnf) | (refine And.intro (fun h => Bool.noConfusion h) (fun _ => ?_); conv => whnf)))) | fail)
          all_goals first
            | (exfalso; first | contradiction | omega | (simp_all; done))
            | (refine again (k + 1) ⟨hlt, ?_, ?_⟩ (by omega) ?_
               · have hrb : rb = true := by rw [hspec]; first | (simp [vbad, *]; done) | (simp [vbad, *]; omega) | (simp [vbad, cmE, rsE, *]; done) | (simp [vbad, cmE, rsE, *]; omega)
                 rw [hrb, Bool.true_and] at hF
                 exact hF
               · have hrb : rb = true := by rw [hspec]; first | (simp [vbad, *]; done) | (simp [vbad, *]; omega) | (simp [vbad, cmE, rsE, *]; done) | (simp [vbad, cmE, rsE, *]; omega)
                 rw [hP1, hrb]; rfl
               · (refine And.intro rfl (And.intro rfl ?_)); (repeat' (first | exact trivial | exact rfl | apply And.intro | (refine congrArg (Value.int .i64) (w64_nat ?_); omega)))
                 all_goals first
                   | exact congrArg (Blk.mp _ _ _) (p1 rfl hb)
                   | exact congrArg (Blk.mp _ _ _) (p2 rfl)
                   | exact congrArg (Blk.mp _ _ _) (p3 rfl)
                   | exact congrArg (Blk.mp _ _ _) (p4 rfl))
            | (refine Exists.intro [] (And.intro List.nodup_nil ?_); ((conv => whnf); repeat (first | (refine And.intro rfl ?_; conv => whnf) | (refine And.intro (fun _ => ?_) (fun h => Bool.noConfusion h); conv => whnf) | (refine And.intro (fun h => Bool.noConfusion h) (fun _ => ?_); conv => whnf)))
               have hrb : rb = false := by rw [hspec]; first | (simp [vbad, *]; done) | (simp [vbad, *]; omega) | (simp [vbad, cmE, rsE, *]; done) | (simp [vbad, cmE, rsE, *]; intro a1 a2 a3; exact absurd a3 (h a1 a2)) | (simp [vbad, cmE, rsE, *]; intro a1; rcases h with h | h; exact absurd a1 h; exact h) | (simp [vbad, cmE, rsE, *]; intro a1 a2 a3; rcases h with h | h | h; exact absurd a1 h; exact absurd a2 h; exact absurd a3 h)
               rw [hrb, Bool.false_and] at hF
               rw [← hF]; rfl)
        | false =>
          (conv => whnf); repeat (first | (refine And.intro rfl ?_; conv => whnf) | (refine And.intro (fun _ => ?_) (fun h => Bool.noConfusion h); conv => whnf) | (refine And.intro (fun h => Bool.noConfusion h) (fun _ => ?_); conv => whnf))
          repeat' (first | ((refine And.intro (fun h => ?_) (fun h => ?_)) <;> (try simp at h) <;> ((conv => whnf); repeat (first | (refine And.intro rfl ?_; conv => whnf) | (refine And.intro (fun _ => ?_) (fun h => Bool.noConfusion h); conv => whnf) | (refine And.intro (fun h => Bool.noConfusion h) (fun _ => ?_); conv => whnf)))) | (refine ⟨_, g1, ?_⟩; ((conv => whnf); repeat (first | (refine And.intro rfl ?_; conv => whnf) | (refine And.intro (fun _ => ?_) (fun h => Bool.noConfusion h); conv => whnf) | (refine And.intro (fun h => Bool.noConfusion h) (fun _ => ?_); conv => whnf)))) | (refine ⟨_, g2, ?_⟩; ((conv => whnf); repeat (first | (refine And.intro rfl ?_; conv => whnf) | (refine And.intro (fun _ => ?_) (fun h => Bool.noConfusion h); conv => whnf) | (refine And.intro (fun h => Bool.noConfusion h) (fun _ => ?_); conv => whnf)))) | (refine ⟨_, _, hff, ?_⟩; ((conv => whnf); repeat (first | (refine And.intro rfl ?_; conv => whnf) | (refine And.intro (fun _ => ?_) (fun h => Bool.noConfusion h); conv => whnf) | (refine And.intro (fun h => Bool.noConfusion h) (fun _ => ?_); conv => whnf)))) | fail)
          all_goals first
            | (exfalso; first | contradiction | omega | (simp_all; done))
            | (refine again (k + 1) ⟨hlt, ?_, ?_⟩ (by omega) ?_
               · have hrb : rb = true := by rw [hspec]; first | (simp [vbad, *]; done) | (simp [vbad, *]; omega) | (simp [vbad, cmE, rsE, *]; done) | (simp [vbad, cmE, rsE, *]; omega)
                 rw [hrb, Bool.true_and] at hF
                 exact hF
               · have hrb : rb = true := by rw [hspec]; first | (simp [vbad, *]; done) | (simp [vbad, *]; omega) | (simp [vbad, cmE, rsE, *]; done) | (simp [vbad, cmE, rsE, *]; omega)
                 rw [hP1, hrb]; rfl
               · (refine And.intro rfl (And.intro rfl ?_)); (repeat' (first | exact trivial | exact rfl | apply And.intro | (refine congrArg (Value.int .i64) (w64_nat ?_); omega)))
                 all_goals first
                   | exact congrArg (Blk.mp _ _ _) (p1 rfl hb)
                   | exact congrArg (Blk.mp _ _ _) (p2 rfl)
                   | exact congrArg (Blk.mp _ _ _) (p3 rfl)
                   | exact congrArg (Blk.mp _ _ _) (p4 rfl))
            | (refine Exists.intro [] (And.intro List.nodup_nil ?_); ((conv => whnf); repeat (first | (refine And.intro rfl ?_; conv => whnf) | (refine And.intro (fun _ => ?_) (fun h => Bool.noConfusion h); conv => whnf) | (refine And.intro (fun h => Bool.noConfusion h) (fun _ => ?_); conv => whnf)))
               have hrb : rb = false := by rw [hspec]; first | (simp [vbad, *]; done) | (simp [vbad, *]; omega) | (simp [vbad, cmE, rsE, *]; done) | (simp [vbad, cmE, rsE, *]; intro a1 a2 a3; exact absurd a3 (h a1 a2)) | (simp [vbad, cmE, rsE, *]; intro a1; rcases h with h | h; exact absurd a1 h; exact h) | (simp [vbad, cmE, rsE, *]; intro a1 a2 a3; rcases h with h | h | h; exact absurd a1 h; exact absurd a2 h; exact absurd a3 h)
               rw [hrb, Bool.false_and] at hF
               rw [← hF]; rfl)
    | false =>
      rw [ha] at hany hspec
      have g2 := endF_no ha
      cases hb : (l.take k).find? (fI s) with
      | none =>
        rw [hb] at hspec
        have g1 := begF_none hb
        cases r with
        | true =>
          (conv => whnf); repeat (first | (refine And.intro rfl ?_; conv => whnf) | (refine And.intro (fun _ => ?_) (fun h => Bool.noConfusion h); conv => whnf) | (refine And.intro (fun h => Bool.noConfusion h) (fun _ => ?_); conv => whnf))
          repeat' (first | ((refine And.intro (fun h => ?_) (fun h => ?_)) <;> (try simp at h) <;> ((conv => whnf); repeat (first | (refine And.intro rfl ?_; conv => whnf) | (refine And.intro (fun _ => ?_) (fun h => Bool.noConfusion h); conv => whnf) | (refine And.intro (fun h => Bool.noConfusion h) (fun _ => ?_); conv => whnf)))) | (refine ⟨_, g1, ?_⟩; ((conv => whnf); repeat (first | (refine And.intro rfl ?_; conv => whnf) | (refine And.intro (fun _ => ?_) (fun h => Bool.noConfusion h); conv => whnf) | (refine And.intro (fun h => Bool.noConfusion h) (fun _ => ?_); conv => whnf)))) | (refine ⟨_, g2, ?_⟩; ((conv => whnf); repeat (first | (refine And.intro rfl ?_; conv => whnf) | (refine And.intro (fun _ => ?_) (fun h => Bool.noConfusion h); conv => whnf) | (refine And.intro (fun h => Bool.noConfusion h) (fun _ => ?_); conv => whnf)))) | (refine ⟨_, _, hff, ?_⟩; ((conv => whnf); repeat (first | (refine And.intro rfl ?_; conv => whnf) | (refine And.intro (fun _ => ?_) (fun h => Bool.noConfusion h); conv => whnf) | (refine And.intro (fun h => Bool.noConfusion h) (fun _ => ?_); conv => whnf)))) | fail)
          all_goals first
            | (exfalso; first | contradiction | omega | (simp_all; done))
            | (refine again (k + 1) ⟨hlt, ?_, ?_⟩ (by omega) ?_
               · have hrb : rb = true := by rw [hspec]; first | (simp [vbad, *]; done) | (simp [vbad, *]; omega) | (simp [vbad, cmE, rsE, *]; done) | (simp [vbad, cmE, rsE, *]; omega)
                 rw [hrb, Bool.true_and] at hF
                 exact hF
               · have hrb : rb = true := by rw [hspec]; first | (simp [vbad, *]; done) | (simp [vbad, *]; omega) | (simp [vbad, cmE, rsE, *]; done) | (simp [vbad, cmE, rsE, *]; omega)
                 rw [hP1, hrb]; rfl
               · (refine And.intro rfl (And.intro rfl ?_)); (repeat' (first | exact trivial | exact rfl | apply And.intro | (refine congrArg (Value.int .i64) (w64_nat ?_); omega)))
                 all_goals first
                   | exact congrArg (Blk.mp _ _ _) (p1 rfl hb)
                   | exact congrArg (Blk.mp _ _ _) (p2 rfl)
                   | exact congrArg (Blk.mp _ _ _) (p3 rfl)
                   | exact congrArg (Blk.mp _ _ _) (p4 rfl))
            | (refine Exists.intro [] (And.intro List.nodup_nil ?_); ((conv => whnf); repeat (first | (refine And.intro rfl ?_; conv => whnf) | (refine And.intro (fun _ => ?_) (fun h => Bool.noConfusion h); conv => whnf) | (refine And.intro (fun h => Bool.noConfusion h) (fun _ => ?_); conv => whnf)))
               have hrb : rb = false := by rw [hspec]; first | (simp [vbad, *]; done) | (simp [vbad, *]; omega) | (simp [vbad, cmE, rsE, *]; done) | (simp [vbad, cmE, rsE, *]; intro a1 a2 a3; exact absurd a3 (h a1 a2)) | (simp [vbad, cmE, rsE, *]; intro a1; rcases h with h | h; exact absurd a1 h; exact h) | (simp [vbad, cmE, rsE, *]; intro a1 a2 a3; rcases h with h | h | h; exact absurd a1 h; exact absurd a2 h; exact absurd a3 h)
               rw [hrb, Bool.false_and] at hF
               rw [← hF]; rfl)
        | false =>
          (conv => whnf); repeat (first | (refine And.intro rfl ?_; conv => whnf) | (refine And.intro (fun _ => ?_) (fun h => Bool.noConfusion h); conv => whnf) | (refine And.intro (fun h => Bool.noConfusion h) (fun _ => ?_); conv => whnf))
          repeat' (first | ((refine And.intro (fun h => ?_) (fun h => ?_)) <;> (try simp at h) <;> ((conv => whnf); repeat (first | (refine And.intro rfl ?_; conv => whnf) | (refine And.intro (fun _ => ?_) (fun h => Bool.noConfusion h); conv => whnf) | (refine And.intro (fun h => Bool.noConfusion h) (fun _ => ?_); conv => whnf)))) | (refine ⟨_, g1, ?_⟩; ((conv => whnf); repeat (first | (refine And.intro rfl ?_; conv => whnf) | (refine And.intro (fun _ => ?_) (fun h => Bool.noConfusion h); conv => whnf) | (refine And.intro (fun h => Bool.noConfusion h) (fun _ => ?_); conv => whnf)))) | (refine ⟨_, g2, ?_⟩; ((conv => whnf); repeat (first | (refine And.intro rfl ?_; conv => whnf) | (refine And.intro (fun _ => ?_) (fun h => Bool.noConfusion h); conv => whnf) | (refine And.intro (fun h => Bool.noConfusion h) (fun _ => ?_); conv => whnf)))) | (refine ⟨_, _, hff, ?_⟩; ((conv => whnf); repeat (first | (refine And.intro rfl ?_; conv => whnf) | (refine And.intro (fun _ => ?_) (fun h => Bool.noConfusion h); conv => whnf) | (refine And.intro (fun h => Bool.noConfusion h) (fun _ => ?_); conv => whnf)))) | fail)
          all_goals first
            | (exfalso; first | contradiction | omega | (simp_all; done))
            | (refine again (k + 1) ⟨hlt, ?_, ?_⟩ (by omega) ?_
               · have hrb : rb = true := by rw [hspec]; first | (simp [vbad, *]; done) | (simp [vbad, *]; omega) | (simp [vbad, cmE, rsE, *]; done) | (simp [vbad, cmE, rsE, *]; omega)
                 rw [hrb, Bool.true_and] at hF
                 exact hF
               · have hrb : rb = true := by rw [hspec]; first | (simp [vbad, *]; done) | (simp [vbad, *]; omega) | (simp [vbad, cmE, rsE, *]; done) | (simp [vbad, cmE, rsE, *]; omega)
                 rw [hP1, hrb]; rfl
               · (refine And.intro rfl (And.intro rfl ?_)); (repeat' (first | exact trivial | exact rfl | apply And.intro | (refine congrArg (Value.int .i64) (w64_nat ?_); omega)))
                 all_goals first
                   | exact congrArg (Blk.mp _ _ _) (p1 rfl hb)
                   | exact congrArg (Blk.mp _ _ _) (p2 rfl)
                   | exact congrArg (Blk.mp _ _ _) (p3 rfl)
                   | exact congrArg (Blk.mp _ _ _) (p4 rfl))
            | (refine Exists.intro [] (And.intro List.nodup_nil ?_); ((conv => whnf); repeat (first | (refine And.intro rfl ?_; conv => whnf) | (refine And.intro (fun _ => ?_) (fun h => Bool.noConfusion h); conv => whnf) | (refine And.intro (fun h => Bool.noConfusion h) (fun _ => ?_); conv => whnf)))
               have hrb : rb = false := by rw [hspec]; first | (simp [vbad, *]; done) | (simp [vbad, *]; omega) | (simp [vbad, cmE, rsE, *]; done) | (simp [vbad, cmE, rsE, *]; intro a1 a2 a3; exact absurd a3 (h a1 a2)) | (simp [vbad, cmE, rsE, *]; intro a1; rcases h with h | h; exact absurd a1 h; exact h) | (simp [vbad, cmE, rsE, *]; intro a1 a2 a3; rcases h with h | h | h; exact absurd a1 h; exact absurd a2 h; exact absurd a3 h)
               rw [hrb, Bool.false_and] at hF
               rw [← hF]; rfl)
      | some y =>
        rw [hb] at hspec
        have g1 := begF_some hb
        cases r with
        | true =>
          (conv => whnf); repeat (first | (refine And.intro rfl ?_; conv => whnf) | (refine And.intro (fun _ => ?_) (fun h => Bool.noConfusion h); conv => whnf) | (refine And.intro (fun h => Bool.noConfusion h) (fun _ => ?_); conv => whnf))
          repeat' (first | ((refine And.intro (fun h => ?_) (fun h => ?_)) <;> (try simp at h) <;> ((conv => whnf); repeat (first | (refine And.intro rfl ?_; conv => whnf) | (refine And.intro (fun _ => ?_) (fun h => Bool.noConfusion h); conv => whnf) | (refine And.intro (fun h => Bool.noConfusion h) (fun _ => ?_); conv => whnf)))) | (refine ⟨_, g1, ?_⟩; ((conv => whnf); repeat (first | (refine And.intro rfl ?_; conv => whnf) | (refine And.intro (fun _ => ?_) (fun h => Bool.noConfusion h); conv => whnf) | (refine And.intro (fun h => Bool.noConfusion h) (fun _ => ?_); conv => whnf)))) | (refine ⟨_, g2, ?_⟩; ((conv => whnf); repeat (first | (refine And.intro rfl ?_; conv => whnf) | (refine And.intro (fun _ => ?_) (fun h => Bool.noConfusion h); conv => whnf) | (refine And.intro (fun h => Bool.noConfusion h) (fun _ => ?_); conv => whnf)))) | (refine ⟨_, _, hff, ?_⟩; ((conv => whnf); repeat (first | (refine And.intro rfl ?_; conv => whnf) | (refine And.intro (fun _ => ?_) (fun h => Bool.noConfusion h); conv => whnf) | (refine And.intro (fun h => Bool.noConfusion h) (fun _ => ?_); conv => whnf)))) | fail)
          all_goals first
            | (exfalso; first | contradiction | omega | (simp_all; done))
            | (refine again (k + 1) ⟨hlt, ?_, ?_⟩ (by omega) ?_
               · have hrb : rb = true := by rw [hspec]; first | (simp [vbad, *]; done) | (simp [vbad, *]; omega) | (simp [vbad, cmE, rsE, *]; done) | (simp [vbad, cmE, rsE, *]; omega)
                 rw [hrb, Bool.true_and] at hF
                 exact hF
               · have hrb : rb = true := by rw [hspec]; first | (simp [vbad, *]; done) | (simp [vbad, *]; omega) | (simp [vbad, cmE, rsE, *]; done) | (simp [vbad, cmE, rsE, *]; omega)
                 rw [hP1, hrb]; rfl
               · (refine And.intro rfl (And.intro rfl ?_)); (repeat' (first | exact trivial | exact rfl | apply And.intro | (refine congrArg (Value.int .i64) (w64_nat ?_); omega)))
                 all_goals first
                   | exact congrArg (Blk.mp _ _ _) (p1 rfl hb)
                   | exact congrArg (Blk.mp _ _ _) (p2 rfl)
                   | exact congrArg (Blk.mp _ _ _) (p3 rfl)
                   | exact congrArg (Blk.mp _ _ _) (p4 rfl))
            | (refine Exists.intro [] (And.intro List.nodup_nil ?_); ((conv => whnf); repeat (first | (refine And.intro rfl ?_; conv => whnf) | (refine And.intro (fun _ => ?_) (fun h => Bool.noConfusion h); conv => whnf) | (refine And.intro (fun h => Bool.noConfusion h) (fun _ => ?_); conv => whnf)))
               have hrb : rb = false := by rw [hspec]; first | (simp [vbad, *]; done) | (simp [vbad, *]; omega) | (simp [vbad, cmE, rsE, *]; done) | (simp [vbad, cmE, rsE, *]; intro a1 a2 a3; exact absurd a3 (h a1 a2)) | (simp [vbad, cmE, rsE, *]; intro a1; rcases h with h | h; exact absurd a1 h; exact h) | (simp [vbad, cmE, rsE, *]; intro a1 a2 a3; rcases h with h | h | h; exact absurd a1 h; exact absurd a2 h; exact absurd a3 h)
               rw [hrb, Bool.false_and] at hF
               rw [← hF]; rfl)
        | false =>
          (conv => whnf); repeat (first | (refine And.intro rfl ?_; conv => whnf) | (refine And.intro (fun _ => ?_) (fun h => Bool.noConfusion h); conv => whnf) | (refine And.intro (fun h => Bool.noConfusion h) (fun _ => ?_); conv => whnf))
          repeat' (first | ((refine And.intro (fun h => ?_) (fun h => ?_)) <;> (try simp at h) <;> ((conv => whnf); repeat (first | (refine And.intro rfl ?_; conv => whnf) | (refine And.intro (fun _ => ?_) (fun h => Bool.noConfusion h); conv => whnf) | (refine And.intro (fun h => Bool.noConfusion h) (fun _ => ?_); conv => whnf)))) | (refine ⟨_, g1, ?_⟩; ((conv => whnf); repeat (first | (refine And.intro rfl ?_; conv => whnf) | (refine And.intro (fun _ => ?_) (fun h => Bool.noConfusion h); conv => whnf) | (refine And.intro (fun h => Bool.noConfusion h) (fun _ => ?_); conv => whnf)))) | (refine ⟨_, g2, ?_⟩; ((conv => whnf); repeat (first | (refine And.intro rfl ?_; conv => whnf) | (refine And.intro (fun _ => ?_) (fun h => Bool.noConfusion h); conv => whnf) | (refine And.intro (fun h => Bool.noConfusion h) (fun _ => ?_); conv => whnf)))) | (refine ⟨_, _, hff, ?_⟩; ((conv => whnf); repeat (first | (refine And.intro rfl ?_; conv => whnf) | (refine And.intro (fun _ => ?_) (fun h => Bool.noConfusion h); conv => whnf) | (refine And.intro (fun h => Bool.noConfusion h) (fun _ => ?_); conv => whnf)))) | fail)
          all_goals first
            | (exfalso; first | contradiction | omega | (simp_all; done))
            | (refine again (k + 1) ⟨hlt, ?_, ?_⟩ (by omega) ?_
               · have hrb : rb = true := by rw [hspec]; first | (simp [vbad, *]; done) | (simp [vbad, *]; omega) | (simp [vbad, cmE, rsE, *]; done) | (simp [vbad, cmE, rsE, *]; omega)
                 rw [hrb, Bool.true_and] at hF
                 exact hF
               · have hrb : rb = true := by rw [hspec]; first | (simp [vbad, *]; done) | (simp [vbad, *]; omega) | (simp [vbad, cmE, rsE, *]; done) | (simp [vbad, cmE, rsE, *]; omega)
                 rw [hP1, hrb]; rfl
               · (refine And.intro rfl (And.intro rfl ?_)); (repeat' (first | exact trivial | exact rfl | apply And.intro | (refine congrArg (Value.int .i64) (w64_nat ?_); omega)))
                 all_goals first
                   | exact congrArg (Blk.mp _ _ _) (p1 rfl hb)
                   | exact congrArg (Blk.mp _ _ _) (p2 rfl)
                   | exact congrArg (Blk.mp _ _ _) (p3 rfl)
                   | exact congrArg (Blk.mp _ _ _) (p4 rfl))
            | (refine Exists.intro [] (And.intro List.nodup_nil ?_); ((conv => whnf); repeat (first | (refine And.intro rfl ?_; conv => whnf) | (refine And.intro (fun _ => ?_) (fun h => Bool.noConfusion h); conv => whnf) | (refine And.intro (fun h => Bool.noConfusion h) (fun _ => ?_); conv => whnf)))
               have hrb : rb = false := by rw [hspec]; first | (simp [vbad, *]; done) | (simp [vbad, *]; omega) | (simp [vbad, cmE, rsE, *]; done) | (simp [vbad, cmE, rsE, *]; intro a1 a2 a3; exact absurd a3 (h a1 a2)) | (simp [vbad, cmE, rsE, *]; intro a1; rcases h with h | h; exact absurd a1 h; exact h) | (simp [vbad, cmE, rsE, *]; intro a1 a2 a3; rcases h with h | h | h; exact absurd a1 h; exact absurd a2 h; exact absurd a3 h)
               rw [hrb, Bool.false_and] at hF
               rw [← hF]; rfl)
  · have hge : ¬ k < l.length := by have := of_decide_eq_false h1; rw [vLen] at this; omega
    (conv => whnf); repeat (first | (refine And.intro rfl ?_; conv => whnf) | (refine And.intro (fun _ => ?_) (fun h => Bool.noConfusion h); conv => whnf) | (refine And.intro (fun h => Bool.noConfusion h) (fun _ => ?_); conv => whnf))
    refine Exists.intro [] (And.intro List.nodup_nil ?_); ((conv => whnf); repeat (first | (refine And.intro rfl ?_; conv => whnf) | (refine And.intro (fun _ => ?_) (fun h => Bool.noConfusion h); conv => whnf) | (refine And.intro (fun h => Bool.noConfusion h) (fun _ => ?_); conv => whnf)))
    rw [List.drop_of_length_le (by omega)] at hF
    rw [← hF]; rfl
end Go.Proofs.Ytmooflgfcebmaaa.Ab
