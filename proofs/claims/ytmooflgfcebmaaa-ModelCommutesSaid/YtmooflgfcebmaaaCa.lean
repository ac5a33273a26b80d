/- Commands: the first error, the words, a block of zeros. -/
import Derived.Test.YtmooflgfcebmaaaGb
import Derived.Test.YtmooflgfcebmaaaFs
import Derived.Test.YtmooflgfcebmaaaShelf
namespace Go.Proofs.Ytmooflgfcebmaaa.Ab
set_option linter.unusedVariables false
set_option linter.unusedSimpArgs false
open Go.RowKit

def strV (s : ByteArray) : AV := .c (.i (.sc (.string s)))
def cfV (a b c d e f : Int) : AV := .agg [.i (.sc (.int .i64 a)), .i (.sc (.int .i64 b)), .i (.sc (.int .i64 c)), .i (.sc (.int .i64 d)), .i (.sc (.int .i64 e)), .i (.sc (.int .i64 f))]
def cmV (k b : Int) (s : ByteArray) : AV := .agg [.i (.sc (.int .i64 k)), .i (.sc (.int .i64 b)), .i (.sc (.string s))]
def zeroS : ByteArray := ⟨(Lib.repeatL (ByteArray.mk #[0]).data.toList 16).toArray⟩
theorem zeroS_size : zeroS.size = 16 := by rfl
theorem repeatF : Fun Try.prog 56 [strV ⟨#[0]⟩, i64V 16] [] (.v (strV zeroS)) :=
  fun_of_calls (args := [.string ⟨#[0]⟩, .int .i64 16]) (v := .string zeroS) ⟨_, Try.func56, rfl, by rfl⟩ rfl (fun w => Try.strings_Repeat ⟨#[0]⟩ 16 w (by decide) (by decide))
set_option maxRecDepth 100000 in
set_option maxHeartbeats 4000000 in
theorem zeroF : Fun Try.prog 28 [] [] (.v (strV zeroS)) := by
  refine fun_of_vc tabOk mixOk Try.func28 rfl (by rfl) (rs := [.tmp 0]) rfl rfl 6 ?_; rw [Try.ntmps28]
  (conv => whnf); repeat (first | (refine And.intro rfl ?_; conv => whnf) | (refine And.intro (fun _ => ?_) (fun h => Bool.noConfusion h); conv => whnf) | (refine And.intro (fun h => Bool.noConfusion h) (fun _ => ?_); conv => whnf))
  refine ⟨_, _, repeatF, ?_⟩
  (conv => whnf); repeat (first | (refine And.intro rfl ?_; conv => whnf) | (refine And.intro (fun _ => ?_) (fun h => Bool.noConfusion h); conv => whnf) | (refine And.intro (fun h => Bool.noConfusion h) (fun _ => ?_); conv => whnf))
  refine Exists.intro [] (And.intro List.nodup_nil ?_); ((conv => whnf); repeat (first | (refine And.intro rfl ?_; conv => whnf) | (refine And.intro (fun _ => ?_) (fun h => Bool.noConfusion h); conv => whnf) | (refine And.intro (fun h => Bool.noConfusion h) (fun _ => ?_); conv => whnf)))
  rfl
def chk (B k b n : Int) : Int :=
  if k = 1 ∨ k = 2 ∨ k = 3 then (if b < 0 ∨ b ≥ B then 1 else if n = (if k = 2 then 16 else 0) then 0 else 2)
  else if k = 4 then (if b = 0 then (if n = 0 then 0 else 2) else 1) else 3
set_option maxRecDepth 100000 in
set_option maxHeartbeats 8000000 in
theorem checkF (a1 a2 B a4 a5 a6 k b : Int) (s : ByteArray) : Fun Try.prog 24 [cfV a1 a2 B a4 a5 a6, cmV k b s] [] (.v (i64V (chk B k b s.size))) := by
  have he : s = ByteArray.empty ↔ s.size = 0 := by simp
  refine fun_of_vc tabOk mixOk Try.func24 rfl (by rfl) (rs := [.tmp 4]) rfl rfl 39 ?_; rw [Try.ntmps24]
  (conv => whnf); repeat (first | (refine And.intro rfl ?_; conv => whnf) | (refine And.intro (fun _ => ?_) (fun h => Bool.noConfusion h); conv => whnf) | (refine And.intro (fun h => Bool.noConfusion h) (fun _ => ?_); conv => whnf))
  repeat' (first | ((refine And.intro (fun h => ?_) (fun h => ?_)) <;> (try simp at h) <;> ((conv => whnf); repeat (first | (refine And.intro rfl ?_; conv => whnf) | (refine And.intro (fun _ => ?_) (fun h => Bool.noConfusion h); conv => whnf) | (refine And.intro (fun h => Bool.noConfusion h) (fun _ => ?_); conv => whnf)))) | fail)
  all_goals (refine Exists.intro [] (And.intro List.nodup_nil ?_); ((conv => whnf); repeat (first | (refine And.intro rfl ?_; conv => whnf) | (refine And.intro (fun _ => ?_) (fun h => Bool.noConfusion h); conv => whnf) | (refine And.intro (fun h => Bool.noConfusion h) (fun _ => ?_); conv => whnf))))
  all_goals (refine congrArg (fun n => AT.v (i64V n)) ?_)
  all_goals (unfold chk)
  all_goals (repeat' split)
  all_goals (first | rfl | omega | (rw [he] at h; omega))

def sWords : List ByteArray := [⟨#[]⟩, ⟨#[114, 101, 97, 100]⟩, ⟨#[119, 114, 105, 116, 101]⟩, ⟨#[116, 114, 105, 109]⟩, ⟨#[102, 108, 117, 115, 104]⟩]
def knd (k : Int) : ByteArray := if k = 1 then ⟨#[114, 101, 97, 100]⟩ else if k = 2 then ⟨#[119, 114, 105, 116, 101]⟩ else if k = 3 then ⟨#[116, 114, 105, 109]⟩ else if k = 4 then ⟨#[102, 108, 117, 115, 104]⟩ else ⟨#[]⟩
set_option maxRecDepth 100000 in
set_option maxHeartbeats 8000000 in
theorem kindF' (k b : Int) (s : ByteArray) : Fun Try.prog 27 [cmV k b s] [] (.v (strV (knd k))) := by
  refine fun_of_vc tabOk mixOk Try.func27 rfl (by rfl) (rs := [.tmp 2]) rfl rfl 17 ?_; rw [Try.ntmps27]
  (conv => whnf); repeat (first | (refine And.intro rfl ?_; conv => whnf) | (refine And.intro (fun _ => ?_) (fun h => Bool.noConfusion h); conv => whnf) | (refine And.intro (fun h => Bool.noConfusion h) (fun _ => ?_); conv => whnf))
  repeat' (first | ((refine And.intro (fun h => ?_) (fun h => ?_)) <;> (try simp at h) <;> ((conv => whnf); repeat (first | (refine And.intro rfl ?_; conv => whnf) | (refine And.intro (fun _ => ?_) (fun h => Bool.noConfusion h); conv => whnf) | (refine And.intro (fun h => Bool.noConfusion h) (fun _ => ?_); conv => whnf)))) | fail)
  all_goals (refine Exists.intro [] (And.intro List.nodup_nil ?_); ((conv => whnf); repeat (first | (refine And.intro rfl ?_; conv => whnf) | (refine And.intro (fun _ => ?_) (fun h => Bool.noConfusion h); conv => whnf) | (refine And.intro (fun h => Bool.noConfusion h) (fun _ => ?_); conv => whnf))))
  all_goals (refine congrArg (fun n => AT.v (strV n)) ?_)
  all_goals (unfold knd; simp [*])
set_option maxRecDepth 100000 in
set_option maxHeartbeats 8000000 in
theorem kindF (k b : Int) (s : ByteArray) : Fun Try.prog 26 [cmV k b s] [] (.v (strV (knd k))) := by
  by_cases h0 : k < 0 ∨ 5 ≤ k
  · have e : knd k = ⟨#[]⟩ := by unfold knd; rw [if_neg (by omega), if_neg (by omega), if_neg (by omega), if_neg (by omega)]
    rw [e]
    refine fun_of_vc tabOk mixOk Try.func26 rfl (by rfl) (rs := [.tmp 2]) rfl rfl 21 ?_; rw [Try.ntmps26]
    (conv => whnf); repeat (first | (refine And.intro rfl ?_; conv => whnf) | (refine And.intro (fun _ => ?_) (fun h => Bool.noConfusion h); conv => whnf) | (refine And.intro (fun h => Bool.noConfusion h) (fun _ => ?_); conv => whnf))
    refine And.intro (fun h => ?_) (fun h => ?_)
    · (conv => whnf); repeat (first | (refine And.intro rfl ?_; conv => whnf) | (refine And.intro (fun _ => ?_) (fun h => Bool.noConfusion h); conv => whnf) | (refine And.intro (fun h => Bool.noConfusion h) (fun _ => ?_); conv => whnf))
      refine Exists.intro [] (And.intro List.nodup_nil ?_); ((conv => whnf); repeat (first | (refine And.intro rfl ?_; conv => whnf) | (refine And.intro (fun _ => ?_) (fun h => Bool.noConfusion h); conv => whnf) | (refine And.intro (fun h => Bool.noConfusion h) (fun _ => ?_); conv => whnf)))
      rfl
    · have h' := of_decide_eq_false h
      (conv => whnf); repeat (first | (refine And.intro rfl ?_; conv => whnf) | (refine And.intro (fun _ => ?_) (fun h => Bool.noConfusion h); conv => whnf) | (refine And.intro (fun h => Bool.noConfusion h) (fun _ => ?_); conv => whnf))
      refine And.intro (fun h => ?_) (fun h => ?_)
      · (conv => whnf); repeat (first | (refine And.intro rfl ?_; conv => whnf) | (refine And.intro (fun _ => ?_) (fun h => Bool.noConfusion h); conv => whnf) | (refine And.intro (fun h => Bool.noConfusion h) (fun _ => ?_); conv => whnf))
        refine Exists.intro [] (And.intro List.nodup_nil ?_); ((conv => whnf); repeat (first | (refine And.intro rfl ?_; conv => whnf) | (refine And.intro (fun _ => ?_) (fun h => Bool.noConfusion h); conv => whnf) | (refine And.intro (fun h => Bool.noConfusion h) (fun _ => ?_); conv => whnf)))
        rfl
      · have h'' := of_decide_eq_false h
        omega
  · have h5 : k = 0 ∨ k = 1 ∨ k = 2 ∨ k = 3 ∨ k = 4 := by omega
    rcases h5 with rfl | rfl | rfl | rfl | rfl
    all_goals (refine fun_of_vc tabOk mixOk Try.func26 rfl (by rfl) (rs := [.tmp 2]) rfl rfl 21 ?_; rw [Try.ntmps26]; (conv => whnf); repeat (first | (refine And.intro rfl ?_; conv => whnf) | (refine And.intro (fun _ => ?_) (fun h => Bool.noConfusion h); conv => whnf) | (refine And.intro (fun h => Bool.noConfusion h) (fun _ => ?_); conv => whnf)))
    all_goals (refine ⟨by decide, by decide, ?_⟩; (conv => whnf); repeat (first | (refine And.intro rfl ?_; conv => whnf) | (refine And.intro (fun _ => ?_) (fun h => Bool.noConfusion h); conv => whnf) | (refine And.intro (fun h => Bool.noConfusion h) (fun _ => ?_); conv => whnf)))
    all_goals (refine Exists.intro [] (And.intro List.nodup_nil ?_); ((conv => whnf); repeat (first | (refine And.intro rfl ?_; conv => whnf) | (refine And.intro (fun _ => ?_) (fun h => Bool.noConfusion h); conv => whnf) | (refine And.intro (fun h => Bool.noConfusion h) (fun _ => ?_); conv => whnf))))
    all_goals rfl

theorem chw1 : Fun Try.prog 24 [cfV 0 0 3 0 0 0, cmV 2 2 ⟨#[49, 50, 51, 52, 53, 54, 55, 56, 57, 48, 49, 50, 51, 52, 53]⟩] [] (.v (i64V 2)) := checkF 0 0 3 0 0 0 2 2 _
theorem chw2 : Fun Try.prog 24 [cfV 0 0 3 0 0 0, cmV 2 2 ⟨#[49, 50, 51, 52, 53, 54, 55, 56, 57, 48, 49, 50, 51, 52, 53, 54]⟩] [] (.v (i64V 0)) := checkF 0 0 3 0 0 0 2 2 _
theorem chw3 : Fun Try.prog 26 [cmV 3 0 ByteArray.empty] [] (.v (strV ⟨#[116, 114, 105, 109]⟩)) := kindF 3 0 _
set_option maxRecDepth 100000 in
set_option maxHeartbeats 8000000 in
theorem cmAwake' (z : ByteArray) (hz : z.size = 16) (h : Fun Try.prog 28 [] [] (.v (strV z))) : Fun Try.prog 23 [] [] (ATbool true) := by
  refine fun_of_vc tabOk mixOk Try.func23 rfl (by rfl) (rs := [.tmp 0]) rfl rfl 27 ?_; rw [Try.ntmps23]
  (conv => whnf); repeat (first | (refine And.intro rfl ?_; conv => whnf) | (refine And.intro (fun _ => ?_) (fun h => Bool.noConfusion h); conv => whnf) | (refine And.intro (fun h => Bool.noConfusion h) (fun _ => ?_); conv => whnf))
  refine ⟨_, _, chw1, ?_⟩
  (conv => whnf); repeat (first | (refine And.intro rfl ?_; conv => whnf) | (refine And.intro (fun _ => ?_) (fun h => Bool.noConfusion h); conv => whnf) | (refine And.intro (fun h => Bool.noConfusion h) (fun _ => ?_); conv => whnf))
  refine ⟨_, _, chw2, ?_⟩
  (conv => whnf); repeat (first | (refine And.intro rfl ?_; conv => whnf) | (refine And.intro (fun _ => ?_) (fun h => Bool.noConfusion h); conv => whnf) | (refine And.intro (fun h => Bool.noConfusion h) (fun _ => ?_); conv => whnf))
  refine ⟨_, _, chw3, ?_⟩
  (conv => whnf); repeat (first | (refine And.intro rfl ?_; conv => whnf) | (refine And.intro (fun _ => ?_) (fun h => Bool.noConfusion h); conv => whnf) | (refine And.intro (fun h => Bool.noConfusion h) (fun _ => ?_); conv => whnf))
  refine And.intro (fun _ => ?_) (fun h => by simp at h)
  (conv => whnf); repeat (first | (refine And.intro rfl ?_; conv => whnf) | (refine And.intro (fun _ => ?_) (fun h => Bool.noConfusion h); conv => whnf) | (refine And.intro (fun h => Bool.noConfusion h) (fun _ => ?_); conv => whnf))
  refine ⟨_, _, h, ?_⟩
  (conv => whnf); repeat (first | (refine And.intro rfl ?_; conv => whnf) | (refine And.intro (fun _ => ?_) (fun h => Bool.noConfusion h); conv => whnf) | (refine And.intro (fun h => Bool.noConfusion h) (fun _ => ?_); conv => whnf))
  refine Exists.intro [] (And.intro List.nodup_nil ?_); ((conv => whnf); repeat (first | (refine And.intro rfl ?_; conv => whnf) | (refine And.intro (fun _ => ?_) (fun h => Bool.noConfusion h); conv => whnf) | (refine And.intro (fun h => Bool.noConfusion h) (fun _ => ?_); conv => whnf)))
  exact congrArg ATbool (by rw [hz]; rfl)
theorem cmAwake : Fun Try.prog 23 [] [] (ATbool true) := cmAwake' zeroS zeroS_size zeroF

theorem chk_more {B k b n : Int} {m : Int} (hm : 0 ≤ m) (h : chk B k b n = 0) : chk (B + m) k b n = 0 := by
  unfold chk at h ⊢
  split
  · rename_i h1
    rw [if_pos h1] at h
    split at h
    · cases h
    · rw [if_neg (by omega)]; exact h
  · rename_i h1
    rw [if_neg h1] at h
    exact h
set_option maxRecDepth 100000 in
set_option maxHeartbeats 8000000 in
theorem cmBlocksF (a1 a2 B a4 a5 a6 d1 d2 d3 d4 d5 d6 k b : Int) (s : ByteArray) (m : Int) (hB : -9223372036854775808 ≤ B) (hm : 0 ≤ m ∧ m ≤ 255) (hs : s.size ≤ 9223372036854775807) : Fun Try.prog 8 [cfV a1 a2 B a4 a5 a6, cfV d1 d2 d3 d4 d5 d6, cmV k b s, .c (.i (.sc (.int .u8 m)))] [] (ATbool true) := by
  refine fun_of_vc tabOk mixOk Try.func8 rfl (by rfl) (rs := [.tmp 8]) rfl rfl 56 ?_; rw [Try.ntmps8]
  (conv => whnf); repeat (first | (refine And.intro rfl ?_; conv => whnf) | (refine And.intro (fun _ => ?_) (fun h => Bool.noConfusion h); conv => whnf) | (refine And.intro (fun h => Bool.noConfusion h) (fun _ => ?_); conv => whnf))
  refine And.intro (fun h => ?_) (fun h => ?_)
  · (conv => whnf); repeat (first | (refine And.intro rfl ?_; conv => whnf) | (refine And.intro (fun _ => ?_) (fun h => Bool.noConfusion h); conv => whnf) | (refine And.intro (fun h => Bool.noConfusion h) (fun _ => ?_); conv => whnf))
    refine ⟨_, _, cmAwake, ?_⟩
    (conv => whnf); repeat (first | (refine And.intro rfl ?_; conv => whnf) | (refine And.intro (fun _ => ?_) (fun h => Bool.noConfusion h); conv => whnf) | (refine And.intro (fun h => Bool.noConfusion h) (fun _ => ?_); conv => whnf))
    refine Exists.intro [] (And.intro List.nodup_nil ?_); ((conv => whnf); repeat (first | (refine And.intro rfl ?_; conv => whnf) | (refine And.intro (fun _ => ?_) (fun h => Bool.noConfusion h); conv => whnf) | (refine And.intro (fun h => Bool.noConfusion h) (fun _ => ?_); conv => whnf)))
    rfl
  (conv => whnf); repeat (first | (refine And.intro rfl ?_; conv => whnf) | (refine And.intro (fun _ => ?_) (fun h => Bool.noConfusion h); conv => whnf) | (refine And.intro (fun h => Bool.noConfusion h) (fun _ => ?_); conv => whnf))
  refine And.intro (fun h2 => ?_) (fun h2 => ?_)
  · (conv => whnf); repeat (first | (refine And.intro rfl ?_; conv => whnf) | (refine And.intro (fun _ => ?_) (fun h => Bool.noConfusion h); conv => whnf) | (refine And.intro (fun h => Bool.noConfusion h) (fun _ => ?_); conv => whnf))
    refine ⟨_, _, cmAwake, ?_⟩
    (conv => whnf); repeat (first | (refine And.intro rfl ?_; conv => whnf) | (refine And.intro (fun _ => ?_) (fun h => Bool.noConfusion h); conv => whnf) | (refine And.intro (fun h => Bool.noConfusion h) (fun _ => ?_); conv => whnf))
    refine Exists.intro [] (And.intro List.nodup_nil ?_); ((conv => whnf); repeat (first | (refine And.intro rfl ?_; conv => whnf) | (refine And.intro (fun _ => ?_) (fun h => Bool.noConfusion h); conv => whnf) | (refine And.intro (fun h => Bool.noConfusion h) (fun _ => ?_); conv => whnf)))
    rfl
  have h2' := of_decide_eq_false h2
  have hw1 : iwrap .i64 m = m := w64_in (by omega)
  have hw : iwrap .i64 (B + m) = B + m := w64_in (by omega)
  (conv => whnf); repeat (first | (refine And.intro rfl ?_; conv => whnf) | (refine And.intro (fun _ => ?_) (fun h => Bool.noConfusion h); conv => whnf) | (refine And.intro (fun h => Bool.noConfusion h) (fun _ => ?_); conv => whnf))
  refine ⟨_, _, checkF _ _ _ _ _ _ _ _ _, ?_⟩
  (conv => whnf); repeat (first | (refine And.intro rfl ?_; conv => whnf) | (refine And.intro (fun _ => ?_) (fun h => Bool.noConfusion h); conv => whnf) | (refine And.intro (fun h => Bool.noConfusion h) (fun _ => ?_); conv => whnf))
  rw [hw1, hw]
  refine ⟨_, _, cmAwake, ?_⟩
  (conv => whnf); repeat (first | (refine And.intro rfl ?_; conv => whnf) | (refine And.intro (fun _ => ?_) (fun h => Bool.noConfusion h); conv => whnf) | (refine And.intro (fun h => Bool.noConfusion h) (fun _ => ?_); conv => whnf))
  refine ⟨_, _, checkF _ _ _ _ _ _ _ _ _, ?_⟩
  (conv => whnf); repeat (first | (refine And.intro rfl ?_; conv => whnf) | (refine And.intro (fun _ => ?_) (fun h => Bool.noConfusion h); conv => whnf) | (refine And.intro (fun h => Bool.noConfusion h) (fun _ => ?_); conv => whnf))
  refine And.intro (fun _ => ?_) (fun h => by simp at h)
  (conv => whnf); repeat (first | (refine And.intro rfl ?_; conv => whnf) | (refine And.intro (fun _ => ?_) (fun h => Bool.noConfusion h); conv => whnf) | (refine And.intro (fun h => Bool.noConfusion h) (fun _ => ?_); conv => whnf))
  refine And.intro (fun _ => ?_) (fun h3 => ?_)
  · (conv => whnf); repeat (first | (refine And.intro rfl ?_; conv => whnf) | (refine And.intro (fun _ => ?_) (fun h => Bool.noConfusion h); conv => whnf) | (refine And.intro (fun h => Bool.noConfusion h) (fun _ => ?_); conv => whnf))
    refine Exists.intro [] (And.intro List.nodup_nil ?_); ((conv => whnf); repeat (first | (refine And.intro rfl ?_; conv => whnf) | (refine And.intro (fun _ => ?_) (fun h => Bool.noConfusion h); conv => whnf) | (refine And.intro (fun h => Bool.noConfusion h) (fun _ => ?_); conv => whnf)))
    rfl
  · have h3' : chk B k b s.size = 0 := by simpa using h3
    have h4 := chk_more hm.1 h3'
    (conv => whnf); repeat (first | (refine And.intro rfl ?_; conv => whnf) | (refine And.intro (fun _ => ?_) (fun h => Bool.noConfusion h); conv => whnf) | (refine And.intro (fun h => Bool.noConfusion h) (fun _ => ?_); conv => whnf))
    refine ⟨_, _, checkF _ _ _ _ _ _ _ _ _, ?_⟩
    (conv => whnf); repeat (first | (refine And.intro rfl ?_; conv => whnf) | (refine And.intro (fun _ => ?_) (fun h => Bool.noConfusion h); conv => whnf) | (refine And.intro (fun h => Bool.noConfusion h) (fun _ => ?_); conv => whnf))
    refine Exists.intro [] (And.intro List.nodup_nil ?_); ((conv => whnf); repeat (first | (refine And.intro rfl ?_; conv => whnf) | (refine And.intro (fun _ => ?_) (fun h => Bool.noConfusion h); conv => whnf) | (refine And.intro (fun h => Bool.noConfusion h) (fun _ => ?_); conv => whnf)))
    exact congrArg ATbool (by rw [h4]; rfl)
theorem config_of {d : Nat} {e : List IV} (h : ShI tab (d + 1 + 1) 44 e) : ∃ a b c x y z : Int, e = [.sc (.int .i64 a), .sc (.int .i64 b), .sc (.int .i64 c), .sc (.int .i64 x), .sc (.int .i64 y), .sc (.int .i64 z)] ∧ (Lit.int .i64 c).wf = true := by
  obtain ⟨_, _, rfl, ⟨a, rfl, _⟩, _, _, rfl, ⟨b, rfl, _⟩, _, _, rfl, ⟨c, rfl, hc⟩, _, _, rfl, ⟨x, rfl, _⟩, _, _, rfl, ⟨y, rfl, _⟩, _, _, rfl, ⟨z, rfl, _⟩, rfl⟩ := h
  exact ⟨a, b, c, x, y, z, rfl, hc⟩
theorem command_of {d : Nat} {e : List IV} (h : ShI tab (d + 1 + 1) 34 e) : ∃ (k b : Int) (s : ByteArray), e = [.sc (.int .i64 k), .sc (.int .i64 b), .sc (.string s)] ∧ s.size ≤ maxLen := by
  obtain ⟨_, _, rfl, ⟨a, rfl, _⟩, _, _, rfl, ⟨b, rfl, _⟩, _, _, rfl, ⟨s, rfl, hs⟩, rfl⟩ := h
  exact ⟨a, b, s, rfl, hs⟩
end Go.Proofs.Ytmooflgfcebmaaa.Ab
