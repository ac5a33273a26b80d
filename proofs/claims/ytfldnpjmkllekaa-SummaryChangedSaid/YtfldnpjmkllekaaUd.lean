/- Summaries: the summary of any sectors, and which records fit them. -/
import Derived.Test.YtfldnpjmkllekaaUc
import Derived.Test.YtfldnpjmkllekaaFu
namespace Go.Proofs.Ytfldnpjmkllekaa.Ab
set_option linter.unusedVariables false
set_option linter.unusedSimpArgs false
open Go.RowKit

def rz : Rec := ⟨2, 1, 7, 0, ByteArray.empty⟩
theorem rz_ok : rchk rz = 0 := by decide
theorem smake_rz : ∃ Z, smake [sS (encL rz)] = (⟨3, 1, 7, 0, Z⟩, 0) := by
  have h := dec_enc rz_ok
  have e : sfold [sS (encL rz)] [] 1099511627776 0 = (0, ([] : List UInt8) ++ (sL (sS (encL rz))).take 36, 7, 7) := by
    rw [sfold_step (by rw [h]) (by rw [h]; decide), h]
    rfl
  unfold smake
  rw [if_neg (by simp), e]
  exact ⟨_, rfl⟩
set_option maxRecDepth 100000 in
set_option maxHeartbeats 16000000 in
theorem suAwake : Fun Try.prog 37 [] [] (ATbool true) := by
  have hsec := sectorF 2 1 7 0 ByteArray.empty
  rw [show renc ⟨2, 1, 7, 0, ByteArray.empty⟩ = _ from renc_yes rz_ok] at hsec
  obtain ⟨Z, hZ⟩ := smake_rz
  have h1 := smakeF [sS (encL rz)] (fun _ s hs => by
    rw [List.mem_singleton.1 hs, sS_size, enc_len (by decide)]
    decide)
  rw [hZ] at h1
  have h2 := smakeF [] (fun _ s hs => by cases hs)
  rw [show smake [] = (r0, 19) from rfl] at h2
  rw [show encL (⟨2, 1, 7, 0, ByteArray.empty⟩ : Rec) = encL rz from rfl] at hsec
  have h3 := sverF 3 1 7 0 Z [sS (encL rz)] (fun _ s hs => by
    rw [List.mem_singleton.1 hs, sS_size, enc_len (by decide)]
    decide)
  rw [show sver 3 1 7 0 Z [sS (encL rz)] = true by unfold sver; rw [hZ]; simp] at h3
  dsimp only at hsec h1 h2
  generalize sS (encL rz) = A at hsec h1 h3
  refine fun_of_vc tabOk mixOk Try.func37 rfl (by rfl) (rs := [.tmp 0]) rfl rfl 48 ?_; rw [Try.ntmps37]
  (conv => whnf); repeat (first | (refine And.intro rfl ?_; conv => whnf) | (refine And.intro (fun _ => ?_) (fun h => Bool.noConfusion h); conv => whnf) | (refine And.intro (fun h => Bool.noConfusion h) (fun _ => ?_); conv => whnf))
  refine ⟨_, _, hsec, ?_⟩
  (conv => whnf); repeat (first | (refine And.intro rfl ?_; conv => whnf) | (refine And.intro (fun _ => ?_) (fun h => Bool.noConfusion h); conv => whnf) | (refine And.intro (fun h => Bool.noConfusion h) (fun _ => ?_); conv => whnf))
  refine ⟨_, _, h1, ?_⟩
  (conv => whnf); repeat (first | (refine And.intro rfl ?_; conv => whnf) | (refine And.intro (fun _ => ?_) (fun h => Bool.noConfusion h); conv => whnf) | (refine And.intro (fun h => Bool.noConfusion h) (fun _ => ?_); conv => whnf))
  refine ⟨_, _, h2, ?_⟩
  (conv => whnf); repeat (first | (refine And.intro rfl ?_; conv => whnf) | (refine And.intro (fun _ => ?_) (fun h => Bool.noConfusion h); conv => whnf) | (refine And.intro (fun h => Bool.noConfusion h) (fun _ => ?_); conv => whnf))
  repeat' (first | ((refine And.intro (fun h => ?_) (fun h => ?_)) <;> (try simp at h) <;> ((conv => whnf); repeat (first | (refine And.intro rfl ?_; conv => whnf) | (refine And.intro (fun _ => ?_) (fun h => Bool.noConfusion h); conv => whnf) | (refine And.intro (fun h => Bool.noConfusion h) (fun _ => ?_); conv => whnf)))) | (refine ⟨_, _, h3, ?_⟩; ((conv => whnf); repeat (first | (refine And.intro rfl ?_; conv => whnf) | (refine And.intro (fun _ => ?_) (fun h => Bool.noConfusion h); conv => whnf) | (refine And.intro (fun h => Bool.noConfusion h) (fun _ => ?_); conv => whnf)))) | fail)
  all_goals (refine Exists.intro [] (And.intro List.nodup_nil ?_); ((conv => whnf); repeat (first | (refine And.intro rfl ?_; conv => whnf) | (refine And.intro (fun _ => ?_) (fun h => Bool.noConfusion h); conv => whnf) | (refine And.intro (fun h => Bool.noConfusion h) (fun _ => ?_); conv => whnf))))
  all_goals rfl
def tsum : List ByteArray → Int
  | [] => 0
  | s :: ss => 10 + (s.size : Int) + tsum ss
theorem tsum_snoc (a : List ByteArray) (s : ByteArray) : tsum (a ++ [s]) = tsum a + 10 + s.size := by
  induction a with
  | nil => simp only [List.nil_append, tsum]; omega
  | cons x a ih => simp only [List.cons_append, tsum, ih]; omega
theorem tsum_nn (a : List ByteArray) : 0 ≤ tsum a := by
  induction a with
  | nil => exact Int.le_refl _
  | cons x a ih => simp only [tsum]; omega
theorem tsum_mem {a : List ByteArray} {s : ByteArray} (h : s ∈ a) : (s.size : Int) ≤ tsum a := by
  induction a with
  | nil => cases h
  | cons x a ih =>
    have := tsum_nn a
    simp only [tsum]
    rcases List.mem_cons.1 h with rfl | h
    · omega
    · have := ih h; omega
theorem tsum_le (a : List ByteArray) (B : Nat) (h : ∀ s ∈ a, s.size ≤ B) : tsum a ≤ (a.length : Int) * (10 + B) := by
  induction a with
  | nil => simp [tsum]
  | cons x a ih =>
    have h1 := ih (fun s hs => h s (List.mem_cons_of_mem _ hs))
    have h2 := h x List.mem_cons_self
    simp only [tsum, List.length_cons]
    have e : ((a.length + 1 : Nat) : Int) * (10 + (B : Int)) = (a.length : Int) * (10 + B) + (10 + B) := by
      rw [Int.natCast_add, Int.add_mul]; simp
    rw [e]
    omega
theorem strs_of {d : Nat} (es : List (List IV)) (h : ∀ r ∈ es, ShI tab (d + 1) 9 r) : ∃ xs : List ByteArray, es = sV xs := by
  induction es with
  | nil => exact ⟨[], rfl⟩
  | cons e es ih =>
    obtain ⟨xs, rfl⟩ := ih (fun r hr => h r (List.mem_cons_of_mem _ hr))
    obtain ⟨s, rfl, _⟩ := h e List.mem_cons_self
    exact ⟨s :: xs, rfl⟩
set_option maxRecDepth 100000 in
set_option maxHeartbeats 16000000 in
theorem summaryExactF (ss : List ByteArray) (hlen : ss.length ≤ 140737488355328) (hb : ∀ s ∈ ss, s.size ≤ 140737488351232) (k b v m : Int) (p : ByteArray) : Fun Try.prog 10 [slV (sV ss), recV k b v m p] [] (ATbool true) := by
  have hl : (sV ss).length = ss.length := sLen ss
  refine fun_of_vc tabOk mixOk Try.func10 rfl (by rfl) (rs := [.tmp 4]) rfl rfl 62 ?_; rw [Try.ntmps10]
  (conv => whnf); repeat (first | (refine And.intro rfl ?_; conv => whnf) | (refine And.intro (fun _ => ?_) (fun h => Bool.noConfusion h); conv => whnf) | (refine And.intro (fun h => Bool.noConfusion h) (fun _ => ?_); conv => whnf))
  refine vc_loop [0, 3, 4] [3] (X := Nat × Int) (fun x gs => [(6, ATint x.1), (5, ATint x.2)]) (fun x gs => []) (fun x => x.1 ≤ ss.length ∧ (ss.length ≤ 64 → x.2 = tsum (ss.take x.1))) (fun x => ss.length - x.1) _ (Ghost.refl _) (0, 0) ⟨Nat.zero_le _, fun _ => rfl⟩ ?_ ?_
  · (refine And.intro rfl (And.intro rfl ?_)); (repeat' (first | exact trivial | exact rfl | apply And.intro | (refine congrArg (Value.int .i64) (w64_nat ?_); omega)))
  rintro gs ⟨i, t⟩ ⟨hi, ht⟩
  dsimp only at hi ht ⊢
  (conv => whnf); repeat (first | (refine And.intro rfl ?_; conv => whnf) | (refine And.intro (fun _ => ?_) (fun h => Bool.noConfusion h); conv => whnf) | (refine And.intro (fun h => Bool.noConfusion h) (fun _ => ?_); conv => whnf))
  refine And.intro (fun h => ?_) (fun h => ?_)
  · have hlt : i < ss.length := by have := of_decide_eq_true h; omega
    (conv => whnf); repeat (first | (refine And.intro rfl ?_; conv => whnf) | (refine And.intro (fun _ => ?_) (fun h => Bool.noConfusion h); conv => whnf) | (refine And.intro (fun h => Bool.noConfusion h) (fun _ => ?_); conv => whnf))
    refine ⟨by omega, _, sItem hlt, rfl, ?_⟩
    (conv => whnf); repeat (first | (refine And.intro rfl ?_; conv => whnf) | (refine And.intro (fun _ => ?_) (fun h => Bool.noConfusion h); conv => whnf) | (refine And.intro (fun h => Bool.noConfusion h) (fun _ => ?_); conv => whnf))
    refine again (i + 1, iwrap .i64 (iwrap .i64 (t + 10) + (ss[i].size : Int))) ⟨hlt, fun h64 => ?_⟩ (by dsimp only; omega) ?_
    · dsimp only
      rw [List.take_succ_eq_append_getElem hlt, tsum_snoc, ht h64]
      have h1 := tsum_nn (ss.take i)
      have h2 := tsum_le (ss.take i) 140737488351232 (fun s hs => hb s (List.mem_of_mem_take hs))
      have h3 : ((ss.take i).length : Int) ≤ 64 := by rw [List.length_take]; omega
      have h4 := hb _ (List.getElem_mem hlt)
      rw [show iwrap .i64 (tsum (ss.take i) + 10) = tsum (ss.take i) + 10 from w64_in (by omega)]
      exact w64_in (by omega)
    (refine And.intro rfl (And.intro rfl ?_)); (repeat' (first | exact trivial | exact rfl | apply And.intro | (refine congrArg (Value.int .i64) (w64_nat ?_); omega)))
  · obtain rfl : i = ss.length := by have := of_decide_eq_false h; omega
    rw [List.take_length] at ht
    (conv => whnf); repeat (first | (refine And.intro rfl ?_; conv => whnf) | (refine And.intro (fun _ => ?_) (fun h => Bool.noConfusion h); conv => whnf) | (refine And.intro (fun h => Bool.noConfusion h) (fun _ => ?_); conv => whnf))
    refine And.intro (fun h2 => ?_) (fun h2 => ?_)
    · (conv => whnf); repeat (first | (refine And.intro rfl ?_; conv => whnf) | (refine And.intro (fun _ => ?_) (fun h => Bool.noConfusion h); conv => whnf) | (refine And.intro (fun h => Bool.noConfusion h) (fun _ => ?_); conv => whnf))
      refine ⟨_, _, suAwake, ?_⟩
      (conv => whnf); repeat (first | (refine And.intro rfl ?_; conv => whnf) | (refine And.intro (fun _ => ?_) (fun h => Bool.noConfusion h); conv => whnf) | (refine And.intro (fun h => Bool.noConfusion h) (fun _ => ?_); conv => whnf))
      refine Exists.intro [] (And.intro List.nodup_nil ?_); ((conv => whnf); repeat (first | (refine And.intro rfl ?_; conv => whnf) | (refine And.intro (fun _ => ?_) (fun h => Bool.noConfusion h); conv => whnf) | (refine And.intro (fun h => Bool.noConfusion h) (fun _ => ?_); conv => whnf)))
      rfl
    have h3 : ss.length ≤ 64 → ∀ s ∈ ss, s.size ≤ 1000000 := fun h64 s hs => by
      have h4 := tsum_mem hs
      have h5 := of_decide_eq_false h2
      rw [ht h64] at h5
      omega
    have m1 := smakeF ss h3
    have m2 := smakeF' ss h3
    have v1 := sverF k b v m p ss h3
    have v2 := sverF' k b v m p ss h3
    generalize sver k b v m p ss = V at v1 v2
    generalize smake ss = Y at m1 m2
    obtain ⟨⟨Y1, Y2, Y3, Y4, Y5⟩, Y6⟩ := Y
    dsimp only at m1 m2
    (conv => whnf); repeat (first | (refine And.intro rfl ?_; conv => whnf) | (refine And.intro (fun _ => ?_) (fun h => Bool.noConfusion h); conv => whnf) | (refine And.intro (fun h => Bool.noConfusion h) (fun _ => ?_); conv => whnf))
    refine ⟨_, _, m1, ?_⟩
    (conv => whnf); repeat (first | (refine And.intro rfl ?_; conv => whnf) | (refine And.intro (fun _ => ?_) (fun h => Bool.noConfusion h); conv => whnf) | (refine And.intro (fun h => Bool.noConfusion h) (fun _ => ?_); conv => whnf))
    refine ⟨_, _, m2, ?_⟩
    (conv => whnf); repeat (first | (refine And.intro rfl ?_; conv => whnf) | (refine And.intro (fun _ => ?_) (fun h => Bool.noConfusion h); conv => whnf) | (refine And.intro (fun h => Bool.noConfusion h) (fun _ => ?_); conv => whnf))
    repeat' (first | ((refine And.intro (fun h => ?_) (fun h => ?_)) <;> (try simp at h) <;> ((conv => whnf); repeat (first | (refine And.intro rfl ?_; conv => whnf) | (refine And.intro (fun _ => ?_) (fun h => Bool.noConfusion h); conv => whnf) | (refine And.intro (fun h => Bool.noConfusion h) (fun _ => ?_); conv => whnf)))) | (refine ⟨_, _, suAwake, ?_⟩; ((conv => whnf); repeat (first | (refine And.intro rfl ?_; conv => whnf) | (refine And.intro (fun _ => ?_) (fun h => Bool.noConfusion h); conv => whnf) | (refine And.intro (fun h => Bool.noConfusion h) (fun _ => ?_); conv => whnf)))) | (refine ⟨_, _, v1, ?_⟩; ((conv => whnf); repeat (first | (refine And.intro rfl ?_; conv => whnf) | (refine And.intro (fun _ => ?_) (fun h => Bool.noConfusion h); conv => whnf) | (refine And.intro (fun h => Bool.noConfusion h) (fun _ => ?_); conv => whnf)))) | (refine ⟨_, _, v2, ?_⟩; ((conv => whnf); repeat (first | (refine And.intro rfl ?_; conv => whnf) | (refine And.intro (fun _ => ?_) (fun h => Bool.noConfusion h); conv => whnf) | (refine And.intro (fun h => Bool.noConfusion h) (fun _ => ?_); conv => whnf)))) | fail)
    all_goals (refine Exists.intro [] (And.intro List.nodup_nil ?_); ((conv => whnf); repeat (first | (refine And.intro rfl ?_; conv => whnf) | (refine And.intro (fun _ => ?_) (fun h => Bool.noConfusion h); conv => whnf) | (refine And.intro (fun h => Bool.noConfusion h) (fun _ => ?_); conv => whnf))))
    all_goals exact congrArg ATbool (by simp)
end Go.Proofs.Ytfldnpjmkllekaa.Ab
namespace Go.Proofs.Ytfldnpjmkllekaa
set_option linter.unusedVariables false
set_option linter.unusedSimpArgs false
open Ab
set_option maxRecDepth 100000 in
theorem summaryExact.walk {H : Type} {enc : TypeId × Value → H} {W : World} {base : Nat}
    (v : Value) (d : DataW H) (p : List MemPlace) (hv : Value.okWide Try.prog W .any base 57 v) (h : DataW.Trod enc Try.prog W 0 (fun _ => true) true 57 v d p) (hw : ∀ n ∈ d.weights Try.prog 57, n ≤ 140737488351232)
    (v1 : Value) (d1 : DataW H) (p1 : List MemPlace) (hv1 : Value.okWide Try.prog W .any base 34 v1) (h1 : DataW.Trod enc Try.prog W 0 (fun _ => true) true 34 v1 d1 p1) (_hw1 : ∀ n ∈ d1.weights Try.prog 34, n ≤ 140737488351232)
    (W' : World) (hW : W' = W := by rfl) : Calls Try.prog 10 #[v, v1] W' (True1 W') := by
  subst hW
  obtain ⟨es, _, r0, r0'⟩ := open_sl tabOk 3 (t := 57) (by decide +kernel) rfl hv h
  obtain ⟨ss, rfl⟩ := strs_of (d := 2) es (fun r hr => (r0 r hr).2)
  have hb := slice_bound tabOk (t := 57) rfl h hw (r0' (fun _ _ => undef) (fun _ => 0))
  rw [bytesOf_eq tabOk (e := 9) (by rw [show (tab 9).k = .str from rfl]; intro e; cases e), sLen] at hb
  have hs := strs_bound tabOk (t := 57) rfl rfl rfl h hw (r0' (fun _ _ => undef) (fun _ => 0))
  obtain ⟨x0, q0, q0'⟩ := open_agg tabOk 6 (t := 34) (by decide +kernel) (by rfl) hv1 h1
  obtain ⟨k, b, vv, m, p, rfl, _, _⟩ := rec_of (d := 4) q0
  have h16 : (tab 9).bytes = 16 := by rfl
  rw [h16] at hb
  exact law_of_fun (summaryExactF ss (by omega) hs k b vv m p) rfl (reps_get (vs := [_, _]) ⟨r0' _ _, q0' _ _, trivial⟩)
end Go.Proofs.Ytfldnpjmkllekaa
