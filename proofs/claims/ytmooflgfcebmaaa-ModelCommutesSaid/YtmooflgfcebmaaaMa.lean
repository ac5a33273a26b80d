/- Blocks as clients see them: new blocks, copies, equality; values made of numbers. -/
import Derived.Test.YtmooflgfcebmaaaGd
import Derived.Test.YtmooflgfcebmaaaCa
namespace Go.Proofs.Ytmooflgfcebmaaa.Ab
set_option linter.unusedVariables false
set_option linter.unusedSimpArgs false
open Go.RowKit

theorem toList_inj {a b : ByteArray} (h : a.toList = b.toList) : a = b := by
  rw [Lib.toList_data, Lib.toList_data] at h
  exact ByteArray.ext (Array.toList_inj.1 h)
def sV (ss : List ByteArray) : List (List IV) := ss.map fun s => [.sc (.string s)]
theorem sLen (ss : List ByteArray) : (sV ss).length = ss.length := by simp [sV]
theorem sSz (ss : List ByteArray) : ∀ z ∈ sV ss, z.length = (tab 9).size := by
  intro z hz
  obtain ⟨x, _, rfl⟩ := List.mem_map.1 hz
  rfl
theorem sItem {ss : List ByteArray} {k : Nat} (h : k < ss.length) : (sV ss)[((k : Int)).toNat]? = some [.sc (.string ss[k])] := by simp [sV, h]
theorem sItem' {ss : List ByteArray} {n : Int} (h : n.toNat < ss.length) : (sV ss)[n.toNat]? = some [.sc (.string ss[n.toNat])] := by simp [sV, h]
theorem sSet (ss : List ByteArray) (n : Nat) (s : ByteArray) : (sV ss).set n [.sc (.string s)] = sV (ss.set n s) := by simp [sV, List.map_set]
theorem strs_of {d : Nat} (es : List (List IV)) (h : ∀ r ∈ es, ShI tab (d + 1) 9 r) : ∃ xs : List ByteArray, es = sV xs := by
  induction es with
  | nil => exact ⟨[], rfl⟩
  | cons e es ih =>
    obtain ⟨xs, rfl⟩ := ih (fun r hr => h r (List.mem_cons_of_mem _ hr))
    obtain ⟨n, rfl, _⟩ := h e List.mem_cons_self
    exact ⟨n :: xs, rfl⟩
theorem cVb_rep (n : Nat) (c : Int) : List.replicate n [IV.sc (.int .u8 c)] = cVb (List.replicate n c) := by simp [cVb]
theorem cVb_set (ws : List Int) (n : Nat) (c : Int) : (cVb ws).set n [.sc (.int .u8 c)] = cVb (ws.set n c) := by simp [cVb, List.map_set]
theorem zeroS_eq : bytesStr (List.replicate 16 0) = zeroS := by rfl

set_option maxRecDepth 100000 in
set_option maxHeartbeats 4000000 in
theorem zeroF' : Fun Try.prog 29 [] [] (.v (strV zeroS)) := by
  refine fun_of_vc tabOk mixOk Try.func29 rfl (by rfl) (rs := [.tmp 0]) rfl rfl 7 ?_; rw [Try.ntmps29]
  (conv => whnf); repeat (first | (refine And.intro rfl ?_; conv => whnf) | (refine And.intro (fun _ => ?_) (fun h => Bool.noConfusion h); conv => whnf) | (refine And.intro (fun h => Bool.noConfusion h) (fun _ => ?_); conv => whnf))
  refine ⟨by decide, rfl, by decide, by decide, ?_⟩
  (conv => whnf); repeat (first | (refine And.intro rfl ?_; conv => whnf) | (refine And.intro (fun _ => ?_) (fun h => Bool.noConfusion h); conv => whnf) | (refine And.intro (fun h => Bool.noConfusion h) (fun _ => ?_); conv => whnf))
  refine ⟨List.replicate 16 0, rfl, ?_⟩
  (conv => whnf); repeat (first | (refine And.intro rfl ?_; conv => whnf) | (refine And.intro (fun _ => ?_) (fun h => Bool.noConfusion h); conv => whnf) | (refine And.intro (fun h => Bool.noConfusion h) (fun _ => ?_); conv => whnf))
  refine Exists.intro [] (And.intro List.nodup_nil ?_); ((conv => whnf); repeat (first | (refine And.intro rfl ?_; conv => whnf) | (refine And.intro (fun _ => ?_) (fun h => Bool.noConfusion h); conv => whnf) | (refine And.intro (fun h => Bool.noConfusion h) (fun _ => ?_); conv => whnf)))
  exact congrArg (fun n => AT.v (strV n)) zeroS_eq

theorem bytesS {n : Nat} (h : n ≤ 8796093022208) : (0 + n) * 16 ≤ 140737488355328 := by omega
theorem bytes16 {n : Nat} (h : n ≤ 8796093022208) : 16 * ((n : Int)).toNat ≤ 140737488355328 := by omega
set_option maxRecDepth 100000 in
set_option maxHeartbeats 4000000 in
theorem mcloneF (ss : List ByteArray) (hl : ss.length ≤ 8796093022208) : Fun Try.prog 57 [slV (sV ss)] [.row 0 9 1 (sV ss)] (.v (.c (.own 0 0))) := by
  have hz := sSz ss
  have hn : (sV ss).length ≤ 8796093022208 := by rw [sLen]; exact hl
  refine fun_of_vc tabOk mixOk Try.func57 rfl (by rfl) (rs := [.tmp 2]) rfl rfl 15 ?_; rw [Try.ntmps57]
  (conv => whnf); repeat (first | (refine And.intro rfl ?_; conv => whnf) | (refine And.intro (fun _ => ?_) (fun h => Bool.noConfusion h); conv => whnf) | (refine And.intro (fun h => Bool.noConfusion h) (fun _ => ?_); conv => whnf))
  refine ⟨by omega, rfl, bytes16 hn, by omega, ?_⟩
  (conv => whnf); repeat (first | (refine And.intro rfl ?_; conv => whnf) | (refine And.intro (fun _ => ?_) (fun h => Bool.noConfusion h); conv => whnf) | (refine And.intro (fun h => Bool.noConfusion h) (fun _ => ?_); conv => whnf))
  refine ⟨hz, ?_⟩
  (conv => whnf); repeat (first | (refine And.intro rfl ?_; conv => whnf) | (refine And.intro (fun _ => ?_) (fun h => Bool.noConfusion h); conv => whnf) | (refine And.intro (fun h => Bool.noConfusion h) (fun _ => ?_); conv => whnf))
  refine ⟨[6], by simp, ?_⟩
  (conv => whnf); repeat (first | (refine And.intro rfl ?_; conv => whnf) | (refine And.intro (fun _ => ?_) (fun h => Bool.noConfusion h); conv => whnf) | (refine And.intro (fun h => Bool.noConfusion h) (fun _ => ?_); conv => whnf))
  refine ⟨?_, rfl⟩
  have e1 : (List.replicate (((sV ss).length : Int)).toNat [IV.sc (.string ByteArray.empty)]).length = (sV ss).length := by simp
  exact congrArg (fun l => [Blk.row 0 9 1 l]) (by rw [e1, List.take_of_length_le (Nat.le_refl _), List.drop_of_length_le (by rw [e1]; exact Nat.le_refl _), List.append_nil])

set_option maxRecDepth 100000 in
set_option maxHeartbeats 4000000 in
theorem withF (ss : List ByteArray) (i : Int) (v : ByteArray) (hl : ss.length ≤ 8796093022208) (hi : 0 ≤ i ∧ i < ss.length) : Fun Try.prog 58 [slV (sV ss), i64V i, strV v] [] (.v (slV (sV (ss.set i.toNat v)))) := by
  have hz := sSz ss
  refine fun_of_vc tabOk mixOk Try.func58 rfl (by rfl) (rs := [.tmp 6]) rfl rfl 20 ?_; rw [Try.ntmps58]
  (conv => whnf); repeat (first | (refine And.intro rfl ?_; conv => whnf) | (refine And.intro (fun _ => ?_) (fun h => Bool.noConfusion h); conv => whnf) | (refine And.intro (fun h => Bool.noConfusion h) (fun _ => ?_); conv => whnf))
  refine ⟨hz, ?_⟩
  (conv => whnf); repeat (first | (refine And.intro rfl ?_; conv => whnf) | (refine And.intro (fun _ => ?_) (fun h => Bool.noConfusion h); conv => whnf) | (refine And.intro (fun h => Bool.noConfusion h) (fun _ => ?_); conv => whnf))
  refine ⟨bytesS (by rw [sLen]; exact hl), ?_⟩
  (conv => whnf); repeat (first | (refine And.intro rfl ?_; conv => whnf) | (refine And.intro (fun _ => ?_) (fun h => Bool.noConfusion h); conv => whnf) | (refine And.intro (fun h => Bool.noConfusion h) (fun _ => ?_); conv => whnf))
  refine ⟨hi.1, by simp [sV]; omega, ?_⟩
  (conv => whnf); repeat (first | (refine And.intro rfl ?_; conv => whnf) | (refine And.intro (fun _ => ?_) (fun h => Bool.noConfusion h); conv => whnf) | (refine And.intro (fun h => Bool.noConfusion h) (fun _ => ?_); conv => whnf))
  refine ⟨_, sItem' (by omega), ?_⟩
  (conv => whnf); repeat (first | (refine And.intro rfl ?_; conv => whnf) | (refine And.intro (fun _ => ?_) (fun h => Bool.noConfusion h); conv => whnf) | (refine And.intro (fun h => Bool.noConfusion h) (fun _ => ?_); conv => whnf))
  refine Exists.intro [] (And.intro List.nodup_nil ?_); ((conv => whnf); repeat (first | (refine And.intro rfl ?_; conv => whnf) | (refine And.intro (fun _ => ?_) (fun h => Bool.noConfusion h); conv => whnf) | (refine And.intro (fun h => Bool.noConfusion h) (fun _ => ?_); conv => whnf)))
  exact congrArg (fun l => AT.v (slV l)) (sSet _ _ _)

set_option maxRecDepth 100000 in
set_option maxHeartbeats 4000000 in
theorem ssameF (xs ys : List ByteArray) (ha : xs.length ≤ 8796093022208) : Fun Try.prog 36 [slV (sV xs), slV (sV ys)] [] (ATbool (decide (xs = ys))) := by
  by_cases h0 : xs.length = ys.length
  · refine fun_of_vc tabOk mixOk Try.func36 rfl (by rfl) (rs := [.tmp 4]) rfl rfl 30 ?_; rw [Try.ntmps36]
    (conv => whnf); repeat (first | (refine And.intro rfl ?_; conv => whnf) | (refine And.intro (fun _ => ?_) (fun h => Bool.noConfusion h); conv => whnf) | (refine And.intro (fun h => Bool.noConfusion h) (fun _ => ?_); conv => whnf))
    refine And.intro (fun h1 => by simp [sLen] at h1; omega) (fun _ => ?_)
    (conv => whnf); repeat (first | (refine And.intro rfl ?_; conv => whnf) | (refine And.intro (fun _ => ?_) (fun h => Bool.noConfusion h); conv => whnf) | (refine And.intro (fun h => Bool.noConfusion h) (fun _ => ?_); conv => whnf))
    refine vc_loop [0, 1] [] (X := Nat) (fun k gs => [(5, ATint k)]) (fun _ _ => []) (fun k => k ≤ xs.length ∧ xs.take k = ys.take k) (fun k => xs.length - k) _ (Ghost.refl _) 0 (by simp) ?_ ?_
    · (refine And.intro rfl (And.intro rfl ?_)); (repeat' (first | exact trivial | exact rfl | apply And.intro | (refine congrArg (Value.int .i64) (w64_nat ?_); omega)))
    rintro gs k ⟨hk, he⟩
    (conv => whnf); repeat (first | (refine And.intro rfl ?_; conv => whnf) | (refine And.intro (fun _ => ?_) (fun h => Bool.noConfusion h); conv => whnf) | (refine And.intro (fun h => Bool.noConfusion h) (fun _ => ?_); conv => whnf))
    refine And.intro (fun h4 => ?_) (fun h4 => ?_)
    · have hlt : k < xs.length := by simpa [sV] using h4
      have hlt' : k < ys.length := by omega
      (conv => whnf); repeat (first | (refine And.intro rfl ?_; conv => whnf) | (refine And.intro (fun _ => ?_) (fun h => Bool.noConfusion h); conv => whnf) | (refine And.intro (fun h => Bool.noConfusion h) (fun _ => ?_); conv => whnf))
      refine ⟨by omega, _, sItem hlt, rfl, ?_⟩
      (conv => whnf); repeat (first | (refine And.intro rfl ?_; conv => whnf) | (refine And.intro (fun _ => ?_) (fun h => Bool.noConfusion h); conv => whnf) | (refine And.intro (fun h => Bool.noConfusion h) (fun _ => ?_); conv => whnf))
      refine ⟨by omega, _, sItem hlt', rfl, ?_⟩
      (conv => whnf); repeat (first | (refine And.intro rfl ?_; conv => whnf) | (refine And.intro (fun _ => ?_) (fun h => Bool.noConfusion h); conv => whnf) | (refine And.intro (fun h => Bool.noConfusion h) (fun _ => ?_); conv => whnf))
      refine And.intro (fun h5 => ?_) (fun h5 => ?_)
      · (conv => whnf); repeat (first | (refine And.intro rfl ?_; conv => whnf) | (refine And.intro (fun _ => ?_) (fun h => Bool.noConfusion h); conv => whnf) | (refine And.intro (fun h => Bool.noConfusion h) (fun _ => ?_); conv => whnf))
        refine Exists.intro [] (And.intro List.nodup_nil ?_); ((conv => whnf); repeat (first | (refine And.intro rfl ?_; conv => whnf) | (refine And.intro (fun _ => ?_) (fun h => Bool.noConfusion h); conv => whnf) | (refine And.intro (fun h => Bool.noConfusion h) (fun _ => ?_); conv => whnf)))
        have : xs ≠ ys := by
          intro e
          subst e
          simp at h5
        exact congrArg ATbool (by simp [this])
      · (conv => whnf); repeat (first | (refine And.intro rfl ?_; conv => whnf) | (refine And.intro (fun _ => ?_) (fun h => Bool.noConfusion h); conv => whnf) | (refine And.intro (fun h => Bool.noConfusion h) (fun _ => ?_); conv => whnf))
        refine again (k + 1) ⟨hlt, ?_⟩ (by omega) ?_
        · have h5' : xs[k] = ys[k] := by
            have : xs[k].toList = ys[k].toList := by simpa using h5
            exact toList_inj this
          rw [List.take_succ_eq_append_getElem hlt, List.take_succ_eq_append_getElem hlt', he, h5']
        · (refine And.intro rfl (And.intro rfl ?_)); (repeat' (first | exact trivial | exact rfl | apply And.intro | (refine congrArg (Value.int .i64) (w64_nat ?_); omega)))
    · have hge : xs.length ≤ k := by simpa [sV] using h4
      (conv => whnf); repeat (first | (refine And.intro rfl ?_; conv => whnf) | (refine And.intro (fun _ => ?_) (fun h => Bool.noConfusion h); conv => whnf) | (refine And.intro (fun h => Bool.noConfusion h) (fun _ => ?_); conv => whnf))
      refine Exists.intro [] (And.intro List.nodup_nil ?_); ((conv => whnf); repeat (first | (refine And.intro rfl ?_; conv => whnf) | (refine And.intro (fun _ => ?_) (fun h => Bool.noConfusion h); conv => whnf) | (refine And.intro (fun h => Bool.noConfusion h) (fun _ => ?_); conv => whnf)))
      have : xs = ys := by
        have e1 : xs.take k = xs := List.take_of_length_le hge
        have e2 : ys.take k = ys := List.take_of_length_le (by omega)
        rw [← e1, he, e2]
      exact congrArg ATbool (by simp [this])
  · refine fun_of_vc tabOk mixOk Try.func36 rfl (by rfl) (rs := [.tmp 4]) rfl rfl 30 ?_; rw [Try.ntmps36]
    (conv => whnf); repeat (first | (refine And.intro rfl ?_; conv => whnf) | (refine And.intro (fun _ => ?_) (fun h => Bool.noConfusion h); conv => whnf) | (refine And.intro (fun h => Bool.noConfusion h) (fun _ => ?_); conv => whnf))
    refine And.intro (fun _ => ?_) (fun h1 => by simp [sLen] at h1; omega)
    (conv => whnf); repeat (first | (refine And.intro rfl ?_; conv => whnf) | (refine And.intro (fun _ => ?_) (fun h => Bool.noConfusion h); conv => whnf) | (refine And.intro (fun h => Bool.noConfusion h) (fun _ => ?_); conv => whnf))
    refine Exists.intro [] (And.intro List.nodup_nil ?_); ((conv => whnf); repeat (first | (refine And.intro rfl ?_; conv => whnf) | (refine And.intro (fun _ => ?_) (fun h => Bool.noConfusion h); conv => whnf) | (refine And.intro (fun h => Bool.noConfusion h) (fun _ => ?_); conv => whnf)))
    have : xs ≠ ys := fun e => h0 (by rw [e])
    exact congrArg ATbool (by simp [this])
end Go.Proofs.Ytmooflgfcebmaaa.Ab
