/- Maps: all entries in order, by the document's insertion. No condition. -/
import Derived.Test.YtgjcljjgifnjdaaWf
import Derived.Test.YtgjcljjgifnjdaaWg
namespace Go.Proofs.Ytgjcljjgifnjdaa.Ab
set_option linter.unusedVariables false
set_option linter.unusedSimpArgs false
open Go.RowKit

/-- Where a block goes among the first n. -/
def insP (es : List Ety) (b : Int) : Nat → Nat
  | 0 => 0
  | k + 1 => match es[k]? with
    | none => insP es b k
    | some e => if decide (b < e.b) then insP es b k else k + 1
theorem insP_le (es : List Ety) (b : Int) (n : Nat) : insP es b n ≤ n := by
  induction n with
  | zero => exact Nat.le_refl _
  | succ k ih =>
    rw [insP]
    split
    · omega
    · split <;> omega
def insB (es : List Ety) (e : Ety) : List Ety := es.take (insP es e.b es.length) ++ e :: es.drop (insP es e.b es.length)
theorem insB_len (es : List Ety) (e : Ety) : (insB es e).length = es.length + 1 := by
  unfold insB
  rw [List.length_append, List.length_cons, List.length_take, List.length_drop]
  omega
theorem dec_at {n : Nat} (h : n ≤ 1000000) : iwrap .i64 (((n + 1 : Nat) : Int) - 1) = (n : Int) := (w64_in (by omega)).trans (by omega)
theorem nn_dec {n : Nat} (h : n ≤ 1000000) : 0 ≤ iwrap .i64 (((n + 1 : Nat) : Int) - 1) := by rw [dec_at h]; exact Int.natCast_nonneg n
theorem lt_dec {l : List Ety} {n : Nat} (h : n < l.length) (hl : l.length ≤ 1000000) : (iwrap .i64 (((n + 1 : Nat) : Int) - 1)).toNat < (eR l).length := by rw [dec_at (by omega)]; simp only [eR, List.length_map]; omega
theorem item_dec {l : List Ety} {n : Nat} (h : n < l.length) (hl : l.length ≤ 1000000) : (eR l)[(iwrap .i64 (((n + 1 : Nat) : Int) - 1)).toNat]? = some (eRow l[n]) := by rw [dec_at (by omega)]; exact eI_item h
theorem insP_go {es : List Ety} {b : Int} {n R : Nat} (h : n < es.length) (h6 : decide (es[n].b > b) = true) (hr : insP es b (n + 1) = R) : insP es b n = R := by
  rw [insP, List.getElem?_eq_getElem h] at hr
  dsimp only at hr
  rw [if_pos h6] at hr
  exact hr
theorem insP_stop {es : List Ety} {b : Int} {n R : Nat} (h : n < es.length) (h6 : decide (es[n].b > b) = false) (hr : insP es b (n + 1) = R) : n + 1 = R := by
  rw [insP, List.getElem?_eq_getElem h] at hr
  dsimp only at hr
  rw [if_neg (by simp only [gt_iff_lt] at h6; rw [h6]; decide)] at hr
  exact hr
theorem sub_le {es : List Ety} {m : Nat} (h : m ≤ es.length) : (m : Int) ≤ (((eR es).length - 0 : Nat) : Int) := by simp only [eR, List.length_map]; omega
theorem dr_eq (es : List Ety) (m : Nat) : List.drop (0 + ((m : Nat) : Int).toNat) (List.take (0 + ((((eR es).length - 0 : Nat) : Int)).toNat) (eR es)) = eR (es.drop m) := by
  rw [Nat.zero_add, Nat.zero_add, Nat.sub_zero, Int.toNat_natCast, Int.toNat_natCast, List.take_length]
  unfold eR
  rw [List.map_drop]
theorem dr_b {es : List Ety} (m : Nat) (h : es.length ≤ 1000000) : (eR ([] : List Ety)).length + (eR (es.drop m)).length ≤ 2000000 := by simp only [eR, List.length_map, List.length_drop, List.map_nil, List.length_nil]; omega
theorem tk_b {es : List Ety} (m : Nat) (h : es.length ≤ 1000000) {y : List IV} : (List.take (0 + ((m : Nat) : Int).toNat) (eR es)).length + ([y] : List (List IV)).length ≤ 2000000 := by
  simp only [eR, List.length_take, List.length_map, List.length_singleton]; omega
theorem tk_c {es : List Ety} (m : Nat) (h : es.length ≤ 1000000) {y : List IV} : (List.take (0 + ((m : Nat) : Int).toNat) (eR es) ++ ([y] : List (List IV))).length + (([] : List (List IV)) ++ eR (es.drop m)).length ≤ 2000000 := by
  simp only [eR, List.length_append, List.nil_append, List.length_take, List.length_map, List.length_singleton, List.length_drop]; omega
theorem row_all {es B : List Ety} {e : Ety} {m : Nat} (hs : B = es.take m ++ e :: es.drop m) : (List.take (0 + ((m : Nat) : Int).toNat) (eR es) ++ ([eRow e] : List (List IV))) ++ (([] : List (List IV)) ++ eR (es.drop m)) = eR B := by
  rw [hs, Nat.zero_add, Int.toNat_natCast]
  simp [eR]
theorem eR_n (es : List Ety) : ((eR es).length : Int) = (es.length : Int) := by simp [eR]
theorem tot_mul : ∀ (M : List (List Ety)) (B : Nat), (∀ l ∈ M, l.length ≤ B) → tot M ≤ M.length * B
  | [], B, _ => Nat.zero_le _
  | l :: M, B, h => by
    rw [tot, List.length_cons, Nat.succ_mul]
    have := tot_mul M B fun l hl => h l (List.mem_cons_of_mem _ hl)
    have := h l List.mem_cons_self
    omega
theorem tot_8 {M : List (List Ety)} (hM : mOk M) (hv : mvalid M = true) : tot M ≤ 1000000 := by
  have h1 := tot_mul M 1000 (hM.val hv)
  have h2 := (mvalid_at hv).1.2
  omega
/-- The entries, as far as the k-th of shard i. -/
def allA (M : List (List Ety)) (i k : Nat) : List Ety := ((M.take i).flatten ++ (M[i]?.getD []).take k).foldl insB []
def mall (M : List (List Ety)) : List Ety := if mvalid M then M.flatten.foldl insB [] else []
theorem fold_len (l : List Ety) : ∀ acc : List Ety, (l.foldl insB acc).length = acc.length + l.length := by
  induction l with
  | nil => intro acc; rfl
  | cons x l ih => intro acc; rw [List.foldl_cons, ih, insB_len, List.length_cons]; omega
theorem allA_zero (M : List (List Ety)) : allA M 0 0 = [] := by simp [allA]
theorem allA_step {M : List (List Ety)} {i k : Nat} (hi : i < M.length) (hk : k < M[i].length) : allA M i (k + 1) = insB (allA M i k) M[i][k] := by
  unfold allA
  rw [List.getElem?_eq_getElem hi, Option.getD_some, List.take_succ_eq_append_getElem hk, ← List.append_assoc, List.foldl_append]
  rfl
theorem allA_next {M : List (List Ety)} {i : Nat} (hi : i < M.length) : allA M i M[i].length = allA M (i + 1) 0 := by
  unfold allA
  rw [List.getElem?_eq_getElem hi, Option.getD_some, List.take_length, ← flat_take hi, List.take_zero, List.append_nil]
theorem allA_end (M : List (List Ety)) : allA M M.length 0 = M.flatten.foldl insB [] := by
  unfold allA
  rw [List.take_length, List.take_zero, List.append_nil]
theorem allA_len {M : List (List Ety)} {i k : Nat} (hi : i < M.length) (hk : k < M[i].length) (ht : tot M ≤ 1000000) : (allA M i k).length ≤ 1000000 := by
  unfold allA
  rw [fold_len, List.length_append, List.getElem?_eq_getElem hi, Option.getD_some, List.length_take, ← tot_flat]
  have h1 := tot_take hi
  have h2 := tot_le (M := M) (i + 1)
  simp only [List.length_nil]
  omega
theorem allA_len1 {M : List (List Ety)} {i k : Nat} (hi : i < M.length) (hk : k < M[i].length) (ht : tot M ≤ 1000000) : (allA M i k).length + 1 ≤ 1000000 := by
  unfold allA
  rw [fold_len, List.length_append, List.getElem?_eq_getElem hi, Option.getD_some, List.length_take, ← tot_flat]
  have h1 := tot_take hi
  have h2 := tot_le (M := M) (i + 1)
  simp only [List.length_nil]
  omega
set_option maxRecDepth 100000 in
set_option maxHeartbeats 16000000 in
theorem mallF' (M : List (List Ety)) (hM : mOk M) : Fun Try.prog 60 [mpV M] [] (.v (slV (eR (mall M)))) := by
  have hv := rightF' M hM
  unfold mall
  cases hval : mvalid M with
  | false =>
    rw [hval] at hv
    refine fun_of_vc tabOk mixOk Try.func60 rfl (by rfl) (rs := [.tmp 2]) rfl rfl 77 ?_; rw [Try.ntmps60]
    (conv => whnf); repeat ((first | refine And.intro DrawOk.go ?_ | refine And.intro rfl ?_ | refine And.intro (fun _ => ?_) (fun h => Bool.noConfusion h) | refine And.intro (fun h => Bool.noConfusion h) (fun _ => ?_)); conv => whnf)
    refine ⟨_, _, hv, ?_⟩
    (conv => whnf); repeat ((first | refine And.intro DrawOk.go ?_ | refine And.intro rfl ?_ | refine And.intro (fun _ => ?_) (fun h => Bool.noConfusion h) | refine And.intro (fun h => Bool.noConfusion h) (fun _ => ?_)); conv => whnf)
    refine Exists.intro [] (And.intro List.nodup_nil ?_); ((conv => whnf); repeat ((first | refine And.intro DrawOk.go ?_ | refine And.intro rfl ?_ | refine And.intro (fun _ => ?_) (fun h => Bool.noConfusion h) | refine And.intro (fun h => Bool.noConfusion h) (fun _ => ?_)); conv => whnf))
    rfl
  | true =>
    rw [hval] at hv
    rw [if_pos rfl, ← allA_end]
    have hM1 := hM.1
    have ht := tot_8 hM hval
    have hml := fun (l : List Ety) (h : l ∈ M) => Nat.le_trans (hM.val hval l h) (show 1000 ≤ 1000000 by decide)
    have hz := allA_zero M
    have hst := fun (i k : Nat) (h1 : i < M.length) (h2 : k < M[i].length) => allA_step h1 h2
    have hnx := fun (i : Nat) (h1 : i < M.length) => allA_next h1
    have hln := fun (i k : Nat) (h1 : i < M.length) (h2 : k < M[i].length) => allA_len1 h1 h2 ht
    generalize allA M = A at hz hst hnx hln ⊢
    refine fun_of_vc tabOk mixOk Try.func60 rfl (by rfl) (rs := [.tmp 2]) rfl rfl 77 ?_; rw [Try.ntmps60]
    (conv => whnf); repeat ((first | refine And.intro DrawOk.go ?_ | refine And.intro rfl ?_ | refine And.intro (fun _ => ?_) (fun h => Bool.noConfusion h) | refine And.intro (fun h => Bool.noConfusion h) (fun _ => ?_)); conv => whnf)
    refine ⟨_, _, hv, ?_⟩
    (conv => whnf); repeat ((first | refine And.intro DrawOk.go ?_ | refine And.intro rfl ?_ | refine And.intro (fun _ => ?_) (fun h => Bool.noConfusion h) | refine And.intro (fun h => Bool.noConfusion h) (fun _ => ?_)); conv => whnf)
    refine vc_loop [1] [1] (X := Nat) (fun i gs => [(3, .v (.c (.own 69 (gs 69)))), (4, ATint i)]) (fun i gs => [(69, .row (gs 69) 34 6 (eR (A i 0)))]) (fun i => i ≤ M.length) (fun i => M.length - i) _ (Ghost.ownNil 3 69 34 6 rfl (Nat.le_of_ble_eq_true rfl)) 0 (Nat.zero_le _) ?_ ?_
    · (refine And.intro rfl (And.intro rfl ?_)); (repeat' (first | exact trivial | exact rfl | apply And.intro | (refine congrArg (Value.int .i64) (w64_nat ?_); omega)))
      all_goals exact congrArg (Blk.row _ _ _) (congrArg eR hz.symm)
    intro gs i hi
    (conv => whnf); repeat ((first | refine And.intro DrawOk.go ?_ | refine And.intro rfl ?_ | refine And.intro (fun _ => ?_) (fun h => Bool.noConfusion h) | refine And.intro (fun h => Bool.noConfusion h) (fun _ => ?_)); conv => whnf)
    refine And.intro (fun h => ?_) (fun h => ?_)
    · have hlt := wa_lt h
      have hit := mItem hlt
      have hib := wa_i hlt hM1
      have hst2 := fun k h2 => hst i k hlt h2
      have hnx2 := hnx i hlt
      have hln2 := fun k h2 => hln i k hlt h2
      have hl6 := hml _ (List.getElem_mem hlt)
      clear hst hnx hln hz hml
      generalize hA : A i = B at hst2 hnx2 hln2 ⊢
      clear hA
      generalize M[i] = l at hit hst2 hnx2 hln2 hl6
      (conv => whnf); repeat ((first | refine And.intro DrawOk.go ?_ | refine And.intro rfl ?_ | refine And.intro (fun _ => ?_) (fun h => Bool.noConfusion h) | refine And.intro (fun h => Bool.noConfusion h) (fun _ => ?_)); conv => whnf)
      refine vc_loop [1, 4] [1] (X := Nat) (fun k gs => [(3, .v (.c (.own 69 (gs 69)))), (5, ATint k)]) (fun k gs => [(69, .row (gs 69) 34 6 (eR (B k)))]) (fun k => k ≤ l.length) (fun k => l.length - k) _ (Ghost.refl _) 0 (Nat.zero_le _) ?_ ?_
      · (refine And.intro rfl (And.intro rfl ?_)); (repeat' (first | exact trivial | exact rfl | apply And.intro | (refine congrArg (Value.int .i64) (w64_nat ?_); omega)))
      intro gs2 k hk
      (conv => whnf); repeat ((first | refine And.intro DrawOk.go ?_ | refine And.intro rfl ?_ | refine And.intro (fun _ => ?_) (fun h => Bool.noConfusion h) | refine And.intro (fun h => Bool.noConfusion h) (fun _ => ?_)); conv => whnf)
      refine ⟨Int.natCast_nonneg _, _, hit, rfl, ?_⟩
      (conv => whnf); repeat ((first | refine And.intro DrawOk.go ?_ | refine And.intro rfl ?_ | refine And.intro (fun _ => ?_) (fun h => Bool.noConfusion h) | refine And.intro (fun h => Bool.noConfusion h) (fun _ => ?_)); conv => whnf)
      refine And.intro (fun h5 => ?_) (fun h5 => ?_)
      · have hlk := eI_lt h5
        have hit2 := eI_item hlk
        have hkb := eI_i hlk hl6
        have hs := hst2 k hlk
        have hll := hln2 k hlk
        generalize hB : B k = es at hs hll ⊢
        generalize l[k] = e at hs hit2
        have hle : es.length ≤ 1000000 := Nat.le_of_succ_le hll
        unfold insB at hs
        generalize hR : insP es e.b es.length = R at hs
        (conv => whnf); repeat ((first | refine And.intro DrawOk.go ?_ | refine And.intro rfl ?_ | refine And.intro (fun _ => ?_) (fun h => Bool.noConfusion h) | refine And.intro (fun h => Bool.noConfusion h) (fun _ => ?_)); conv => whnf)
        refine loop_abs' (fun Q' hQ' => ?_)
        refine vc_loop [1, 3, 4, 5] [1, 69] (X := Nat) (fun n gs => [(6, ATint n)]) (fun n gs => []) (fun n => n ≤ es.length ∧ insP es e.b n = R) (fun n => n) _ (Ghost.refl _) es.length ⟨Nat.le_refl _, hR⟩ ?_ ?_
        · (refine And.intro rfl (And.intro rfl ?_)); (repeat' (first | exact trivial | exact rfl | apply And.intro | (refine congrArg (Value.int .i64) (w64_nat ?_); omega)))
          all_goals exact congrArg (Value.int .i64) (eR_n es)
        intro gs3 n hn
        cases n with
        | zero =>
          have hst : 0 = R := hn.2
          subst hst
          (conv => whnf); repeat ((first | refine And.intro DrawOk.go ?_ | refine And.intro rfl ?_ | refine And.intro (fun _ => ?_) (fun h => Bool.noConfusion h) | refine And.intro (fun h => Bool.noConfusion h) (fun _ => ?_)); conv => whnf)
          rw [hQ']
          have hm1 := sub_le (es := es) (m := 0) (Nat.zero_le _)
          (conv => whnf); repeat ((first | refine And.intro DrawOk.go ?_ | refine And.intro rfl ?_ | refine And.intro (fun _ => ?_) (fun h => Bool.noConfusion h) | refine And.intro (fun h => Bool.noConfusion h) (fun _ => ?_)); conv => whnf)
          refine ⟨Int.natCast_nonneg _, hm1, Int.le_refl _, ?_⟩
          (conv => whnf); repeat ((first | refine And.intro DrawOk.go ?_ | refine And.intro rfl ?_ | refine And.intro (fun _ => ?_) (fun h => Bool.noConfusion h) | refine And.intro (fun h => Bool.noConfusion h) (fun _ => ?_)); conv => whnf)
          rw [dr_eq]
          refine ⟨eSz _, ?_⟩
          (conv => whnf); repeat ((first | refine And.intro DrawOk.go ?_ | refine And.intro rfl ?_ | refine And.intro (fun _ => ?_) (fun h => Bool.noConfusion h) | refine And.intro (fun h => Bool.noConfusion h) (fun _ => ?_)); conv => whnf)
          refine ⟨bytes_le (by decide) (dr_b _ hle), ?_⟩
          (conv => whnf); repeat ((first | refine And.intro DrawOk.go ?_ | refine And.intro rfl ?_ | refine And.intro (fun _ => ?_) (fun h => Bool.noConfusion h) | refine And.intro (fun h => Bool.noConfusion h) (fun _ => ?_)); conv => whnf)
          refine ⟨Int.le_refl _, Int.natCast_nonneg _, hm1, ?_⟩
          (conv => whnf); repeat ((first | refine And.intro DrawOk.go ?_ | refine And.intro rfl ?_ | refine And.intro (fun _ => ?_) (fun h => Bool.noConfusion h) | refine And.intro (fun h => Bool.noConfusion h) (fun _ => ?_)); conv => whnf)
          refine ⟨Int.natCast_nonneg _, _, hit, rfl, ?_⟩
          (conv => whnf); repeat ((first | refine And.intro DrawOk.go ?_ | refine And.intro rfl ?_ | refine And.intro (fun _ => ?_) (fun h => Bool.noConfusion h) | refine And.intro (fun h => Bool.noConfusion h) (fun _ => ?_)); conv => whnf)
          refine ⟨Int.natCast_nonneg _, _, hit2, rfl, ?_⟩
          (conv => whnf); repeat ((first | refine And.intro DrawOk.go ?_ | refine And.intro rfl ?_ | refine And.intro (fun _ => ?_) (fun h => Bool.noConfusion h) | refine And.intro (fun h => Bool.noConfusion h) (fun _ => ?_)); conv => whnf)
          refine ⟨eSz [e], ?_⟩
          (conv => whnf); repeat ((first | refine And.intro DrawOk.go ?_ | refine And.intro rfl ?_ | refine And.intro (fun _ => ?_) (fun h => Bool.noConfusion h) | refine And.intro (fun h => Bool.noConfusion h) (fun _ => ?_)); conv => whnf)
          refine ⟨bytes_le (by decide) (tk_b 0 hle), ?_⟩
          (conv => whnf); repeat ((first | refine And.intro DrawOk.go ?_ | refine And.intro rfl ?_ | refine And.intro (fun _ => ?_) (fun h => Bool.noConfusion h) | refine And.intro (fun h => Bool.noConfusion h) (fun _ => ?_)); conv => whnf)
          refine ⟨eSz (es.drop 0), ?_⟩
          (conv => whnf); repeat ((first | refine And.intro DrawOk.go ?_ | refine And.intro rfl ?_ | refine And.intro (fun _ => ?_) (fun h => Bool.noConfusion h) | refine And.intro (fun h => Bool.noConfusion h) (fun _ => ?_)); conv => whnf)
          refine ⟨bytes_le (by decide) (tk_c 0 hle), ?_⟩
          (conv => whnf); repeat ((first | refine And.intro DrawOk.go ?_ | refine And.intro rfl ?_ | refine And.intro (fun _ => ?_) (fun h => Bool.noConfusion h) | refine And.intro (fun h => Bool.noConfusion h) (fun _ => ?_)); conv => whnf)
          refine again (k + 1) hlk (Nat.sub_lt_sub_left hlk (Nat.lt_succ_self k)) ?_
          (refine And.intro rfl (And.intro rfl ?_)); (repeat' (first | exact trivial | exact rfl | apply And.intro | (refine congrArg (Value.int .i64) (w64_nat ?_); omega)))
          all_goals first
            | exact congrArg (Value.int .i64) (w64_nat hkb)
            | exact congrArg (Blk.row _ _ _) (row_all hs)
        | succ n =>
          have hn1 : n < es.length := hn.1
          have hd := dec_at (n := n) (Nat.le_trans (Nat.le_of_lt hn1) hle)
          have h0 := nn_dec (n := n) (Nat.le_trans (Nat.le_of_lt hn1) hle)
          have hi3 := item_dec hn1 hle
          have hl3 := lt_dec hn1 hle
          (conv => whnf); repeat ((first | refine And.intro DrawOk.go ?_ | refine And.intro rfl ?_ | refine And.intro (fun _ => ?_) (fun h => Bool.noConfusion h) | refine And.intro (fun h => Bool.noConfusion h) (fun _ => ?_)); conv => whnf)
          refine And.intro (fun h6 => ?_) (fun h6 => absurd h6 (by simp))
          (conv => whnf); repeat ((first | refine And.intro DrawOk.go ?_ | refine And.intro rfl ?_ | refine And.intro (fun _ => ?_) (fun h => Bool.noConfusion h) | refine And.intro (fun h => Bool.noConfusion h) (fun _ => ?_)); conv => whnf)
          refine ⟨h0, hl3, rfl, rfl, _, hi3, ?_⟩
          (conv => whnf); repeat ((first | refine And.intro DrawOk.go ?_ | refine And.intro rfl ?_ | refine And.intro (fun _ => ?_) (fun h => Bool.noConfusion h) | refine And.intro (fun h => Bool.noConfusion h) (fun _ => ?_)); conv => whnf)
          refine ⟨Int.natCast_nonneg _, _, hit, rfl, ?_⟩
          (conv => whnf); repeat ((first | refine And.intro DrawOk.go ?_ | refine And.intro rfl ?_ | refine And.intro (fun _ => ?_) (fun h => Bool.noConfusion h) | refine And.intro (fun h => Bool.noConfusion h) (fun _ => ?_)); conv => whnf)
          refine ⟨Int.natCast_nonneg _, _, hit2, rfl, ?_⟩
          (conv => whnf); repeat ((first | refine And.intro DrawOk.go ?_ | refine And.intro rfl ?_ | refine And.intro (fun _ => ?_) (fun h => Bool.noConfusion h) | refine And.intro (fun h => Bool.noConfusion h) (fun _ => ?_)); conv => whnf)
          refine And.intro (fun h6 => ?_) (fun h6 => ?_)
          · (conv => whnf); repeat ((first | refine And.intro DrawOk.go ?_ | refine And.intro rfl ?_ | refine And.intro (fun _ => ?_) (fun h => Bool.noConfusion h) | refine And.intro (fun h => Bool.noConfusion h) (fun _ => ?_)); conv => whnf)
            refine again n ⟨Nat.le_of_lt hn1, insP_go hn1 h6 hn.2⟩ (Nat.lt_succ_self n) ?_
            (refine And.intro rfl (And.intro rfl ?_)); (repeat' (first | exact trivial | exact rfl | apply And.intro | (refine congrArg (Value.int .i64) (w64_nat ?_); omega)))
            all_goals exact congrArg (Value.int .i64) hd
          · have hst := insP_stop hn1 h6 hn.2
            subst hst
            (conv => whnf); repeat ((first | refine And.intro DrawOk.go ?_ | refine And.intro rfl ?_ | refine And.intro (fun _ => ?_) (fun h => Bool.noConfusion h) | refine And.intro (fun h => Bool.noConfusion h) (fun _ => ?_)); conv => whnf)
            rw [hQ']
            have hm1 := sub_le (es := es) (m := n + 1) hn1
            (conv => whnf); repeat ((first | refine And.intro DrawOk.go ?_ | refine And.intro rfl ?_ | refine And.intro (fun _ => ?_) (fun h => Bool.noConfusion h) | refine And.intro (fun h => Bool.noConfusion h) (fun _ => ?_)); conv => whnf)
            refine ⟨Int.natCast_nonneg _, hm1, Int.le_refl _, ?_⟩
            (conv => whnf); repeat ((first | refine And.intro DrawOk.go ?_ | refine And.intro rfl ?_ | refine And.intro (fun _ => ?_) (fun h => Bool.noConfusion h) | refine And.intro (fun h => Bool.noConfusion h) (fun _ => ?_)); conv => whnf)
            rw [dr_eq]
            refine ⟨eSz _, ?_⟩
            (conv => whnf); repeat ((first | refine And.intro DrawOk.go ?_ | refine And.intro rfl ?_ | refine And.intro (fun _ => ?_) (fun h => Bool.noConfusion h) | refine And.intro (fun h => Bool.noConfusion h) (fun _ => ?_)); conv => whnf)
            refine ⟨bytes_le (by decide) (dr_b _ hle), ?_⟩
            (conv => whnf); repeat ((first | refine And.intro DrawOk.go ?_ | refine And.intro rfl ?_ | refine And.intro (fun _ => ?_) (fun h => Bool.noConfusion h) | refine And.intro (fun h => Bool.noConfusion h) (fun _ => ?_)); conv => whnf)
            refine ⟨Int.le_refl _, Int.natCast_nonneg _, hm1, ?_⟩
            (conv => whnf); repeat ((first | refine And.intro DrawOk.go ?_ | refine And.intro rfl ?_ | refine And.intro (fun _ => ?_) (fun h => Bool.noConfusion h) | refine And.intro (fun h => Bool.noConfusion h) (fun _ => ?_)); conv => whnf)
            refine ⟨Int.natCast_nonneg _, _, hit, rfl, ?_⟩
            (conv => whnf); repeat ((first | refine And.intro DrawOk.go ?_ | refine And.intro rfl ?_ | refine And.intro (fun _ => ?_) (fun h => Bool.noConfusion h) | refine And.intro (fun h => Bool.noConfusion h) (fun _ => ?_)); conv => whnf)
            refine ⟨Int.natCast_nonneg _, _, hit2, rfl, ?_⟩
            (conv => whnf); repeat ((first | refine And.intro DrawOk.go ?_ | refine And.intro rfl ?_ | refine And.intro (fun _ => ?_) (fun h => Bool.noConfusion h) | refine And.intro (fun h => Bool.noConfusion h) (fun _ => ?_)); conv => whnf)
            refine ⟨eSz [e], ?_⟩
            (conv => whnf); repeat ((first | refine And.intro DrawOk.go ?_ | refine And.intro rfl ?_ | refine And.intro (fun _ => ?_) (fun h => Bool.noConfusion h) | refine And.intro (fun h => Bool.noConfusion h) (fun _ => ?_)); conv => whnf)
            refine ⟨bytes_le (by decide) (tk_b (n + 1) hle), ?_⟩
            (conv => whnf); repeat ((first | refine And.intro DrawOk.go ?_ | refine And.intro rfl ?_ | refine And.intro (fun _ => ?_) (fun h => Bool.noConfusion h) | refine And.intro (fun h => Bool.noConfusion h) (fun _ => ?_)); conv => whnf)
            refine ⟨eSz (es.drop (n + 1)), ?_⟩
            (conv => whnf); repeat ((first | refine And.intro DrawOk.go ?_ | refine And.intro rfl ?_ | refine And.intro (fun _ => ?_) (fun h => Bool.noConfusion h) | refine And.intro (fun h => Bool.noConfusion h) (fun _ => ?_)); conv => whnf)
            refine ⟨bytes_le (by decide) (tk_c (n + 1) hle), ?_⟩
            (conv => whnf); repeat ((first | refine And.intro DrawOk.go ?_ | refine And.intro rfl ?_ | refine And.intro (fun _ => ?_) (fun h => Bool.noConfusion h) | refine And.intro (fun h => Bool.noConfusion h) (fun _ => ?_)); conv => whnf)
            refine again (k + 1) hlk (Nat.sub_lt_sub_left hlk (Nat.lt_succ_self k)) ?_
            (refine And.intro rfl (And.intro rfl ?_)); (repeat' (first | exact trivial | exact rfl | apply And.intro | (refine congrArg (Value.int .i64) (w64_nat ?_); omega)))
            all_goals first
              | exact congrArg (Value.int .i64) (w64_nat hkb)
              | exact congrArg (Blk.row _ _ _) (row_all hs)
      · obtain rfl := eI_ge h5 hk
        (conv => whnf); repeat ((first | refine And.intro DrawOk.go ?_ | refine And.intro rfl ?_ | refine And.intro (fun _ => ?_) (fun h => Bool.noConfusion h) | refine And.intro (fun h => Bool.noConfusion h) (fun _ => ?_)); conv => whnf)
        refine again (i + 1) hlt (Nat.sub_lt_sub_left hlt (Nat.lt_succ_self i)) ?_
        (refine And.intro rfl (And.intro rfl ?_)); (repeat' (first | exact trivial | exact rfl | apply And.intro | (refine congrArg (Value.int .i64) (w64_nat ?_); omega)))
        all_goals first
          | exact congrArg (Value.int .i64) (w64_nat hib)
          | exact congrArg (Blk.row _ _ _) (congrArg eR hnx2)
    · obtain rfl := wa_ge h hi
      (conv => whnf); repeat ((first | refine And.intro DrawOk.go ?_ | refine And.intro rfl ?_ | refine And.intro (fun _ => ?_) (fun h => Bool.noConfusion h) | refine And.intro (fun h => Bool.noConfusion h) (fun _ => ?_)); conv => whnf)
      refine Exists.intro [] (And.intro List.nodup_nil ?_); ((conv => whnf); repeat ((first | refine And.intro DrawOk.go ?_ | refine And.intro rfl ?_ | refine And.intro (fun _ => ?_) (fun h => Bool.noConfusion h) | refine And.intro (fun h => Bool.noConfusion h) (fun _ => ?_)); conv => whnf))
      rfl
end Go.Proofs.Ytgjcljjgifnjdaa.Ab
