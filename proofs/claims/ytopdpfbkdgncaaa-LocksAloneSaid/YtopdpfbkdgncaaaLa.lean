/- The locks: the law LocksAlone. -/
import Derived.Test.YtopdpfbkdgncaaaLs
namespace Go.Proofs.Ytopdpfbkdgncaaa.Ab
set_option linter.unusedVariables false
set_option linter.unusedSimpArgs false
open Go.RowKit

theorem low_eq {ws : List Int} {s : Nat} (o : Int) (hv : lvalid ws = true) (hs : s < ws.length) : lowned ws s o = (ws[s] == o) := by
  unfold lowned
  rw [hv, decide_eq_true (by omega)]
  simp [hs]
  rw [Bool.eq_iff_iff]; simp
theorem lv_set {ws : List Int} {s : Nat} {o : Int} (hv : lvalid ws = true) (ho : -1 ≤ o) : lvalid (ws.set s o) = true := by
  unfold lvalid at hv ⊢
  simp only [Bool.and_eq_true, decide_eq_true_eq, List.length_set, List.all_eq_true] at hv ⊢
  refine ⟨hv.1, fun x hx => ?_⟩
  rcases List.mem_or_eq_of_mem_set hx with h | h
  · exact hv.2 x h
  · subst h; exact decide_eq_true ho

set_option maxRecDepth 100000 in
set_option maxHeartbeats 16000000 in
theorem locksAloneF (a : Int) (ha : 0 ≤ a ∧ a ≤ 255) (ss : List Int) (hss : ∀ x ∈ ss, 0 ≤ x ∧ x ≤ 65535) : Fun Try.prog 11 [.c (.i (.sc (.int .u8 a))), slV (uV ss)] [] (ATbool true) := by
  refine fun_of_vc tabOk mixOk Try.func11 rfl (by rfl) (rs := [.tmp 4]) rfl rfl 148 ?_; rw [Try.ntmps11]
  (conv => whnf); repeat (first | (refine And.intro rfl ?_; conv => whnf) | (refine And.intro (fun _ => ?_) (fun h => Bool.noConfusion h); conv => whnf) | (refine And.intro (fun h => Bool.noConfusion h) (fun _ => ?_); conv => whnf))
  refine And.intro (fun h1 => ?_) (fun h1 => ?_)
  · (conv => whnf); repeat (first | (refine And.intro rfl ?_; conv => whnf) | (refine And.intro (fun _ => ?_) (fun h => Bool.noConfusion h); conv => whnf) | (refine And.intro (fun h => Bool.noConfusion h) (fun _ => ?_); conv => whnf))
    refine ⟨_, _, lawake, ?_⟩
    (conv => whnf); repeat (first | (refine And.intro rfl ?_; conv => whnf) | (refine And.intro (fun _ => ?_) (fun h => Bool.noConfusion h); conv => whnf) | (refine And.intro (fun h => Bool.noConfusion h) (fun _ => ?_); conv => whnf))
    refine Exists.intro [] (And.intro List.nodup_nil ?_); ((conv => whnf); repeat (first | (refine And.intro rfl ?_; conv => whnf) | (refine And.intro (fun _ => ?_) (fun h => Bool.noConfusion h); conv => whnf) | (refine And.intro (fun h => Bool.noConfusion h) (fun _ => ?_); conv => whnf)))
    rfl
  have hl : ss.length ≤ 80 := by have := of_decide_eq_false h1; rw [uV, List.length_map] at this; omega
  (conv => whnf); repeat (first | (refine And.intro rfl ?_; conv => whnf) | (refine And.intro (fun _ => ?_) (fun h => Bool.noConfusion h); conv => whnf) | (refine And.intro (fun h => Bool.noConfusion h) (fun _ => ?_); conv => whnf))
  refine ⟨by decide, ?_⟩
  (conv => whnf); repeat (first | (refine And.intro rfl ?_; conv => whnf) | (refine And.intro (fun _ => ?_) (fun h => Bool.noConfusion h); conv => whnf) | (refine And.intro (fun h => Bool.noConfusion h) (fun _ => ?_); conv => whnf))
  obtain ⟨N, hN, hN2⟩ : ∃ N : Nat, iwrap .i64 (1 + iwrap .i64 (Int.tmod a 8)) = (N : Int) ∧ 1 ≤ N ∧ N ≤ 8 := by
    refine ⟨(1 + a % 8).toNat, ?_, by omega, by omega⟩
    show w64 (1 + w64 _) = _
    rw [Int.tmod_eq_emod_of_nonneg ha.1, w64_in (x := a % 8) (by omega), w64_in (by omega)]
    omega
  rw [hN]
  refine ⟨_, _, newP N hN2, ?_⟩
  (conv => whnf); repeat (first | (refine And.intro rfl ?_; conv => whnf) | (refine And.intro (fun _ => ?_) (fun h => Bool.noConfusion h); conv => whnf) | (refine And.intro (fun h => Bool.noConfusion h) (fun _ => ?_); conv => whnf))
  refine ⟨by omega, rfl, ?_, by omega, ?_⟩
  · rw [Nat.mul_comm]; exact bytes_le (by decide) (by omega)
  (conv => whnf); repeat (first | (refine And.intro rfl ?_; conv => whnf) | (refine And.intro (fun _ => ?_) (fun h => Bool.noConfusion h); conv => whnf) | (refine And.intro (fun h => Bool.noConfusion h) (fun _ => ?_); conv => whnf))
  refine vc_loop [1, 4, 5, 6, 7, 8] [6] (X := Nat) (fun k gs => [(9, ATint k)]) (fun k gs => [(34, .row 1 3 1 (wV (nW N k)))]) (fun k => k ≤ N) (fun k => N - k) _ (Ghost.refl _) 0 (by omega) ?_ ?_
  · (refine And.intro rfl (And.intro rfl ?_)); (repeat' (first | exact trivial | exact rfl | apply And.intro | (refine congrArg (Value.int .i64) (w64_nat ?_); omega)))
    all_goals exact congrArg (Blk.row _ _ _) (nW_0 N)
  rintro gs k hk
  (conv => whnf); repeat (first | (refine And.intro rfl ?_; conv => whnf) | (refine And.intro (fun _ => ?_) (fun h => Bool.noConfusion h); conv => whnf) | (refine And.intro (fun h => Bool.noConfusion h) (fun _ => ?_); conv => whnf))
  refine And.intro (fun h4 => ?_) (fun h4 => ?_)
  · have hlt : k < N := by simpa using h4
    (conv => whnf); repeat (first | (refine And.intro rfl ?_; conv => whnf) | (refine And.intro (fun _ => ?_) (fun h => Bool.noConfusion h); conv => whnf) | (refine And.intro (fun h => Bool.noConfusion h) (fun _ => ?_); conv => whnf))
    refine ⟨by omega, by simp [wV, nW]; omega, ?_⟩
    (conv => whnf); repeat (first | (refine And.intro rfl ?_; conv => whnf) | (refine And.intro (fun _ => ?_) (fun h => Bool.noConfusion h); conv => whnf) | (refine And.intro (fun h => Bool.noConfusion h) (fun _ => ?_); conv => whnf))
    refine ⟨_, wItem (ws := nW N k) (k := k) (by rw [nW_len hk]; exact hlt), ?_⟩
    (conv => whnf); repeat (first | (refine And.intro rfl ?_; conv => whnf) | (refine And.intro (fun _ => ?_) (fun h => Bool.noConfusion h); conv => whnf) | (refine And.intro (fun h => Bool.noConfusion h) (fun _ => ?_); conv => whnf))
    refine again (k + 1) hlt (by omega) ?_
    (refine And.intro rfl (And.intro rfl ?_)); (repeat' (first | exact trivial | exact rfl | apply And.intro | (refine congrArg (Value.int .i64) (w64_nat ?_); omega)))
    all_goals exact congrArg (Blk.row _ _ _) ((wset (nW N k) k (-1)).trans (by rw [nW_set hlt]))
  have hge : k = N := by
    have : ¬ k < N := by simpa using h4
    omega
  subst hge
  rw [nW_N]
  (conv => whnf); repeat (first | (refine And.intro rfl ?_; conv => whnf) | (refine And.intro (fun _ => ?_) (fun h => Bool.noConfusion h); conv => whnf) | (refine And.intro (fun h => Bool.noConfusion h) (fun _ => ?_); conv => whnf))
  refine vc_loop [1, 5, 6, 7, 8] [] (X := Nat × List Int) (fun x gs => [(10, ATint x.1)]) (fun x gs => [(6, .var 1 [.i (.sl (wV x.2))]), (34, .row 1 3 1 (wV x.2))]) (fun x => x.1 ≤ ss.length ∧ x.2.length = k ∧ lvalid x.2 = true) (fun x => ss.length - x.1) _ (Ghost.refl _) (0, List.replicate k (-1)) ⟨by omega, by simp, ?_⟩ ?_ ?_
  · unfold lvalid; simp [okw, hN2]
  · (refine And.intro rfl (And.intro rfl ?_)); (repeat' (first | exact trivial | exact rfl | apply And.intro | (refine congrArg (Value.int .i64) (w64_nat ?_); omega)))
  clear h4 hk
  rintro gs2 ⟨j, ws⟩ ⟨hj, hw, hv⟩
  dsimp only at hj hw hv ⊢
  (conv => whnf); repeat (first | (refine And.intro rfl ?_; conv => whnf) | (refine And.intro (fun _ => ?_) (fun h => Bool.noConfusion h); conv => whnf) | (refine And.intro (fun h => Bool.noConfusion h) (fun _ => ?_); conv => whnf))
  refine And.intro (fun h4 => ?_) (fun h4 => ?_)
  · have hlt : j < ss.length := by simpa [uV] using h4
    have hx := hss _ (List.getElem_mem hlt)
    have hk0 : (k : Int) ≠ 0 := by omega
    have hx1 : iwrap .i64 ss[j] = ss[j] := w64_in (by omega)
    have hm1 : 0 ≤ Int.tmod ss[j] k ∧ Int.tmod ss[j] k < k := by
      rw [Int.tmod_eq_emod_of_nonneg hx.1]
      exact ⟨Int.emod_nonneg _ hk0, Int.emod_lt_of_pos _ (by omega)⟩
    obtain ⟨s, hs⟩ := Int.eq_ofNat_of_zero_le hm1.1
    have hsk : s < ws.length := by omega
    have hd1 : 0 ≤ Int.tdiv ss[j] k := Int.tdiv_nonneg hx.1 (by omega)
    have hd2 : Int.tdiv ss[j] k ≤ ss[j] := by rw [Int.tdiv_eq_ediv_of_nonneg hx.1]; exact Int.ediv_le_self _ hx.1
    have hd3 : iwrap .i64 (Int.tdiv ss[j] k) = Int.tdiv ss[j] k := w64_in (by omega)
    (conv => whnf); repeat (first | (refine And.intro rfl ?_; conv => whnf) | (refine And.intro (fun _ => ?_) (fun h => Bool.noConfusion h); conv => whnf) | (refine And.intro (fun h => Bool.noConfusion h) (fun _ => ?_); conv => whnf))
    refine ⟨by omega, _, uItem hlt, rfl, ?_⟩
    (conv => whnf); repeat (first | (refine And.intro rfl ?_; conv => whnf) | (refine And.intro (fun _ => ?_) (fun h => Bool.noConfusion h); conv => whnf) | (refine And.intro (fun h => Bool.noConfusion h) (fun _ => ?_); conv => whnf))
    refine ⟨hk0, ?_⟩
    (conv => whnf); repeat (first | (refine And.intro rfl ?_; conv => whnf) | (refine And.intro (fun _ => ?_) (fun h => Bool.noConfusion h); conv => whnf) | (refine And.intro (fun h => Bool.noConfusion h) (fun _ => ?_); conv => whnf))
    refine ⟨by omega, _, uItem hlt, rfl, ?_⟩
    (conv => whnf); repeat (first | (refine And.intro rfl ?_; conv => whnf) | (refine And.intro (fun _ => ?_) (fun h => Bool.noConfusion h); conv => whnf) | (refine And.intro (fun h => Bool.noConfusion h) (fun _ => ?_); conv => whnf))
    refine ⟨hk0, ?_⟩
    (conv => whnf); repeat (first | (refine And.intro rfl ?_; conv => whnf) | (refine And.intro (fun _ => ?_) (fun h => Bool.noConfusion h); conv => whnf) | (refine And.intro (fun h => Bool.noConfusion h) (fun _ => ?_); conv => whnf))
    refine ⟨by decide, ?_⟩
    rw [hx1, hd3, hs]
    have ht : 0 ≤ Int.tmod (Int.tdiv ss[j] k) 4 := Int.tmod_nonneg _ hd1
    generalize Int.tmod (Int.tdiv ss[j] k) 4 = t at ht
    (conv => whnf); repeat (first | (refine And.intro rfl ?_; conv => whnf) | (refine And.intro (fun _ => ?_) (fun h => Bool.noConfusion h); conv => whnf) | (refine And.intro (fun h => Bool.noConfusion h) (fun _ => ?_); conv => whnf))
    refine ⟨by omega, _, uItem hlt, rfl, ?_⟩
    (conv => whnf); repeat (first | (refine And.intro rfl ?_; conv => whnf) | (refine And.intro (fun _ => ?_) (fun h => Bool.noConfusion h); conv => whnf) | (refine And.intro (fun h => Bool.noConfusion h) (fun _ => ?_); conv => whnf))
    refine ⟨hk0, ?_⟩
    (conv => whnf); repeat (first | (refine And.intro rfl ?_; conv => whnf) | (refine And.intro (fun _ => ?_) (fun h => Bool.noConfusion h); conv => whnf) | (refine And.intro (fun h => Bool.noConfusion h) (fun _ => ?_); conv => whnf))
    refine ⟨by decide, ?_⟩
    (conv => whnf); repeat (first | (refine And.intro rfl ?_; conv => whnf) | (refine And.intro (fun _ => ?_) (fun h => Bool.noConfusion h); conv => whnf) | (refine And.intro (fun h => Bool.noConfusion h) (fun _ => ?_); conv => whnf))
    refine ⟨by decide, ?_⟩
    (conv => whnf); repeat (first | (refine And.intro rfl ?_; conv => whnf) | (refine And.intro (fun _ => ?_) (fun h => Bool.noConfusion h); conv => whnf) | (refine And.intro (fun h => Bool.noConfusion h) (fun _ => ?_); conv => whnf))
    refine And.intro (fun h5 => ?_) (fun h5 => ?_)
    · by_cases h6 : ws[s] = -1
      · have e : ltake ws s t = (ws.set s t, true) := by unfold ltake; rw [if_neg (by rw [low_eq _ hv hsk]; simp [h6]; omega)]; rfl
        have u := ltakeF ws s t (by omega)
        rw [e] at u
        (conv => whnf); repeat (first | (refine And.intro rfl ?_; conv => whnf) | (refine And.intro (fun _ => ?_) (fun h => Bool.noConfusion h); conv => whnf) | (refine And.intro (fun h => Bool.noConfusion h) (fun _ => ?_); conv => whnf))
        refine ⟨_, _, u, ?_⟩
        (conv => whnf); repeat (first | (refine And.intro rfl ?_; conv => whnf) | (refine And.intro (fun _ => ?_) (fun h => Bool.noConfusion h); conv => whnf) | (refine And.intro (fun h => Bool.noConfusion h) (fun _ => ?_); conv => whnf))
        refine ⟨by omega, by simpa [wV] using hsk, ?_⟩
        (conv => whnf); repeat (first | (refine And.intro rfl ?_; conv => whnf) | (refine And.intro (fun _ => ?_) (fun h => Bool.noConfusion h); conv => whnf) | (refine And.intro (fun h => Bool.noConfusion h) (fun _ => ?_); conv => whnf))
        refine ⟨_, wItem hsk, ?_⟩
        (conv => whnf); repeat (first | (refine And.intro rfl ?_; conv => whnf) | (refine And.intro (fun _ => ?_) (fun h => Bool.noConfusion h); conv => whnf) | (refine And.intro (fun h => Bool.noConfusion h) (fun _ => ?_); conv => whnf))
        refine And.intro (fun h => by simp [h6] at h) (fun _ => ?_)
        (conv => whnf); repeat (first | (refine And.intro rfl ?_; conv => whnf) | (refine And.intro (fun _ => ?_) (fun h => Bool.noConfusion h); conv => whnf) | (refine And.intro (fun h => Bool.noConfusion h) (fun _ => ?_); conv => whnf))
        refine ⟨by omega, by simpa [wV] using hsk, ?_⟩
        (conv => whnf); repeat (first | (refine And.intro rfl ?_; conv => whnf) | (refine And.intro (fun _ => ?_) (fun h => Bool.noConfusion h); conv => whnf) | (refine And.intro (fun h => Bool.noConfusion h) (fun _ => ?_); conv => whnf))
        refine ⟨_, wItem hsk, ?_⟩
        (conv => whnf); repeat (first | (refine And.intro rfl ?_; conv => whnf) | (refine And.intro (fun _ => ?_) (fun h => Bool.noConfusion h); conv => whnf) | (refine And.intro (fun h => Bool.noConfusion h) (fun _ => ?_); conv => whnf))
        refine again (j + 1, ws.set s t) ⟨hlt, by simp [hw], lv_set hv (by omega)⟩ (by dsimp only; omega) ?_
        (refine And.intro rfl (And.intro rfl ?_)); (repeat' (first | exact trivial | exact rfl | apply And.intro | (refine congrArg (Value.int .i64) (w64_nat ?_); omega)))
        all_goals exact congrArg (Blk.row _ _ _) (wset ws s t)
      · have e : ltake ws s t = (ws, false) := by unfold ltake; rw [if_pos (Or.inr (by rw [low_eq _ hv hsk]; simp [h6]))]
        have u := ltakeF ws s t (by omega)
        rw [e] at u
        (conv => whnf); repeat (first | (refine And.intro rfl ?_; conv => whnf) | (refine And.intro (fun _ => ?_) (fun h => Bool.noConfusion h); conv => whnf) | (refine And.intro (fun h => Bool.noConfusion h) (fun _ => ?_); conv => whnf))
        refine ⟨_, _, u, ?_⟩
        (conv => whnf); repeat (first | (refine And.intro rfl ?_; conv => whnf) | (refine And.intro (fun _ => ?_) (fun h => Bool.noConfusion h); conv => whnf) | (refine And.intro (fun h => Bool.noConfusion h) (fun _ => ?_); conv => whnf))
        refine ⟨by omega, by simpa [wV] using hsk, ?_⟩
        (conv => whnf); repeat (first | (refine And.intro rfl ?_; conv => whnf) | (refine And.intro (fun _ => ?_) (fun h => Bool.noConfusion h); conv => whnf) | (refine And.intro (fun h => Bool.noConfusion h) (fun _ => ?_); conv => whnf))
        refine ⟨_, wItem hsk, ?_⟩
        (conv => whnf); repeat (first | (refine And.intro rfl ?_; conv => whnf) | (refine And.intro (fun _ => ?_) (fun h => Bool.noConfusion h); conv => whnf) | (refine And.intro (fun h => Bool.noConfusion h) (fun _ => ?_); conv => whnf))
        refine And.intro (fun h => by simp [h6] at h) (fun _ => ?_)
        (conv => whnf); repeat (first | (refine And.intro rfl ?_; conv => whnf) | (refine And.intro (fun _ => ?_) (fun h => Bool.noConfusion h); conv => whnf) | (refine And.intro (fun h => Bool.noConfusion h) (fun _ => ?_); conv => whnf))
        refine again (j + 1, ws) ⟨hlt, hw, hv⟩ (by dsimp only; omega) ?_
        (refine And.intro rfl (And.intro rfl ?_)); (repeat' (first | exact trivial | exact rfl | apply And.intro | (refine congrArg (Value.int .i64) (w64_nat ?_); omega)))
    · by_cases h6 : ws[s] = t
      · have e : lgive ws s t = (ws.set s (-1), true) := by unfold lgive; rw [if_neg (by rw [low_eq _ hv hsk]; simp [h6]; omega)]; rfl
        have u := lgiveF ws s t (by omega)
        rw [e] at u
        (conv => whnf); repeat (first | (refine And.intro rfl ?_; conv => whnf) | (refine And.intro (fun _ => ?_) (fun h => Bool.noConfusion h); conv => whnf) | (refine And.intro (fun h => Bool.noConfusion h) (fun _ => ?_); conv => whnf))
        refine ⟨_, _, u, ?_⟩
        (conv => whnf); repeat (first | (refine And.intro rfl ?_; conv => whnf) | (refine And.intro (fun _ => ?_) (fun h => Bool.noConfusion h); conv => whnf) | (refine And.intro (fun h => Bool.noConfusion h) (fun _ => ?_); conv => whnf))
        refine ⟨by omega, by simpa [wV] using hsk, ?_⟩
        (conv => whnf); repeat (first | (refine And.intro rfl ?_; conv => whnf) | (refine And.intro (fun _ => ?_) (fun h => Bool.noConfusion h); conv => whnf) | (refine And.intro (fun h => Bool.noConfusion h) (fun _ => ?_); conv => whnf))
        refine ⟨_, wItem hsk, ?_⟩
        (conv => whnf); repeat (first | (refine And.intro rfl ?_; conv => whnf) | (refine And.intro (fun _ => ?_) (fun h => Bool.noConfusion h); conv => whnf) | (refine And.intro (fun h => Bool.noConfusion h) (fun _ => ?_); conv => whnf))
        refine And.intro (fun h => by simp [h6] at h) (fun _ => ?_)
        (conv => whnf); repeat (first | (refine And.intro rfl ?_; conv => whnf) | (refine And.intro (fun _ => ?_) (fun h => Bool.noConfusion h); conv => whnf) | (refine And.intro (fun h => Bool.noConfusion h) (fun _ => ?_); conv => whnf))
        refine ⟨by omega, by simpa [wV] using hsk, ?_⟩
        (conv => whnf); repeat (first | (refine And.intro rfl ?_; conv => whnf) | (refine And.intro (fun _ => ?_) (fun h => Bool.noConfusion h); conv => whnf) | (refine And.intro (fun h => Bool.noConfusion h) (fun _ => ?_); conv => whnf))
        refine ⟨_, wItem hsk, ?_⟩
        (conv => whnf); repeat (first | (refine And.intro rfl ?_; conv => whnf) | (refine And.intro (fun _ => ?_) (fun h => Bool.noConfusion h); conv => whnf) | (refine And.intro (fun h => Bool.noConfusion h) (fun _ => ?_); conv => whnf))
        refine again (j + 1, ws.set s (-1)) ⟨hlt, by simp [hw], lv_set hv (by omega)⟩ (by dsimp only; omega) ?_
        (refine And.intro rfl (And.intro rfl ?_)); (repeat' (first | exact trivial | exact rfl | apply And.intro | (refine congrArg (Value.int .i64) (w64_nat ?_); omega)))
        all_goals exact congrArg (Blk.row _ _ _) (wset ws s (-1))
      · have e : lgive ws s t = (ws, false) := by unfold lgive; rw [if_pos (Or.inr (by rw [low_eq _ hv hsk]; simp [h6]))]
        have u := lgiveF ws s t (by omega)
        rw [e] at u
        (conv => whnf); repeat (first | (refine And.intro rfl ?_; conv => whnf) | (refine And.intro (fun _ => ?_) (fun h => Bool.noConfusion h); conv => whnf) | (refine And.intro (fun h => Bool.noConfusion h) (fun _ => ?_); conv => whnf))
        refine ⟨_, _, u, ?_⟩
        (conv => whnf); repeat (first | (refine And.intro rfl ?_; conv => whnf) | (refine And.intro (fun _ => ?_) (fun h => Bool.noConfusion h); conv => whnf) | (refine And.intro (fun h => Bool.noConfusion h) (fun _ => ?_); conv => whnf))
        refine ⟨by omega, by simpa [wV] using hsk, ?_⟩
        (conv => whnf); repeat (first | (refine And.intro rfl ?_; conv => whnf) | (refine And.intro (fun _ => ?_) (fun h => Bool.noConfusion h); conv => whnf) | (refine And.intro (fun h => Bool.noConfusion h) (fun _ => ?_); conv => whnf))
        refine ⟨_, wItem hsk, ?_⟩
        (conv => whnf); repeat (first | (refine And.intro rfl ?_; conv => whnf) | (refine And.intro (fun _ => ?_) (fun h => Bool.noConfusion h); conv => whnf) | (refine And.intro (fun h => Bool.noConfusion h) (fun _ => ?_); conv => whnf))
        refine And.intro (fun h => by simp [h6] at h) (fun _ => ?_)
        (conv => whnf); repeat (first | (refine And.intro rfl ?_; conv => whnf) | (refine And.intro (fun _ => ?_) (fun h => Bool.noConfusion h); conv => whnf) | (refine And.intro (fun h => Bool.noConfusion h) (fun _ => ?_); conv => whnf))
        refine again (j + 1, ws) ⟨hlt, hw, hv⟩ (by dsimp only; omega) ?_
        (refine And.intro rfl (And.intro rfl ?_)); (repeat' (first | exact trivial | exact rfl | apply And.intro | (refine congrArg (Value.int .i64) (w64_nat ?_); omega)))
  (conv => whnf); repeat (first | (refine And.intro rfl ?_; conv => whnf) | (refine And.intro (fun _ => ?_) (fun h => Bool.noConfusion h); conv => whnf) | (refine And.intro (fun h => Bool.noConfusion h) (fun _ => ?_); conv => whnf))
  clear h4 hj
  refine vc_loop [5, 6, 7, 8] [6] (X := Nat) (fun T gs => [(17, ATint T)]) (fun T gs => [(34, .row 1 3 1 (wV ws))]) (fun T => T ≤ 4) (fun T => 4 - T) _ (Ghost.refl _) 0 (by omega) ?_ ?_
  · (refine And.intro rfl (And.intro rfl ?_)); (repeat' (first | exact trivial | exact rfl | apply And.intro | (refine congrArg (Value.int .i64) (w64_nat ?_); omega)))
  rintro gs3 T hT3
  (conv => whnf); repeat (first | (refine And.intro rfl ?_; conv => whnf) | (refine And.intro (fun _ => ?_) (fun h => Bool.noConfusion h); conv => whnf) | (refine And.intro (fun h => Bool.noConfusion h) (fun _ => ?_); conv => whnf))
  refine And.intro (fun hT4 => ?_) (fun hT4 => ?_)
  · have hT5 : T < 4 := by have := of_decide_eq_true hT4; omega
    (conv => whnf); repeat (first | (refine And.intro rfl ?_; conv => whnf) | (refine And.intro (fun _ => ?_) (fun h => Bool.noConfusion h); conv => whnf) | (refine And.intro (fun h => Bool.noConfusion h) (fun _ => ?_); conv => whnf))
    refine vc_loop [4, 5, 6, 7, 8, 17, 114, 115] [6] (X := Nat × List Int) (fun x gs => [(19, ATint x.1), (18, oA 132 x.2 gs)]) (fun x gs => (34, .row 1 3 1 (wV ws)) :: oH 132 x.2 gs) (fun x => x.1 ≤ ws.length ∧ x.2.length ≤ x.1 ∧ heldF T 0 ws = x.2 ++ heldF T x.1 (ws.drop x.1)) (fun x => ws.length - x.1) _ (Ghost.refl _) (0, []) ⟨by omega, by simp, rfl⟩ ?_ ?_
    · (refine And.intro rfl (And.intro rfl ?_)); (repeat' (first | exact trivial | exact rfl | apply And.intro | (refine congrArg (Value.int .i64) (w64_nat ?_); omega)))
    rintro gs4 ⟨i, l⟩ ⟨hi, hll, hh⟩
    dsimp only at hi hll hh ⊢
    cases l with
    | nil =>
      (conv => whnf); repeat (first | (refine And.intro rfl ?_; conv => whnf) | (refine And.intro (fun _ => ?_) (fun h => Bool.noConfusion h); conv => whnf) | (refine And.intro (fun h => Bool.noConfusion h) (fun _ => ?_); conv => whnf))
      refine And.intro (fun h4 => ?_) (fun h4 => ?_)
      · have hlt : i < ws.length := by have := of_decide_eq_true h4; omega
        rw [List.drop_eq_getElem_cons hlt] at hh
        (conv => whnf); repeat (first | (refine And.intro rfl ?_; conv => whnf) | (refine And.intro (fun _ => ?_) (fun h => Bool.noConfusion h); conv => whnf) | (refine And.intro (fun h => Bool.noConfusion h) (fun _ => ?_); conv => whnf))
        refine ⟨by omega, by simpa [wV] using hlt, ?_⟩
        (conv => whnf); repeat (first | (refine And.intro rfl ?_; conv => whnf) | (refine And.intro (fun _ => ?_) (fun h => Bool.noConfusion h); conv => whnf) | (refine And.intro (fun h => Bool.noConfusion h) (fun _ => ?_); conv => whnf))
        refine ⟨_, wItem hlt, ?_⟩
        (conv => whnf); repeat (first | (refine And.intro rfl ?_; conv => whnf) | (refine And.intro (fun _ => ?_) (fun h => Bool.noConfusion h); conv => whnf) | (refine And.intro (fun h => Bool.noConfusion h) (fun _ => ?_); conv => whnf))
        refine And.intro (fun h6 => ?_) (fun h6 => ?_)
        · have h6' : ws[i] = (T : Int) := by simpa using h6
          (conv => whnf); repeat (first | (refine And.intro rfl ?_; conv => whnf) | (refine And.intro (fun _ => ?_) (fun h => Bool.noConfusion h); conv => whnf) | (refine And.intro (fun h => Bool.noConfusion h) (fun _ => ?_); conv => whnf))
          refine ⟨fun z hz => ?_, ?_⟩
          · obtain rfl := List.mem_singleton.1 hz; rfl
          (conv => whnf); repeat (first | (refine And.intro rfl ?_; conv => whnf) | (refine And.intro (fun _ => ?_) (fun h => Bool.noConfusion h); conv => whnf) | (refine And.intro (fun h => Bool.noConfusion h) (fun _ => ?_); conv => whnf))
          refine ⟨bytes_le (by decide) (by simp [wV]), ?_⟩
          (conv => whnf); repeat (first | (refine And.intro rfl ?_; conv => whnf) | (refine And.intro (fun _ => ?_) (fun h => Bool.noConfusion h); conv => whnf) | (refine And.intro (fun h => Bool.noConfusion h) (fun _ => ?_); conv => whnf))
          refine again (i + 1, [] ++ [(i : Int)]) ⟨by omega, by simp, ?_⟩ (by dsimp only; omega) ?_
          · rw [hh, heldF, if_pos h6']; simp
          · (refine And.intro rfl (And.intro rfl ?_)); (repeat' (first | exact trivial | exact rfl | apply And.intro | (refine congrArg (Value.int .i64) (w64_nat ?_); omega)))
        · have h6' : ¬ ws[i] = (T : Int) := by simpa using h6
          (conv => whnf); repeat (first | (refine And.intro rfl ?_; conv => whnf) | (refine And.intro (fun _ => ?_) (fun h => Bool.noConfusion h); conv => whnf) | (refine And.intro (fun h => Bool.noConfusion h) (fun _ => ?_); conv => whnf))
          refine again (i + 1, []) ⟨by omega, by simp at hll ⊢, ?_⟩ (by dsimp only; omega) ?_
          · rw [hh, heldF, if_neg h6']; rfl
          · (refine And.intro rfl (And.intro rfl ?_)); (repeat' (first | exact trivial | exact rfl | apply And.intro | (refine congrArg (Value.int .i64) (w64_nat ?_); omega)))
      · have hge : ¬ i < ws.length := by have := of_decide_eq_false h4; omega
        rw [List.drop_of_length_le (by omega)] at hh
        have e : heldL T ws = [] := by unfold heldL; rw [if_pos (by omega), hh]; simp [heldF]
        have hp := heldP ws T (by omega)
        rw [e] at hp
        (conv => whnf); repeat (first | (refine And.intro rfl ?_; conv => whnf) | (refine And.intro (fun _ => ?_) (fun h => Bool.noConfusion h); conv => whnf) | (refine And.intro (fun h => Bool.noConfusion h) (fun _ => ?_); conv => whnf))
        refine ⟨_, _, hp, ?_⟩
        (conv => whnf); repeat (first | (refine And.intro rfl ?_; conv => whnf) | (refine And.intro (fun _ => ?_) (fun h => Bool.noConfusion h); conv => whnf) | (refine And.intro (fun h => Bool.noConfusion h) (fun _ => ?_); conv => whnf))
        refine ⟨_, _, sameF [] (by simp at hll ⊢), ?_⟩
        (conv => whnf); repeat (first | (refine And.intro rfl ?_; conv => whnf) | (refine And.intro (fun _ => ?_) (fun h => Bool.noConfusion h); conv => whnf) | (refine And.intro (fun h => Bool.noConfusion h) (fun _ => ?_); conv => whnf))
        refine again (T + 1) (by omega) (by omega) ?_
        (refine And.intro rfl (And.intro rfl ?_)); (repeat' (first | exact trivial | exact rfl | apply And.intro | (refine congrArg (Value.int .i64) (w64_nat ?_); omega)))
    | cons y l =>
      (conv => whnf); repeat (first | (refine And.intro rfl ?_; conv => whnf) | (refine And.intro (fun _ => ?_) (fun h => Bool.noConfusion h); conv => whnf) | (refine And.intro (fun h => Bool.noConfusion h) (fun _ => ?_); conv => whnf))
      refine And.intro (fun h4 => ?_) (fun h4 => ?_)
      · have hlt : i < ws.length := by have := of_decide_eq_true h4; omega
        rw [List.drop_eq_getElem_cons hlt] at hh
        (conv => whnf); repeat (first | (refine And.intro rfl ?_; conv => whnf) | (refine And.intro (fun _ => ?_) (fun h => Bool.noConfusion h); conv => whnf) | (refine And.intro (fun h => Bool.noConfusion h) (fun _ => ?_); conv => whnf))
        refine ⟨by omega, by simpa [wV] using hlt, ?_⟩
        (conv => whnf); repeat (first | (refine And.intro rfl ?_; conv => whnf) | (refine And.intro (fun _ => ?_) (fun h => Bool.noConfusion h); conv => whnf) | (refine And.intro (fun h => Bool.noConfusion h) (fun _ => ?_); conv => whnf))
        refine ⟨_, wItem hlt, ?_⟩
        (conv => whnf); repeat (first | (refine And.intro rfl ?_; conv => whnf) | (refine And.intro (fun _ => ?_) (fun h => Bool.noConfusion h); conv => whnf) | (refine And.intro (fun h => Bool.noConfusion h) (fun _ => ?_); conv => whnf))
        refine And.intro (fun h6 => ?_) (fun h6 => ?_)
        · have h6' : ws[i] = (T : Int) := by simpa using h6
          (conv => whnf); repeat (first | (refine And.intro rfl ?_; conv => whnf) | (refine And.intro (fun _ => ?_) (fun h => Bool.noConfusion h); conv => whnf) | (refine And.intro (fun h => Bool.noConfusion h) (fun _ => ?_); conv => whnf))
          refine ⟨fun z hz => ?_, ?_⟩
          · obtain rfl := List.mem_singleton.1 hz; rfl
          (conv => whnf); repeat (first | (refine And.intro rfl ?_; conv => whnf) | (refine And.intro (fun _ => ?_) (fun h => Bool.noConfusion h); conv => whnf) | (refine And.intro (fun h => Bool.noConfusion h) (fun _ => ?_); conv => whnf))
          refine ⟨bytes_le (by decide) (by simp [wV] at hll ⊢; omega), ?_⟩
          (conv => whnf); repeat (first | (refine And.intro rfl ?_; conv => whnf) | (refine And.intro (fun _ => ?_) (fun h => Bool.noConfusion h); conv => whnf) | (refine And.intro (fun h => Bool.noConfusion h) (fun _ => ?_); conv => whnf))
          refine again (i + 1, (y :: l) ++ [(i : Int)]) ⟨by omega, by simp at hll ⊢; omega, ?_⟩ (by dsimp only; omega) ?_
          · rw [hh, heldF, if_pos h6']; simp
          · (refine And.intro rfl (And.intro rfl ?_)); (repeat' (first | exact trivial | exact rfl | apply And.intro | (refine congrArg (Value.int .i64) (w64_nat ?_); omega)))
            all_goals (exact congrArg (Blk.row _ _ _) (hsn y l i))
        · have h6' : ¬ ws[i] = (T : Int) := by simpa using h6
          (conv => whnf); repeat (first | (refine And.intro rfl ?_; conv => whnf) | (refine And.intro (fun _ => ?_) (fun h => Bool.noConfusion h); conv => whnf) | (refine And.intro (fun h => Bool.noConfusion h) (fun _ => ?_); conv => whnf))
          refine again (i + 1, (y :: l)) ⟨by omega, by simp at hll ⊢; omega, ?_⟩ (by dsimp only; omega) ?_
          · rw [hh, heldF, if_neg h6']; rfl
          · (refine And.intro rfl (And.intro rfl ?_)); (repeat' (first | exact trivial | exact rfl | apply And.intro | (refine congrArg (Value.int .i64) (w64_nat ?_); omega)))
      · have hge : ¬ i < ws.length := by have := of_decide_eq_false h4; omega
        rw [List.drop_of_length_le (by omega)] at hh
        have e : heldL T ws = (y :: l) := by unfold heldL; rw [if_pos (by omega), hh]; simp [heldF]
        have hp := heldP ws T (by omega)
        rw [e] at hp
        (conv => whnf); repeat (first | (refine And.intro rfl ?_; conv => whnf) | (refine And.intro (fun _ => ?_) (fun h => Bool.noConfusion h); conv => whnf) | (refine And.intro (fun h => Bool.noConfusion h) (fun _ => ?_); conv => whnf))
        refine ⟨_, _, hp, ?_⟩
        (conv => whnf); repeat (first | (refine And.intro rfl ?_; conv => whnf) | (refine And.intro (fun _ => ?_) (fun h => Bool.noConfusion h); conv => whnf) | (refine And.intro (fun h => Bool.noConfusion h) (fun _ => ?_); conv => whnf))
        refine ⟨_, _, sameF (y :: l) (by simp at hll ⊢; omega), ?_⟩
        (conv => whnf); repeat (first | (refine And.intro rfl ?_; conv => whnf) | (refine And.intro (fun _ => ?_) (fun h => Bool.noConfusion h); conv => whnf) | (refine And.intro (fun h => Bool.noConfusion h) (fun _ => ?_); conv => whnf))
        refine again (T + 1) (by omega) (by omega) ?_
        (refine And.intro rfl (And.intro rfl ?_)); (repeat' (first | exact trivial | exact rfl | apply And.intro | (refine congrArg (Value.int .i64) (w64_nat ?_); omega)))
  · (conv => whnf); repeat (first | (refine And.intro rfl ?_; conv => whnf) | (refine And.intro (fun _ => ?_) (fun h => Bool.noConfusion h); conv => whnf) | (refine And.intro (fun h => Bool.noConfusion h) (fun _ => ?_); conv => whnf))
    refine ⟨_, _, lawake, ?_⟩
    (conv => whnf); repeat (first | (refine And.intro rfl ?_; conv => whnf) | (refine And.intro (fun _ => ?_) (fun h => Bool.noConfusion h); conv => whnf) | (refine And.intro (fun h => Bool.noConfusion h) (fun _ => ?_); conv => whnf))
    refine Exists.intro [] (And.intro List.nodup_nil ?_); ((conv => whnf); repeat (first | (refine And.intro rfl ?_; conv => whnf) | (refine And.intro (fun _ => ?_) (fun h => Bool.noConfusion h); conv => whnf) | (refine And.intro (fun h => Bool.noConfusion h) (fun _ => ?_); conv => whnf)))
    rfl
end Go.Proofs.Ytopdpfbkdgncaaa.Ab
namespace Go.Proofs.Ytopdpfbkdgncaaa
set_option linter.unusedVariables false
set_option linter.unusedSimpArgs false
open Ab

theorem locksAlone.walk {H : Type} {enc : TypeId × Value → H} {W : World} {base : Nat} (a0 : Int) (w0 : (Lit.int .u8 a0).wf = true) (v : Value) (d : DataW H) (p : List MemPlace) (hv : Value.okWide Try.prog W .any base 63 v)
    (h : DataW.Trod enc Try.prog W 0 (fun _ => true) true 63 v d p) (_hw : ∀ n ∈ d.weights Try.prog 63, n ≤ 140737488351232)
    (W' : World) (hW : W' = W := by rfl) : Calls Try.prog 11 #[.int .u8 a0, v] W' (True1 W') := by
  subst hW
  obtain ⟨es, _, q1, q2⟩ := open_sl tabOk 3 (t := 63) (by decide +kernel) rfl hv h
  obtain ⟨ss, rfl, hss⟩ := u16s_of (d := 2) es (fun r hr => (q1 r hr).2)
  exact law_of_fun (locksAloneF a0 (bounds_u8 w0) ss (fun x hx => bounds_u16 (hss x hx))) rfl (two (.sc _ rfl) (q2 _ _))
end Go.Proofs.Ytopdpfbkdgncaaa
