/- Summaries: of records made of numbers, of fewer sectors, of a sector that is changed. -/
import Derived.Test.YtfldnpjmkllekaaUd
namespace Go.Proofs.Ytfldnpjmkllekaa.Ab
set_option linter.unusedVariables false
set_option linter.unusedSimpArgs false
open Go.RowKit

/-- A list of right sectors. -/
def Secs (ss : List ByteArray) : Prop := ∀ s ∈ ss, ∃ r, rchk r = 0 ∧ s = sS (encL r)
theorem Secs.size {ss : List ByteArray} (h : Secs ss) : ∀ s ∈ ss, s.size = 40 := fun s hs => by
  obtain ⟨r, h1, rfl⟩ := h s hs
  obtain ⟨_, _, _, _, hp, _⟩ := rchk_ok h1
  rw [sS_size, enc_len hp]
theorem Secs.snoc {ss : List ByteArray} (h : Secs ss) {r : Rec} (hr : rchk r = 0) : Secs (ss ++ [sS (encL r)]) := fun s hs => by
  rcases List.mem_append.1 hs with hs | hs
  · exact h s hs
  · exact ⟨r, hr, List.mem_singleton.1 hs⟩
/-- The fold comes to a sector whose sum is wrong. -/
theorem sfold_bad : ∀ (a : List ByteArray) (x : ByteArray) (b : List ByteArray) (B : List UInt8) (lo hi : Int), rdec x = (r0, 4) → (sfold (a ++ x :: b) B lo hi).1 ≠ 0
  | [], x, b, B, lo, hi, h => by
    rw [List.nil_append, sfold_err (by rw [h]; decide), h]
    show (4 : Int) ≠ 0
    decide
  | s :: a, x, b, B, lo, hi, h => by
    rw [List.cons_append]
    by_cases h1 : (rdec s).2 = 0
    · by_cases h2 : (rdec s).1.k ≠ 1 ∧ (rdec s).1.k ≠ 2
      · rw [sfold_kind h1 h2]; show (3 : Int) ≠ 0; decide
      · rw [sfold_step h1 h2]; exact sfold_bad a x b _ _ _ h
    · rw [sfold_err h1]; exact h1
theorem smake_bad {a b : List ByteArray} {x : ByteArray} (h : rdec x = (r0, 4)) : (smake (a ++ x :: b)).2 ≠ 0 := by
  unfold smake
  split
  · decide
  · rw [if_pos (sfold_bad a x b _ _ _ h)]
    exact sfold_bad a x b _ _ _ h
theorem smake_blk {ss : List ByteArray} (h : (smake ss).2 = 0) : (smake ss).1.b = ss.length ∧ 1 ≤ ss.length ∧ ss.length ≤ 64 := by
  unfold smake at h ⊢
  split at h
  · exact absurd h (by decide)
  · rename_i hN
    rw [if_neg hN]
    split at h
    · rename_i h2; exact absurd h h2
    · rename_i h2
      rw [if_neg h2]
      exact ⟨rfl, by omega, by omega⟩
theorem sver_self {k b v m : Int} {p : ByteArray} {ss : List ByteArray} (h : smake ss = (⟨k, b, v, m, p⟩, 0)) : sver k b v m p ss = true := by unfold sver; rw [h]; simp
theorem sver_len {k b v m : Int} {p : ByteArray} {ss : List ByteArray} (h : b ≠ ss.length) : sver k b v m p ss = false := by
  unfold sver
  by_cases h2 : (smake ss).2 = 0
  · have := (smake_blk h2).1
    rw [show ((smake ss).1.b == b) = false from beq_eq_false_iff_ne.mpr (by omega)]
    simp
  · rw [show ((smake ss).2 == 0) = false from beq_eq_false_iff_ne.mpr h2]; rfl
theorem sver_bad {k b v m : Int} {p : ByteArray} {ss : List ByteArray} (h : (smake ss).2 ≠ 0) : sver k b v m p ss = false := by
  unfold sver
  rw [show ((smake ss).2 == 0) = false from beq_eq_false_iff_ne.mpr h]; rfl
theorem sSnoc (a : List ByteArray) (s : ByteArray) : sV a ++ [[IV.sc (.string s)]] = sV (a ++ [s]) := by simp [sV]
/-- While sectors are added the list is the function's own; then it never turns. -/
def mT (n : Nat) (ss : List ByteArray) (g : Nat) : AT := match n with
  | 0 => .v (slV (sV ss))
  | _ + 1 => .v (.c (.own 37 g))
def mB (n : Nat) (ss : List ByteArray) (g : Nat) : Blk := match n with
  | 0 => .dead g
  | _ + 1 => .row g 9 1 (sV ss)
set_option maxRecDepth 100000 in
set_option maxHeartbeats 64000000 in
theorem summaryMadeF (L : List Int) (hL : L.length ≤ 140737488355328) (a1 a2 a3 : Int) : Fun Try.prog 11 [slV (wV L), i64V a1, i64V a2, i64V a3] [] (ATbool true) := by
  have lt := lightF L hL
  by_cases hl3 : L.length ≤ 300
  · rw [decide_eq_true hl3] at lt
    have hl : L.length ≤ 1000000 := by omega
    have hm1 := modF a1 66
    obtain ⟨N, hN, hN66⟩ : ∃ N : Nat, dmod a1 66 = (N : Int) ∧ N < 66 := by
      have := dmod_in2 (x := a1) (n := 66) (by decide) (by decide)
      exact ⟨(dmod a1 66).toNat, by omega, by omega⟩
    rw [hN] at hm1
    refine fun_of_vc tabOk mixOk Try.func11 rfl (by rfl) (rs := [.tmp 8]) rfl rfl 100 ?_; rw [Try.ntmps11]
    (conv => whnf); repeat (first | (refine And.intro rfl ?_; conv => whnf) | (refine And.intro (fun _ => ?_) (fun h => Bool.noConfusion h); conv => whnf) | (refine And.intro (fun h => Bool.noConfusion h) (fun _ => ?_); conv => whnf))
    refine ⟨_, _, lt, ?_⟩
    (conv => whnf); repeat (first | (refine And.intro rfl ?_; conv => whnf) | (refine And.intro (fun _ => ?_) (fun h => Bool.noConfusion h); conv => whnf) | (refine And.intro (fun h => Bool.noConfusion h) (fun _ => ?_); conv => whnf))
    refine ⟨_, _, rollF L hl, ?_⟩
    (conv => whnf); repeat (first | (refine And.intro rfl ?_; conv => whnf) | (refine And.intro (fun _ => ?_) (fun h => Bool.noConfusion h); conv => whnf) | (refine And.intro (fun h => Bool.noConfusion h) (fun _ => ?_); conv => whnf))
    refine ⟨_, _, hm1, ?_⟩
    (conv => whnf); repeat (first | (refine And.intro rfl ?_; conv => whnf) | (refine And.intro (fun _ => ?_) (fun h => Bool.noConfusion h); conv => whnf) | (refine And.intro (fun h => Bool.noConfusion h) (fun _ => ?_); conv => whnf))
    refine vc_loop [2, 3, 8, 9] [] (X := Nat × Nat × List ByteArray) (fun x gs => [(11, ATint x.1), (10, mT x.1 x.2.2 (gs 37))]) (fun x gs => [(23, .var 1 (dcs L x.2.1)), (37, mB x.1 x.2.2 (gs 37))]) (fun x => x.1 ≤ N ∧ x.2.1 ≤ L.length ∧ x.2.2.length + x.1 = N ∧ Secs x.2.2) (fun x => x.1) _ (Ghost.ownNil 10 37 9 1 rfl (Nat.le_of_ble_eq_true rfl)) (N, 0, []) ⟨Nat.le_refl _, Nat.zero_le _, Nat.zero_add _, fun s hs => by cases hs⟩ ?_ ?_
    · rcases N with _ | N
      · (refine And.intro rfl (And.intro rfl ?_)); (repeat' (first | exact trivial | exact rfl | apply And.intro | (refine congrArg (Value.int .i64) (w64_nat ?_); omega)))
        all_goals trace_state
      · (refine And.intro rfl (And.intro rfl ?_)); (repeat' (first | exact trivial | exact rfl | apply And.intro | (refine congrArg (Value.int .i64) (w64_nat ?_); omega)))
        all_goals trace_state
    rintro gs ⟨n, k, ss⟩ ⟨hn, hk, hlen, hsec⟩
    dsimp only at hn hk hlen hsec ⊢
    rcases n with _ | n
    rotate_left
    · (conv => whnf); repeat (first | (refine And.intro rfl ?_; conv => whnf) | (refine And.intro (fun _ => ?_) (fun h => Bool.noConfusion h); conv => whnf) | (refine And.intro (fun h => Bool.noConfusion h) (fun _ => ?_); conv => whnf))
      refine And.intro (fun h => ?_) (fun h => by have := of_decide_eq_false h; omega)
      have hd := dval_in L k (n := 900) (by omega) (by omega)
      have hrec := mkRecF L (dnx L k) 9 (dval L k 900) hl
      obtain ⟨r1, _, _⟩ := mkRec_ok (L := L) (k := dnx L k) (n := 9) (v := dval L k 900) (by decide) (by omega)
      have hk4 : nx3 L (dnx L k) ≤ L.length := nx3_le (dnx_le hk)
      have hsc := sectorF (mkRec L (dnx L k) 9 (dval L k 900)).k (mkRec L (dnx L k) 9 (dval L k 900)).b (mkRec L (dnx L k) 9 (dval L k 900)).v (mkRec L (dnx L k) 9 (dval L k 900)).m (mkRec L (dnx L k) 9 (dval L k 900)).p
      rw [show renc ⟨(mkRec L (dnx L k) 9 (dval L k 900)).k, (mkRec L (dnx L k) 9 (dval L k 900)).b, (mkRec L (dnx L k) 9 (dval L k 900)).v, (mkRec L (dnx L k) 9 (dval L k 900)).m, (mkRec L (dnx L k) 9 (dval L k 900)).p⟩ = _ from renc_yes r1] at hsc
      have hsec' := hsec.snoc r1
      dsimp only at hsc
      generalize mkRec L (dnx L k) 9 (dval L k 900) = r at hrec hsc hsec'
      generalize sS (encL r) = A at hsc hsec'
      have hlA : (ss ++ [A]).length + n = N := by rw [List.length_append, List.length_singleton]; omega
      (conv => whnf); repeat (first | (refine And.intro rfl ?_; conv => whnf) | (refine And.intro (fun _ => ?_) (fun h => Bool.noConfusion h); conv => whnf) | (refine And.intro (fun h => Bool.noConfusion h) (fun _ => ?_); conv => whnf))
      refine ⟨_, _, nextF L k 900 hl, ?_⟩
      (conv => whnf); repeat (first | (refine And.intro rfl ?_; conv => whnf) | (refine And.intro (fun _ => ?_) (fun h => Bool.noConfusion h); conv => whnf) | (refine And.intro (fun h => Bool.noConfusion h) (fun _ => ?_); conv => whnf))
      refine ⟨_, _, hrec, ?_⟩
      (conv => whnf); repeat (first | (refine And.intro rfl ?_; conv => whnf) | (refine And.intro (fun _ => ?_) (fun h => Bool.noConfusion h); conv => whnf) | (refine And.intro (fun h => Bool.noConfusion h) (fun _ => ?_); conv => whnf))
      refine ⟨_, _, hsc, ?_⟩
      (conv => whnf); repeat (first | (refine And.intro rfl ?_; conv => whnf) | (refine And.intro (fun _ => ?_) (fun h => Bool.noConfusion h); conv => whnf) | (refine And.intro (fun h => Bool.noConfusion h) (fun _ => ?_); conv => whnf))
      refine ⟨fun z hz => by rw [List.mem_singleton.1 hz]; rfl, ?_⟩
      (conv => whnf); repeat (first | (refine And.intro rfl ?_; conv => whnf) | (refine And.intro (fun _ => ?_) (fun h => Bool.noConfusion h); conv => whnf) | (refine And.intro (fun h => Bool.noConfusion h) (fun _ => ?_); conv => whnf))
      refine ⟨bytes_le (by decide) (by rw [sLen]; simp; omega), ?_⟩
      (conv => whnf); repeat (first | (refine And.intro rfl ?_; conv => whnf) | (refine And.intro (fun _ => ?_) (fun h => Bool.noConfusion h); conv => whnf) | (refine And.intro (fun h => Bool.noConfusion h) (fun _ => ?_); conv => whnf))
      refine again (n, nx3 L (dnx L k), ss ++ [A]) ⟨by omega, hk4, hlA, hsec'⟩ (by dsimp only; omega) ?_
      rcases n with _ | n
      · (refine And.intro rfl (And.intro rfl ?_)); (repeat' (first | exact trivial | exact rfl | apply And.intro | (refine congrArg (Value.int .i64) (w64_nat ?_); omega)))
        all_goals first | exact sSnoc ss A | exact congrArg (Blk.row _ _ _) (sSnoc ss A) | exact congrArg (Value.int .i64) ((w64_in (by omega)).trans (by omega)) | trace_state
      · (refine And.intro rfl (And.intro rfl ?_)); (repeat' (first | exact trivial | exact rfl | apply And.intro | (refine congrArg (Value.int .i64) (w64_nat ?_); omega)))
        all_goals first | exact congrArg (Blk.row _ _ _) (sSnoc ss A) | exact congrArg (Value.int .i64) ((w64_in (by omega)).trans (by omega)) | trace_state
    · (conv => whnf); repeat (first | (refine And.intro rfl ?_; conv => whnf) | (refine And.intro (fun _ => ?_) (fun h => Bool.noConfusion h); conv => whnf) | (refine And.intro (fun h => Bool.noConfusion h) (fun _ => ?_); conv => whnf))
      have hsz := hsec.size
      have m1 := smakeF ss (fun _ s hs => by rw [hsz s hs]; decide)
      have m2 := smakeF' ss (fun _ s hs => by rw [hsz s hs]; decide)
      have hblk := smake_blk (ss := ss)
      have hself := fun k b v m p => sver_self (k := k) (b := b) (v := v) (m := m) (p := p) (ss := ss)
      obtain ⟨⟨Y1, Y2, Y3, Y4, Y5⟩, Y6, hY⟩ : ∃ (y : Rec) (e : Int), smake ss = (y, e) := ⟨_, _, rfl⟩
      rw [hY] at m1 m2 hblk
      dsimp only at m1 m2 hblk
      (conv => whnf); repeat (first | (refine And.intro rfl ?_; conv => whnf) | (refine And.intro (fun _ => ?_) (fun h => Bool.noConfusion h); conv => whnf) | (refine And.intro (fun h => Bool.noConfusion h) (fun _ => ?_); conv => whnf))
      refine ⟨_, _, m1, ?_⟩
      (conv => whnf); repeat (first | (refine And.intro rfl ?_; conv => whnf) | (refine And.intro (fun _ => ?_) (fun h => Bool.noConfusion h); conv => whnf) | (refine And.intro (fun h => Bool.noConfusion h) (fun _ => ?_); conv => whnf))
      refine ⟨_, _, m2, ?_⟩
      (conv => whnf); repeat (first | (refine And.intro rfl ?_; conv => whnf) | (refine And.intro (fun _ => ?_) (fun h => Bool.noConfusion h); conv => whnf) | (refine And.intro (fun h => Bool.noConfusion h) (fun _ => ?_); conv => whnf))
      refine And.intro (fun h => absurd h (by simp)) (fun _ => ?_)
      (conv => whnf); repeat (first | (refine And.intro rfl ?_; conv => whnf) | (refine And.intro (fun _ => ?_) (fun h => Bool.noConfusion h); conv => whnf) | (refine And.intro (fun h => Bool.noConfusion h) (fun _ => ?_); conv => whnf))
      refine And.intro (fun h => absurd h (by simp)) (fun _ => ?_)
      (conv => whnf); repeat (first | (refine And.intro rfl ?_; conv => whnf) | (refine And.intro (fun _ => ?_) (fun h => Bool.noConfusion h); conv => whnf) | (refine And.intro (fun h => Bool.noConfusion h) (fun _ => ?_); conv => whnf))
      refine And.intro (fun h => ?_) (fun h => ?_)
      · (conv => whnf); repeat (first | (refine And.intro rfl ?_; conv => whnf) | (refine And.intro (fun _ => ?_) (fun h => Bool.noConfusion h); conv => whnf) | (refine And.intro (fun h => Bool.noConfusion h) (fun _ => ?_); conv => whnf))
        refine ⟨_, _, suAwake, ?_⟩
        (conv => whnf); repeat (first | (refine And.intro rfl ?_; conv => whnf) | (refine And.intro (fun _ => ?_) (fun h => Bool.noConfusion h); conv => whnf) | (refine And.intro (fun h => Bool.noConfusion h) (fun _ => ?_); conv => whnf))
        refine Exists.intro [] (And.intro List.nodup_nil ?_); ((conv => whnf); repeat (first | (refine And.intro rfl ?_; conv => whnf) | (refine And.intro (fun _ => ?_) (fun h => Bool.noConfusion h); conv => whnf) | (refine And.intro (fun h => Bool.noConfusion h) (fun _ => ?_); conv => whnf)))
        rfl
      have hY6 : Y6 = 0 := by simpa using h
      obtain ⟨hb2, hl1, hl64⟩ := hblk hY6
      have hm2 := modF a2 ss.length
      obtain ⟨q, hq, hqs⟩ : ∃ q : Nat, dmod a2 ss.length = (q : Int) ∧ q < ss.length := by
        have := dmod_in2 (x := a2) (n := ss.length) (by omega) (by omega)
        exact ⟨(dmod a2 ss.length).toNat, by omega, by omega⟩
      rw [hq] at hm2
      have hS : ((sV ss).length : Int) = (ss.length : Int) := by rw [sLen]
      have hS' : ([] ++ sV ss).length = ss.length := by rw [List.nil_append, sLen]
      have hit : ([] ++ sV ss)[((q : Int)).toNat]? = some [.sc (.string ss[q])] := by rw [List.nil_append]; exact sItem hqs
      have h40 := hsz _ (List.getElem_mem hqs)
      have fl := flipF ss[q] a2 a3 (by omega) (by omega)
      obtain ⟨r, hr, hrs⟩ := hsec _ (List.getElem_mem hqs)
      have hfd : rdec (sflip ss[q] a2 a3) = (r0, 4) := by rw [hrs]; exact sflip_dec hr a2 a3
      have hfz : (sflip ss[q] a2 a3).size = 40 := by rw [sflip_size, h40]
      generalize sflip ss[q] a2 a3 = X at fl hfd hfz
      have hset : ([] ++ sV ss).set ((q : Int)).toNat [.sc (.string X)] = sV (ss.set q X) := by simp [sV, List.map_set]
      have htk : ((sV ss).take ((q : Int)).toNat).drop (0 : Int).toNat = sV (ss.take q) := by simp [sV, List.map_take]
      have hother : ss.set q X = ss.take q ++ X :: ss.drop (q + 1) := List.set_eq_take_append_cons_drop.trans (by rw [if_pos hqs])
      have v1 := sverF Y1 Y2 Y3 Y4 Y5 ss (fun _ s hs => by rw [hsz s hs]; decide)
      rw [sver_self (by rw [hY, hY6])] at v1
      have v2 := sverF Y1 Y2 Y3 Y4 Y5 (ss.take q) (fun _ s hs => by rw [hsz s (List.mem_of_mem_take hs)]; decide)
      rw [sver_len (by rw [hb2, List.length_take]; omega)] at v2
      have v3 := sverF Y1 Y2 Y3 Y4 Y5 (ss.set q X) (fun _ s hs => by
        rcases List.mem_or_eq_of_mem_set hs with hs | rfl
        · rw [hsz s hs]; decide
        · rw [hfz]; decide)
      rw [sver_bad (by rw [hother]; exact smake_bad hfd)] at v3
      (conv => whnf); repeat (first | (refine And.intro rfl ?_; conv => whnf) | (refine And.intro (fun _ => ?_) (fun h => Bool.noConfusion h); conv => whnf) | (refine And.intro (fun h => Bool.noConfusion h) (fun _ => ?_); conv => whnf))
      refine ⟨sSz ss, ?_⟩
      (conv => whnf); repeat (first | (refine And.intro rfl ?_; conv => whnf) | (refine And.intro (fun _ => ?_) (fun h => Bool.noConfusion h); conv => whnf) | (refine And.intro (fun h => Bool.noConfusion h) (fun _ => ?_); conv => whnf))
      refine ⟨bytes_le (by decide) (by rw [List.length_nil, sLen]; omega), ?_⟩
      (conv => whnf); repeat (first | (refine And.intro rfl ?_; conv => whnf) | (refine And.intro (fun _ => ?_) (fun h => Bool.noConfusion h); conv => whnf) | (refine And.intro (fun h => Bool.noConfusion h) (fun _ => ?_); conv => whnf))
      rw [hS]
      refine ⟨_, _, hm2, ?_⟩
      (conv => whnf); repeat (first | (refine And.intro rfl ?_; conv => whnf) | (refine And.intro (fun _ => ?_) (fun h => Bool.noConfusion h); conv => whnf) | (refine And.intro (fun h => Bool.noConfusion h) (fun _ => ?_); conv => whnf))
      refine ⟨by omega, by rw [hS']; exact hqs, ?_⟩
      (conv => whnf); repeat (first | (refine And.intro rfl ?_; conv => whnf) | (refine And.intro (fun _ => ?_) (fun h => Bool.noConfusion h); conv => whnf) | (refine And.intro (fun h => Bool.noConfusion h) (fun _ => ?_); conv => whnf))
      refine ⟨_, hit, ?_⟩
      (conv => whnf); repeat (first | (refine And.intro rfl ?_; conv => whnf) | (refine And.intro (fun _ => ?_) (fun h => Bool.noConfusion h); conv => whnf) | (refine And.intro (fun h => Bool.noConfusion h) (fun _ => ?_); conv => whnf))
      refine ⟨_, _, fl, ?_⟩
      (conv => whnf); repeat (first | (refine And.intro rfl ?_; conv => whnf) | (refine And.intro (fun _ => ?_) (fun h => Bool.noConfusion h); conv => whnf) | (refine And.intro (fun h => Bool.noConfusion h) (fun _ => ?_); conv => whnf))
      refine ⟨by omega, by rw [hS']; exact hqs, ?_⟩
      (conv => whnf); repeat (first | (refine And.intro rfl ?_; conv => whnf) | (refine And.intro (fun _ => ?_) (fun h => Bool.noConfusion h); conv => whnf) | (refine And.intro (fun h => Bool.noConfusion h) (fun _ => ?_); conv => whnf))
      refine ⟨_, hit, ?_⟩
      (conv => whnf); repeat (first | (refine And.intro rfl ?_; conv => whnf) | (refine And.intro (fun _ => ?_) (fun h => Bool.noConfusion h); conv => whnf) | (refine And.intro (fun h => Bool.noConfusion h) (fun _ => ?_); conv => whnf))
      rw [hset]
      refine ⟨_, _, suAwake, ?_⟩
      (conv => whnf); repeat (first | (refine And.intro rfl ?_; conv => whnf) | (refine And.intro (fun _ => ?_) (fun h => Bool.noConfusion h); conv => whnf) | (refine And.intro (fun h => Bool.noConfusion h) (fun _ => ?_); conv => whnf))
      refine ⟨_, _, v1, ?_⟩
      (conv => whnf); repeat (first | (refine And.intro rfl ?_; conv => whnf) | (refine And.intro (fun _ => ?_) (fun h => Bool.noConfusion h); conv => whnf) | (refine And.intro (fun h => Bool.noConfusion h) (fun _ => ?_); conv => whnf))
      refine ⟨sSz ss, ?_⟩
      (conv => whnf); repeat (first | (refine And.intro rfl ?_; conv => whnf) | (refine And.intro (fun _ => ?_) (fun h => Bool.noConfusion h); conv => whnf) | (refine And.intro (fun h => Bool.noConfusion h) (fun _ => ?_); conv => whnf))
      refine ⟨by omega, by omega, by rw [sLen]; omega, ?_⟩
      (conv => whnf); repeat (first | (refine And.intro rfl ?_; conv => whnf) | (refine And.intro (fun _ => ?_) (fun h => Bool.noConfusion h); conv => whnf) | (refine And.intro (fun h => Bool.noConfusion h) (fun _ => ?_); conv => whnf))
      rw [htk]
      refine ⟨_, _, v2, ?_⟩
      (conv => whnf); repeat (first | (refine And.intro rfl ?_; conv => whnf) | (refine And.intro (fun _ => ?_) (fun h => Bool.noConfusion h); conv => whnf) | (refine And.intro (fun h => Bool.noConfusion h) (fun _ => ?_); conv => whnf))
      refine ⟨_, _, v3, ?_⟩
      (conv => whnf); repeat (first | (refine And.intro rfl ?_; conv => whnf) | (refine And.intro (fun _ => ?_) (fun h => Bool.noConfusion h); conv => whnf) | (refine And.intro (fun h => Bool.noConfusion h) (fun _ => ?_); conv => whnf))
      refine Exists.intro [] (And.intro List.nodup_nil ?_); ((conv => whnf); repeat (first | (refine And.intro rfl ?_; conv => whnf) | (refine And.intro (fun _ => ?_) (fun h => Bool.noConfusion h); conv => whnf) | (refine And.intro (fun h => Bool.noConfusion h) (fun _ => ?_); conv => whnf)))
      rfl
  · rw [decide_eq_false hl3] at lt
    refine fun_of_vc tabOk mixOk Try.func11 rfl (by rfl) (rs := [.tmp 8]) rfl rfl 100 ?_; rw [Try.ntmps11]
    (conv => whnf); repeat (first | (refine And.intro rfl ?_; conv => whnf) | (refine And.intro (fun _ => ?_) (fun h => Bool.noConfusion h); conv => whnf) | (refine And.intro (fun h => Bool.noConfusion h) (fun _ => ?_); conv => whnf))
    refine ⟨_, _, lt, ?_⟩
    (conv => whnf); repeat (first | (refine And.intro rfl ?_; conv => whnf) | (refine And.intro (fun _ => ?_) (fun h => Bool.noConfusion h); conv => whnf) | (refine And.intro (fun h => Bool.noConfusion h) (fun _ => ?_); conv => whnf))
    refine ⟨_, _, suAwake, ?_⟩
    (conv => whnf); repeat (first | (refine And.intro rfl ?_; conv => whnf) | (refine And.intro (fun _ => ?_) (fun h => Bool.noConfusion h); conv => whnf) | (refine And.intro (fun h => Bool.noConfusion h) (fun _ => ?_); conv => whnf))
    refine Exists.intro [] (And.intro List.nodup_nil ?_); ((conv => whnf); repeat (first | (refine And.intro rfl ?_; conv => whnf) | (refine And.intro (fun _ => ?_) (fun h => Bool.noConfusion h); conv => whnf) | (refine And.intro (fun h => Bool.noConfusion h) (fun _ => ?_); conv => whnf)))
    rfl
end Go.Proofs.Ytfldnpjmkllekaa.Ab
namespace Go.Proofs.Ytfldnpjmkllekaa
set_option linter.unusedVariables false
set_option linter.unusedSimpArgs false
open Ab
set_option maxRecDepth 100000 in
theorem summaryMade.walk {H : Type} {enc : TypeId × Value → H} {W : World} {base : Nat} (v : Value) (d : DataW H) (p : List MemPlace) (hv : Value.okWide Try.prog W .any base 42 v)
    (h : DataW.Trod enc Try.prog W 0 (fun _ => true) true 42 v d p) (hw : ∀ n ∈ d.weights Try.prog 42, n ≤ 140737488351232)
    (a1 : Int) (w1 : (Lit.int .i64 a1).wf = true) (a2 : Int) (w2 : (Lit.int .i64 a2).wf = true) (a3 : Int) (w3 : (Lit.int .i64 a3).wf = true)
    (W' : World) (hW : W' = W := by rfl) : Calls Try.prog 11 #[v, .int .i64 a1, .int .i64 a2, .int .i64 a3] W' (True1 W') := by
  subst hW
  obtain ⟨es, _, q1, q2⟩ := open_sl tabOk 3 (t := 42) (by decide +kernel) rfl hv h
  obtain ⟨xs, rfl⟩ := ints_of (d := 2) es (fun r hr => (q1 r hr).2)
  have b3 := slice_bound tabOk (e := 3) rfl h hw (q2 (fun _ _ => undef) (fun _ => 0))
  rw [bytesOf_eq tabOk (fun h => TK.noConfusion h)] at b3
  have b3' : (wV xs).length * 8 ≤ 140737488351232 := b3
  exact law_of_fun (summaryMadeF xs (by simp [wV] at b3'; omega) a1 a2 a3) rfl (reps_get (vs := [_, _, _, _]) ⟨q2 _ _, .sc _ rfl, .sc _ rfl, .sc _ rfl, trivial⟩)
end Go.Proofs.Ytfldnpjmkllekaa
