/- Summaries: a change of 32 bits in the middle is noticed; the summary of right sectors. Plain. -/
import Derived.Test.YtfldnpjmkllekaaUe
namespace Go.Proofs.Ytfldnpjmkllekaa.Ab
set_option linter.unusedVariables false
set_option linter.unusedSimpArgs false
open Go.RowKit

theorem num_append : ∀ (a l : List Nat), Crc.num (a ++ l) = Crc.num a ^^^ Crc.num l * 2 ^ (8 * a.length)
  | [], l => by simp [Crc.num]
  | b :: a, l => by
    simp only [List.cons_append, Crc.num, List.length_cons]
    rw [num_append a l, Crc.xor_mul_pow, ← Nat.xor_assoc, Nat.mul_assoc, ← Nat.pow_add]
    rw [show 8 * a.length + 8 = 8 * (a.length + 1) by omega]
theorem num_lt : ∀ (l : List UInt8), Crc.num (l.map UInt8.toNat) < 2 ^ (8 * l.length)
  | [] => by simp [Crc.num]
  | b :: l => by
    have h1 := num_lt l
    simp only [List.map_cons, Crc.num, List.length_cons]
    rw [show 8 * (l.length + 1) = 8 * l.length + 8 by omega]
    refine Nat.xor_lt_two_pow ?_ ?_
    · exact Nat.lt_of_lt_of_le b.toNat_lt (Nat.pow_le_pow_right (n := 2) (by decide) (by omega))
    · rw [Nat.pow_add]
      exact Nat.mul_lt_mul_of_pos_right h1 (by decide)
theorem num_inj : ∀ {l m : List UInt8}, l.length = m.length → Crc.num (l.map UInt8.toNat) = Crc.num (m.map UInt8.toNat) → l = m
  | [], [], _, _ => rfl
  | [], c :: m, h, _ => by simp at h
  | b :: l, [], h, _ => by simp at h
  | b :: l, c :: m, h, e => by
    simp only [List.map_cons, Crc.num] at e
    have e1 := congrArg (fun z => z % 2 ^ 8) e
    simp only [Nat.xor_mod_two_pow, Nat.mul_mod_left, Nat.xor_zero] at e1
    rw [Nat.mod_eq_of_lt b.toNat_lt, Nat.mod_eq_of_lt c.toNat_lt] at e1
    have e2 := congrArg (fun z => b.toNat ^^^ z) e
    rw [e1] at e2
    simp only [Crc.xor_back] at e2
    have e3 : Crc.num (l.map UInt8.toNat) = Crc.num (m.map UInt8.toNat) := Nat.eq_of_mul_eq_mul_right (by decide) e2
    rw [num_inj (by simpa using h) e3, UInt8.toNat_inj.1 e1]
theorem crc_mid {a x y b : List UInt8} (h4 : x.length = 4) (hl : y.length = x.length) (hne : x ≠ y) : crcN (a ++ (y ++ b)) ≠ crcN (a ++ (x ++ b)) := by
  unfold crcN
  have hx := num_lt x
  have hy := num_lt y
  rw [h4] at hx
  rw [hl, h4] at hy
  refine Crc.add_burst crcP crcO 31 P_bd.1 P_bd.2 0 _ _ (by simp [hl]) (8 * a.length) (Crc.num (x.map UInt8.toNat) ^^^ Crc.num (y.map UInt8.toNat)) (Nat.xor_lt_two_pow hx hy) (fun h => ?_) (by simp; omega) ?_
  · refine hne (num_inj hl.symm ?_)
    have := congrArg (fun z => Crc.num (x.map UInt8.toNat) ^^^ z) h
    simp only [Crc.xor_back, Nat.xor_zero] at this
    exact this.symm
  · simp only [List.map_append, num_append, List.length_map, hl, Crc.xor_mul_pow]
    generalize Crc.num (x.map UInt8.toNat) * 2 ^ (8 * a.length) = X
    generalize Crc.num (y.map UInt8.toNat) * 2 ^ (8 * a.length) = Y
    generalize Crc.num (a.map UInt8.toNat) = A
    generalize Crc.num (b.map UInt8.toNat) * 2 ^ (8 * x.length) * 2 ^ (8 * a.length) = Z
    rw [show A ^^^ (X ^^^ Z) ^^^ (X ^^^ Y) = A ^^^ (Y ^^^ Z) by
      rw [Nat.xor_assoc, Nat.xor_comm (X ^^^ Z), Nat.xor_comm X Y, Nat.xor_assoc, ← Nat.xor_assoc X X, Nat.xor_self, Nat.zero_xor]]
end Go.Proofs.Ytfldnpjmkllekaa.Ab
/- Summaries: of right records, and where one has another block. Plain. -/
namespace Go.Proofs.Ytfldnpjmkllekaa.Ab
set_option linter.unusedVariables false
set_option linter.unusedSimpArgs false
open Go.RowKit

def sums (rs : List Rec) : List UInt8 := (rs.map bodyL).flatten
def mins (vs : List Int) (lo : Int) : Int := vs.foldl (fun lo v => if v < lo then v else lo) lo
def maxs (vs : List Int) (hi : Int) : Int := vs.foldl (fun hi v => if v > hi then v else hi) hi
def secs (rs : List Rec) : List ByteArray := rs.map fun r => sS (encL r)
def Goods (rs : List Rec) : Prop := ∀ r ∈ rs, rchk r = 0 ∧ (r.k = 1 ∨ r.k = 2)
theorem enc36 {r : Rec} (h : rchk r = 0) : (sL (sS (encL r))).take 36 = bodyL r := by
  obtain ⟨_, _, _, _, hp, _⟩ := rchk_ok h
  rw [sL_S, encL, sealL]
  exact List.take_left' (body_len hp)
theorem sfold_recs : ∀ (rs : List Rec) (B : List UInt8) (lo hi : Int), Goods rs → sfold (secs rs) B lo hi = (0, B ++ sums rs, mins (rs.map Rec.v) lo, maxs (rs.map Rec.v) hi)
  | [], B, lo, hi, _ => by simp [secs, sfold, sums, mins, maxs]
  | r :: rs, B, lo, hi, h => by
    obtain ⟨h1, h2⟩ := h r List.mem_cons_self
    have hd := dec_enc h1
    show sfold (sS (encL r) :: secs rs) B lo hi = _
    rw [sfold_step (by rw [hd]) (by rw [hd]; show ¬ (r.k ≠ 1 ∧ r.k ≠ 2); omega), enc36 h1, sfold_recs rs _ _ _ (fun x hx => h x (List.mem_cons_of_mem _ hx)), hd]
    simp [sums, mins, maxs]
theorem smake_recs {rs : List Rec} (h : Goods rs) (h1 : 1 ≤ rs.length) (h2 : rs.length ≤ 64) :
    smake (secs rs) = (⟨3, rs.length, maxs (rs.map Rec.v) 0, 0, (sput (mins (rs.map Rec.v) 1099511627776) 6).1 ++ sS (putB (crcN (sums rs)) 4)⟩, 0) := by
  have hl : (secs rs).length = rs.length := by simp [secs]
  unfold smake
  rw [if_neg (by omega), sfold_recs rs [] _ _ h, if_neg (by simp), hl]
  dsimp only
  rw [List.nil_append, crc_put]
def chg (r : Rec) (x : Int) : Rec := ⟨r.k, x, r.v, r.m, r.p⟩
theorem chg_ok {r : Rec} {x : Int} (h : rchk r = 0) (h1 : 0 ≤ x) (h2 : x ≤ 4294967295) : rchk (chg r x) = 0 := by
  obtain ⟨a1, a2, a3, a4, a5, a6, a7⟩ := rchk_ok h
  unfold rchk chg
  dsimp only
  rw [if_neg (by omega), if_neg (by omega), if_neg (by omega)]
theorem good_set {rs : List Rec} {q : Nat} {x : Int} (h : Goods rs) (hq : q < rs.length) (h1 : 0 ≤ x) (h2 : x ≤ 4294967295) : Goods (rs.set q (chg rs[q] x)) := fun r hr => by
  rcases List.mem_or_eq_of_mem_set hr with hr | rfl
  · exact h r hr
  · obtain ⟨a, b⟩ := h _ (List.getElem_mem hq)
    exact ⟨chg_ok a h1 h2, b⟩
theorem sums_append (a b : List Rec) : sums (a ++ b) = sums a ++ sums b := by simp [sums]
theorem sums_set {rs : List Rec} {q : Nat} (hq : q < rs.length) (r : Rec) : sums (rs.set q r) = sums (rs.take q) ++ (bodyL r ++ sums (rs.drop (q + 1))) := by
  rw [List.set_eq_take_append_cons_drop, if_pos hq, sums_append]
  rfl
theorem crc_chg {rs : List Rec} {q : Nat} {x : Int} (h : Goods rs) (hq : q < rs.length) (hx : rs[q].b ≠ x) (h1 : 0 ≤ x) (h2 : x ≤ 4294967295) : crcN (sums (rs.set q (chg rs[q] x))) ≠ crcN (sums rs) := by
  obtain ⟨a1, a2, _⟩ := rchk_ok (h _ (List.getElem_mem hq)).1
  have e : sums rs = sums (rs.take q) ++ (bodyL rs[q] ++ sums (rs.drop (q + 1))) := by
    rw [← sums_set hq, List.set_getElem_self]
  rw [e, sums_set hq]
  have hb : ∀ (r : Rec), bodyL r = ([90, 65] ++ putB r.k.toNat 1 ++ putB r.p.size 1) ++ (putB r.b.toNat 4 ++ (putB r.v.toNat 6 ++ (putB r.m.toNat 1 ++ ([0] ++ (sL r.p ++ List.replicate (20 - r.p.size) 0))))) := fun r => by simp [bodyL]
  rw [hb (chg rs[q] x), hb rs[q]]
  have := crc_mid (a := sums (rs.take q) ++ ([90, 65] ++ putB rs[q].k.toNat 1 ++ putB rs[q].p.size 1)) (x := putB rs[q].b.toNat 4) (y := putB x.toNat 4)
    (b := (putB rs[q].v.toNat 6 ++ (putB rs[q].m.toNat 1 ++ ([0] ++ (sL rs[q].p ++ List.replicate (20 - rs[q].p.size) 0)))) ++ sums (rs.drop (q + 1))) (putB_len _ _) (by rw [putB_len, putB_len]) (fun e => by
      have := putB_inj (n := rs[q].b.toNat) (m := x.toNat) (k := 4) (by rw [show (256 : Nat) ^ 4 = 4294967296 from rfl]; omega) (by rw [show (256 : Nat) ^ 4 = 4294967296 from rfl]; omega) e
      omega)
  simpa only [List.append_assoc, chg] using this
end Go.Proofs.Ytfldnpjmkllekaa.Ab
/- Summaries: a summary fits no list in which a record has another block. -/
namespace Go.Proofs.Ytfldnpjmkllekaa.Ab
set_option linter.unusedVariables false
set_option linter.unusedSimpArgs false
open Go.RowKit

def rRow (r : Rec) : List IV := [.sc (.int .i64 r.k), .sc (.int .i64 r.b), .sc (.int .i64 r.v), .sc (.int .i64 r.m), .sc (.string r.p)]
def rR (rs : List Rec) : List (List IV) := rs.map rRow
theorem rLen (rs : List Rec) : (rR rs).length = rs.length := by simp [rR]
theorem rItem {rs : List Rec} {q : Nat} (h : q < rs.length) : (rR rs)[((q : Int)).toNat]? = some (rRow rs[q]) := by simp [rR, h]
theorem rSnoc (a : List Rec) (r : Rec) : rR a ++ [rRow r] = rR (a ++ [r]) := by simp [rR]
theorem rSet (rs : List Rec) (q : Nat) (r : Rec) : (rR rs).set ((q : Int)).toNat (rRow r) = rR (rs.set q r) := by simp [rR, List.map_set]
theorem secsSnoc (a : List Rec) (r : Rec) : sV (secs a) ++ [[IV.sc (.string (sS (encL r)))]] = sV (secs (a ++ [r])) := by simp [sV, secs]
set_option maxRecDepth 100000 in
set_option maxHeartbeats 64000000 in
theorem summaryChangedF (L : List Int) (hL : L.length ≤ 140737488355328) (a1 a2 a3 : Int) (h3 : 0 ≤ a3 ∧ a3 ≤ 4294967295) : Fun Try.prog 12 [slV (wV L), i64V a1, i64V a2, .c (.i (.sc (.int .u32 a3)))] [] (ATbool true) := by
  have lt := lightF L hL
  by_cases hl3 : L.length ≤ 300
  · rw [decide_eq_true hl3] at lt
    have hl : L.length ≤ 1000000 := by omega
    have hm1 := modF a1 20
    obtain ⟨N, hN, hN1, hN20⟩ : ∃ N : Nat, iwrap .i64 (1 + dmod a1 20) = (N : Int) ∧ 1 ≤ N ∧ N ≤ 20 := by
      have := dmod_in2 (x := a1) (n := 20) (by decide) (by decide)
      exact ⟨(1 + dmod a1 20).toNat, by rw [show iwrap .i64 (1 + dmod a1 20) = 1 + dmod a1 20 from w64_in (by omega)]; omega, by omega, by omega⟩
    refine fun_of_vc tabOk mixOk Try.func12 rfl (by rfl) (rs := [.tmp 8]) rfl rfl 121 ?_; rw [Try.ntmps12]
    (conv => whnf); repeat (first | (refine And.intro rfl ?_; conv => whnf) | (refine And.intro (fun _ => ?_) (fun h => Bool.noConfusion h); conv => whnf) | (refine And.intro (fun h => Bool.noConfusion h) (fun _ => ?_); conv => whnf))
    refine ⟨_, _, lt, ?_⟩
    (conv => whnf); repeat (first | (refine And.intro rfl ?_; conv => whnf) | (refine And.intro (fun _ => ?_) (fun h => Bool.noConfusion h); conv => whnf) | (refine And.intro (fun h => Bool.noConfusion h) (fun _ => ?_); conv => whnf))
    refine ⟨_, _, rollF L hl, ?_⟩
    (conv => whnf); repeat (first | (refine And.intro rfl ?_; conv => whnf) | (refine And.intro (fun _ => ?_) (fun h => Bool.noConfusion h); conv => whnf) | (refine And.intro (fun h => Bool.noConfusion h) (fun _ => ?_); conv => whnf))
    refine ⟨_, _, hm1, ?_⟩
    (conv => whnf); repeat (first | (refine And.intro rfl ?_; conv => whnf) | (refine And.intro (fun _ => ?_) (fun h => Bool.noConfusion h); conv => whnf) | (refine And.intro (fun h => Bool.noConfusion h) (fun _ => ?_); conv => whnf))
    rw [hN]
    refine vc_loop [2, 3, 8, 9] [] (X := Nat × Nat × List Rec) (fun x gs => [(12, ATint x.1), (10, .v (.c (.own 46 (gs 46)))), (11, .v (.c (.own 41 (gs 41))))]) (fun x gs => [(25, .var 1 (dcs L x.2.1)), (46, .row (gs 46) 9 1 (sV (secs x.2.2))), (41, .row (gs 41) 34 5 (rR x.2.2))]) (fun x => x.1 ≤ N ∧ x.2.1 ≤ L.length ∧ x.2.2.length + x.1 = N ∧ Goods x.2.2) (fun x => x.1) _ ((Ghost.ownNil 10 46 9 1 rfl (Nat.le_of_ble_eq_true rfl)).trans (Ghost.ownNil 11 41 34 5 rfl (Nat.le_of_ble_eq_true rfl))) (N, 0, []) ⟨Nat.le_refl _, Nat.zero_le _, Nat.zero_add _, fun s hs => by cases hs⟩ ?_ ?_
    · (refine And.intro rfl (And.intro rfl ?_)); (repeat' (first | exact trivial | exact rfl | apply And.intro | (refine congrArg (Value.int .i64) (w64_nat ?_); omega)))
      all_goals trace_state
    rintro gs ⟨n, k, rs⟩ ⟨hn, hk, hlen, hg⟩
    dsimp only at hn hk hlen hg ⊢
    (conv => whnf); repeat (first | (refine And.intro rfl ?_; conv => whnf) | (refine And.intro (fun _ => ?_) (fun h => Bool.noConfusion h); conv => whnf) | (refine And.intro (fun h => Bool.noConfusion h) (fun _ => ?_); conv => whnf))
    refine And.intro (fun h => ?_) (fun h => ?_)
    · have h0 : 0 < n := by have := of_decide_eq_true h; omega
      have hd := dval_in L k (n := 900) (by omega) (by omega)
      have hw : iwrap .i64 (1 + dval L k 900) = 1 + dval L k 900 := w64_in (by omega)
      have hrec := mkRecF L (dnx L k) 9 (1 + dval L k 900) hl
      obtain ⟨r1, _, r3⟩ := mkRec_ok (L := L) (k := dnx L k) (n := 9) (v := 1 + dval L k 900) (by decide) (by omega)
      have hk4 : nx3 L (dnx L k) ≤ L.length := nx3_le (dnx_le hk)
      generalize mkRec L (dnx L k) 9 (1 + dval L k 900) = r at hrec r1 r3
      have hsc := sectorF r.k r.b r.v r.m r.p
      rw [show renc ⟨r.k, r.b, r.v, r.m, r.p⟩ = _ from renc_yes r1] at hsc
      have hg' : Goods (rs ++ [r]) := fun s hs => by
        rcases List.mem_append.1 hs with hs | hs
        · exact hg s hs
        · rw [List.mem_singleton.1 hs]
          obtain ⟨a1, _⟩ := rchk_ok r1
          exact ⟨r1, by omega⟩
      dsimp only at hsc
      have hlA : (rs ++ [r]).length + (n - 1) = N := by rw [List.length_append, List.length_singleton]; omega
      have hs1 := secsSnoc rs r
      generalize sS (encL r) = A at hsc hs1
      (conv => whnf); repeat (first | (refine And.intro rfl ?_; conv => whnf) | (refine And.intro (fun _ => ?_) (fun h => Bool.noConfusion h); conv => whnf) | (refine And.intro (fun h => Bool.noConfusion h) (fun _ => ?_); conv => whnf))
      refine ⟨_, _, nextF L k 900 hl, ?_⟩
      (conv => whnf); repeat (first | (refine And.intro rfl ?_; conv => whnf) | (refine And.intro (fun _ => ?_) (fun h => Bool.noConfusion h); conv => whnf) | (refine And.intro (fun h => Bool.noConfusion h) (fun _ => ?_); conv => whnf))
      rw [hw]
      refine ⟨_, _, hrec, ?_⟩
      (conv => whnf); repeat (first | (refine And.intro rfl ?_; conv => whnf) | (refine And.intro (fun _ => ?_) (fun h => Bool.noConfusion h); conv => whnf) | (refine And.intro (fun h => Bool.noConfusion h) (fun _ => ?_); conv => whnf))
      refine ⟨fun z hz => by rw [List.mem_singleton.1 hz]; rfl, ?_⟩
      (conv => whnf); repeat (first | (refine And.intro rfl ?_; conv => whnf) | (refine And.intro (fun _ => ?_) (fun h => Bool.noConfusion h); conv => whnf) | (refine And.intro (fun h => Bool.noConfusion h) (fun _ => ?_); conv => whnf))
      refine ⟨bytes_le (by decide) (by rw [rLen]; simp; omega), ?_⟩
      (conv => whnf); repeat (first | (refine And.intro rfl ?_; conv => whnf) | (refine And.intro (fun _ => ?_) (fun h => Bool.noConfusion h); conv => whnf) | (refine And.intro (fun h => Bool.noConfusion h) (fun _ => ?_); conv => whnf))
      refine ⟨_, _, hsc, ?_⟩
      (conv => whnf); repeat (first | (refine And.intro rfl ?_; conv => whnf) | (refine And.intro (fun _ => ?_) (fun h => Bool.noConfusion h); conv => whnf) | (refine And.intro (fun h => Bool.noConfusion h) (fun _ => ?_); conv => whnf))
      refine ⟨fun z hz => by rw [List.mem_singleton.1 hz]; rfl, ?_⟩
      (conv => whnf); repeat (first | (refine And.intro rfl ?_; conv => whnf) | (refine And.intro (fun _ => ?_) (fun h => Bool.noConfusion h); conv => whnf) | (refine And.intro (fun h => Bool.noConfusion h) (fun _ => ?_); conv => whnf))
      refine ⟨bytes_le (by decide) (by rw [sLen]; simp [secs]; omega), ?_⟩
      (conv => whnf); repeat (first | (refine And.intro rfl ?_; conv => whnf) | (refine And.intro (fun _ => ?_) (fun h => Bool.noConfusion h); conv => whnf) | (refine And.intro (fun h => Bool.noConfusion h) (fun _ => ?_); conv => whnf))
      refine again (n - 1, nx3 L (dnx L k), rs ++ [r]) ⟨by omega, hk4, hlA, hg'⟩ (by dsimp only; omega) ?_
      (refine And.intro rfl (And.intro rfl ?_)); (repeat' (first | exact trivial | exact rfl | apply And.intro | (refine congrArg (Value.int .i64) (w64_nat ?_); omega)))
      all_goals first | exact congrArg (Blk.row _ _ _) hs1 | exact congrArg (Blk.row _ _ _) (rSnoc rs r) | exact congrArg (Value.int .i64) ((w64_in (by omega)).trans (by omega)) | trace_state
    · obtain rfl : n = 0 := by have := of_decide_eq_false h; omega
      have hsl : (secs rs).length = rs.length := by simp [secs]
      have hm2 := modF a2 rs.length
      obtain ⟨q, hq, hqs⟩ : ∃ q : Nat, dmod a2 rs.length = (q : Int) ∧ q < rs.length := by
        have := dmod_in2 (x := a2) (n := rs.length) (by omega) (by omega)
        exact ⟨(dmod a2 rs.length).toNat, by omega, by omega⟩
      rw [hq] at hm2
      have hS : ((sV (secs rs)).length : Int) = (rs.length : Int) := by rw [sLen, hsl]
      have hw3 : iwrap .i64 a3 = a3 := w64_in (by omega)
      have hitR := rItem hqs
      (conv => whnf); repeat (first | (refine And.intro rfl ?_; conv => whnf) | (refine And.intro (fun _ => ?_) (fun h => Bool.noConfusion h); conv => whnf) | (refine And.intro (fun h => Bool.noConfusion h) (fun _ => ?_); conv => whnf))
      rw [hS]
      refine ⟨_, _, hm2, ?_⟩
      (conv => whnf); repeat (first | (refine And.intro rfl ?_; conv => whnf) | (refine And.intro (fun _ => ?_) (fun h => Bool.noConfusion h); conv => whnf) | (refine And.intro (fun h => Bool.noConfusion h) (fun _ => ?_); conv => whnf))
      refine ⟨by omega, by rw [rLen]; exact hqs, ?_⟩
      (conv => whnf); repeat (first | (refine And.intro rfl ?_; conv => whnf) | (refine And.intro (fun _ => ?_) (fun h => Bool.noConfusion h); conv => whnf) | (refine And.intro (fun h => Bool.noConfusion h) (fun _ => ?_); conv => whnf))
      refine ⟨_, hitR, ?_⟩
      (conv => whnf); repeat (first | (refine And.intro rfl ?_; conv => whnf) | (refine And.intro (fun _ => ?_) (fun h => Bool.noConfusion h); conv => whnf) | (refine And.intro (fun h => Bool.noConfusion h) (fun _ => ?_); conv => whnf))
      rw [hw3]
      refine And.intro (fun h => ?_) (fun h => ?_)
      · (conv => whnf); repeat (first | (refine And.intro rfl ?_; conv => whnf) | (refine And.intro (fun _ => ?_) (fun h => Bool.noConfusion h); conv => whnf) | (refine And.intro (fun h => Bool.noConfusion h) (fun _ => ?_); conv => whnf))
        refine ⟨_, _, suAwake, ?_⟩
        (conv => whnf); repeat (first | (refine And.intro rfl ?_; conv => whnf) | (refine And.intro (fun _ => ?_) (fun h => Bool.noConfusion h); conv => whnf) | (refine And.intro (fun h => Bool.noConfusion h) (fun _ => ?_); conv => whnf))
        refine Exists.intro [] (And.intro List.nodup_nil ?_); ((conv => whnf); repeat (first | (refine And.intro rfl ?_; conv => whnf) | (refine And.intro (fun _ => ?_) (fun h => Bool.noConfusion h); conv => whnf) | (refine And.intro (fun h => Bool.noConfusion h) (fun _ => ?_); conv => whnf)))
        rfl
      have hne : rs[q].b ≠ a3 := by simpa using h
      have hg2 := good_set hg hqs h3.1 h3.2
      have hcrc := crc_chg hg hqs hne h3.1 h3.2
      have k1 := smake_recs hg (by omega) (by omega)
      have k2 := smake_recs hg2 (by rw [List.length_set]; omega) (by rw [List.length_set]; omega)
      have hcok := chg_ok (hg _ (List.getElem_mem hqs)).1 h3.1 h3.2
      have hsc := sectorF rs[q].k a3 rs[q].v rs[q].m rs[q].p
      rw [show renc ⟨rs[q].k, a3, rs[q].v, rs[q].m, rs[q].p⟩ = _ from renc_yes hcok] at hsc
      have hsz : ∀ {x : List Rec}, Goods x → ∀ s ∈ secs x, s.size ≤ 1000000 := fun hx s hs => by
        obtain ⟨r, hr, rfl⟩ := List.mem_map.1 hs
        obtain ⟨_, _, _, _, hp, _⟩ := rchk_ok (hx r hr).1
        rw [sS_size, enc_len hp]
        decide
      have m1 := smakeF (secs rs) (fun _ => hsz hg)
      have m2 := smakeF (secs (rs.set q (chg rs[q] a3))) (fun _ => hsz hg2)
      have hv : (rs.set q (chg rs[q] a3)).map Rec.v = rs.map Rec.v := by
        rw [List.map_set]
        show (rs.map Rec.v).set q rs[q].v = _
        rw [show rs[q].v = (rs.map Rec.v)[q]'(by simpa using hqs) by simp]
        exact List.set_getElem_self _
      rw [List.length_set, hv] at k2
      generalize maxs (rs.map Rec.v) 0 = M at k1 k2
      generalize (sput (mins (rs.map Rec.v) 1099511627776) 6).1 = P at k1 k2
      have hpay : (P ++ sS (putB (crcN (sums (rs.set q (chg rs[q] a3)))) 4)).toList ≠ (P ++ sS (putB (crcN (sums rs)) 4)).toList := fun e => by
        have e2 := toList_inj e
        have e3 := congrArg sL e2
        rw [sL_append, sL_append] at e3
        have e4 := List.append_cancel_left e3
        exact hcrc (putB_inj (Nat.lt_of_lt_of_le (crcN_lt _) (by decide)) (Nat.lt_of_lt_of_le (crcN_lt _) (by decide)) e4)
      generalize P ++ sS (putB (crcN (sums (rs.set q (chg rs[q] a3)))) 4) = Z2 at k2 hpay
      generalize P ++ sS (putB (crcN (sums rs)) 4) = Z1 at k1 hpay
      rw [k1] at m1
      rw [k2] at m2
      have v11 := sverF 3 rs.length M 0 Z1 (secs rs) (fun _ => hsz hg)
      rw [sver_self k1] at v11
      have v22 := sverF 3 rs.length M 0 Z2 (secs (rs.set q (chg rs[q] a3))) (fun _ => hsz hg2)
      rw [sver_self k2] at v22
      have v12 := sverF 3 rs.length M 0 Z1 (secs (rs.set q (chg rs[q] a3))) (fun _ => hsz hg2)
      rw [show sver 3 rs.length M 0 Z1 (secs (rs.set q (chg rs[q] a3))) = false by unfold sver; rw [k2]; simp [hpay]] at v12
      have hitS : ([] ++ sV (secs rs))[((q : Int)).toNat]? = some [.sc (.string (secs rs)[q])] := by rw [List.nil_append]; exact sItem (by rw [hsl]; exact hqs)
      have hS' : ([] ++ sV (secs rs)).length = rs.length := by rw [List.nil_append, sLen, hsl]
      have hset : ([] ++ sV (secs rs)).set ((q : Int)).toNat [.sc (.string (sS (encL (chg rs[q] a3))))] = sV (secs (rs.set q (chg rs[q] a3))) := by simp [sV, secs, List.map_set]
      have hrset := rSet rs q (chg rs[q] a3)
      have hit2 : (rR (rs.set q (chg rs[q] a3)))[((q : Int)).toNat]? = some (rRow (chg rs[q] a3)) := by
        rw [rItem (by rw [List.length_set]; exact hqs), List.getElem_set_self]
      have hit3 : ((rR rs).set ((q : Int)).toNat (rRow (chg rs[q] a3)))[((q : Int)).toNat]? = some (rRow (chg rs[q] a3)) := by rw [hrset]; exact hit2
      dsimp only at m1 m2 hsc
      rw [show (⟨rs[q].k, a3, rs[q].v, rs[q].m, rs[q].p⟩ : Rec) = chg rs[q] a3 from rfl] at hsc
      clear k1 k2 hcrc
      (conv => whnf); repeat (first | (refine And.intro rfl ?_; conv => whnf) | (refine And.intro (fun _ => ?_) (fun h => Bool.noConfusion h); conv => whnf) | (refine And.intro (fun h => Bool.noConfusion h) (fun _ => ?_); conv => whnf))
      refine ⟨_, _, m1, ?_⟩
      (conv => whnf); repeat (first | (refine And.intro rfl ?_; conv => whnf) | (refine And.intro (fun _ => ?_) (fun h => Bool.noConfusion h); conv => whnf) | (refine And.intro (fun h => Bool.noConfusion h) (fun _ => ?_); conv => whnf))
      rw [hw3]
      refine ⟨by omega, by rw [rLen]; exact hqs, ?_⟩
      (conv => whnf); repeat (first | (refine And.intro rfl ?_; conv => whnf) | (refine And.intro (fun _ => ?_) (fun h => Bool.noConfusion h); conv => whnf) | (refine And.intro (fun h => Bool.noConfusion h) (fun _ => ?_); conv => whnf))
      refine ⟨_, hitR, ?_⟩
      (conv => whnf); repeat (first | (refine And.intro rfl ?_; conv => whnf) | (refine And.intro (fun _ => ?_) (fun h => Bool.noConfusion h); conv => whnf) | (refine And.intro (fun h => Bool.noConfusion h) (fun _ => ?_); conv => whnf))
      refine ⟨fun z hz => by obtain ⟨x, _, rfl⟩ := List.mem_map.1 hz; rfl, ?_⟩
      (conv => whnf); repeat (first | (refine And.intro rfl ?_; conv => whnf) | (refine And.intro (fun _ => ?_) (fun h => Bool.noConfusion h); conv => whnf) | (refine And.intro (fun h => Bool.noConfusion h) (fun _ => ?_); conv => whnf))
      refine ⟨bytes_le (by decide) (by rw [List.length_nil, sLen, hsl]; omega), ?_⟩
      (conv => whnf); repeat (first | (refine And.intro rfl ?_; conv => whnf) | (refine And.intro (fun _ => ?_) (fun h => Bool.noConfusion h); conv => whnf) | (refine And.intro (fun h => Bool.noConfusion h) (fun _ => ?_); conv => whnf))
      refine ⟨by omega, by rw [List.length_set, rLen]; exact hqs, ?_⟩
      (conv => whnf); repeat (first | (refine And.intro rfl ?_; conv => whnf) | (refine And.intro (fun _ => ?_) (fun h => Bool.noConfusion h); conv => whnf) | (refine And.intro (fun h => Bool.noConfusion h) (fun _ => ?_); conv => whnf))
      refine ⟨_, hit3, ?_⟩
      (conv => whnf); repeat (first | (refine And.intro rfl ?_; conv => whnf) | (refine And.intro (fun _ => ?_) (fun h => Bool.noConfusion h); conv => whnf) | (refine And.intro (fun h => Bool.noConfusion h) (fun _ => ?_); conv => whnf))
      refine ⟨_, _, hsc, ?_⟩
      (conv => whnf); repeat (first | (refine And.intro rfl ?_; conv => whnf) | (refine And.intro (fun _ => ?_) (fun h => Bool.noConfusion h); conv => whnf) | (refine And.intro (fun h => Bool.noConfusion h) (fun _ => ?_); conv => whnf))
      refine ⟨by omega, by rw [hS']; exact hqs, ?_⟩
      (conv => whnf); repeat (first | (refine And.intro rfl ?_; conv => whnf) | (refine And.intro (fun _ => ?_) (fun h => Bool.noConfusion h); conv => whnf) | (refine And.intro (fun h => Bool.noConfusion h) (fun _ => ?_); conv => whnf))
      refine ⟨_, hitS, ?_⟩
      (conv => whnf); repeat (first | (refine And.intro rfl ?_; conv => whnf) | (refine And.intro (fun _ => ?_) (fun h => Bool.noConfusion h); conv => whnf) | (refine And.intro (fun h => Bool.noConfusion h) (fun _ => ?_); conv => whnf))
      rw [hset]
      refine ⟨_, _, m2, ?_⟩
      (conv => whnf); repeat (first | (refine And.intro rfl ?_; conv => whnf) | (refine And.intro (fun _ => ?_) (fun h => Bool.noConfusion h); conv => whnf) | (refine And.intro (fun h => Bool.noConfusion h) (fun _ => ?_); conv => whnf))
      repeat' (first | ((refine And.intro (fun h => ?_) (fun h => ?_)) <;> (try simp at h) <;> ((conv => whnf); repeat (first | (refine And.intro rfl ?_; conv => whnf) | (refine And.intro (fun _ => ?_) (fun h => Bool.noConfusion h); conv => whnf) | (refine And.intro (fun h => Bool.noConfusion h) (fun _ => ?_); conv => whnf)))) | (refine ⟨_, _, v11, ?_⟩; ((conv => whnf); repeat (first | (refine And.intro rfl ?_; conv => whnf) | (refine And.intro (fun _ => ?_) (fun h => Bool.noConfusion h); conv => whnf) | (refine And.intro (fun h => Bool.noConfusion h) (fun _ => ?_); conv => whnf)))) | (refine ⟨_, _, v22, ?_⟩; ((conv => whnf); repeat (first | (refine And.intro rfl ?_; conv => whnf) | (refine And.intro (fun _ => ?_) (fun h => Bool.noConfusion h); conv => whnf) | (refine And.intro (fun h => Bool.noConfusion h) (fun _ => ?_); conv => whnf)))) | (refine ⟨_, _, v12, ?_⟩; ((conv => whnf); repeat (first | (refine And.intro rfl ?_; conv => whnf) | (refine And.intro (fun _ => ?_) (fun h => Bool.noConfusion h); conv => whnf) | (refine And.intro (fun h => Bool.noConfusion h) (fun _ => ?_); conv => whnf)))) | (refine ⟨_, _, suAwake, ?_⟩; ((conv => whnf); repeat (first | (refine And.intro rfl ?_; conv => whnf) | (refine And.intro (fun _ => ?_) (fun h => Bool.noConfusion h); conv => whnf) | (refine And.intro (fun h => Bool.noConfusion h) (fun _ => ?_); conv => whnf)))) | fail)
      all_goals first | (refine Exists.intro [] (And.intro List.nodup_nil ?_); ((conv => whnf); repeat (first | (refine And.intro rfl ?_; conv => whnf) | (refine And.intro (fun _ => ?_) (fun h => Bool.noConfusion h); conv => whnf) | (refine And.intro (fun h => Bool.noConfusion h) (fun _ => ?_); conv => whnf))); rfl) | exact absurd (by assumption) hpay | exact absurd (by assumption) (Ne.symm hpay) | (trace_state; sorry)
  · rw [decide_eq_false hl3] at lt
    refine fun_of_vc tabOk mixOk Try.func12 rfl (by rfl) (rs := [.tmp 8]) rfl rfl 121 ?_; rw [Try.ntmps12]
    (conv => whnf); repeat (first | (refine And.intro rfl ?_; conv => whnf) | (refine And.intro (fun _ => ?_) (fun h => Bool.noConfusion h); conv => whnf) | (refine And.intro (fun h => Bool.noConfusion h) (fun _ => ?_); conv => whnf))
    refine ⟨_, _, lt, ?_⟩
    (conv => whnf); repeat (first | (refine And.intro rfl ?_; conv => whnf) | (refine And.intro (fun _ => ?_) (fun h => Bool.noConfusion h); conv => whnf) | (refine And.intro (fun h => Bool.noConfusion h) (fun _ => ?_); conv => whnf))
    refine ⟨_, _, suAwake, ?_⟩
    (conv => whnf); repeat (first | (refine And.intro rfl ?_; conv => whnf) | (refine And.intro (fun _ => ?_) (fun h => Bool.noConfusion h); conv => whnf) | (refine And.intro (fun h => Bool.noConfusion h) (fun _ => ?_); conv => whnf))
    refine Exists.intro [] (And.intro List.nodup_nil ?_); ((conv => whnf); repeat (first | (refine And.intro rfl ?_; conv => whnf) | (refine And.intro (fun _ => ?_) (fun h => Bool.noConfusion h); conv => whnf) | (refine And.intro (fun h => Bool.noConfusion h) (fun _ => ?_); conv => whnf)))
    rfl
end Go.Proofs.Ytfldnpjmkllekaa.Ab
namespace Go.Proofs.Ytfldnpjmkllekaa
set_option linter.unusedVariables false
set_option linter.unusedSimpArgs false
open Ab
set_option maxRecDepth 100000 in
theorem summaryChanged.walk {H : Type} {enc : TypeId × Value → H} {W : World} {base : Nat} (v : Value) (d : DataW H) (p : List MemPlace) (hv : Value.okWide Try.prog W .any base 42 v)
    (h : DataW.Trod enc Try.prog W 0 (fun _ => true) true 42 v d p) (hw : ∀ n ∈ d.weights Try.prog 42, n ≤ 140737488351232)
    (a1 : Int) (w1 : (Lit.int .i64 a1).wf = true) (a2 : Int) (w2 : (Lit.int .i64 a2).wf = true) (a3 : Int) (w3 : (Lit.int .u32 a3).wf = true)
    (W' : World) (hW : W' = W := by rfl) : Calls Try.prog 12 #[v, .int .i64 a1, .int .i64 a2, .int .u32 a3] W' (True1 W') := by
  subst hW
  obtain ⟨es, _, q1, q2⟩ := open_sl tabOk 3 (t := 42) (by decide +kernel) rfl hv h
  obtain ⟨xs, rfl⟩ := ints_of (d := 2) es (fun r hr => (q1 r hr).2)
  have b3 := slice_bound tabOk (e := 3) rfl h hw (q2 (fun _ _ => undef) (fun _ => 0))
  rw [bytesOf_eq tabOk (fun h => TK.noConfusion h)] at b3
  have b3' : (wV xs).length * 8 ≤ 140737488351232 := b3
  exact law_of_fun (summaryChangedF xs (by simp [wV] at b3'; omega) a1 a2 a3 (bounds_u32 w3)) rfl (reps_get (vs := [_, _, _, _]) ⟨q2 _ _, .sc _ rfl, .sc _ rfl, .sc _ rfl, trivial⟩)
end Go.Proofs.Ytfldnpjmkllekaa
