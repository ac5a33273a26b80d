/- The document's hex digits, numbers and cuts. No condition. -/
import Derived.Test.YtikchieadclbhaaGreatDoorZ32
namespace Go.Proofs.YtikchieadclbhaaGreatDoor.Ab
set_option linter.unusedVariables false
set_option linter.unusedSimpArgs false
open Go.RowKit

theorem dig_facts : ∀ n < 16, (n < 10 → iwrap .u8 (48 + ((n : Nat) : Int)) = ((hdg (UInt8.ofNat n)).toNat : Int)) ∧ (¬ n < 10 → iwrap .u8 (iwrap .u8 (97 + ((n : Nat) : Int)) - 10) = ((hdg (UInt8.ofNat n)).toNat : Int)) := by decide +kernel
theorem digitF (n : Nat) (h : n < 16) : Fun Tryz.prog 76 [u8V n] [] (.v (u8V (hdg (UInt8.ofNat n)).toNat)) := by
  obtain ⟨e1, e2⟩ := dig_facts n h
  refine fun_of_vc tabOk mixOk Tryz.func76 rfl (by rfl) (rs := [.tmp 2]) rfl rfl 14 ?_; rw [Tryz.ntmps76]
  (conv=>whnf);repeat((first|refine zD ?_|refine zA ?_|refine zT ?_|refine zF ?_);conv=>whnf)
  refine And.intro (fun h => ?_) (fun h => ?_)
  · have h10 : n < 10 := by have := of_decide_eq_true h; omega
    (conv=>whnf);repeat((first|refine zD ?_|refine zA ?_|refine zT ?_|refine zF ?_);conv=>whnf)
    refine Exists.intro [] (And.intro List.nodup_nil ?_); ((conv=>whnf);repeat((first|refine zD ?_|refine zA ?_|refine zT ?_|refine zF ?_);conv=>whnf))
    exact congrArg (fun x => AT.v (.c (.i (.sc (.int .u8 x))))) (e1 h10)
  · have h10 : ¬ n < 10 := by have := of_decide_eq_false h; omega
    (conv=>whnf);repeat((first|refine zD ?_|refine zA ?_|refine zT ?_|refine zF ?_);conv=>whnf)
    refine Exists.intro [] (And.intro List.nodup_nil ?_); ((conv=>whnf);repeat((first|refine zD ?_|refine zA ?_|refine zT ?_|refine zF ?_);conv=>whnf))
    exact congrArg (fun x => AT.v (.c (.i (.sc (.int .u8 x))))) (e2 h10)
theorem digitF' (c : UInt8) (h : c.toNat < 16) : Fun Tryz.prog 76 [u8V c.toNat] [] (.v (u8V (hdg c).toNat)) := by
  have := digitF c.toNat h
  rw [UInt8.ofNat_toNat] at this
  exact this
theorem hi16 (c : UInt8) : (c / 16).toNat < 16 ∧ (c % 16).toNat < 16 := by
  have : ∀ c : UInt8, (c / 16).toNat < 16 ∧ (c % 16).toNat < 16 := byte_all (by decide +kernel)
  exact this c
theorem and15 (c : UInt8) : IntKind.u8.wrap (((BitVec.ofInt IntKind.u8.bits (c.toNat : Int) &&& BitVec.ofInt IntKind.u8.bits 15).toNat : Nat) : Int) = (((c % 16).toNat : Nat) : Int) := by
  have : ∀ c : UInt8, IntKind.u8.wrap (((BitVec.ofInt IntKind.u8.bits (c.toNat : Int) &&& BitVec.ofInt IntKind.u8.bits 15).toNat : Nat) : Int) = (((c % 16).toNat : Nat) : Int) := byte_all (by decide +kernel)
  exact this c
theorem shr4 (c : UInt8) : ((c.toNat : Nat) : Int).fdiv (2 ^ (min (Int.toNat 4) IntKind.u8.bits)) = (((c / 16).toNat : Nat) : Int) := by
  have : ∀ c : UInt8, ((c.toNat : Nat) : Int).fdiv (2 ^ (min (Int.toNat 4) IntKind.u8.bits)) = (((c / 16).toNat : Nat) : Int) := byte_all (by decide +kernel)
  exact this c
theorem cVb_sz (ws : List Int) : ∀ z ∈ cVb ws, z.length = (tab 5).size := by
  intro z hz
  obtain ⟨x, _, rfl⟩ := List.mem_map.1 hz
  rfl
/-- Bytes as a row. -/
def bI (l : List UInt8) : List Int := l.map fun c => (c.toNat : Int)
theorem bI_str (l : List UInt8) : bytesStr (bI l) = sS l := by
  rw [bytesStr_eq]
  unfold bI
  rw [List.map_map]
  congr 1
  conv => rhs; rw [← List.map_id l]
  apply List.map_congr_left
  intro c _
  show UInt8.ofNat ((c.toNat : Nat) : Int).toNat = c
  rw [Int.toNat_natCast]
  simp
theorem cApp (a b : List UInt8) : cVb (bI a) ++ cVb (bI b) = cVb (bI (a ++ b)) := by simp [cVb, bI]
set_option maxRecDepth 100000 in
set_option maxHeartbeats 16000000 in
theorem hexR (s : ByteArray) (hs : s.size ≤ 100000) : Fun Tryz.prog 63 [strV s] [] (.v (strV (hexS s))) := by
  refine fun_of_vc tabOk mixOk Tryz.func63 rfl (by rfl) (rs := [.tmp 2]) rfl rfl 30 ?_; rw [Tryz.ntmps63]
  (conv=>whnf);repeat((first|refine zD ?_|refine zA ?_|refine zT ?_|refine zF ?_);conv=>whnf)
  refine vc_loop [0] [] (X := Nat) (fun i gs => [(4, ATint i), (3, .v (.c (.own 23 (gs 23))))]) (fun i gs => [(23, .row (gs 23) 5 1 (cVb (bI (hexL (s.data.toList.take i)))))]) (fun i => i ≤ s.size) (fun i => s.size - i) _ (Ghost.ownNil 3 23 5 1 rfl (Nat.le_of_ble_eq_true rfl)) 0 (Nat.zero_le _) ?_ ?_
  · (refine zA (zA ?_));(repeat' (first|exact trivial|with_reducible exact cvB_refl _|exact rfl|apply And.intro))
  intro gs i hi
  have hi : i ≤ s.size := hi
  (conv=>whnf);repeat((first|refine zD ?_|refine zA ?_|refine zT ?_|refine zF ?_);conv=>whnf)
  refine And.intro (fun h => ?_) (fun h => ?_)
  · have hlt : i < s.size := by simpa using h
    have hc : s[i]? = some s.data.toList[i] := by rw [sget_eq]; exact List.getElem?_eq_getElem hlt
    have htk := take_snoc (l := s.data.toList) hlt
    generalize s.data.toList[i] = c at hc htk
    have d1 := digitF' (c / 16) (hi16 c).1
    have d2 := digitF' (c % 16) (hi16 c).2
    have e1 := shr4 c
    have e2 := and15 c
    have hx := hex_snoc (s.data.toList.take i) c
    rw [← htk] at hx
    have hl := hex_len (s.data.toList.take i)
    have hli : (s.data.toList.take i).length = i := by rw [List.length_take]; exact Nat.min_eq_left hi
    rw [hli] at hl
    generalize hexL (s.data.toList.take i) = X at hx hl ⊢
    (conv=>whnf);repeat((first|refine zD ?_|refine zA ?_|refine zT ?_|refine zF ?_);conv=>whnf)
    refine ⟨by omega, c, hc, ?_⟩
    (conv=>whnf);repeat((first|refine zD ?_|refine zA ?_|refine zT ?_|refine zF ?_);conv=>whnf)
    refine ⟨by decide, ?_⟩
    (conv=>whnf);repeat((first|refine zD ?_|refine zA ?_|refine zT ?_|refine zF ?_);conv=>whnf)
    rw [e1]
    refine ⟨_, _, d1, ?_⟩
    (conv=>whnf);repeat((first|refine zD ?_|refine zA ?_|refine zT ?_|refine zF ?_);conv=>whnf)
    refine ⟨by omega, c, hc, ?_⟩
    (conv=>whnf);repeat((first|refine zD ?_|refine zA ?_|refine zT ?_|refine zF ?_);conv=>whnf)
    rw [e2]
    refine ⟨_, _, d2, ?_⟩
    (conv=>whnf);repeat((first|refine zD ?_|refine zA ?_|refine zT ?_|refine zF ?_);conv=>whnf)
    refine ⟨cVb_sz [_, _], ?_⟩
    (conv=>whnf);repeat((first|refine zD ?_|refine zA ?_|refine zT ?_|refine zF ?_);conv=>whnf)
    refine ⟨bytes_le (by decide) (by simp [cVb, bI]; omega), ?_⟩
    (conv=>whnf);repeat((first|refine zD ?_|refine zA ?_|refine zT ?_|refine zF ?_);conv=>whnf)
    refine again (i + 1) hlt (Nat.sub_lt_sub_left hlt (Nat.lt_succ_self i)) ?_
    (refine zA (zA ?_));(repeat' (first|exact trivial|with_reducible exact cvB_refl _|exact rfl|apply And.intro))
    all_goals first
      | exact congrArg (Value.int .i64) (w64_nat (by omega))
      | exact congrArg (Blk.row _ _ _) ((cApp X [_, _]).trans (congrArg (fun l => cVb (bI l)) hx.symm))
  · obtain rfl : i = s.size := by
      have : ¬ i < s.size := by simpa using h
      omega
    have e : hexL (s.data.toList.take s.size) = hexL s.data.toList := congrArg hexL (List.take_length)
    rw [e]
    have hb := bI_str (hexL s.data.toList)
    (conv=>whnf);repeat((first|refine zD ?_|refine zA ?_|refine zT ?_|refine zF ?_);conv=>whnf)
    refine ⟨_, rfl, ?_⟩
    (conv=>whnf);repeat((first|refine zD ?_|refine zA ?_|refine zT ?_|refine zF ?_);conv=>whnf)
    rw [hb]
    refine Exists.intro [] (And.intro List.nodup_nil ?_); ((conv=>whnf);repeat((first|refine zD ?_|refine zA ?_|refine zT ?_|refine zF ?_);conv=>whnf))
    rfl
/-! ### Numbers -/
def sgn : List UInt8 → Int
  | [] => 1
  | c :: _ => if c.toNat = 45 then -1 else 1
theorem rnum_sgn (w : List UInt8) : rnum w = sgn (w.take 15) * rnumGo (w.take 15) 0 := by
  unfold rnum
  cases h : w.take 15 with
  | nil => rfl
  | cons c l =>
    rw [sgn]
    dsimp only
    by_cases h2 : c.toNat = 45
    · rw [if_pos h2, if_pos h2, rnumGo, if_neg (by omega)]
    · rw [if_neg h2, if_neg h2, Int.one_mul]
theorem rnum_step {w : List UInt8} {i : Nat} {c : UInt8} (h : w.take (i + 1) = w.take i ++ [c]) : rnumGo (w.take (i + 1)) 0 = if 48 ≤ c.toNat ∧ c.toNat ≤ 57 then rnumGo (w.take i) 0 * 10 + (c.toNat - 48 : Nat) else rnumGo (w.take i) 0 := by
  rw [h, rnum_app]; rfl
theorem rnum_bound : ∀ (l : List UInt8) (n : Int) (k : Nat), 0 ≤ n → n < 10 ^ k → 0 ≤ rnumGo l n ∧ rnumGo l n < 10 ^ (k + l.length)
  | [], n, k, h0, h1 => ⟨h0, h1⟩
  | c :: l, n, k, h0, h1 => by
    rw [rnumGo]
    have hp : (10 : Int) ^ (k + 1) = 10 ^ k * 10 := Int.pow_succ ..
    split
    · rename_i h
      have := rnum_bound l (n * 10 + (c.toNat - 48 : Nat)) (k + 1) (by omega) (by omega)
      rw [List.length_cons, show k + (l.length + 1) = k + 1 + l.length from by omega]
      exact this
    · have := rnum_bound l n (k + 1) h0 (by omega)
      rw [List.length_cons, show k + (l.length + 1) = k + 1 + l.length from by omega]
      exact this
theorem rnum_15 {w : List UInt8} {i : Nat} (hi : i ≤ 15) : 0 ≤ rnumGo (w.take i) 0 ∧ rnumGo (w.take i) 0 < 1000000000000000 := by
  have h := rnum_bound (w.take i) 0 0 (by decide) (by decide)
  refine ⟨h.1, Int.lt_of_lt_of_le h.2 ?_⟩
  have hl : (w.take i).length ≤ 15 := by rw [List.length_take]; omega
  have : (10 : Nat) ^ (0 + (w.take i).length) ≤ 10 ^ 15 := Nat.pow_le_pow_right (by decide) (by omega)
  have h2 : ((10 ^ (0 + (w.take i).length) : Nat) : Int) ≤ ((10 ^ 15 : Nat) : Int) := Int.ofNat_le.2 this
  simpa using h2
theorem sgn_next {w : List UInt8} {i : Nat} {c : UInt8} (h : w.take (i + 1) = w.take i ++ [c]) (h0 : (w.take i).length = i) : sgn (w.take (i + 1)) = if i = 0 then (if c.toNat = 45 then -1 else 1) else sgn (w.take i) := by
  rw [h]
  by_cases hi : i = 0
  · rw [if_pos hi]
    have : w.take i = [] := List.length_eq_zero_iff.1 (by omega)
    rw [this]
    rfl
  · rw [if_neg hi]
    cases hw : w.take i with
    | nil => rw [hw] at h0; simp at h0; omega
    | cons x l => rfl
theorem sgn_w {l : List UInt8} {N : Int} (h : 0 ≤ N ∧ N < 1000000000000000) : iwrap .i64 (sgn l * N) = sgn l * N := by
  have hs : sgn l = 1 ∨ sgn l = -1 := by
    cases l with
    | nil => exact Or.inl rfl
    | cons c l => rw [sgn]; split
                  · exact Or.inr rfl
                  · exact Or.inl rfl
  rcases hs with e | e
  · rw [e]; exact w64_in (by omega)
  · rw [e]; exact w64_in (by omega)
theorem c_sub {c : UInt8} (h : 48 ≤ c.toNat) : iwrap .u8 ((c.toNat : Int) - 48) = ((c.toNat - 48 : Nat) : Int) := by
  have : ((c.toNat : Int) - 48) = ((c.toNat - 48 : Nat) : Int) := by omega
  rw [this, u8_nat]
  have := c.toNat_lt
  omega
set_option maxRecDepth 100000 in
set_option maxHeartbeats 16000000 in
theorem numR (s : ByteArray) : Fun Tryz.prog 65 [strV s] [] (.v (i64V (rnum s.data.toList))) := by
  rw [rnum_sgn]
  have hl : s.data.toList.length = s.size := rfl
  refine fun_of_vc tabOk mixOk Tryz.func65 rfl (by rfl) (rs := [.tmp 2]) rfl rfl 51 ?_; rw [Tryz.ntmps65]
  (conv=>whnf);repeat((first|refine zD ?_|refine zA ?_|refine zT ?_|refine zF ?_);conv=>whnf)
  refine vc_loop [0] [] (X := Nat) (fun i gs => [(5, ATint i), (3, .v (i64V (rnumGo (s.data.toList.take i) 0))), (4, .v (i64V (sgn (s.data.toList.take i))))]) (fun i gs => []) (fun i => i ≤ s.size ∧ i ≤ 15) (fun i => 15 - i) _ (Ghost.refl _) 0 ⟨Nat.zero_le _, Nat.zero_le _⟩ ?_ ?_
  · (refine zA (zA ?_));(repeat' (first|exact trivial|with_reducible exact cvB_refl _|exact rfl|apply And.intro))
  intro gs i hi
  obtain ⟨hi, hi2⟩ := hi
  (conv=>whnf);repeat((first|refine zD ?_|refine zA ?_|refine zT ?_|refine zF ?_);conv=>whnf)
  refine And.intro (fun h => ?_) (fun h => ?_)
  · have hlt : i < s.size := by simpa using h
    have hc : s[i]? = some s.data.toList[i] := by rw [sget_eq]; exact List.getElem?_eq_getElem hlt
    have htk := take_snoc (l := s.data.toList) hlt
    have hli : (s.data.toList.take i).length = i := by rw [List.length_take]; exact Nat.min_eq_left hi
    generalize s.data.toList[i] = c at hc htk
    have s1 := rnum_step htk
    have s2 := sgn_next htk hli
    have s3 := rnum_15 (w := s.data.toList) hi2
    have w5 := w64_nat (k := i) (by omega)
    have hs0 : i = 0 → sgn (s.data.toList.take i) = 1 := fun e => by subst e; rfl
    have hE : i = 15 → iwrap .i64 (sgn (s.data.toList.take i) * rnumGo (s.data.toList.take i) 0) = sgn (s.data.toList.take 15) * rnumGo (s.data.toList.take 15) 0 := by
      rintro rfl
      exact sgn_w s3
    clear htk hli
    generalize rnumGo (s.data.toList.take i) 0 = N at s1 s3 hE ⊢
    generalize sgn (s.data.toList.take i) = S at s2 hs0 hE ⊢
    have nA : 48 ≤ c.toNat ∧ c.toNat ≤ 57 → iwrap .i64 (iwrap .i64 (N * 10) + iwrap .i64 (iwrap .u8 ((c.toNat : Int) - 48))) = rnumGo (s.data.toList.take (i + 1)) 0 := fun h => by
      rw [s1, if_pos h, c_sub h.1]
      have a1 : iwrap .i64 (N * 10) = N * 10 := w64_in (by omega)
      have a2 : iwrap .i64 ((c.toNat - 48 : Nat) : Int) = ((c.toNat - 48 : Nat) : Int) := w64_in (by omega)
      rw [a1, a2]
      exact w64_in (by omega)
    have nB : ¬ (48 ≤ c.toNat ∧ c.toNat ≤ 57) → N = rnumGo (s.data.toList.take (i + 1)) 0 := fun h => by rw [s1, if_neg h]
    have sA : i = 0 → c.toNat = 45 → (-1 : Int) = sgn (s.data.toList.take (i + 1)) := fun h h2 => by rw [s2, if_pos h, if_pos h2]
    have sB : i = 0 → ¬ c.toNat = 45 → S = sgn (s.data.toList.take (i + 1)) := fun h h2 => by rw [s2, if_pos h, if_neg h2, hs0 h]
    have sC : ¬ i = 0 → S = sgn (s.data.toList.take (i + 1)) := fun h => by rw [s2, if_neg h]
    clear s1 s2 s3 hs0 hl
    (conv=>whnf);repeat((first|refine zD ?_|refine zA ?_|refine zT ?_|refine zF ?_);conv=>whnf)
    refine And.intro (fun h15 => ?_) (fun h15 => ?_)
    · have hlt15 : i < 15 := by have := of_decide_eq_true h15; omega
      (conv=>whnf);repeat((first|refine zD ?_|refine zA ?_|refine zT ?_|refine zF ?_);conv=>whnf)
      refine And.intro (fun hz => ?_) (fun hz => ?_)
      · have hz : i = 0 := by simpa using hz
        (conv=>whnf);repeat((first|refine zD ?_|refine zA ?_|refine zT ?_|refine zF ?_);conv=>whnf)
        refine ⟨by omega, c, hc, ?_⟩
        (conv=>whnf);repeat((first|refine zD ?_|refine zA ?_|refine zT ?_|refine zF ?_);conv=>whnf)
        refine And.intro (fun q => ?_) (fun q => ?_)
        · have q : c.toNat = 45 := by
            have : ((c.toNat : Nat) : Int) = 45 := by simpa only [beq_iff_eq] using q
            omega
          have e2 := sA hz q
          have e1 := nB (fun g => by omega)
          (conv=>whnf);repeat((first|refine zD ?_|refine zA ?_|refine zT ?_|refine zF ?_);conv=>whnf)
          refine again (i + 1) ⟨hlt, hlt15⟩ (Nat.sub_lt_sub_left hlt15 (Nat.lt_succ_self i)) ?_
          (refine zA (zA ?_));(repeat' (first|exact trivial|with_reducible exact cvB_refl _|exact rfl|apply And.intro))
          all_goals first
            | exact congrArg (Value.int .i64) w5
            | exact congrArg (Value.int .i64) e1
            | exact congrArg (Value.int .i64) e2
        · have q : ¬ c.toNat = 45 := by
            have : ¬ ((c.toNat : Nat) : Int) = 45 := by simpa only [beq_eq_false_iff_ne] using q
            omega
          have e2 := sB hz q
          (conv=>whnf);repeat((first|refine zD ?_|refine zA ?_|refine zT ?_|refine zF ?_);conv=>whnf)
          refine ⟨by omega, c, hc, ?_⟩
          (conv=>whnf);repeat((first|refine zD ?_|refine zA ?_|refine zT ?_|refine zF ?_);conv=>whnf)
          refine And.intro (fun q1 => ?_) (fun q1 => ?_)
          · have p1 : 48 ≤ c.toNat := by have := of_decide_eq_true q1; omega
            (conv=>whnf);repeat((first|refine zD ?_|refine zA ?_|refine zT ?_|refine zF ?_);conv=>whnf)
            refine ⟨by omega, c, hc, ?_⟩
            (conv=>whnf);repeat((first|refine zD ?_|refine zA ?_|refine zT ?_|refine zF ?_);conv=>whnf)
            refine And.intro (fun q2 => ?_) (fun q2 => ?_)
            · have p2 : c.toNat ≤ 57 := by have := of_decide_eq_true q2; omega
              have e1 := nA ⟨p1, p2⟩
              (conv=>whnf);repeat((first|refine zD ?_|refine zA ?_|refine zT ?_|refine zF ?_);conv=>whnf)
              refine ⟨by omega, c, hc, ?_⟩
              (conv=>whnf);repeat((first|refine zD ?_|refine zA ?_|refine zT ?_|refine zF ?_);conv=>whnf)
              refine again (i + 1) ⟨hlt, hlt15⟩ (Nat.sub_lt_sub_left hlt15 (Nat.lt_succ_self i)) ?_
              (refine zA (zA ?_));(repeat' (first|exact trivial|with_reducible exact cvB_refl _|exact rfl|apply And.intro))
              all_goals first
                | exact congrArg (Value.int .i64) w5
                | exact congrArg (Value.int .i64) e1
                | exact congrArg (Value.int .i64) e2
            · have p2 : ¬ c.toNat ≤ 57 := by have := of_decide_eq_false q2; omega
              have e1 := nB (fun g => p2 g.2)
              (conv=>whnf);repeat((first|refine zD ?_|refine zA ?_|refine zT ?_|refine zF ?_);conv=>whnf)
              refine again (i + 1) ⟨hlt, hlt15⟩ (Nat.sub_lt_sub_left hlt15 (Nat.lt_succ_self i)) ?_
              (refine zA (zA ?_));(repeat' (first|exact trivial|with_reducible exact cvB_refl _|exact rfl|apply And.intro))
              all_goals first
                | exact congrArg (Value.int .i64) w5
                | exact congrArg (Value.int .i64) e1
                | exact congrArg (Value.int .i64) e2
          · have p1 : ¬ 48 ≤ c.toNat := by have := of_decide_eq_false q1; omega
            have e1 := nB (fun g => p1 g.1)
            (conv=>whnf);repeat((first|refine zD ?_|refine zA ?_|refine zT ?_|refine zF ?_);conv=>whnf)
            refine again (i + 1) ⟨hlt, hlt15⟩ (Nat.sub_lt_sub_left hlt15 (Nat.lt_succ_self i)) ?_
            (refine zA (zA ?_));(repeat' (first|exact trivial|with_reducible exact cvB_refl _|exact rfl|apply And.intro))
            all_goals first
              | exact congrArg (Value.int .i64) w5
              | exact congrArg (Value.int .i64) e1
              | exact congrArg (Value.int .i64) e2
      · have hz : ¬ i = 0 := by simpa using hz
        have e2 := sC hz
        (conv=>whnf);repeat((first|refine zD ?_|refine zA ?_|refine zT ?_|refine zF ?_);conv=>whnf)
        refine ⟨by omega, c, hc, ?_⟩
        (conv=>whnf);repeat((first|refine zD ?_|refine zA ?_|refine zT ?_|refine zF ?_);conv=>whnf)
        refine And.intro (fun q1 => ?_) (fun q1 => ?_)
        · have p1 : 48 ≤ c.toNat := by have := of_decide_eq_true q1; omega
          (conv=>whnf);repeat((first|refine zD ?_|refine zA ?_|refine zT ?_|refine zF ?_);conv=>whnf)
          refine ⟨by omega, c, hc, ?_⟩
          (conv=>whnf);repeat((first|refine zD ?_|refine zA ?_|refine zT ?_|refine zF ?_);conv=>whnf)
          refine And.intro (fun q2 => ?_) (fun q2 => ?_)
          · have p2 : c.toNat ≤ 57 := by have := of_decide_eq_true q2; omega
            have e1 := nA ⟨p1, p2⟩
            (conv=>whnf);repeat((first|refine zD ?_|refine zA ?_|refine zT ?_|refine zF ?_);conv=>whnf)
            refine ⟨by omega, c, hc, ?_⟩
            (conv=>whnf);repeat((first|refine zD ?_|refine zA ?_|refine zT ?_|refine zF ?_);conv=>whnf)
            refine again (i + 1) ⟨hlt, hlt15⟩ (Nat.sub_lt_sub_left hlt15 (Nat.lt_succ_self i)) ?_
            (refine zA (zA ?_));(repeat' (first|exact trivial|with_reducible exact cvB_refl _|exact rfl|apply And.intro))
            all_goals first
              | exact congrArg (Value.int .i64) w5
              | exact congrArg (Value.int .i64) e1
              | exact congrArg (Value.int .i64) e2
          · have p2 : ¬ c.toNat ≤ 57 := by have := of_decide_eq_false q2; omega
            have e1 := nB (fun g => p2 g.2)
            (conv=>whnf);repeat((first|refine zD ?_|refine zA ?_|refine zT ?_|refine zF ?_);conv=>whnf)
            refine again (i + 1) ⟨hlt, hlt15⟩ (Nat.sub_lt_sub_left hlt15 (Nat.lt_succ_self i)) ?_
            (refine zA (zA ?_));(repeat' (first|exact trivial|with_reducible exact cvB_refl _|exact rfl|apply And.intro))
            all_goals first
              | exact congrArg (Value.int .i64) w5
              | exact congrArg (Value.int .i64) e1
              | exact congrArg (Value.int .i64) e2
        · have p1 : ¬ 48 ≤ c.toNat := by have := of_decide_eq_false q1; omega
          have e1 := nB (fun g => p1 g.1)
          (conv=>whnf);repeat((first|refine zD ?_|refine zA ?_|refine zT ?_|refine zF ?_);conv=>whnf)
          refine again (i + 1) ⟨hlt, hlt15⟩ (Nat.sub_lt_sub_left hlt15 (Nat.lt_succ_self i)) ?_
          (refine zA (zA ?_));(repeat' (first|exact trivial|with_reducible exact cvB_refl _|exact rfl|apply And.intro))
          all_goals first
            | exact congrArg (Value.int .i64) w5
            | exact congrArg (Value.int .i64) e1
            | exact congrArg (Value.int .i64) e2
    · have hE := hE (by have := of_decide_eq_false h15; omega)
      (conv=>whnf);repeat((first|refine zD ?_|refine zA ?_|refine zT ?_|refine zF ?_);conv=>whnf)
      refine Exists.intro [] (And.intro List.nodup_nil ?_); ((conv=>whnf);repeat((first|refine zD ?_|refine zA ?_|refine zT ?_|refine zF ?_);conv=>whnf))
      exact congrArg (fun x => AT.v (i64V x)) hE
  · obtain rfl : i = s.size := by
      have : ¬ i < s.size := by simpa using h
      omega
    have e : s.data.toList.take 15 = s.data.toList.take s.size := by
      rw [List.take_of_length_le (by omega), List.take_of_length_le (by omega)]
    rw [e]
    have s3 := rnum_15 (w := s.data.toList) hi2
    (conv=>whnf);repeat((first|refine zD ?_|refine zA ?_|refine zT ?_|refine zF ?_);conv=>whnf)
    refine Exists.intro [] (And.intro List.nodup_nil ?_); ((conv=>whnf);repeat((first|refine zD ?_|refine zA ?_|refine zT ?_|refine zF ?_);conv=>whnf))
    exact congrArg (fun x => AT.v (i64V x)) (sgn_w s3)
end Go.Proofs.YtikchieadclbhaaGreatDoor.Ab
