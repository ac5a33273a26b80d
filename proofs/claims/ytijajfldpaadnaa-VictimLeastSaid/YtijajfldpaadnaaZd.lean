/- The program's checksum: what the call computes. -/
import Derived.Test.YtijajfldpaadnaaKit
namespace Go.Proofs.Ytijajfldpaadnaa
set_option linter.unusedVariables false
set_option linter.unusedSimpArgs false
namespace Crc


/-- One step of one bit. -/
def step (p x : Nat) : Nat := if x % 2 = 1 then (x / 2) ^^^ p else x / 2
/-- k steps. -/
def steps (p : Nat) : Nat → Nat → Nat
  | 0, x => x
  | k + 1, x => steps p k (step p x)
/-- The state behind some bytes. -/
def upd (p x b : Nat) : Nat := steps p 8 (x ^^^ b)
def run (p x : Nat) (l : List Nat) : Nat := l.foldl (upd p) x
/-- The sum. -/
def add (p o sum : Nat) (l : List Nat) : Nat := o ^^^ (run p (o ^^^ sum) l)

variable (p o : Nat)
theorem steps_zero (x : Nat) : steps p 0 x = x := rfl
theorem steps_succ (k x : Nat) : steps p (k + 1) x = steps p k (step p x) := rfl
theorem steps_succ' (k x : Nat) : steps p (k + 1) x = step p (steps p k x) := by
  induction k generalizing x with
  | zero => simp only [steps]
  | succ k ih => rw [steps, ih]; simp only [steps]

theorem steps_add (j k x : Nat) : steps p (j + k) x = steps p k (steps p j x) := by
  induction j generalizing x with
  | zero => simp [steps]
  | succ j ih => rw [Nat.succ_add, steps_succ, steps_succ, ih]

theorem run_nil (x : Nat) : run p x [] = x := by unfold run; rw [List.foldl_nil]
theorem run_cons (x b : Nat) (l : List Nat) : run p x (b :: l) = run p (steps p 8 (x ^^^ b)) l := by unfold run; rw [List.foldl_cons, upd]
theorem run_append (x : Nat) (l m : List Nat) : run p x (l ++ m) = run p (run p x l) m := by
  induction l generalizing x with
  | nil => rw [run_nil]; rfl
  | cons b l ih => rw [List.cons_append, run_cons, run_cons, ih]
theorem run_snoc (x b : Nat) (l : List Nat) : run p x (l ++ [b]) = steps p 8 (run p x l ^^^ b) := by
  rw [run_append, run_cons, run_nil]

theorem xor_div2 (x y : Nat) : (x ^^^ y) / 2 = (x / 2) ^^^ (y / 2) := by
  apply Nat.eq_of_testBit_eq; intro i
  simp [Nat.testBit_xor, Nat.testBit_div_two]

theorem xor_mod2 (x y : Nat) : (x ^^^ y) % 2 = (x % 2 + y % 2) % 2 := by
  have h := Nat.testBit_xor x y 0
  simp only [Nat.testBit_zero] at h
  rcases Nat.mod_two_eq_zero_or_one x with hx | hx <;> rcases Nat.mod_two_eq_zero_or_one y with hy | hy <;>
    rcases Nat.mod_two_eq_zero_or_one (x ^^^ y) with hz | hz <;> simp [hx, hy, hz] at h ⊢

theorem step_xor (x y : Nat) : step p (x ^^^ y) = step p x ^^^ step p y := by
  unfold step
  rw [xor_mod2, xor_div2]
  rcases Nat.mod_two_eq_zero_or_one x with hx | hx <;> rcases Nat.mod_two_eq_zero_or_one y with hy | hy <;> simp [hx, hy]
  · rw [Nat.xor_assoc]
  · rw [Nat.xor_assoc, Nat.xor_assoc, Nat.xor_comm p (y / 2)]
  · rw [Nat.xor_assoc, ← Nat.xor_assoc p, Nat.xor_comm p (y / 2), Nat.xor_assoc (y / 2), Nat.xor_self, Nat.xor_zero]

theorem steps_xor (k x y : Nat) : steps p k (x ^^^ y) = steps p k x ^^^ steps p k y := by
  induction k generalizing x y with
  | zero => rw [steps_zero, steps_zero, steps_zero]
  | succ k ih => rw [steps_succ, steps_succ, steps_succ, step_xor, ih]

theorem step_double (x : Nat) : step p (2 * x) = x := by
  unfold step; rw [if_neg (by omega)]; omega

theorem steps_shift (k x : Nat) : steps p k (x * 2 ^ k) = x := by
  induction k generalizing x with
  | zero => rw [steps_zero]; simp
  | succ k ih =>
    rw [steps_succ, show x * 2 ^ (k + 1) = 2 * (x * 2 ^ k) from by rw [Nat.pow_succ, ← Nat.mul_assoc, Nat.mul_comm], step_double]; exact ih x

theorem steps_nought (k : Nat) : steps p k 0 = 0 := by
  have h := steps_shift p k 0
  simpa using h

theorem step_lt (n : Nat) (hp : p < 2 ^ (n + 1)) (x : Nat) (h : x < 2 ^ (n + 1)) : step p x < 2 ^ (n + 1) := by
  unfold step; split
  · exact Nat.xor_lt_two_pow (n := n + 1) (by omega) hp
  · omega

theorem steps_lt (n : Nat) (hp : p < 2 ^ (n + 1)) (k x : Nat) (h : x < 2 ^ (n + 1)) : steps p k x < 2 ^ (n + 1) := by
  induction k generalizing x with
  | zero => rw [steps_zero]; exact h
  | succ k ih => rw [steps_succ]; exact ih _ (step_lt p n hp x h)

theorem step_ne (n : Nat) (hp0 : 2 ^ n ≤ p) (x : Nat) (h : x < 2 ^ (n + 1)) (h0 : x ≠ 0) : step p x ≠ 0 := by
  unfold step; split
  · intro e
    have e' : x / 2 = p := by
      have := congrArg (fun z => z ^^^ p) e
      simpa [Nat.xor_assoc] using this
    rw [Nat.pow_succ] at h
    omega
  · omega

theorem steps_ne (n : Nat) (hp0 : 2 ^ n ≤ p) (hp : p < 2 ^ (n + 1)) (k x : Nat) (h : x < 2 ^ (n + 1)) (h0 : x ≠ 0) : steps p k x ≠ 0 := by
  induction k generalizing x with
  | zero => rw [steps_zero]; exact h0
  | succ k ih => rw [steps_succ]; exact ih _ (step_lt p n hp x h) (step_ne p n hp0 x h h0)

theorem split_bits (k x : Nat) : x = (x / 2 ^ k) * 2 ^ k ^^^ (x % 2 ^ k) := by
  have hpos : 0 < 2 ^ k := Nat.two_pow_pos k
  have h := Nat.two_pow_add_eq_or_of_lt (i := k) (b := x % 2 ^ k) (Nat.mod_lt _ hpos) (x / 2 ^ k)
  have h2 : 2 ^ k * (x / 2 ^ k) + x % 2 ^ k = x := Nat.div_add_mod x (2 ^ k)
  apply Nat.eq_of_testBit_eq; intro i
  have h3 : x.testBit i = (2 ^ k * (x / 2 ^ k) ||| x % 2 ^ k).testBit i := by rw [← h, h2]
  rw [h3, Nat.mul_comm, Nat.testBit_or, Nat.testBit_xor]
  by_cases hi : i < k
  · have : ((x / 2 ^ k) * 2 ^ k).testBit i = false := by
      rw [Nat.testBit_mul_two_pow]; simp; omega
    simp [this]
  · have : (x % 2 ^ k).testBit i = false := by
      apply Nat.testBit_lt_two_pow
      exact Nat.lt_of_lt_of_le (Nat.mod_lt _ hpos) (Nat.pow_le_pow_right (n := 2) (by decide) (by omega))
    simp [this]

/-- What the table gives. -/
theorem split8 (x b : Nat) : steps p 8 (x ^^^ b) = (x / 256) ^^^ steps p 8 ((x % 256) ^^^ b) := by
  have hx := split_bits 8 x
  have hx' : x ^^^ b = (x / 2 ^ 8) * 2 ^ 8 ^^^ ((x % 2 ^ 8) ^^^ b) := by
    rw [← Nat.xor_assoc, ← hx]
  rw [hx', steps_xor, steps_shift]

theorem run_lt (n : Nat) (hn : 7 ≤ n) (hp : p < 2 ^ (n + 1)) (x : Nat) (l : List Nat) (h : x < 2 ^ (n + 1)) (hl : ∀ b ∈ l, b < 256) : run p x l < 2 ^ (n + 1) := by
  induction l generalizing x with
  | nil => rw [run_nil]; exact h
  | cons b l ih =>
    rw [run_cons]
    refine ih _ (steps_lt p n hp _ _ ?_) (fun c hc => hl c (List.mem_cons_of_mem _ hc))
    have h1 := hl b List.mem_cons_self
    have h2 : 2 ^ 8 ≤ 2 ^ (n + 1) := Nat.pow_le_pow_right (by decide) (by omega)
    exact Nat.xor_lt_two_pow (n := n + 1) h (by omega)

theorem xor_back (x : Nat) : o ^^^ (o ^^^ x) = x := by rw [← Nat.xor_assoc, Nat.xor_self, Nat.zero_xor]

theorem add_append (s : Nat) (l m : List Nat) : add p o (add p o s l) m = add p o s (l ++ m) := by
  unfold add; rw [xor_back, run_append]

/-- The bytes as one number, the first byte lowest. -/
def num : List Nat → Nat
  | [] => 0
  | b :: l => b ^^^ (num l * 2 ^ 8)

theorem xor_mul_pow (k x y : Nat) : (x ^^^ y) * 2 ^ k = x * 2 ^ k ^^^ y * 2 ^ k := by
  apply Nat.eq_of_testBit_eq; intro i
  simp only [Nat.testBit_xor, Nat.testBit_mul_two_pow]
  by_cases h : k ≤ i <;> simp [h]

/-- The state is what the shift register makes of the number, laid over it at once. -/
theorem run_num (x : Nat) (l : List Nat) : run p x l = steps p (8 * l.length) (x ^^^ num l) := by
  induction l generalizing x with
  | nil => rw [run_nil]; simp [num, steps_zero]
  | cons b l ih =>
    rw [run_cons, ih, List.length_cons, show 8 * (l.length + 1) = 8 + 8 * l.length by omega, steps_add]
    congr 1
    rw [num, ← Nat.xor_assoc, steps_xor p 8 (x ^^^ b), steps_shift]

/-- Two lists of one length that differ by a burst of at most 32 bits have different sums. -/
theorem add_burst (n : Nat) (hp0 : 2 ^ n ≤ p) (hp : p < 2 ^ (n + 1)) (s : Nat) (l m : List Nat) (hlen : m.length = l.length) (at_ c : Nat)
    (hc : c < 2 ^ (n + 1)) (hc0 : c ≠ 0) (hat : at_ ≤ 8 * l.length) (hm : num m = num l ^^^ c * 2 ^ at_) : add p o s m ≠ add p o s l := by
  unfold add
  intro e
  have e1 : run p (o ^^^ s) m = run p (o ^^^ s) l := by
    have := congrArg (fun z => o ^^^ z) e
    simpa only [xor_back] using this
  rw [run_num, run_num, hlen, hm, ← Nat.xor_assoc, steps_xor] at e1
  have e2 : steps p (8 * l.length) (c * 2 ^ at_) = 0 := by
    have := congrArg (fun z => steps p (8 * l.length) ((o ^^^ s) ^^^ num l) ^^^ z) e1
    simpa only [xor_back, Nat.xor_self] using this
  rw [show 8 * l.length = at_ + (8 * l.length - at_) by omega, steps_add, steps_shift] at e2
  exact steps_ne p n hp0 hp _ c hc hc0 e2

end Crc
end Go.Proofs.Ytijajfldpaadnaa
namespace Go.Proofs.Ytijajfldpaadnaa
open Go.RowKit

def crcP : Nat := 3988292384
def crcO : Nat := 4294967295
def crcB (s : ByteArray) : List Nat := s.data.toList.map UInt8.toNat

theorem val_u32 {a b : Int} (h : a = b) : Value.int .u32 a = .int .u32 b := by rw [h]
theorem ret_u32 {a b : Int} (h : a = b) : Ending.returned (.int .u32 a) = .returned (.int .u32 b) := by rw [h]

theorem bs_len (s : ByteArray) : (crcB s).length = s.size := by unfold crcB; rw [List.length_map]; rfl
theorem bs_take (s : ByteArray) (k : Nat) (h : k < s.size) : (crcB s).take (k + 1) = (crcB s).take k ++ [s[k].toNat] := by
  unfold crcB; rw [← List.map_take, List.take_succ_eq_append_getElem (by simpa using h), List.map_append, List.map_take]; rfl
theorem bs_lt (s : ByteArray) : ∀ b ∈ crcB s, b < 256 := by
  intro b hb; unfold crcB at hb; rw [List.mem_map] at hb; obtain ⟨c, _, rfl⟩ := hb; exact c.toNat_lt
theorem P_bd : 2 ^ 31 ≤ crcP ∧ crcP < 2 ^ (31 + 1) := by unfold crcP; decide
theorem O_bd : crcO < 2 ^ (31 + 1) := by unfold crcO; decide
theorem e32 : (2 : Nat) ^ (31 + 1) = 4294967296 := by decide
theorem p32 : (2 : Nat) ^ 32 = 4294967296 := by decide
theorem runs_lt (x : Nat) (l : List Nat) (h : x < 4294967296) (hl : ∀ b ∈ l, b < 256) : Crc.run crcP x l < 4294967296 := by
  have := Crc.run_lt crcP 31 (by decide) P_bd.2 x l (by rw [e32]; exact h) hl
  rw [e32] at this; exact this
theorem steps_lt (k x : Nat) (h : x < 4294967296) : Crc.steps crcP k x < 4294967296 := by
  have := Crc.steps_lt crcP 31 P_bd.2 k x (by rw [e32]; exact h)
  rw [e32] at this; exact this
theorem xors_lt (x y : Nat) (hx : x < 4294967296) (hy : y < 4294967296) : x ^^^ y < 4294967296 := by
  have := Nat.xor_lt_two_pow (n := 32) (x := x) (y := y) (by rw [← p32] at hx; exact hx) (by rw [← p32] at hy; exact hy)
  rw [p32] at this; exact this
theorem O_lt : crcO < 4294967296 := by unfold crcO; decide
theorem add_lt (x : Nat) (s : ByteArray) (hx : x < 4294967296) : Crc.add crcP crcO x (crcB s) < 4294967296 := by
  unfold Crc.add; exact xors_lt _ _ O_lt (runs_lt _ _ (xors_lt _ _ O_lt hx) (bs_lt s))

theorem step_yes (y : Nat) (hy : y < 4294967296) (h : (bits BinOp.and IntKind.u32 (↑y) 1 == 1) = true) :
    bits BinOp.xor IntKind.u32 (↑y / 2) 3988292384 = ((Crc.step crcP y : Nat) : Int) := by
  have h1 := u32_and_nat y 1 hy (by decide)
  rw [nat_mask1] at h1
  rw [show ((1 : Nat) : Int) = 1 from rfl] at h1
  rw [h1] at h
  have h2 : y % 2 = 1 := by have := eq_of_beq h; omega
  unfold Crc.step; rw [if_pos h2]
  exact u32_xor_nat (y / 2) crcP (by omega) (by unfold crcP; decide)
theorem step_no (y : Nat) (hy : y < 4294967296) (h : (bits BinOp.and IntKind.u32 (↑y) 1 == 1) = false) :
    ((y : Nat) : Int) / 2 = ((Crc.step crcP y : Nat) : Int) := by
  have h1 := u32_and_nat y 1 hy (by decide)
  rw [nat_mask1] at h1
  rw [show ((1 : Nat) : Int) = 1 from rfl] at h1
  rw [h1] at h
  have h2 : ¬ y % 2 = 1 := by
    intro e; rw [e] at h; exact absurd h (by decide)
  unfold Crc.step; rw [if_neg h2]; omega

set_option maxHeartbeats 400000 in
theorem refAdd_any (x0 : Nat) (s : ByteArray) (w : World) (hx : x0 < 4294967296) (hs : s.size ≤ maxLen) :
    Calls Try.prog 148 #[.int .u32 x0, .string s] w fun e w' => e = .returned (.int .u32 (Crc.add crcP crcO x0 (crcB s) : Nat)) ∧ w = w' := by
  unfold maxLen at hs
  go_enter Try.func148, Try.ntmps148
  go_wp2
  go_loop [5, 6] (fun x i => ∃ k : Nat, k ≤ s.size ∧ i = .int .i64 k ∧ x = .int .u32 (Crc.run crcP (crcO ^^^ x0) ((crcB s).take k) : Nat)) (fun _ i => s.size - (intOf i).toNat)
  case atStart =>
    exact ⟨0, Nat.zero_le _, rfl, val_u32 (by rw [List.take_zero, Crc.run_nil]; exact u32_xor_nat crcO x0 O_lt hx)⟩
  case round =>
    obtain ⟨k, hk, rfl, rfl⟩ := hrel
    have hr := runs_lt (crcO ^^^ x0) ((crcB s).take k) (xors_lt _ _ O_lt hx) (fun b hb => bs_lt s b (List.mem_of_mem_take hb))
    by_cases hlt : k < s.size
    · have hbb := s[k].toNat_lt
      go_wp2
      go_loop [5, 7] (fun x j => ∃ m : Nat, m ≤ 8 ∧ j = .int .i64 m ∧ x = .int .u32 (Crc.steps crcP m (Crc.run crcP (crcO ^^^ x0) ((crcB s).take k) ^^^ s[k].toNat) : Nat)) (fun _ j => 8 - (intOf j).toNat)
      case atStart =>
        refine ⟨0, by omega, rfl, val_u32 ?_⟩
        rw [Crc.steps_zero, ← u32_xor_nat _ _ hr (by omega)]
      case round =>
        obtain ⟨m, hm, rfl, rfl⟩ := hrel
        have hx2 := steps_lt m (Crc.run crcP (crcO ^^^ x0) ((crcB s).take k) ^^^ s[k].toNat) (xors_lt _ _ hr (by omega))
        generalize hy : Crc.steps crcP m (Crc.run crcP (crcO ^^^ x0) ((crcB s).take k) ^^^ s[k].toNat) = y at *
        have HY := Lib.hid hy; clear hy
        by_cases hm8 : m < 8
        · go_wp2
          all_goals
            go_round
            case rel =>
              refine ⟨m + 1, by omega, by go_num, val_u32 ?_⟩
              rw [Crc.steps_succ', HY.out]
              first
                | exact step_yes y hx2 ‹_›
                | exact step_no y hx2 ‹_›
            case measure => simp [intOf]; omega
        · go_wp2
          go_round
          case rel =>
            refine ⟨k + 1, by omega, by go_num, val_u32 ?_⟩
            rw [bs_take s k hlt, Crc.run_snoc, ← HY.out, show m = 8 from by omega]
          case measure => simp [intOf]; omega
    · go_wp2
      go_ret
      refine ⟨ret_u32 ?_, rfl⟩
      rw [List.take_of_length_le (by rw [bs_len]; omega)]
      unfold Crc.add
      rw [List.take_of_length_le (by rw [bs_len]; omega)] at hr
      exact u32_xor_nat crcO _ O_lt hr

set_option maxHeartbeats 400000 in
theorem refSum_any (s : ByteArray) (w : World) (hs : s.size ≤ maxLen) :
    Calls Try.prog 146 #[.string s] w fun e w' => e = .returned (.int .u32 (Crc.add crcP crcO 0 (crcB s) : Nat)) ∧ w = w' := by
  go_enter Try.func146, Try.ntmps146
  go_wp2_with (go_at_call 148; refine (refAdd_any 0 s _ (by decide) hs).mono ?_; rintro e w' ⟨rfl, rfl⟩)
  go_ret
  exact ⟨rfl, rfl⟩
end Go.Proofs.Ytijajfldpaadnaa
namespace Go.Proofs.Ytijajfldpaadnaa
open Go.RowKit

end Go.Proofs.Ytijajfldpaadnaa
namespace Go.Proofs.Ytijajfldpaadnaa
open Go.RowKit

end Go.Proofs.Ytijajfldpaadnaa
