/- Bytes and strings: numbers as bytes, joined strings. No condition. -/
import Derived.Test.YtkpicojhnnkibaaGd
import Derived.Test.YtkpicojhnnkibaaFs
import Derived.Test.YtkpicojhnnkibaaShelf
namespace Go.Proofs.Ytkpicojhnnkibaa.Ab
set_option linter.unusedVariables false
set_option linter.unusedSimpArgs false
open Go.RowKit

def strV (s : ByteArray) : AV := .c (.i (.sc (.string s)))
def sS (l : List UInt8) : ByteArray := ⟨l.toArray⟩
def sL (s : ByteArray) : List UInt8 := s.data.toList
theorem sL_S (l : List UInt8) : sL (sS l) = l := rfl
theorem sS_L (s : ByteArray) : sS (sL s) = s := rfl
theorem sS_inj {a b : List UInt8} (h : sS a = sS b) : a = b := by have := congrArg sL h; exact this
theorem sL_inj {a b : ByteArray} (h : sL a = sL b) : a = b := by rw [← sS_L a, ← sS_L b, h]
theorem sS_size (l : List UInt8) : (sS l).size = l.length := rfl
theorem sL_len (s : ByteArray) : (sL s).length = s.size := rfl
theorem sL_append (a b : ByteArray) : sL (a ++ b) = sL a ++ sL b := by
  show (a ++ b).data.toList = _
  rw [ByteArray.data_append, Array.toList_append]; rfl
theorem sS_append (a b : List UInt8) : sS a ++ sS b = sS (a ++ b) := sL_inj (by rw [sL_append]; rfl)
theorem toList_eq (s : ByteArray) : s.toList = sL s := Lib.toList_data s
theorem sget_eq (s : ByteArray) (i : Nat) : s[i]? = (sL s)[i]? := by
  by_cases h : i < s.size
  · rw [getElem?_pos s i h, List.getElem?_eq_getElem (show i < (sL s).length from h)]
    rfl
  · rw [getElem?_neg s i h, List.getElem?_eq_none (show (sL s).length ≤ i from Nat.le_of_not_lt h)]
theorem sL_extract (s : ByteArray) (i j : Nat) : sL (s.extract i j) = ((sL s).take j).drop i := by
  show (s.extract i j).data.toList = _
  rw [ByteArray.data_extract, Array.toList_extract]
  show List.extract s.data.toList i j = _
  rw [List.extract_eq_take_drop]
  show _ = (s.data.toList.take j).drop i
  rw [List.drop_take]
theorem bytesStr_eq (ws : List Int) : bytesStr ws = sS (ws.map fun n => UInt8.ofNat n.toNat) := rfl
def catS (xs : List ByteArray) : ByteArray := sS (xs.map sL).flatten
theorem join_nil (ls : List (List UInt8)) : Lib.join ls [] = ls.flatten := by
  show (ls.intersperse []).flatten = ls.flatten
  induction ls with
  | nil => rfl
  | cons a ls ih =>
    cases ls with
    | nil => rfl
    | cons b ls => simp only [List.intersperse, List.flatten_cons, List.nil_append] at ih ⊢; rw [ih]
def sV (ss : List ByteArray) : List (List IV) := ss.map fun s => [.sc (.string s)]
theorem sLen (ss : List ByteArray) : (sV ss).length = ss.length := by simp [sV]
theorem sSz (ss : List ByteArray) : ∀ z ∈ sV ss, z.length = (tab 9).size := by
  intro z hz
  obtain ⟨x, _, rfl⟩ := List.mem_map.1 hz
  rfl
theorem sItem {ss : List ByteArray} {k : Nat} (h : k < ss.length) : (sV ss)[((k : Int)).toNat]? = some [.sc (.string ss[k])] := by simp [sV, h]

/-- The bytes of a number, the lowest one first. -/
def putB (n k : Nat) : List UInt8 := (List.range k).map fun i => UInt8.ofNat (n / 256 ^ i)
theorem putB_len (n k : Nat) : (putB n k).length = k := by simp [putB]
def getN : List UInt8 → Nat
  | [] => 0
  | c :: l => c.toNat + 256 * getN l
theorem putB_succ (n k : Nat) : putB n (k + 1) = UInt8.ofNat n :: putB (n / 256) k := by
  simp only [putB, List.range_succ_eq_map, List.map_cons, List.map_map, Nat.pow_zero, Nat.div_one]
  congr 1
  apply List.map_congr_left
  intro i _
  simp only [Function.comp]
  rw [Nat.pow_succ, Nat.mul_comm, Nat.div_div_eq_div_mul]
theorem getN_putB (k : Nat) : ∀ n, n < 256 ^ k → getN (putB n k) = n := by
  induction k with
  | zero => intro n h; simp at h; subst h; rfl
  | succ k ih =>
    intro n h
    rw [putB_succ, getN, ih (n / 256) (by rw [Nat.pow_succ] at h; exact Nat.div_lt_of_lt_mul (by rw [Nat.mul_comm]; exact h))]
    have : (UInt8.ofNat n).toNat = n % 256 := by simp
    rw [this]
    omega
theorem getN_lt (l : List UInt8) : getN l < 256 ^ l.length := by
  induction l with
  | nil => decide
  | cons c l ih =>
    have := c.toNat_lt
    rw [getN, List.length_cons, Nat.pow_succ]
    omega
theorem putB_getN (l : List UInt8) : putB (getN l) l.length = l := by
  induction l with
  | nil => rfl
  | cons c l ih =>
    rw [List.length_cons, putB_succ, getN]
    have hc := c.toNat_lt
    have e1 : (c.toNat + 256 * getN l) / 256 = getN l := by omega
    have e2 : UInt8.ofNat (c.toNat + 256 * getN l) = c := by
      apply UInt8.toNat.inj
      simp
    rw [e1, e2, ih]
theorem putB_inj {n m k : Nat} (hn : n < 256 ^ k) (hm : m < 256 ^ k) (h : putB n k = putB m k) : n = m := by
  rw [← getN_putB k n hn, ← getN_putB k m hm, h]
theorem putB_get {n k i : Nat} (h : i < k) : (putB n k)[i]'(by rw [putB_len]; exact h) = UInt8.ofNat (n / 256 ^ i) := by simp [putB]

theorem pow8 (i : Nat) : (2 : Int) ^ (8 * i) = ((256 ^ i : Nat) : Int) := by
  rw [Int.pow_mul]
  have : ((2 : Int) ^ 8) = 256 := by decide
  rw [this]
  simp
theorem shr_nat (n i : Nat) : ((n : Int)).fdiv (2 ^ (8 * i)) = ((n / 256 ^ i : Nat) : Int) := by
  rw [pow8, Int.fdiv_eq_ediv_of_nonneg _ (Int.natCast_nonneg _)]
  rfl
theorem u8_nat (n : Nat) : iwrap .u8 (n : Int) = ((n % 256 : Nat) : Int) := by
  simp [iwrap, IntKind.wrap, IntKind.signed, IntKind.bits]
theorem u8_byte (n : Nat) : UInt8.ofNat (iwrap .u8 (n : Int)).toNat = UInt8.ofNat n := by
  rw [u8_nat, Int.toNat_natCast]
  apply UInt8.toNat.inj
  simp

/-- What Put answers. -/
def okPut (n size : Int) : Prop := 1 ≤ size ∧ size ≤ 7 ∧ 0 ≤ n ∧ n < ((256 ^ size.toNat : Nat) : Int)
instance (n size : Int) : Decidable (okPut n size) := by unfold okPut; infer_instance
def sput (n size : Int) : ByteArray × Int := if okPut n size then (sS (putB n.toNat size.toNat), 0) else (ByteArray.empty, 1)
/-- What Get answers. -/
def sget (b : ByteArray) (at_ size : Int) : Int × Int :=
  if size < 1 ∨ size > 7 ∨ at_ < 0 then (0, 1) else if at_ > b.size ∨ b.size - at_ < size then (0, 2) else ((getN (((sL b).drop at_.toNat).take size.toNat) : Int), 0)
def spad (b : ByteArray) (n : Int) : ByteArray := if n ≤ b.size then b else sS (sL b ++ List.replicate (n - b.size).toNat 0)
end Go.Proofs.Ytkpicojhnnkibaa.Ab
