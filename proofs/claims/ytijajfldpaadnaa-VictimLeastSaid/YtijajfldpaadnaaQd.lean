/- Records as bytes: Decode of both, the example. -/
import Derived.Test.YtijajfldpaadnaaQc
namespace Go.Proofs.Ytijajfldpaadnaa.Ab
set_option linter.unusedVariables false
set_option linter.unusedSimpArgs false
open Go.RowKit

theorem getS {s : ByteArray} (h : s.size = 40) {a k : Nat} (h1 : 1 ≤ k) (h7 : k ≤ 7) (ha : a + k ≤ 40) : sget s a k = ((getN (((sL s).drop a).take k) : Int), 0) := sget_ok h1 h7 (by omega)
theorem rdec_len {s : ByteArray} (h : s.size ≠ 40) : rdec s = (r0, 2) := by unfold rdec; rw [if_pos h]
theorem rdec_sum {s : ByteArray} (h : s.size = 40) (h2 : getN (((sL s).drop 36).take 4) ≠ crcN ((sL s).take 36)) : rdec s = (r0, 4) := by unfold rdec; rw [if_neg (by omega), if_pos h2]
theorem rdec_form {s : ByteArray} (h : s.size = 40) (h2 : getN (((sL s).drop 36).take 4) = crcN ((sL s).take 36)) (h3 : ¬ (rchk (candL (sL s)) = 0 ∧ encL (candL (sL s)) = sL s)) : rdec s = (r0, 3) := by
  unfold rdec; rw [if_neg (by omega), if_neg (by simpa using h2), if_neg h3]
theorem rdec_ok {s : ByteArray} (h : s.size = 40) (h2 : getN (((sL s).drop 36).take 4) = crcN ((sL s).take 36)) (h3 : rchk (candL (sL s)) = 0 ∧ encL (candL (sL s)) = sL s) : rdec s = (candL (sL s), 0) := by
  unfold rdec; rw [if_neg (by omega), if_neg (by simpa using h2), if_pos h3]
theorem ex36 {s : ByteArray} (h : s.size = 40) : sL (s.extract (0 : Int).toNat (36 : Int).toNat) = (sL s).take 36 := by
  rw [sL_extract]; rfl
theorem ex36_size {s : ByteArray} (h : s.size = 40) : (s.extract (0 : Int).toNat (36 : Int).toNat).size = 36 := by
  rw [← sL_len, ex36 h, List.length_take, sL_len, h]; rfl
theorem ex_pay {s : ByteArray} {n : Nat} : s.extract (16 : Int).toNat ((16 + n : Nat) : Int).toNat = sS (((sL s).take (16 + n)).drop 16) := by
  apply sL_inj
  rw [sL_extract, sL_S]
  rfl

theorem renc_iff (r : Rec) (s : ByteArray) : ((renc r).2 = 0 ∧ (renc r).1 = s) ↔ (rchk r = 0 ∧ encL r = sL s) := by
  by_cases h : rchk r = 0
  · rw [renc_yes h]
    constructor
    · rintro ⟨_, h2⟩; exact ⟨h, by rw [← h2]; rfl⟩
    · rintro ⟨_, h2⟩; exact ⟨rfl, by show sS (encL r) = s; rw [h2]; rfl⟩
  · rw [renc_no h]
    constructor
    · rintro ⟨h1, _⟩; exact absurd h1 h
    · rintro ⟨h1, _⟩; exact absurd h1 h
theorem toList_inj {a b : ByteArray} (h : a.toList = b.toList) : a = b := sL_inj (by rw [← toList_eq, ← toList_eq, h])
theorem byteN {s : ByteArray} {i : Nat} (h : i < s.size) : ∃ c : UInt8, s[i]? = some c ∧ getN (((sL s).drop i).take 1) = c.toNat := by
  have h' : i < (sL s).length := h
  exact ⟨(sL s)[i], by rw [sget_eq]; exact List.getElem?_eq_getElem h', get1 h'⟩
theorem byte_i64 (c : UInt8) : iwrap .i64 ((c.toNat : Nat) : Int) = ((c.toNat : Nat) : Int) := by
  have := c.toNat_lt
  exact w64_in (by omega)
end Go.Proofs.Ytijajfldpaadnaa.Ab
