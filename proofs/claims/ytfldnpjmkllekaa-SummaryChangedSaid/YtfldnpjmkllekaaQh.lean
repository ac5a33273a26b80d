/- Records as bytes: a byte of a text is changed. -/
import Derived.Test.YtfldnpjmkllekaaQg
import Derived.Test.YtfldnpjmkllekaaBf
namespace Go.Proofs.Ytfldnpjmkllekaa.Ab
set_option linter.unusedVariables false
set_option linter.unusedSimpArgs false
open Go.RowKit

def bI (l : List UInt8) : List Int := l.map fun b => (b.toNat : Int)
theorem sBytes_eq (s : ByteArray) : sBytes s = cVb (bI (sL s)) := by simp [sBytes, cVb, bI, sL]
theorem bI_len (l : List UInt8) : (bI l).length = l.length := by simp [bI]
/-- A byte of a list is changed. -/
def setX (l : List UInt8) (k d : Nat) : List UInt8 := l.set k (UInt8.ofNat ((l.getD k 0).toNat ^^^ d))
theorem setX_len (l : List UInt8) (k d : Nat) : (setX l k d).length = l.length := by simp [setX]
theorem num_set : ∀ (l : List Nat) (k d x : Nat) (_ : l[k]? = some x), Crc.num (l.set k (x ^^^ d)) = Crc.num l ^^^ d * 2 ^ (8 * k)
  | [], k, d, x, h => by simp at h
  | b :: t, 0, d, x, h => by
    simp at h
    subst h
    simp only [List.set_cons_zero, Crc.num, Nat.mul_zero, Nat.pow_zero, Nat.mul_one]
    rw [Nat.xor_assoc, Nat.xor_comm d, ← Nat.xor_assoc]
  | b :: t, k + 1, d, x, h => by
    simp only [List.set_cons_succ, Crc.num]
    rw [num_set t k d x (by simpa using h), Crc.xor_mul_pow, ← Nat.xor_assoc, Nat.mul_assoc, ← Nat.pow_add]
    rw [show 8 * k + 8 = 8 * (k + 1) by omega]
theorem xor_lt {x d : Nat} (hx : x < 256) (hd : d < 256) : x ^^^ d < 256 := Nat.xor_lt_two_pow (n := 8) hx hd
theorem xor_ne {x d : Nat} (hd : 0 < d) : x ^^^ d ≠ x := by
  intro e
  have h := congrArg (fun z => x ^^^ z) e
  simp only [← Nat.xor_assoc, Nat.xor_self, Nat.zero_xor] at h
  omega
theorem setX_map {l : List UInt8} {k d : Nat} (hk : k < l.length) (hd : d < 256) : (setX l k d).map UInt8.toNat = (l.map UInt8.toNat).set k (l[k].toNat ^^^ d) := by
  unfold setX
  rw [List.map_set, List.getD_eq_getElem?_getD, List.getElem?_eq_getElem hk]
  congr 1
  show (UInt8.ofNat (l[k].toNat ^^^ d)).toNat = _
  rw [UInt8.toNat_ofNat', Nat.mod_eq_of_lt (xor_lt l[k].toNat_lt hd)]
theorem setX_ne {l : List UInt8} {k d : Nat} (hk : k < l.length) (h0 : 0 < d) (hd : d < 256) : setX l k d ≠ l := by
  intro e
  have h1 := congrArg (fun z => (z.map UInt8.toNat)[k]?) e
  simp only [setX_map hk hd] at h1
  rw [List.getElem?_set_self (by simpa using hk), List.getElem?_map, List.getElem?_eq_getElem hk] at h1
  injection h1 with h1
  exact xor_ne h0 h1
theorem crc_setX {l : List UInt8} {k d : Nat} (hk : k < l.length) (h0 : 0 < d) (hd : d < 256) : crcN (setX l k d) ≠ crcN l := by
  unfold crcN
  rw [setX_map hk hd]
  refine Crc.add_burst crcP crcO 31 P_bd.1 P_bd.2 0 _ _ (by simp) (8 * k) d (by omega) (by omega) (by simp; omega) ?_
  exact num_set _ k d _ (by simp [hk])
theorem setX_left {a b : List UInt8} {k d : Nat} (h : k < a.length) : setX (a ++ b) k d = setX a k d ++ b := by
  unfold setX
  rw [List.set_append_left _ _ h, List.getD_eq_getElem?_getD, List.getD_eq_getElem?_getD, List.getElem?_append_left h]
theorem setX_right {a b : List UInt8} {k d : Nat} (h : a.length ≤ k) : setX (a ++ b) k d = a ++ setX b (k - a.length) d := by
  unfold setX
  rw [List.set_append_right _ _ h, List.getD_eq_getElem?_getD, List.getD_eq_getElem?_getD, List.getElem?_append_right h]
theorem rdec_flip {r : Rec} (h : rchk r = 0) {k d : Nat} (hk : k < 40) (h0 : 0 < d) (hd : d < 256) : rdec (sS (setX (encL r) k d)) = (r0, 4) := by
  obtain ⟨_, _, _, _, hp, _⟩ := rchk_ok h
  have hb := body_len hp
  have hl := enc_len hp
  refine rdec_sum (by rw [sS_size, setX_len, hl]) ?_
  rw [sL_S]
  have e : encL r = bodyL r ++ putB (crcN (bodyL r)) 4 := rfl
  have hc : crcN (bodyL r) < 256 ^ 4 := Nat.lt_of_lt_of_le (crcN_lt _) (by decide)
  have hpl : (putB (crcN (bodyL r)) 4).length = 4 := putB_len _ _
  rw [e]
  by_cases h36 : k < 36
  · rw [setX_left (by omega), List.drop_left' (by rw [setX_len]; exact hb), List.take_left' (by rw [setX_len]; exact hb), List.take_of_length_le (by omega), getN_putB 4 _ hc]
    exact (crc_setX (by omega) h0 hd).symm
  · rw [setX_right (by omega), List.drop_left' hb, List.take_left' hb, List.take_of_length_le (by rw [setX_len]; omega)]
    intro e2
    have h1 := putB_getN (setX (putB (crcN (bodyL r)) 4) (k - (bodyL r).length) d)
    rw [e2, setX_len, hpl] at h1
    exact setX_ne (by omega) h0 hd h1.symm
theorem rdec_zero {s : ByteArray} (h : (rdec s).2 = 0) : rchk (rdec s).1 = 0 ∧ encL (rdec s).1 = sL s := by
  by_cases h1 : s.size = 40
  · by_cases h2 : getN (((sL s).drop 36).take 4) = crcN ((sL s).take 36)
    · by_cases h3 : rchk (candL (sL s)) = 0 ∧ encL (candL (sL s)) = sL s
      · rw [rdec_ok h1 h2 h3]; exact h3
      · rw [rdec_form h1 h2 h3] at h; exact absurd h (by decide)
    · rw [rdec_sum h1 h2] at h; exact absurd h (by decide)
  · rw [rdec_len h1] at h; exact absurd h (by decide)
def sflip (s : ByteArray) (i b : Int) : ByteArray := sS (setX (sL s) (dmod i s.size).toNat (2 ^ (dmod b 8).toNat))
theorem u8_xor {x d : Nat} (hx : x < 256) (hd : d < 256) : IntKind.u8.wrap ((BitVec.ofInt IntKind.u8.bits (x : Int) ^^^ BitVec.ofInt IntKind.u8.bits (d : Int)).toNat : Int) = ((x ^^^ d : Nat) : Int) := by
  have h := xor_lt hx hd
  have e : (BitVec.ofInt IntKind.u8.bits (x : Int) ^^^ BitVec.ofInt IntKind.u8.bits (d : Int)).toNat = x ^^^ d := by
    rw [BitVec.toNat_xor, BitVec.toNat_ofInt, BitVec.toNat_ofInt]
    have e1 : ((x : Int) % ((2 ^ IntKind.u8.bits : Nat) : Int)).toNat = x := by
      show ((x : Int) % 256).toNat = x
      omega
    have e2 : ((d : Int) % ((2 ^ IntKind.u8.bits : Nat) : Int)).toNat = d := by
      show ((d : Int) % 256).toNat = d
      omega
    rw [e1, e2]
  rw [e]
  generalize x ^^^ d = y at h
  simp [IntKind.wrap, IntKind.signed, IntKind.bits]
  omega
theorem bytes_set (l : List UInt8) (k : Nat) (x : Int) : (cVb (bI l)).set k [.sc (.int .u8 x)] = cVb ((bI l).set k x) := by simp [cVb, List.map_set]
theorem bytes_setX {l : List UInt8} {k d : Nat} (hk : k < l.length) : bytesStr ((bI l).set k ((l[k].toNat ^^^ d : Nat) : Int)) = sS (setX l k d) := by
  unfold bytesStr sS setX bI
  rw [List.map_set, List.map_map, List.getD_eq_getElem?_getD, List.getElem?_eq_getElem hk]
  congr 3
  exact (List.map_congr_left (fun x _ => by simp)).trans (List.map_id _)
set_option maxRecDepth 100000 in
set_option maxHeartbeats 8000000 in
theorem flipF (s : ByteArray) (i b : Int) (hs : s.size ≤ 1000000) (h0 : 0 < s.size) : Fun Try.prog 26 [strV s, i64V i, i64V b] [] (.v (strV (sflip s i b))) := by
  have m1 := modF i s.size
  have m2 := modF b 8
  have hsl' : (sBytes s).length = s.size := by rw [sBytes_eq, cVb, List.length_map, bI_len, sL_len]
  have hsl : (((sBytes s).length : Nat) : Int) = (s.size : Int) := by rw [hsl']
  obtain ⟨k, hk, hks⟩ : ∃ k : Nat, dmod i s.size = (k : Int) ∧ k < s.size := by
    have := dmod_in2 (x := i) (n := s.size) (by omega) (by omega)
    exact ⟨(dmod i s.size).toNat, by omega, by omega⟩
  obtain ⟨c, hc, hc8⟩ : ∃ c : Nat, dmod b 8 = (c : Int) ∧ c < 8 := by
    have := dmod_in2 (x := b) (n := 8) (by decide) (by decide)
    exact ⟨(dmod b 8).toNat, by omega, by omega⟩
  rw [hc] at m2
  have hcw : iwrap .u64 (c : Int) = (c : Int) := by simp [iwrap, IntKind.wrap, IntKind.signed, IntKind.bits]; omega
  have hit : (sBytes s)[((k : Int)).toNat]? = some [.sc (.int .u8 (((sL s)[k]'hks).toNat : Int))] := by
    rw [sBytes_eq]
    simp only [cVb, bI, List.map_map, List.getElem?_map]
    rw [show ((k : Int)).toNat = k from rfl, List.getElem?_eq_getElem (by rw [sL_len]; exact hks)]
    rfl
  have hcd : iwrap .u8 (1 * 2 ^ min ((c : Int)).toNat IntKind.u8.bits) = ((2 ^ c : Nat) : Int) := by
    have : c = 0 ∨ c = 1 ∨ c = 2 ∨ c = 3 ∨ c = 4 ∨ c = 5 ∨ c = 6 ∨ c = 7 := by omega
    rcases this with rfl | rfl | rfl | rfl | rfl | rfl | rfl | rfl <;> rfl
  have h2c : 2 ^ c < 256 := Nat.pow_lt_pow_right (by decide) hc8
  have hxor := u8_xor (sL s)[k].toNat_lt h2c
  have hset : (sBytes s).set ((k : Int)).toNat [.sc (.int .u8 (((sL s)[k].toNat ^^^ 2 ^ c : Nat) : Int))] = cVb ((bI (sL s)).set k (((sL s)[k].toNat ^^^ 2 ^ c : Nat) : Int)) := by
    rw [sBytes_eq]
    exact bytes_set _ _ _
  have hfl : sflip s i b = sS (setX (sL s) k (2 ^ c)) := by unfold sflip; rw [hk, hc]; rfl
  rw [hfl]
  refine fun_of_vc tabOk mixOk Try.func26 rfl (by rfl) (rs := [.tmp 6]) rfl rfl 32 ?_; rw [Try.ntmps26]
  (conv => whnf); repeat (first | (refine And.intro rfl ?_; conv => whnf) | (refine And.intro (fun _ => ?_) (fun h => Bool.noConfusion h); conv => whnf) | (refine And.intro (fun h => Bool.noConfusion h) (fun _ => ?_); conv => whnf))
  refine And.intro (fun h => ?_) (fun h => ?_)
  · exfalso
    have he2 : s.toList = [] ↔ s.size = 0 := by rw [Lib.toList_data, Lib.size_eq]; exact List.length_eq_zero_iff.symm
    have h' := he2.1 (by simpa using h)
    omega
  (conv => whnf); repeat (first | (refine And.intro rfl ?_; conv => whnf) | (refine And.intro (fun _ => ?_) (fun h => Bool.noConfusion h); conv => whnf) | (refine And.intro (fun h => Bool.noConfusion h) (fun _ => ?_); conv => whnf))
  refine ⟨by omega, ?_⟩
  (conv => whnf); repeat (first | (refine And.intro rfl ?_; conv => whnf) | (refine And.intro (fun _ => ?_) (fun h => Bool.noConfusion h); conv => whnf) | (refine And.intro (fun h => Bool.noConfusion h) (fun _ => ?_); conv => whnf))
  rw [hsl]
  refine ⟨_, _, m1, ?_⟩
  (conv => whnf); repeat (first | (refine And.intro rfl ?_; conv => whnf) | (refine And.intro (fun _ => ?_) (fun h => Bool.noConfusion h); conv => whnf) | (refine And.intro (fun h => Bool.noConfusion h) (fun _ => ?_); conv => whnf))
  rw [hk]
  refine ⟨by omega, by rw [hsl']; exact hks, ?_⟩
  (conv => whnf); repeat (first | (refine And.intro rfl ?_; conv => whnf) | (refine And.intro (fun _ => ?_) (fun h => Bool.noConfusion h); conv => whnf) | (refine And.intro (fun h => Bool.noConfusion h) (fun _ => ?_); conv => whnf))
  refine ⟨_, hit, ?_⟩
  (conv => whnf); repeat (first | (refine And.intro rfl ?_; conv => whnf) | (refine And.intro (fun _ => ?_) (fun h => Bool.noConfusion h); conv => whnf) | (refine And.intro (fun h => Bool.noConfusion h) (fun _ => ?_); conv => whnf))
  refine ⟨_, _, m2, ?_⟩
  (conv => whnf); repeat (first | (refine And.intro rfl ?_; conv => whnf) | (refine And.intro (fun _ => ?_) (fun h => Bool.noConfusion h); conv => whnf) | (refine And.intro (fun h => Bool.noConfusion h) (fun _ => ?_); conv => whnf))
  rw [hcw]
  refine ⟨by omega, ?_⟩
  (conv => whnf); repeat (first | (refine And.intro rfl ?_; conv => whnf) | (refine And.intro (fun _ => ?_) (fun h => Bool.noConfusion h); conv => whnf) | (refine And.intro (fun h => Bool.noConfusion h) (fun _ => ?_); conv => whnf))
  refine ⟨by omega, by rw [hsl']; exact hks, ?_⟩
  (conv => whnf); repeat (first | (refine And.intro rfl ?_; conv => whnf) | (refine And.intro (fun _ => ?_) (fun h => Bool.noConfusion h); conv => whnf) | (refine And.intro (fun h => Bool.noConfusion h) (fun _ => ?_); conv => whnf))
  refine ⟨_, hit, ?_⟩
  (conv => whnf); repeat (first | (refine And.intro rfl ?_; conv => whnf) | (refine And.intro (fun _ => ?_) (fun h => Bool.noConfusion h); conv => whnf) | (refine And.intro (fun h => Bool.noConfusion h) (fun _ => ?_); conv => whnf))
  rw [hcd, hxor, hset]
  refine ⟨_, rfl, ?_⟩
  (conv => whnf); repeat (first | (refine And.intro rfl ?_; conv => whnf) | (refine And.intro (fun _ => ?_) (fun h => Bool.noConfusion h); conv => whnf) | (refine And.intro (fun h => Bool.noConfusion h) (fun _ => ?_); conv => whnf))
  refine Exists.intro [] (And.intro List.nodup_nil ?_); ((conv => whnf); repeat (first | (refine And.intro rfl ?_; conv => whnf) | (refine And.intro (fun _ => ?_) (fun h => Bool.noConfusion h); conv => whnf) | (refine And.intro (fun h => Bool.noConfusion h) (fun _ => ?_); conv => whnf)))
  exact congrArg (fun z => AT.v (strV z)) (bytes_setX hks)
end Go.Proofs.Ytfldnpjmkllekaa.Ab
