/- Records made of numbers; a string with one bit changed. -/
import Derived.Test.YtijajfldpaadnaaQe
import Derived.Test.YtijajfldpaadnaaGv
import Derived.Test.YtijajfldpaadnaaBf
namespace Go.Proofs.Ytijajfldpaadnaa.Ab
set_option linter.unusedVariables false
set_option linter.unusedSimpArgs false
open Go.RowKit

/-- A record of a block, made of numbers. -/
def mkRec (L : List Int) (k : Nat) (n v : Int) : Rec :=
  if dval L (dnx L (dnx L k)) 4 = 3 then ⟨2, dval L k n, v, 0, ByteArray.empty⟩ else ⟨1, dval L k n, v, 0, vval (dval L (dnx L k) 200)⟩
def nx3 (L : List Int) (k : Nat) : Nat := dnx L (dnx L (dnx L k))
theorem nx3_le {L : List Int} {k : Nat} (h : k ≤ L.length) : nx3 L k ≤ L.length := dnx_le (dnx_le (dnx_le h))
set_option maxRecDepth 100000 in
set_option maxHeartbeats 16000000 in
theorem mkRecF (L : List Int) (k : Nat) (n v : Int) (hl : L.length ≤ 1000000) : FunP Try.prog 67 (dcs L k) [i64V n, i64V v] (dcs L (nx3 L k)) (.v (rV (mkRec L k n v))) := by
  have n1 := nextF L k n hl
  have n2 := nextF L (dnx L k) 200 hl
  have n3 := nextF L (dnx L (dnx L k)) 4 hl
  have hv := valF (dval L (dnx L k) 200)
  unfold mkRec nx3
  generalize dval L (dnx L (dnx L k)) 4 = q at n3 ⊢
  generalize dval L (dnx L k) 200 = u at n2 hv ⊢
  generalize dval L k n = bb at n1 ⊢
  by_cases hq : q = 3
  · subst hq
    rw [if_pos rfl]
    refine funP_of_vc tabOk mixOk Try.func67 rfl (by rfl) (rs := [.cell 6 121]) rfl rfl rfl rfl rfl 26 ?_; rw [Try.ntmps67]
    (conv => whnf); repeat (first | (refine And.intro DrawOk.go ?_; conv => whnf) | (refine And.intro rfl ?_; conv => whnf) | (refine And.intro (fun _ => ?_) (fun h => Bool.noConfusion h); conv => whnf) | (refine And.intro (fun h => Bool.noConfusion h) (fun _ => ?_); conv => whnf))
    refine ⟨_, _, n1, ?_⟩
    (conv => whnf); repeat (first | (refine And.intro DrawOk.go ?_; conv => whnf) | (refine And.intro rfl ?_; conv => whnf) | (refine And.intro (fun _ => ?_) (fun h => Bool.noConfusion h); conv => whnf) | (refine And.intro (fun h => Bool.noConfusion h) (fun _ => ?_); conv => whnf))
    refine ⟨_, _, n2, ?_⟩
    (conv => whnf); repeat (first | (refine And.intro DrawOk.go ?_; conv => whnf) | (refine And.intro rfl ?_; conv => whnf) | (refine And.intro (fun _ => ?_) (fun h => Bool.noConfusion h); conv => whnf) | (refine And.intro (fun h => Bool.noConfusion h) (fun _ => ?_); conv => whnf))
    refine ⟨_, _, hv, ?_⟩
    (conv => whnf); repeat (first | (refine And.intro DrawOk.go ?_; conv => whnf) | (refine And.intro rfl ?_; conv => whnf) | (refine And.intro (fun _ => ?_) (fun h => Bool.noConfusion h); conv => whnf) | (refine And.intro (fun h => Bool.noConfusion h) (fun _ => ?_); conv => whnf))
    refine ⟨_, _, n3, ?_⟩
    (conv => whnf); repeat (first | (refine And.intro DrawOk.go ?_; conv => whnf) | (refine And.intro rfl ?_; conv => whnf) | (refine And.intro (fun _ => ?_) (fun h => Bool.noConfusion h); conv => whnf) | (refine And.intro (fun h => Bool.noConfusion h) (fun _ => ?_); conv => whnf))
    rfl
  · rw [if_neg hq]
    refine funP_of_vc tabOk mixOk Try.func67 rfl (by rfl) (rs := [.cell 6 121]) rfl rfl rfl rfl rfl 26 ?_; rw [Try.ntmps67]
    (conv => whnf); repeat (first | (refine And.intro DrawOk.go ?_; conv => whnf) | (refine And.intro rfl ?_; conv => whnf) | (refine And.intro (fun _ => ?_) (fun h => Bool.noConfusion h); conv => whnf) | (refine And.intro (fun h => Bool.noConfusion h) (fun _ => ?_); conv => whnf))
    refine ⟨_, _, n1, ?_⟩
    (conv => whnf); repeat (first | (refine And.intro DrawOk.go ?_; conv => whnf) | (refine And.intro rfl ?_; conv => whnf) | (refine And.intro (fun _ => ?_) (fun h => Bool.noConfusion h); conv => whnf) | (refine And.intro (fun h => Bool.noConfusion h) (fun _ => ?_); conv => whnf))
    refine ⟨_, _, n2, ?_⟩
    (conv => whnf); repeat (first | (refine And.intro DrawOk.go ?_; conv => whnf) | (refine And.intro rfl ?_; conv => whnf) | (refine And.intro (fun _ => ?_) (fun h => Bool.noConfusion h); conv => whnf) | (refine And.intro (fun h => Bool.noConfusion h) (fun _ => ?_); conv => whnf))
    refine ⟨_, _, hv, ?_⟩
    (conv => whnf); repeat (first | (refine And.intro DrawOk.go ?_; conv => whnf) | (refine And.intro rfl ?_; conv => whnf) | (refine And.intro (fun _ => ?_) (fun h => Bool.noConfusion h); conv => whnf) | (refine And.intro (fun h => Bool.noConfusion h) (fun _ => ?_); conv => whnf))
    refine ⟨_, _, n3, ?_⟩
    (conv => whnf); repeat (first | (refine And.intro DrawOk.go ?_; conv => whnf) | (refine And.intro rfl ?_; conv => whnf) | (refine And.intro (fun _ => ?_) (fun h => Bool.noConfusion h); conv => whnf) | (refine And.intro (fun h => Bool.noConfusion h) (fun _ => ?_); conv => whnf))
    refine And.intro (fun h => absurd (by simpa using h) hq) (fun _ => ?_)
    (conv => whnf); repeat (first | (refine And.intro DrawOk.go ?_; conv => whnf) | (refine And.intro rfl ?_; conv => whnf) | (refine And.intro (fun _ => ?_) (fun h => Bool.noConfusion h); conv => whnf) | (refine And.intro (fun h => Bool.noConfusion h) (fun _ => ?_); conv => whnf))
    rfl
theorem mkRec_ok {L : List Int} {k : Nat} {n v : Int} (hn : 1 ≤ n ∧ n ≤ 4294967295) (hv : 0 ≤ v ∧ v ≤ 1099511627776) : rchk (mkRec L k n v) = 0 ∧ (mkRec L k n v).m = 0 ∧ (mkRec L k n v).k ≤ 2 := by
  have hb := dval_in L k (n := n) (by omega) (by omega)
  have hsz := vval_size (dval L (dnx L k) 200)
  unfold mkRec
  split
  · refine ⟨?_, rfl, by dsimp only; omega⟩
    unfold rchk
    dsimp only
    rw [if_neg (by omega), if_neg (by omega), if_neg (by rw [show ByteArray.empty.size = 0 from rfl]; omega)]
  · refine ⟨?_, rfl, by dsimp only; omega⟩
    unfold rchk
    dsimp only
    rw [if_neg (by omega), if_neg (by omega), if_neg (by rw [hsz]; omega)]
def bI (l : List UInt8) : List Int := l.map fun b => (b.toNat : Int)
theorem sBytes_eq (s : ByteArray) : sBytes s = cVb (bI (sL s)) := by simp [sBytes, cVb, bI, sL]
theorem bI_len (l : List UInt8) : (bI l).length = l.length := by simp [bI]
/-- A byte of a list is changed. -/
def setX (l : List UInt8) (k d : Nat) : List UInt8 := l.set k (UInt8.ofNat ((l.getD k 0).toNat ^^^ d))
theorem setX_len (l : List UInt8) (k d : Nat) : (setX l k d).length = l.length := by simp [setX]
theorem xor_lt {x d : Nat} (hx : x < 256) (hd : d < 256) : x ^^^ d < 256 := Nat.xor_lt_two_pow (n := 8) hx hd
def sflip (s : ByteArray) (i b : Int) : ByteArray := sS (setX (sL s) (dmod i s.size).toNat (2 ^ (dmod b 8).toNat))
theorem u8_xor {x d : Nat} (hx : x < 256) (hd : d < 256) : IntKind.u8.wrap ((BitVec.ofInt IntKind.u8.bits (x : Int) ^^^ BitVec.ofInt IntKind.u8.bits (d : Int)).toNat : Int) = ((x ^^^ d : Nat) : Int) := by
  have h := xor_lt hx hd
  have e : (BitVec.ofInt IntKind.u8.bits (x : Int) ^^^ BitVec.ofInt IntKind.u8.bits (d : Int)).toNat = x ^^^ d := by
    rw [BitVec.toNat_xor, BitVec.toNat_ofInt, BitVec.toNat_ofInt]
    have e1 : ((x : Int) % ((2 ^ IntKind.u8.bits : Nat) : Int)).toNat = x := by
      show ((x : Int) % 256).toNat = x
      omega
    have e2 : ((d : Int) % ((2 ^ IntKind.u8.bits : Nat) : Int)).toNat = d := by
      show ((d : Int) % 256).toNat = d
      omega
    rw [e1, e2]
  rw [e]
  generalize x ^^^ d = y at h
  simp [IntKind.wrap, IntKind.signed, IntKind.bits]
  omega
theorem bytes_set (l : List UInt8) (k : Nat) (x : Int) : (cVb (bI l)).set k [.sc (.int .u8 x)] = cVb ((bI l).set k x) := by simp [cVb, List.map_set]
theorem bytes_setX {l : List UInt8} {k d : Nat} (hk : k < l.length) : bytesStr ((bI l).set k ((l[k].toNat ^^^ d : Nat) : Int)) = sS (setX l k d) := by
  unfold bytesStr sS setX bI
  rw [List.map_set, List.map_map, List.getD_eq_getElem?_getD, List.getElem?_eq_getElem hk]
  congr 3
  exact (List.map_congr_left (fun x _ => by simp)).trans (List.map_id _)
end Go.Proofs.Ytijajfldpaadnaa.Ab
