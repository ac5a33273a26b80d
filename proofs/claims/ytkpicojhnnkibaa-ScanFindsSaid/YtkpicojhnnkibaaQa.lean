/- Records as bytes: what a sector holds, in plain words. -/
import Derived.Test.YtkpicojhnnkibaaBe
import Derived.Test.YtkpicojhnnkibaaZd
namespace Go.Proofs.Ytkpicojhnnkibaa.Ab
set_option linter.unusedVariables false
set_option linter.unusedSimpArgs false
open Go.RowKit

structure Rec where
  k : Int
  b : Int
  v : Int
  m : Int
  p : ByteArray
def r0 : Rec := ⟨0, 0, 0, 0, ByteArray.empty⟩
def recV (k b v m : Int) (p : ByteArray) : AV := .agg [.i (.sc (.int .i64 k)), .i (.sc (.int .i64 b)), .i (.sc (.int .i64 v)), .i (.sc (.int .i64 m)), .i (.sc (.string p))]
def rV (r : Rec) : AV := recV r.k r.b r.v r.m r.p
def u32V (n : Nat) : AV := .c (.i (.sc (.int .u32 n)))
/-- The first error of a record. -/
def rchk (r : Rec) : Int :=
  if r.k < 1 ∨ r.k > 6 then 3
  else if r.b < 0 ∨ r.b > 4294967295 ∨ r.v < 0 ∨ r.v > 1099511627776 ∨ r.m < 0 ∨ r.m > 255 then 1
  else if r.p.size > 20 ∨ (r.k = 1 ∧ r.p.size ≠ 16) ∨ (r.k = 2 ∧ r.p.size ≠ 0) then 2 else 0
theorem rchk_ok {r : Rec} (h : rchk r = 0) : (1 ≤ r.k ∧ r.k ≤ 6) ∧ (0 ≤ r.b ∧ r.b ≤ 4294967295) ∧ (0 ≤ r.v ∧ r.v ≤ 1099511627776) ∧ (0 ≤ r.m ∧ r.m ≤ 255) ∧ r.p.size ≤ 20 ∧ (r.k = 1 → r.p.size = 16) ∧ (r.k = 2 → r.p.size = 0) := by
  unfold rchk at h
  repeat' split at h
  all_goals first | (cases h; done) | skip
  omega
def crcN (l : List UInt8) : Nat := Crc.add crcP crcO 0 (l.map UInt8.toNat)
theorem crcN_lt (l : List UInt8) : crcN l < 4294967296 := add_lt 0 (sS l) (by decide)
/-- The bytes of a record ahead of its sum. -/
def bodyL (r : Rec) : List UInt8 :=
  [90, 65] ++ (putB r.k.toNat 1 ++ (putB r.p.size 1 ++ (putB r.b.toNat 4 ++ (putB r.v.toNat 6 ++ (putB r.m.toNat 1 ++ ([0] ++ (sL r.p ++ List.replicate (20 - r.p.size) 0)))))))
def sealL (l : List UInt8) : List UInt8 := l ++ putB (crcN l) 4
def encL (r : Rec) : List UInt8 := sealL (bodyL r)
theorem body_len {r : Rec} (h : r.p.size ≤ 20) : (bodyL r).length = 36 := by
  simp only [bodyL, List.length_append, List.length_cons, List.length_nil, putB_len, sL_len, List.length_replicate]
  omega
theorem seal_len (l : List UInt8) : (sealL l).length = l.length + 4 := by rw [sealL, List.length_append, putB_len]
theorem enc_len {r : Rec} (h : r.p.size ≤ 20) : (encL r).length = 40 := by rw [encL, seal_len, body_len h]
def renc (r : Rec) : ByteArray × Int := if rchk r = 0 then (sS (encL r), 0) else (ByteArray.empty, rchk r)

/-- The record that a sector may hold. -/
def candL (l : List UInt8) : Rec := ⟨getN ((l.drop 2).take 1), getN ((l.drop 4).take 4), getN ((l.drop 8).take 6), getN ((l.drop 14).take 1), sS ((l.take (16 + min (getN ((l.drop 3).take 1)) 20)).drop 16)⟩
def rdec (s : ByteArray) : Rec × Int :=
  if s.size ≠ 40 then (r0, 2)
  else if getN (((sL s).drop 36).take 4) ≠ crcN ((sL s).take 36) then (r0, 4)
  else if rchk (candL (sL s)) = 0 ∧ encL (candL (sL s)) = sL s then (candL (sL s), 0) else (r0, 3)
theorem get1 {l : List UInt8} {i : Nat} (h : i < l.length) : getN ((l.drop i).take 1) = l[i].toNat := by
  rw [List.drop_eq_getElem_cons h, List.take_succ_cons, List.take_zero, getN, getN]
  omega
theorem cand_size {l : List UInt8} (h : l.length = 40) : (candL l).p.size = min (getN ((l.drop 3).take 1)) 20 := by
  show (sS _).size = _
  rw [sS_size, List.length_drop, List.length_take, h]
  omega
/-- The byte that says how long the payload is. -/
theorem enc_byte3 (r : Rec) : (encL r)[3]? = some (UInt8.ofNat r.p.size) := by
  simp only [encL, sealL, bodyL, putB_succ, show ∀ n, putB n 0 = [] from fun _ => rfl, List.cons_append, List.nil_append]
  rfl
theorem enc_long {l : List UInt8} (h : l.length = 40) (h3 : getN ((l.drop 3).take 1) > 20) : encL (candL l) ≠ l := by
  intro e
  have h1 := enc_byte3 (candL l)
  rw [e, cand_size h, Nat.min_eq_right (by omega), List.getElem?_eq_getElem (by omega)] at h1
  rw [get1 (by omega)] at h3
  injection h1 with h1
  rw [h1] at h3
  revert h3
  decide
def rcopy (r : Rec) : Rec × Bool := if rchk r = 0 ∧ r.k ≤ 2 then (⟨r.k, r.b, r.v, min (r.m + 1) 255, r.p⟩, true) else (r0, false)
theorem rec_of {d : Nat} {e : List IV} (h : ShI tab (d + 1 + 1) 27 e) : ∃ (k b v m : Int) (p : ByteArray), e = [.sc (.int .i64 k), .sc (.int .i64 b), .sc (.int .i64 v), .sc (.int .i64 m), .sc (.string p)] ∧ p.size ≤ maxLen ∧ (Lit.int .i64 m).wf = true := by
  obtain ⟨_, _, rfl, ⟨a, rfl, _⟩, _, _, rfl, ⟨b, rfl, _⟩, _, _, rfl, ⟨c, rfl, _⟩, _, _, rfl, ⟨x, rfl, hx⟩, _, _, rfl, ⟨s, rfl, hs⟩, rfl⟩ := h
  exact ⟨a, b, c, x, s, rfl, hs, hx⟩
theorem sumF (s : ByteArray) (hs : s.size ≤ 1000000) : Fun Try.prog 77 [strV s] [] (.v (u32V (crcN (sL s)))) :=
  fun_of_calls (args := [.string s]) (v := .int .u32 (crcN (sL s))) ⟨_, Try.func77, rfl, by rfl⟩ rfl (fun w => sum_any s w (by unfold maxLen; omega))
theorem sumF' (s : ByteArray) (hs : s.size ≤ 1000000) : Fun Try.prog 81 [strV s] [] (.v (u32V (crcN (sL s)))) :=
  fun_of_calls (args := [.string s]) (v := .int .u32 (crcN (sL s))) ⟨_, Try.func81, rfl, by rfl⟩ rfl (fun w => (refSum_any s w (by unfold maxLen; omega)).mono (by rintro e w' ⟨rfl, rfl⟩; exact ⟨rfl, Below.refl _ _⟩))
end Go.Proofs.Ytkpicojhnnkibaa.Ab
