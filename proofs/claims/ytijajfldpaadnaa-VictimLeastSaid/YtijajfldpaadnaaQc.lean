/- Records as bytes: the document's Encode; Copy of both. -/
import Derived.Test.YtijajfldpaadnaaBe
import Derived.Test.YtijajfldpaadnaaZd
namespace Go.Proofs.Ytijajfldpaadnaa.Ab
set_option linter.unusedVariables false
set_option linter.unusedSimpArgs false
open Go.RowKit

structure Rec where
  k : Int
  b : Int
  v : Int
  m : Int
  p : ByteArray
def r0 : Rec := ⟨0, 0, 0, 0, ByteArray.empty⟩
def recV (k b v m : Int) (p : ByteArray) : AV := .agg [.i (.sc (.int .i64 k)), .i (.sc (.int .i64 b)), .i (.sc (.int .i64 v)), .i (.sc (.int .i64 m)), .i (.sc (.string p))]
def rV (r : Rec) : AV := recV r.k r.b r.v r.m r.p
def u32V (n : Nat) : AV := .c (.i (.sc (.int .u32 n)))
/-- The first error of a record. -/
def rchk (r : Rec) : Int :=
  if r.k < 1 ∨ r.k > 6 then 3
  else if r.b < 0 ∨ r.b > 4294967295 ∨ r.v < 0 ∨ r.v > 1099511627776 ∨ r.m < 0 ∨ r.m > 255 then 1
  else if r.p.size > 20 ∨ (r.k = 1 ∧ r.p.size ≠ 16) ∨ (r.k = 2 ∧ r.p.size ≠ 0) then 2 else 0
theorem rchk_ok {r : Rec} (h : rchk r = 0) : (1 ≤ r.k ∧ r.k ≤ 6) ∧ (0 ≤ r.b ∧ r.b ≤ 4294967295) ∧ (0 ≤ r.v ∧ r.v ≤ 1099511627776) ∧ (0 ≤ r.m ∧ r.m ≤ 255) ∧ r.p.size ≤ 20 ∧ (r.k = 1 → r.p.size = 16) ∧ (r.k = 2 → r.p.size = 0) := by
  unfold rchk at h
  repeat' split at h
  all_goals first | (cases h; done) | skip
  omega
def crcN (l : List UInt8) : Nat := Crc.add crcP crcO 0 (l.map UInt8.toNat)
theorem crcN_lt (l : List UInt8) : crcN l < 4294967296 := add_lt 0 (sS l) (by decide)
/-- The bytes of a record ahead of its sum. -/
def bodyL (r : Rec) : List UInt8 :=
  [90, 65] ++ (putB r.k.toNat 1 ++ (putB r.p.size 1 ++ (putB r.b.toNat 4 ++ (putB r.v.toNat 6 ++ (putB r.m.toNat 1 ++ ([0] ++ (sL r.p ++ List.replicate (20 - r.p.size) 0)))))))
def sealL (l : List UInt8) : List UInt8 := l ++ putB (crcN l) 4
def encL (r : Rec) : List UInt8 := sealL (bodyL r)
theorem body_len {r : Rec} (h : r.p.size ≤ 20) : (bodyL r).length = 36 := by
  simp only [bodyL, List.length_append, List.length_cons, List.length_nil, putB_len, sL_len, List.length_replicate]
  omega
theorem seal_len (l : List UInt8) : (sealL l).length = l.length + 4 := by rw [sealL, List.length_append, putB_len]
theorem enc_len {r : Rec} (h : r.p.size ≤ 20) : (encL r).length = 40 := by rw [encL, seal_len, body_len h]
def renc (r : Rec) : ByteArray × Int := if rchk r = 0 then (sS (encL r), 0) else (ByteArray.empty, rchk r)

/-- The record that a sector may hold. -/
def candL (l : List UInt8) : Rec := ⟨getN ((l.drop 2).take 1), getN ((l.drop 4).take 4), getN ((l.drop 8).take 6), getN ((l.drop 14).take 1), sS ((l.take (16 + min (getN ((l.drop 3).take 1)) 20)).drop 16)⟩
def rdec (s : ByteArray) : Rec × Int :=
  if s.size ≠ 40 then (r0, 2)
  else if getN (((sL s).drop 36).take 4) ≠ crcN ((sL s).take 36) then (r0, 4)
  else if rchk (candL (sL s)) = 0 ∧ encL (candL (sL s)) = sL s then (candL (sL s), 0) else (r0, 3)
theorem get1 {l : List UInt8} {i : Nat} (h : i < l.length) : getN ((l.drop i).take 1) = l[i].toNat := by
  rw [List.drop_eq_getElem_cons h, List.take_succ_cons, List.take_zero, getN, getN]
  omega
theorem cand_size {l : List UInt8} (h : l.length = 40) : (candL l).p.size = min (getN ((l.drop 3).take 1)) 20 := by
  show (sS _).size = _
  rw [sS_size, List.length_drop, List.length_take, h]
  omega
/-- The byte that says how long the payload is. -/
theorem enc_byte3 (r : Rec) : (encL r)[3]? = some (UInt8.ofNat r.p.size) := by
  simp only [encL, sealL, bodyL, putB_succ, show ∀ n, putB n 0 = [] from fun _ => rfl, List.cons_append, List.nil_append]
  rfl
theorem enc_long {l : List UInt8} (h : l.length = 40) (h3 : getN ((l.drop 3).take 1) > 20) : encL (candL l) ≠ l := by
  intro e
  have h1 := enc_byte3 (candL l)
  rw [e, cand_size h, Nat.min_eq_right (by omega), List.getElem?_eq_getElem (by omega)] at h1
  rw [get1 (by omega)] at h3
  injection h1 with h1
  rw [h1] at h3
  revert h3
  decide
def rcopy (r : Rec) : Rec × Bool := if rchk r = 0 ∧ r.k ≤ 2 then (⟨r.k, r.b, r.v, min (r.m + 1) 255, r.p⟩, true) else (r0, false)
theorem rec_of {d : Nat} {e : List IV} (h : ShI tab (d + 1 + 1) 121 e) : ∃ (k b v m : Int) (p : ByteArray), e = [.sc (.int .i64 k), .sc (.int .i64 b), .sc (.int .i64 v), .sc (.int .i64 m), .sc (.string p)] ∧ p.size ≤ maxLen ∧ (Lit.int .i64 m).wf = true := by
  obtain ⟨_, _, rfl, ⟨a, rfl, _⟩, _, _, rfl, ⟨b, rfl, _⟩, _, _, rfl, ⟨c, rfl, _⟩, _, _, rfl, ⟨x, rfl, hx⟩, _, _, rfl, ⟨s, rfl, hs⟩, rfl⟩ := h
  exact ⟨a, b, c, x, s, rfl, hs, hx⟩
theorem sumF' (s : ByteArray) (hs : s.size ≤ 1000000) : Fun Try.prog 146 [strV s] [] (.v (u32V (crcN (sL s)))) :=
  fun_of_calls (args := [.string s]) (v := .int .u32 (crcN (sL s))) ⟨_, Try.func146, rfl, by rfl⟩ rfl (fun w => (refSum_any s w (by unfold maxLen; omega)).mono (by rintro e w' ⟨rfl, rfl⟩; exact ⟨rfl, Below.refl _ _⟩))
end Go.Proofs.Ytijajfldpaadnaa.Ab
namespace Go.Proofs.Ytijajfldpaadnaa.Ab
set_option linter.unusedVariables false
set_option linter.unusedSimpArgs false
open Go.RowKit

set_option maxRecDepth 100000 in
set_option maxHeartbeats 16000000 in
theorem rchkF' (k b v m : Int) (p : ByteArray) : Fun Try.prog 136 [recV k b v m p] [] (.v (i64V (rchk ⟨k, b, v, m, p⟩))) := by
  have he : p = ByteArray.empty ↔ p.size = 0 := by simp
  have he2 : p.toList = [] ↔ p.size = 0 := by rw [Lib.toList_data, Lib.size_eq]; exact List.length_eq_zero_iff.symm
  refine fun_of_vc tabOk mixOk Try.func136 rfl (by rfl) (rs := [.tmp 2]) rfl rfl 71 ?_; rw [Try.ntmps136]
  (conv => whnf); repeat (first | (refine And.intro DrawOk.go ?_; conv => whnf) | (refine And.intro rfl ?_; conv => whnf) | (refine And.intro (fun _ => ?_) (fun h => Bool.noConfusion h); conv => whnf) | (refine And.intro (fun h => Bool.noConfusion h) (fun _ => ?_); conv => whnf))
  repeat' (first | ((refine And.intro (fun h => ?_) (fun h => ?_)) <;> (try simp at h) <;> ((conv => whnf); repeat (first | (refine And.intro DrawOk.go ?_; conv => whnf) | (refine And.intro rfl ?_; conv => whnf) | (refine And.intro (fun _ => ?_) (fun h => Bool.noConfusion h); conv => whnf) | (refine And.intro (fun h => Bool.noConfusion h) (fun _ => ?_); conv => whnf)))) | fail)
  all_goals (refine Exists.intro [] (And.intro List.nodup_nil ?_); ((conv => whnf); repeat (first | (refine And.intro DrawOk.go ?_; conv => whnf) | (refine And.intro rfl ?_; conv => whnf) | (refine And.intro (fun _ => ?_) (fun h => Bool.noConfusion h); conv => whnf) | (refine And.intro (fun h => Bool.noConfusion h) (fun _ => ?_); conv => whnf))))
  all_goals (refine congrArg (fun n => AT.v (i64V n)) ?_)
  all_goals (unfold rchk; dsimp only)
  all_goals (repeat' split)
  all_goals (first | rfl | omega | (simp only [he, he2] at *; omega))
set_option maxRecDepth 100000 in
set_option maxHeartbeats 4000000 in
theorem numF' (n size : Int) : Fun Try.prog 137 [i64V n, i64V size] [] (.v (strV (sput n size).1)) := by
  refine fun_of_vc tabOk mixOk Try.func137 rfl (by rfl) (rs := [.tmp 4]) rfl rfl 18 ?_; rw [Try.ntmps137]
  (conv => whnf); repeat (first | (refine And.intro DrawOk.go ?_; conv => whnf) | (refine And.intro rfl ?_; conv => whnf) | (refine And.intro (fun _ => ?_) (fun h => Bool.noConfusion h); conv => whnf) | (refine And.intro (fun h => Bool.noConfusion h) (fun _ => ?_); conv => whnf))
  refine ⟨_, _, putF' n size, ?_⟩
  (conv => whnf); repeat (first | (refine And.intro DrawOk.go ?_; conv => whnf) | (refine And.intro rfl ?_; conv => whnf) | (refine And.intro (fun _ => ?_) (fun h => Bool.noConfusion h); conv => whnf) | (refine And.intro (fun h => Bool.noConfusion h) (fun _ => ?_); conv => whnf))
  refine Exists.intro [] (And.intro List.nodup_nil ?_); ((conv => whnf); repeat (first | (refine And.intro DrawOk.go ?_; conv => whnf) | (refine And.intro rfl ?_; conv => whnf) | (refine And.intro (fun _ => ?_) (fun h => Bool.noConfusion h); conv => whnf) | (refine And.intro (fun h => Bool.noConfusion h) (fun _ => ?_); conv => whnf)))
  rfl
theorem num_nat {n k : Nat} (h1 : 1 ≤ k) (h7 : k ≤ 7) (hn : n < 256 ^ k) : (sput (n : Int) (k : Int)).1 = sS (putB n k) := by rw [sput_yes h1 h7 hn]
theorem spad20 {p : ByteArray} (h : p.size ≤ 20) : spad p 20 = sS (sL p ++ List.replicate (20 - p.size) 0) := by
  rcases Nat.lt_or_ge p.size 20 with hlt | hge
  · unfold spad
    rw [if_neg (by omega)]
    congr 3
    omega
  · have : p.size = 20 := by omega
    rw [spad_small (by omega), this, List.replicate_zero, List.append_nil]
    exact (sS_L p).symm
theorem cat8 (r : Rec) (h : r.p.size ≤ 20) : catS [⟨#[90, 65]⟩, sS (putB r.k.toNat 1), sS (putB r.p.size 1), sS (putB r.b.toNat 4), sS (putB r.v.toNat 6), sS (putB r.m.toNat 1), ⟨#[0]⟩, spad r.p 20] = sS (bodyL r) := by
  rw [spad20 h]
  simp only [catS, List.map_cons, List.map_nil, List.flatten_cons, List.flatten_nil, List.append_nil, sL_S, bodyL]
  rfl
theorem crc_i64 (l : List UInt8) : iwrap .i64 (crcN l : Int) = (crcN l : Int) := by
  have := crcN_lt l
  exact w64_in (by omega)
theorem crc_put (l : List UInt8) : (sput (crcN l : Int) 4).1 = sS (putB (crcN l) 4) := num_nat (k := 4) (by decide) (by decide) (Nat.lt_of_lt_of_le (crcN_lt l) (by decide))
theorem nums {r : Rec} (h : rchk r = 0) : (sput r.k 1).1 = sS (putB r.k.toNat 1) ∧ (sput (r.p.size : Int) 1).1 = sS (putB r.p.size 1) ∧ (sput r.b 4).1 = sS (putB r.b.toNat 4) ∧ (sput r.v 6).1 = sS (putB r.v.toNat 6) ∧ (sput r.m 1).1 = sS (putB r.m.toNat 1) := by
  obtain ⟨h1, h2, h3, h4, h5, _⟩ := rchk_ok h
  have e : ∀ {x : Int}, 0 ≤ x → x = ((x.toNat : Nat) : Int) := fun hx => (Int.toNat_of_nonneg hx).symm
  refine ⟨?_, ?_, ?_, ?_, ?_⟩
  · conv => lhs; rw [e (show 0 ≤ r.k by omega)]
    exact num_nat (k := 1) (by decide) (by decide) (by omega)
  · exact num_nat (k := 1) (by decide) (by decide) (by omega)
  · conv => lhs; rw [e (show 0 ≤ r.b by omega)]
    exact num_nat (k := 4) (by decide) (by decide) (by omega)
  · conv => lhs; rw [e (show 0 ≤ r.v by omega)]
    exact num_nat (k := 6) (by decide) (by decide) (by omega)
  · conv => lhs; rw [e (show 0 ≤ r.m by omega)]
    exact num_nat (k := 1) (by decide) (by decide) (by omega)
theorem renc_yes {r : Rec} (h : rchk r = 0) : renc r = (sS (encL r), 0) := by unfold renc; rw [if_pos h]
theorem renc_no {r : Rec} (h : rchk r ≠ 0) : renc r = (ByteArray.empty, rchk r) := by unfold renc; rw [if_neg h]
end Go.Proofs.Ytijajfldpaadnaa.Ab
namespace Go.Proofs.Ytijajfldpaadnaa.Ab
set_option linter.unusedVariables false
set_option linter.unusedSimpArgs false
open Go.RowKit

theorem size_append (a b : ByteArray) : (a ++ b).size = a.size + b.size := by rw [← sL_len, sL_append, List.length_append, sL_len, sL_len]
set_option maxRecDepth 100000 in
set_option maxHeartbeats 16000000 in
theorem sealF' (s : ByteArray) (hs : s.size ≤ 1000) : Fun Try.prog 139 [strV s] [] (.v (strV (sS (sealL (sL s))))) := by
  have hsum := sumF' s (by omega)
  have hn := numF' (crcN (sL s)) 4
  rw [crc_put] at hn
  have hw := crc_i64 (sL s)
  have e : sS (sealL (sL s)) = s ++ sS (putB (crcN (sL s)) 4) := by rw [sealL, ← sS_append]; rfl
  rw [e]
  have hsz : s.size + (sS (putB (crcN (sL s)) 4)).size ≤ 9223372036854775807 := by rw [sS_size, putB_len]; omega
  generalize crcN (sL s) = C at hsum hn hw hsz ⊢
  refine fun_of_vc tabOk mixOk Try.func139 rfl (by rfl) (rs := [.tmp 2]) rfl rfl 13 ?_; rw [Try.ntmps139]
  (conv => whnf); repeat (first | (refine And.intro DrawOk.go ?_; conv => whnf) | (refine And.intro rfl ?_; conv => whnf) | (refine And.intro (fun _ => ?_) (fun h => Bool.noConfusion h); conv => whnf) | (refine And.intro (fun h => Bool.noConfusion h) (fun _ => ?_); conv => whnf))
  refine ⟨_, _, hsum, ?_⟩
  (conv => whnf); repeat (first | (refine And.intro DrawOk.go ?_; conv => whnf) | (refine And.intro rfl ?_; conv => whnf) | (refine And.intro (fun _ => ?_) (fun h => Bool.noConfusion h); conv => whnf) | (refine And.intro (fun h => Bool.noConfusion h) (fun _ => ?_); conv => whnf))
  rw [hw]
  refine ⟨_, _, hn, ?_⟩
  (conv => whnf); repeat (first | (refine And.intro DrawOk.go ?_; conv => whnf) | (refine And.intro rfl ?_; conv => whnf) | (refine And.intro (fun _ => ?_) (fun h => Bool.noConfusion h); conv => whnf) | (refine And.intro (fun h => Bool.noConfusion h) (fun _ => ?_); conv => whnf))
  refine ⟨hsz, ?_⟩
  (conv => whnf); repeat (first | (refine And.intro DrawOk.go ?_; conv => whnf) | (refine And.intro rfl ?_; conv => whnf) | (refine And.intro (fun _ => ?_) (fun h => Bool.noConfusion h); conv => whnf) | (refine And.intro (fun h => Bool.noConfusion h) (fun _ => ?_); conv => whnf))
  refine Exists.intro [] (And.intro List.nodup_nil ?_); ((conv => whnf); repeat (first | (refine And.intro DrawOk.go ?_; conv => whnf) | (refine And.intro rfl ?_; conv => whnf) | (refine And.intro (fun _ => ?_) (fun h => Bool.noConfusion h); conv => whnf) | (refine And.intro (fun h => Bool.noConfusion h) (fun _ => ?_); conv => whnf)))
  rfl
theorem plus8 (r : Rec) (h : r.p.size ≤ 20) : sL (⟨#[90, 65]⟩ ++ sS (putB r.k.toNat 1) ++ sS (putB r.p.size 1) ++ sS (putB r.b.toNat 4) ++ sS (putB r.v.toNat 6) ++ sS (putB r.m.toNat 1) ++ ⟨#[0]⟩ ++ spad r.p 20) = bodyL r := by
  rw [spad20 h]
  simp only [sL_append, sL_S, bodyL, List.append_assoc]
  rfl
theorem spad20_size {p : ByteArray} (h : p.size ≤ 20) : (spad p 20).size = 20 := by
  rw [spad20 h, sS_size, List.length_append, sL_len, List.length_replicate]; omega
set_option maxRecDepth 100000 in
set_option maxHeartbeats 16000000 in
theorem rencF' (k b v m : Int) (p : ByteArray) : Fun Try.prog 113 [recV k b v m p] [] (.tup [strV (renc ⟨k, b, v, m, p⟩).1, i64V (renc ⟨k, b, v, m, p⟩).2]) := by
  have hc := rchkF' k b v m p
  by_cases h0 : rchk ⟨k, b, v, m, p⟩ = 0
  · rw [renc_yes h0]
    rw [h0] at hc
    obtain ⟨q1, q2, q3, q4, q5⟩ := nums h0
    have h20 := (rchk_ok h0).2.2.2.2.1
    have hcat := plus8 ⟨k, b, v, m, p⟩ h20
    have n1 := numF' k 1
    have n2 := numF' p.size 1
    have n3 := numF' b 4
    have n4 := numF' v 6
    have n5 := numF' m 1
    rw [q1] at n1
    rw [q2] at n2
    rw [q3] at n3
    rw [q4] at n4
    rw [q5] at n5
    dsimp only at n1 n2 n3 n4 n5 hcat h20
    have hpad := padF' p 20 (by omega) (by decide)
    have s1 : (sS (putB k.toNat 1)).size = 1 := by rw [sS_size, putB_len]
    have s2 : (sS (putB p.size 1)).size = 1 := by rw [sS_size, putB_len]
    have s3 : (sS (putB b.toNat 4)).size = 4 := by rw [sS_size, putB_len]
    have s4 : (sS (putB v.toNat 6)).size = 6 := by rw [sS_size, putB_len]
    have s5 : (sS (putB m.toNat 1)).size = 1 := by rw [sS_size, putB_len]
    have s6 := spad20_size h20
    have s7 : (⟨#[90, 65]⟩ : ByteArray).size = 2 := rfl
    have s8 : (⟨#[0]⟩ : ByteArray).size = 1 := rfl
    have he : encL ⟨k, b, v, m, p⟩ = sealL (bodyL ⟨k, b, v, m, p⟩) := rfl
    rw [← hcat] at he
    generalize sS (putB k.toNat 1) = S1 at *
    generalize sS (putB p.size 1) = S2 at *
    generalize sS (putB b.toNat 4) = S3 at *
    generalize sS (putB v.toNat 6) = S4 at *
    generalize sS (putB m.toNat 1) = S5 at *
    generalize spad p 20 = S6 at *
    have hseal := sealF' (⟨#[90, 65]⟩ ++ S1 ++ S2 ++ S3 ++ S4 ++ S5 ++ ⟨#[0]⟩ ++ S6) (by simp only [size_append, s1, s2, s3, s4, s5, s6, s7, s8]; decide)
    rw [← he] at hseal
    clear he hcat q1 q2 q3 q4 q5 h0
    have z1 : (⟨#[90, 65]⟩ : ByteArray).size + S1.size ≤ 9223372036854775807 := by simp only [size_append, s1, s2, s3, s4, s5, s6, s7, s8]; decide
    have z2 : (⟨#[90, 65]⟩ ++ S1).size + S2.size ≤ 9223372036854775807 := by simp only [size_append, s1, s2, s3, s4, s5, s6, s7, s8]; decide
    have z3 : (⟨#[90, 65]⟩ ++ S1 ++ S2).size + S3.size ≤ 9223372036854775807 := by simp only [size_append, s1, s2, s3, s4, s5, s6, s7, s8]; decide
    have z4 : (⟨#[90, 65]⟩ ++ S1 ++ S2 ++ S3).size + S4.size ≤ 9223372036854775807 := by simp only [size_append, s1, s2, s3, s4, s5, s6, s7, s8]; decide
    have z5 : (⟨#[90, 65]⟩ ++ S1 ++ S2 ++ S3 ++ S4).size + S5.size ≤ 9223372036854775807 := by simp only [size_append, s1, s2, s3, s4, s5, s6, s7, s8]; decide
    have z6 : (⟨#[90, 65]⟩ ++ S1 ++ S2 ++ S3 ++ S4 ++ S5).size + (⟨#[0]⟩ : ByteArray).size ≤ 9223372036854775807 := by simp only [size_append, s1, s2, s3, s4, s5, s6, s7, s8]; decide
    have z7 : (⟨#[90, 65]⟩ ++ S1 ++ S2 ++ S3 ++ S4 ++ S5 ++ ⟨#[0]⟩).size + S6.size ≤ 9223372036854775807 := by simp only [size_append, s1, s2, s3, s4, s5, s6, s7, s8]; decide
    refine fun_of_vc tabOk mixOk Try.func113 rfl (by rfl) (rs := [.tmp 2, .tmp 3]) rfl rfl 43 ?_; rw [Try.ntmps113]
    (conv => whnf); repeat (first | (refine And.intro DrawOk.go ?_; conv => whnf) | (refine And.intro rfl ?_; conv => whnf) | (refine And.intro (fun _ => ?_) (fun h => Bool.noConfusion h); conv => whnf) | (refine And.intro (fun h => Bool.noConfusion h) (fun _ => ?_); conv => whnf))
    refine ⟨_, _, hc, ?_⟩
    (conv => whnf); repeat (first | (refine And.intro DrawOk.go ?_; conv => whnf) | (refine And.intro rfl ?_; conv => whnf) | (refine And.intro (fun _ => ?_) (fun h => Bool.noConfusion h); conv => whnf) | (refine And.intro (fun h => Bool.noConfusion h) (fun _ => ?_); conv => whnf))
    repeat' (first | ((refine And.intro (fun h => ?_) (fun h => ?_)) <;> (try simp at h) <;> ((conv => whnf); repeat (first | (refine And.intro DrawOk.go ?_; conv => whnf) | (refine And.intro rfl ?_; conv => whnf) | (refine And.intro (fun _ => ?_) (fun h => Bool.noConfusion h); conv => whnf) | (refine And.intro (fun h => Bool.noConfusion h) (fun _ => ?_); conv => whnf)))) | (refine ⟨_, _, n1, ?_⟩; ((conv => whnf); repeat (first | (refine And.intro DrawOk.go ?_; conv => whnf) | (refine And.intro rfl ?_; conv => whnf) | (refine And.intro (fun _ => ?_) (fun h => Bool.noConfusion h); conv => whnf) | (refine And.intro (fun h => Bool.noConfusion h) (fun _ => ?_); conv => whnf)))) | (refine ⟨_, _, n2, ?_⟩; ((conv => whnf); repeat (first | (refine And.intro DrawOk.go ?_; conv => whnf) | (refine And.intro rfl ?_; conv => whnf) | (refine And.intro (fun _ => ?_) (fun h => Bool.noConfusion h); conv => whnf) | (refine And.intro (fun h => Bool.noConfusion h) (fun _ => ?_); conv => whnf)))) | (refine ⟨_, _, n3, ?_⟩; ((conv => whnf); repeat (first | (refine And.intro DrawOk.go ?_; conv => whnf) | (refine And.intro rfl ?_; conv => whnf) | (refine And.intro (fun _ => ?_) (fun h => Bool.noConfusion h); conv => whnf) | (refine And.intro (fun h => Bool.noConfusion h) (fun _ => ?_); conv => whnf)))) | (refine ⟨_, _, n4, ?_⟩; ((conv => whnf); repeat (first | (refine And.intro DrawOk.go ?_; conv => whnf) | (refine And.intro rfl ?_; conv => whnf) | (refine And.intro (fun _ => ?_) (fun h => Bool.noConfusion h); conv => whnf) | (refine And.intro (fun h => Bool.noConfusion h) (fun _ => ?_); conv => whnf)))) | (refine ⟨_, _, n5, ?_⟩; ((conv => whnf); repeat (first | (refine And.intro DrawOk.go ?_; conv => whnf) | (refine And.intro rfl ?_; conv => whnf) | (refine And.intro (fun _ => ?_) (fun h => Bool.noConfusion h); conv => whnf) | (refine And.intro (fun h => Bool.noConfusion h) (fun _ => ?_); conv => whnf)))) | (refine ⟨_, _, hpad, ?_⟩; ((conv => whnf); repeat (first | (refine And.intro DrawOk.go ?_; conv => whnf) | (refine And.intro rfl ?_; conv => whnf) | (refine And.intro (fun _ => ?_) (fun h => Bool.noConfusion h); conv => whnf) | (refine And.intro (fun h => Bool.noConfusion h) (fun _ => ?_); conv => whnf)))) | (refine ⟨z1, ?_⟩; ((conv => whnf); repeat (first | (refine And.intro DrawOk.go ?_; conv => whnf) | (refine And.intro rfl ?_; conv => whnf) | (refine And.intro (fun _ => ?_) (fun h => Bool.noConfusion h); conv => whnf) | (refine And.intro (fun h => Bool.noConfusion h) (fun _ => ?_); conv => whnf)))) | (refine ⟨z2, ?_⟩; ((conv => whnf); repeat (first | (refine And.intro DrawOk.go ?_; conv => whnf) | (refine And.intro rfl ?_; conv => whnf) | (refine And.intro (fun _ => ?_) (fun h => Bool.noConfusion h); conv => whnf) | (refine And.intro (fun h => Bool.noConfusion h) (fun _ => ?_); conv => whnf)))) | (refine ⟨z3, ?_⟩; ((conv => whnf); repeat (first | (refine And.intro DrawOk.go ?_; conv => whnf) | (refine And.intro rfl ?_; conv => whnf) | (refine And.intro (fun _ => ?_) (fun h => Bool.noConfusion h); conv => whnf) | (refine And.intro (fun h => Bool.noConfusion h) (fun _ => ?_); conv => whnf)))) | (refine ⟨z4, ?_⟩; ((conv => whnf); repeat (first | (refine And.intro DrawOk.go ?_; conv => whnf) | (refine And.intro rfl ?_; conv => whnf) | (refine And.intro (fun _ => ?_) (fun h => Bool.noConfusion h); conv => whnf) | (refine And.intro (fun h => Bool.noConfusion h) (fun _ => ?_); conv => whnf)))) | (refine ⟨z5, ?_⟩; ((conv => whnf); repeat (first | (refine And.intro DrawOk.go ?_; conv => whnf) | (refine And.intro rfl ?_; conv => whnf) | (refine And.intro (fun _ => ?_) (fun h => Bool.noConfusion h); conv => whnf) | (refine And.intro (fun h => Bool.noConfusion h) (fun _ => ?_); conv => whnf)))) | (refine ⟨z6, ?_⟩; ((conv => whnf); repeat (first | (refine And.intro DrawOk.go ?_; conv => whnf) | (refine And.intro rfl ?_; conv => whnf) | (refine And.intro (fun _ => ?_) (fun h => Bool.noConfusion h); conv => whnf) | (refine And.intro (fun h => Bool.noConfusion h) (fun _ => ?_); conv => whnf)))) | (refine ⟨z7, ?_⟩; ((conv => whnf); repeat (first | (refine And.intro DrawOk.go ?_; conv => whnf) | (refine And.intro rfl ?_; conv => whnf) | (refine And.intro (fun _ => ?_) (fun h => Bool.noConfusion h); conv => whnf) | (refine And.intro (fun h => Bool.noConfusion h) (fun _ => ?_); conv => whnf)))) | (refine ⟨_, _, hseal, ?_⟩; ((conv => whnf); repeat (first | (refine And.intro DrawOk.go ?_; conv => whnf) | (refine And.intro rfl ?_; conv => whnf) | (refine And.intro (fun _ => ?_) (fun h => Bool.noConfusion h); conv => whnf) | (refine And.intro (fun h => Bool.noConfusion h) (fun _ => ?_); conv => whnf)))) | fail)
    all_goals (first | (simp at *; done) | skip)
    refine Exists.intro [] (And.intro List.nodup_nil ?_); ((conv => whnf); repeat (first | (refine And.intro DrawOk.go ?_; conv => whnf) | (refine And.intro rfl ?_; conv => whnf) | (refine And.intro (fun _ => ?_) (fun h => Bool.noConfusion h); conv => whnf) | (refine And.intro (fun h => Bool.noConfusion h) (fun _ => ?_); conv => whnf)))
    rfl
  · rw [renc_no h0]
    refine fun_of_vc tabOk mixOk Try.func113 rfl (by rfl) (rs := [.tmp 2, .tmp 3]) rfl rfl 43 ?_; rw [Try.ntmps113]
    (conv => whnf); repeat (first | (refine And.intro DrawOk.go ?_; conv => whnf) | (refine And.intro rfl ?_; conv => whnf) | (refine And.intro (fun _ => ?_) (fun h => Bool.noConfusion h); conv => whnf) | (refine And.intro (fun h => Bool.noConfusion h) (fun _ => ?_); conv => whnf))
    refine ⟨_, _, hc, ?_⟩
    (conv => whnf); repeat (first | (refine And.intro DrawOk.go ?_; conv => whnf) | (refine And.intro rfl ?_; conv => whnf) | (refine And.intro (fun _ => ?_) (fun h => Bool.noConfusion h); conv => whnf) | (refine And.intro (fun h => Bool.noConfusion h) (fun _ => ?_); conv => whnf))
    refine And.intro (fun _ => ?_) (fun h => absurd (by simpa using h) h0)
    (conv => whnf); repeat (first | (refine And.intro DrawOk.go ?_; conv => whnf) | (refine And.intro rfl ?_; conv => whnf) | (refine And.intro (fun _ => ?_) (fun h => Bool.noConfusion h); conv => whnf) | (refine And.intro (fun h => Bool.noConfusion h) (fun _ => ?_); conv => whnf))
    refine Exists.intro [] (And.intro List.nodup_nil ?_); ((conv => whnf); repeat (first | (refine And.intro DrawOk.go ?_; conv => whnf) | (refine And.intro rfl ?_; conv => whnf) | (refine And.intro (fun _ => ?_) (fun h => Bool.noConfusion h); conv => whnf) | (refine And.intro (fun h => Bool.noConfusion h) (fun _ => ?_); conv => whnf)))
    rfl
theorem recEq (k b v m : Int) (p : ByteArray) : (k == k && (b == b && (v == v && (m == m && (p.toList == p.toList && true))))) = true := by simp
end Go.Proofs.Ytijajfldpaadnaa.Ab
