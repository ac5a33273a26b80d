/- Records as bytes: Check, Encode, Copy of both. -/
import Derived.Test.YtkpicojhnnkibaaQa
namespace Go.Proofs.Ytkpicojhnnkibaa.Ab
set_option linter.unusedVariables false
set_option linter.unusedSimpArgs false
open Go.RowKit

set_option maxRecDepth 100000 in
set_option maxHeartbeats 16000000 in
theorem rchkF (k b v m : Int) (p : ByteArray) : Fun Try.prog 96 [recV k b v m p] [] (.v (i64V (rchk ⟨k, b, v, m, p⟩))) := by
  have he : p = ByteArray.empty ↔ p.size = 0 := by simp
  refine fun_of_vc tabOk mixOk Try.func96 rfl (by rfl) (rs := [.tmp 2]) rfl rfl 67 ?_; rw [Try.ntmps96]
  (conv => whnf); repeat (first | (refine And.intro (DrawOk.mk (by first | (simp only [List.map_cons, List.map_nil, List.nil_append, List.cons_append, List.append_nil, updsL, List.length_cons, List.length_nil]; decide +kernel) | exact rfl)) ?_; conv => whnf) | (refine And.intro rfl ?_; conv => whnf) | (refine And.intro (fun _ => ?_) (fun h => Bool.noConfusion h); conv => whnf) | (refine And.intro (fun h => Bool.noConfusion h) (fun _ => ?_); conv => whnf))
  repeat' (first | ((refine And.intro (fun h => ?_) (fun h => ?_)) <;> (try simp at h) <;> ((conv => whnf); repeat (first | (refine And.intro (DrawOk.mk (by first | (simp only [List.map_cons, List.map_nil, List.nil_append, List.cons_append, List.append_nil, updsL, List.length_cons, List.length_nil]; decide +kernel) | exact rfl)) ?_; conv => whnf) | (refine And.intro rfl ?_; conv => whnf) | (refine And.intro (fun _ => ?_) (fun h => Bool.noConfusion h); conv => whnf) | (refine And.intro (fun h => Bool.noConfusion h) (fun _ => ?_); conv => whnf)))) | fail)
  all_goals (refine Exists.intro [] (And.intro List.nodup_nil ?_); ((conv => whnf); repeat (first | (refine And.intro (DrawOk.mk (by first | (simp only [List.map_cons, List.map_nil, List.nil_append, List.cons_append, List.append_nil, updsL, List.length_cons, List.length_nil]; decide +kernel) | exact rfl)) ?_; conv => whnf) | (refine And.intro rfl ?_; conv => whnf) | (refine And.intro (fun _ => ?_) (fun h => Bool.noConfusion h); conv => whnf) | (refine And.intro (fun h => Bool.noConfusion h) (fun _ => ?_); conv => whnf))))
  all_goals (refine congrArg (fun n => AT.v (i64V n)) ?_)
  all_goals (unfold rchk; dsimp only)
  all_goals (repeat' split)
  all_goals (first | rfl | omega | (simp only [he] at *; omega))
set_option maxRecDepth 100000 in
set_option maxHeartbeats 16000000 in
theorem rchkF' (k b v m : Int) (p : ByteArray) : Fun Try.prog 89 [recV k b v m p] [] (.v (i64V (rchk ⟨k, b, v, m, p⟩))) := by
  have he : p = ByteArray.empty ↔ p.size = 0 := by simp
  have he2 : p.toList = [] ↔ p.size = 0 := by rw [Lib.toList_data, Lib.size_eq]; exact List.length_eq_zero_iff.symm
  refine fun_of_vc tabOk mixOk Try.func89 rfl (by rfl) (rs := [.tmp 2]) rfl rfl 71 ?_; rw [Try.ntmps89]
  (conv => whnf); repeat (first | (refine And.intro (DrawOk.mk (by first | (simp only [List.map_cons, List.map_nil, List.nil_append, List.cons_append, List.append_nil, updsL, List.length_cons, List.length_nil]; decide +kernel) | exact rfl)) ?_; conv => whnf) | (refine And.intro rfl ?_; conv => whnf) | (refine And.intro (fun _ => ?_) (fun h => Bool.noConfusion h); conv => whnf) | (refine And.intro (fun h => Bool.noConfusion h) (fun _ => ?_); conv => whnf))
  repeat' (first | ((refine And.intro (fun h => ?_) (fun h => ?_)) <;> (try simp at h) <;> ((conv => whnf); repeat (first | (refine And.intro (DrawOk.mk (by first | (simp only [List.map_cons, List.map_nil, List.nil_append, List.cons_append, List.append_nil, updsL, List.length_cons, List.length_nil]; decide +kernel) | exact rfl)) ?_; conv => whnf) | (refine And.intro rfl ?_; conv => whnf) | (refine And.intro (fun _ => ?_) (fun h => Bool.noConfusion h); conv => whnf) | (refine And.intro (fun h => Bool.noConfusion h) (fun _ => ?_); conv => whnf)))) | fail)
  all_goals (refine Exists.intro [] (And.intro List.nodup_nil ?_); ((conv => whnf); repeat (first | (refine And.intro (DrawOk.mk (by first | (simp only [List.map_cons, List.map_nil, List.nil_append, List.cons_append, List.append_nil, updsL, List.length_cons, List.length_nil]; decide +kernel) | exact rfl)) ?_; conv => whnf) | (refine And.intro rfl ?_; conv => whnf) | (refine And.intro (fun _ => ?_) (fun h => Bool.noConfusion h); conv => whnf) | (refine And.intro (fun h => Bool.noConfusion h) (fun _ => ?_); conv => whnf))))
  all_goals (refine congrArg (fun n => AT.v (i64V n)) ?_)
  all_goals (unfold rchk; dsimp only)
  all_goals (repeat' split)
  all_goals (first | rfl | omega | (simp only [he, he2] at *; omega))
set_option maxRecDepth 100000 in
set_option maxHeartbeats 4000000 in
theorem numF (n size : Int) : Fun Try.prog 98 [i64V n, i64V size] [] (.v (strV (sput n size).1)) := by
  refine fun_of_vc tabOk mixOk Try.func98 rfl (by rfl) (rs := [.tmp 4]) rfl rfl 18 ?_; rw [Try.ntmps98]
  (conv => whnf); repeat (first | (refine And.intro (DrawOk.mk (by first | (simp only [List.map_cons, List.map_nil, List.nil_append, List.cons_append, List.append_nil, updsL, List.length_cons, List.length_nil]; decide +kernel) | exact rfl)) ?_; conv => whnf) | (refine And.intro rfl ?_; conv => whnf) | (refine And.intro (fun _ => ?_) (fun h => Bool.noConfusion h); conv => whnf) | (refine And.intro (fun h => Bool.noConfusion h) (fun _ => ?_); conv => whnf))
  refine ⟨_, _, putF n size, ?_⟩
  (conv => whnf); repeat (first | (refine And.intro (DrawOk.mk (by first | (simp only [List.map_cons, List.map_nil, List.nil_append, List.cons_append, List.append_nil, updsL, List.length_cons, List.length_nil]; decide +kernel) | exact rfl)) ?_; conv => whnf) | (refine And.intro rfl ?_; conv => whnf) | (refine And.intro (fun _ => ?_) (fun h => Bool.noConfusion h); conv => whnf) | (refine And.intro (fun h => Bool.noConfusion h) (fun _ => ?_); conv => whnf))
  refine Exists.intro [] (And.intro List.nodup_nil ?_); ((conv => whnf); repeat (first | (refine And.intro (DrawOk.mk (by first | (simp only [List.map_cons, List.map_nil, List.nil_append, List.cons_append, List.append_nil, updsL, List.length_cons, List.length_nil]; decide +kernel) | exact rfl)) ?_; conv => whnf) | (refine And.intro rfl ?_; conv => whnf) | (refine And.intro (fun _ => ?_) (fun h => Bool.noConfusion h); conv => whnf) | (refine And.intro (fun h => Bool.noConfusion h) (fun _ => ?_); conv => whnf)))
  rfl
set_option maxRecDepth 100000 in
set_option maxHeartbeats 4000000 in
theorem numF' (n size : Int) : Fun Try.prog 90 [i64V n, i64V size] [] (.v (strV (sput n size).1)) := by
  refine fun_of_vc tabOk mixOk Try.func90 rfl (by rfl) (rs := [.tmp 4]) rfl rfl 18 ?_; rw [Try.ntmps90]
  (conv => whnf); repeat (first | (refine And.intro (DrawOk.mk (by first | (simp only [List.map_cons, List.map_nil, List.nil_append, List.cons_append, List.append_nil, updsL, List.length_cons, List.length_nil]; decide +kernel) | exact rfl)) ?_; conv => whnf) | (refine And.intro rfl ?_; conv => whnf) | (refine And.intro (fun _ => ?_) (fun h => Bool.noConfusion h); conv => whnf) | (refine And.intro (fun h => Bool.noConfusion h) (fun _ => ?_); conv => whnf))
  refine ⟨_, _, putF' n size, ?_⟩
  (conv => whnf); repeat (first | (refine And.intro (DrawOk.mk (by first | (simp only [List.map_cons, List.map_nil, List.nil_append, List.cons_append, List.append_nil, updsL, List.length_cons, List.length_nil]; decide +kernel) | exact rfl)) ?_; conv => whnf) | (refine And.intro rfl ?_; conv => whnf) | (refine And.intro (fun _ => ?_) (fun h => Bool.noConfusion h); conv => whnf) | (refine And.intro (fun h => Bool.noConfusion h) (fun _ => ?_); conv => whnf))
  refine Exists.intro [] (And.intro List.nodup_nil ?_); ((conv => whnf); repeat (first | (refine And.intro (DrawOk.mk (by first | (simp only [List.map_cons, List.map_nil, List.nil_append, List.cons_append, List.append_nil, updsL, List.length_cons, List.length_nil]; decide +kernel) | exact rfl)) ?_; conv => whnf) | (refine And.intro rfl ?_; conv => whnf) | (refine And.intro (fun _ => ?_) (fun h => Bool.noConfusion h); conv => whnf) | (refine And.intro (fun h => Bool.noConfusion h) (fun _ => ?_); conv => whnf)))
  rfl
theorem num_nat {n k : Nat} (h1 : 1 ≤ k) (h7 : k ≤ 7) (hn : n < 256 ^ k) : (sput (n : Int) (k : Int)).1 = sS (putB n k) := by rw [sput_yes h1 h7 hn]
theorem spad20 {p : ByteArray} (h : p.size ≤ 20) : spad p 20 = sS (sL p ++ List.replicate (20 - p.size) 0) := by
  rcases Nat.lt_or_ge p.size 20 with hlt | hge
  · unfold spad
    rw [if_neg (by omega)]
    congr 3
    omega
  · have : p.size = 20 := by omega
    rw [spad_small (by omega), this, List.replicate_zero, List.append_nil]
    exact (sS_L p).symm
theorem cat8 (r : Rec) (h : r.p.size ≤ 20) : catS [⟨#[90, 65]⟩, sS (putB r.k.toNat 1), sS (putB r.p.size 1), sS (putB r.b.toNat 4), sS (putB r.v.toNat 6), sS (putB r.m.toNat 1), ⟨#[0]⟩, spad r.p 20] = sS (bodyL r) := by
  rw [spad20 h]
  simp only [catS, List.map_cons, List.map_nil, List.flatten_cons, List.flatten_nil, List.append_nil, sL_S, bodyL]
  rfl
theorem crc_i64 (l : List UInt8) : iwrap .i64 (crcN l : Int) = (crcN l : Int) := by
  have := crcN_lt l
  exact w64_in (by omega)
theorem crc_put (l : List UInt8) : (sput (crcN l : Int) 4).1 = sS (putB (crcN l) 4) := num_nat (k := 4) (by decide) (by decide) (Nat.lt_of_lt_of_le (crcN_lt l) (by decide))
theorem nums {r : Rec} (h : rchk r = 0) : (sput r.k 1).1 = sS (putB r.k.toNat 1) ∧ (sput (r.p.size : Int) 1).1 = sS (putB r.p.size 1) ∧ (sput r.b 4).1 = sS (putB r.b.toNat 4) ∧ (sput r.v 6).1 = sS (putB r.v.toNat 6) ∧ (sput r.m 1).1 = sS (putB r.m.toNat 1) := by
  obtain ⟨h1, h2, h3, h4, h5, _⟩ := rchk_ok h
  have e : ∀ {x : Int}, 0 ≤ x → x = ((x.toNat : Nat) : Int) := fun hx => (Int.toNat_of_nonneg hx).symm
  refine ⟨?_, ?_, ?_, ?_, ?_⟩
  · conv => lhs; rw [e (show 0 ≤ r.k by omega)]
    exact num_nat (k := 1) (by decide) (by decide) (by omega)
  · exact num_nat (k := 1) (by decide) (by decide) (by omega)
  · conv => lhs; rw [e (show 0 ≤ r.b by omega)]
    exact num_nat (k := 4) (by decide) (by decide) (by omega)
  · conv => lhs; rw [e (show 0 ≤ r.v by omega)]
    exact num_nat (k := 6) (by decide) (by decide) (by omega)
  · conv => lhs; rw [e (show 0 ≤ r.m by omega)]
    exact num_nat (k := 1) (by decide) (by decide) (by omega)
theorem renc_yes {r : Rec} (h : rchk r = 0) : renc r = (sS (encL r), 0) := by unfold renc; rw [if_pos h]
theorem renc_no {r : Rec} (h : rchk r ≠ 0) : renc r = (ByteArray.empty, rchk r) := by unfold renc; rw [if_neg h]
set_option maxRecDepth 100000 in
set_option maxHeartbeats 16000000 in
theorem rencF (k b v m : Int) (p : ByteArray) : Fun Try.prog 78 [recV k b v m p] [] (.tup [strV (renc ⟨k, b, v, m, p⟩).1, i64V (renc ⟨k, b, v, m, p⟩).2]) := by
  have hc := rchkF k b v m p
  by_cases h0 : rchk ⟨k, b, v, m, p⟩ = 0
  · rw [renc_yes h0]
    rw [h0] at hc
    obtain ⟨q1, q2, q3, q4, q5⟩ := nums h0
    have h20 := (rchk_ok h0).2.2.2.2.1
    have hcat := cat8 ⟨k, b, v, m, p⟩ h20
    have n1 := numF k 1
    have n2 := numF p.size 1
    have n3 := numF b 4
    have n4 := numF v 6
    have n5 := numF m 1
    rw [q1] at n1
    rw [q2] at n2
    rw [q3] at n3
    rw [q4] at n4
    rw [q5] at n5
    dsimp only at n1 n2 n3 n4 n5 hcat h20
    have hpad := padF p 20 (by omega) (by decide)
    have hbl := body_len (r := ⟨k, b, v, m, p⟩) h20
    have hj := joinR [⟨#[90, 65]⟩, sS (putB k.toNat 1), sS (putB p.size 1), sS (putB b.toNat 4), sS (putB v.toNat 6), sS (putB m.toNat 1), ⟨#[0]⟩, spad p 20] (by simp) (by rw [hcat, sS_size, hbl]; decide)
    rw [hcat] at hj
    have he : encL ⟨k, b, v, m, p⟩ = bodyL ⟨k, b, v, m, p⟩ ++ putB (crcN (bodyL ⟨k, b, v, m, p⟩)) 4 := rfl
    generalize bodyL ⟨k, b, v, m, p⟩ = B at hbl hj he
    generalize encL ⟨k, b, v, m, p⟩ = EE at he
    have hsum := sumF (sS B) (by rw [sS_size, hbl]; decide)
    rw [sL_S] at hsum
    have hn6 := numF (crcN B) 4
    rw [crc_put] at hn6
    have hw := crc_i64 B
    have hj2 := joinR [sS B, sS (putB (crcN B) 4)] (by simp) (by rw [cat2, sS_size, List.length_append, hbl, putB_len]; decide)
    rw [cat2, ← he] at hj2
    generalize crcN B = C at hsum hn6 hw hj2
    clear he hcat q1 q2 q3 q4 q5 h0
    refine fun_of_vc tabOk mixOk Try.func78 rfl (by rfl) (rs := [.tmp 2, .tmp 3]) rfl rfl 43 ?_; rw [Try.ntmps78]
    (conv => whnf); repeat (first | (refine And.intro (DrawOk.mk (by first | (simp only [List.map_cons, List.map_nil, List.nil_append, List.cons_append, List.append_nil, updsL, List.length_cons, List.length_nil]; decide +kernel) | exact rfl)) ?_; conv => whnf) | (refine And.intro rfl ?_; conv => whnf) | (refine And.intro (fun _ => ?_) (fun h => Bool.noConfusion h); conv => whnf) | (refine And.intro (fun h => Bool.noConfusion h) (fun _ => ?_); conv => whnf))
    refine ⟨_, _, hc, ?_⟩
    (conv => whnf); repeat (first | (refine And.intro (DrawOk.mk (by first | (simp only [List.map_cons, List.map_nil, List.nil_append, List.cons_append, List.append_nil, updsL, List.length_cons, List.length_nil]; decide +kernel) | exact rfl)) ?_; conv => whnf) | (refine And.intro rfl ?_; conv => whnf) | (refine And.intro (fun _ => ?_) (fun h => Bool.noConfusion h); conv => whnf) | (refine And.intro (fun h => Bool.noConfusion h) (fun _ => ?_); conv => whnf))
    repeat' (first | ((refine And.intro (fun h => ?_) (fun h => ?_)) <;> (try simp at h) <;> ((conv => whnf); repeat (first | (refine And.intro (DrawOk.mk (by first | (simp only [List.map_cons, List.map_nil, List.nil_append, List.cons_append, List.append_nil, updsL, List.length_cons, List.length_nil]; decide +kernel) | exact rfl)) ?_; conv => whnf) | (refine And.intro rfl ?_; conv => whnf) | (refine And.intro (fun _ => ?_) (fun h => Bool.noConfusion h); conv => whnf) | (refine And.intro (fun h => Bool.noConfusion h) (fun _ => ?_); conv => whnf)))) | (refine ⟨_, _, n1, ?_⟩; ((conv => whnf); repeat (first | (refine And.intro (DrawOk.mk (by first | (simp only [List.map_cons, List.map_nil, List.nil_append, List.cons_append, List.append_nil, updsL, List.length_cons, List.length_nil]; decide +kernel) | exact rfl)) ?_; conv => whnf) | (refine And.intro rfl ?_; conv => whnf) | (refine And.intro (fun _ => ?_) (fun h => Bool.noConfusion h); conv => whnf) | (refine And.intro (fun h => Bool.noConfusion h) (fun _ => ?_); conv => whnf)))) | (refine ⟨_, _, n2, ?_⟩; ((conv => whnf); repeat (first | (refine And.intro (DrawOk.mk (by first | (simp only [List.map_cons, List.map_nil, List.nil_append, List.cons_append, List.append_nil, updsL, List.length_cons, List.length_nil]; decide +kernel) | exact rfl)) ?_; conv => whnf) | (refine And.intro rfl ?_; conv => whnf) | (refine And.intro (fun _ => ?_) (fun h => Bool.noConfusion h); conv => whnf) | (refine And.intro (fun h => Bool.noConfusion h) (fun _ => ?_); conv => whnf)))) | (refine ⟨_, _, n3, ?_⟩; ((conv => whnf); repeat (first | (refine And.intro (DrawOk.mk (by first | (simp only [List.map_cons, List.map_nil, List.nil_append, List.cons_append, List.append_nil, updsL, List.length_cons, List.length_nil]; decide +kernel) | exact rfl)) ?_; conv => whnf) | (refine And.intro rfl ?_; conv => whnf) | (refine And.intro (fun _ => ?_) (fun h => Bool.noConfusion h); conv => whnf) | (refine And.intro (fun h => Bool.noConfusion h) (fun _ => ?_); conv => whnf)))) | (refine ⟨_, _, n4, ?_⟩; ((conv => whnf); repeat (first | (refine And.intro (DrawOk.mk (by first | (simp only [List.map_cons, List.map_nil, List.nil_append, List.cons_append, List.append_nil, updsL, List.length_cons, List.length_nil]; decide +kernel) | exact rfl)) ?_; conv => whnf) | (refine And.intro rfl ?_; conv => whnf) | (refine And.intro (fun _ => ?_) (fun h => Bool.noConfusion h); conv => whnf) | (refine And.intro (fun h => Bool.noConfusion h) (fun _ => ?_); conv => whnf)))) | (refine ⟨_, _, n5, ?_⟩; ((conv => whnf); repeat (first | (refine And.intro (DrawOk.mk (by first | (simp only [List.map_cons, List.map_nil, List.nil_append, List.cons_append, List.append_nil, updsL, List.length_cons, List.length_nil]; decide +kernel) | exact rfl)) ?_; conv => whnf) | (refine And.intro rfl ?_; conv => whnf) | (refine And.intro (fun _ => ?_) (fun h => Bool.noConfusion h); conv => whnf) | (refine And.intro (fun h => Bool.noConfusion h) (fun _ => ?_); conv => whnf)))) | (refine ⟨_, _, hpad, ?_⟩; ((conv => whnf); repeat (first | (refine And.intro (DrawOk.mk (by first | (simp only [List.map_cons, List.map_nil, List.nil_append, List.cons_append, List.append_nil, updsL, List.length_cons, List.length_nil]; decide +kernel) | exact rfl)) ?_; conv => whnf) | (refine And.intro rfl ?_; conv => whnf) | (refine And.intro (fun _ => ?_) (fun h => Bool.noConfusion h); conv => whnf) | (refine And.intro (fun h => Bool.noConfusion h) (fun _ => ?_); conv => whnf)))) | (refine ⟨_, _, hj, ?_⟩; ((conv => whnf); repeat (first | (refine And.intro (DrawOk.mk (by first | (simp only [List.map_cons, List.map_nil, List.nil_append, List.cons_append, List.append_nil, updsL, List.length_cons, List.length_nil]; decide +kernel) | exact rfl)) ?_; conv => whnf) | (refine And.intro rfl ?_; conv => whnf) | (refine And.intro (fun _ => ?_) (fun h => Bool.noConfusion h); conv => whnf) | (refine And.intro (fun h => Bool.noConfusion h) (fun _ => ?_); conv => whnf)))) | fail)
    all_goals (first | (simp at *; done) | skip)
    refine ⟨_, _, hsum, ?_⟩
    (conv => whnf); repeat (first | (refine And.intro (DrawOk.mk (by first | (simp only [List.map_cons, List.map_nil, List.nil_append, List.cons_append, List.append_nil, updsL, List.length_cons, List.length_nil]; decide +kernel) | exact rfl)) ?_; conv => whnf) | (refine And.intro rfl ?_; conv => whnf) | (refine And.intro (fun _ => ?_) (fun h => Bool.noConfusion h); conv => whnf) | (refine And.intro (fun h => Bool.noConfusion h) (fun _ => ?_); conv => whnf))
    rw [hw]
    refine ⟨_, _, hn6, ?_⟩
    (conv => whnf); repeat (first | (refine And.intro (DrawOk.mk (by first | (simp only [List.map_cons, List.map_nil, List.nil_append, List.cons_append, List.append_nil, updsL, List.length_cons, List.length_nil]; decide +kernel) | exact rfl)) ?_; conv => whnf) | (refine And.intro rfl ?_; conv => whnf) | (refine And.intro (fun _ => ?_) (fun h => Bool.noConfusion h); conv => whnf) | (refine And.intro (fun h => Bool.noConfusion h) (fun _ => ?_); conv => whnf))
    refine ⟨_, _, hj2, ?_⟩
    (conv => whnf); repeat (first | (refine And.intro (DrawOk.mk (by first | (simp only [List.map_cons, List.map_nil, List.nil_append, List.cons_append, List.append_nil, updsL, List.length_cons, List.length_nil]; decide +kernel) | exact rfl)) ?_; conv => whnf) | (refine And.intro rfl ?_; conv => whnf) | (refine And.intro (fun _ => ?_) (fun h => Bool.noConfusion h); conv => whnf) | (refine And.intro (fun h => Bool.noConfusion h) (fun _ => ?_); conv => whnf))
    refine Exists.intro [] (And.intro List.nodup_nil ?_); ((conv => whnf); repeat (first | (refine And.intro (DrawOk.mk (by first | (simp only [List.map_cons, List.map_nil, List.nil_append, List.cons_append, List.append_nil, updsL, List.length_cons, List.length_nil]; decide +kernel) | exact rfl)) ?_; conv => whnf) | (refine And.intro rfl ?_; conv => whnf) | (refine And.intro (fun _ => ?_) (fun h => Bool.noConfusion h); conv => whnf) | (refine And.intro (fun h => Bool.noConfusion h) (fun _ => ?_); conv => whnf)))
    rfl
  · rw [renc_no h0]
    refine fun_of_vc tabOk mixOk Try.func78 rfl (by rfl) (rs := [.tmp 2, .tmp 3]) rfl rfl 43 ?_; rw [Try.ntmps78]
    (conv => whnf); repeat (first | (refine And.intro (DrawOk.mk (by first | (simp only [List.map_cons, List.map_nil, List.nil_append, List.cons_append, List.append_nil, updsL, List.length_cons, List.length_nil]; decide +kernel) | exact rfl)) ?_; conv => whnf) | (refine And.intro rfl ?_; conv => whnf) | (refine And.intro (fun _ => ?_) (fun h => Bool.noConfusion h); conv => whnf) | (refine And.intro (fun h => Bool.noConfusion h) (fun _ => ?_); conv => whnf))
    refine ⟨_, _, hc, ?_⟩
    (conv => whnf); repeat (first | (refine And.intro (DrawOk.mk (by first | (simp only [List.map_cons, List.map_nil, List.nil_append, List.cons_append, List.append_nil, updsL, List.length_cons, List.length_nil]; decide +kernel) | exact rfl)) ?_; conv => whnf) | (refine And.intro rfl ?_; conv => whnf) | (refine And.intro (fun _ => ?_) (fun h => Bool.noConfusion h); conv => whnf) | (refine And.intro (fun h => Bool.noConfusion h) (fun _ => ?_); conv => whnf))
    refine And.intro (fun _ => ?_) (fun h => absurd (by simpa using h) h0)
    (conv => whnf); repeat (first | (refine And.intro (DrawOk.mk (by first | (simp only [List.map_cons, List.map_nil, List.nil_append, List.cons_append, List.append_nil, updsL, List.length_cons, List.length_nil]; decide +kernel) | exact rfl)) ?_; conv => whnf) | (refine And.intro rfl ?_; conv => whnf) | (refine And.intro (fun _ => ?_) (fun h => Bool.noConfusion h); conv => whnf) | (refine And.intro (fun h => Bool.noConfusion h) (fun _ => ?_); conv => whnf))
    refine Exists.intro [] (And.intro List.nodup_nil ?_); ((conv => whnf); repeat (first | (refine And.intro (DrawOk.mk (by first | (simp only [List.map_cons, List.map_nil, List.nil_append, List.cons_append, List.append_nil, updsL, List.length_cons, List.length_nil]; decide +kernel) | exact rfl)) ?_; conv => whnf) | (refine And.intro rfl ?_; conv => whnf) | (refine And.intro (fun _ => ?_) (fun h => Bool.noConfusion h); conv => whnf) | (refine And.intro (fun h => Bool.noConfusion h) (fun _ => ?_); conv => whnf)))
    rfl
end Go.Proofs.Ytkpicojhnnkibaa.Ab
