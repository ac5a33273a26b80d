/- Records as bytes: the document's Encode; Copy of both. -/
import Derived.Test.YtkpicojhnnkibaaQb
namespace Go.Proofs.Ytkpicojhnnkibaa.Ab
set_option linter.unusedVariables false
set_option linter.unusedSimpArgs false
open Go.RowKit

theorem size_append (a b : ByteArray) : (a ++ b).size = a.size + b.size := by rw [← sL_len, sL_append, List.length_append, sL_len, sL_len]
set_option maxRecDepth 100000 in
set_option maxHeartbeats 16000000 in
theorem sealF' (s : ByteArray) (hs : s.size ≤ 1000) : Fun Try.prog 92 [strV s] [] (.v (strV (sS (sealL (sL s))))) := by
  have hsum := sumF' s (by omega)
  have hn := numF' (crcN (sL s)) 4
  rw [crc_put] at hn
  have hw := crc_i64 (sL s)
  have e : sS (sealL (sL s)) = s ++ sS (putB (crcN (sL s)) 4) := by rw [sealL, ← sS_append]; rfl
  rw [e]
  have hsz : s.size + (sS (putB (crcN (sL s)) 4)).size ≤ 9223372036854775807 := by rw [sS_size, putB_len]; omega
  generalize crcN (sL s) = C at hsum hn hw hsz ⊢
  refine fun_of_vc tabOk mixOk Try.func92 rfl (by rfl) (rs := [.tmp 2]) rfl rfl 13 ?_; rw [Try.ntmps92]
  (conv => whnf); repeat (first | (refine And.intro (DrawOk.mk (by first | (simp only [List.map_cons, List.map_nil, List.nil_append, List.cons_append, List.append_nil, updsL, List.length_cons, List.length_nil]; decide +kernel) | exact rfl)) ?_; conv => whnf) | (refine And.intro rfl ?_; conv => whnf) | (refine And.intro (fun _ => ?_) (fun h => Bool.noConfusion h); conv => whnf) | (refine And.intro (fun h => Bool.noConfusion h) (fun _ => ?_); conv => whnf))
  refine ⟨_, _, hsum, ?_⟩
  (conv => whnf); repeat (first | (refine And.intro (DrawOk.mk (by first | (simp only [List.map_cons, List.map_nil, List.nil_append, List.cons_append, List.append_nil, updsL, List.length_cons, List.length_nil]; decide +kernel) | exact rfl)) ?_; conv => whnf) | (refine And.intro rfl ?_; conv => whnf) | (refine And.intro (fun _ => ?_) (fun h => Bool.noConfusion h); conv => whnf) | (refine And.intro (fun h => Bool.noConfusion h) (fun _ => ?_); conv => whnf))
  rw [hw]
  refine ⟨_, _, hn, ?_⟩
  (conv => whnf); repeat (first | (refine And.intro (DrawOk.mk (by first | (simp only [List.map_cons, List.map_nil, List.nil_append, List.cons_append, List.append_nil, updsL, List.length_cons, List.length_nil]; decide +kernel) | exact rfl)) ?_; conv => whnf) | (refine And.intro rfl ?_; conv => whnf) | (refine And.intro (fun _ => ?_) (fun h => Bool.noConfusion h); conv => whnf) | (refine And.intro (fun h => Bool.noConfusion h) (fun _ => ?_); conv => whnf))
  refine ⟨hsz, ?_⟩
  (conv => whnf); repeat (first | (refine And.intro (DrawOk.mk (by first | (simp only [List.map_cons, List.map_nil, List.nil_append, List.cons_append, List.append_nil, updsL, List.length_cons, List.length_nil]; decide +kernel) | exact rfl)) ?_; conv => whnf) | (refine And.intro rfl ?_; conv => whnf) | (refine And.intro (fun _ => ?_) (fun h => Bool.noConfusion h); conv => whnf) | (refine And.intro (fun h => Bool.noConfusion h) (fun _ => ?_); conv => whnf))
  refine Exists.intro [] (And.intro List.nodup_nil ?_); ((conv => whnf); repeat (first | (refine And.intro (DrawOk.mk (by first | (simp only [List.map_cons, List.map_nil, List.nil_append, List.cons_append, List.append_nil, updsL, List.length_cons, List.length_nil]; decide +kernel) | exact rfl)) ?_; conv => whnf) | (refine And.intro rfl ?_; conv => whnf) | (refine And.intro (fun _ => ?_) (fun h => Bool.noConfusion h); conv => whnf) | (refine And.intro (fun h => Bool.noConfusion h) (fun _ => ?_); conv => whnf)))
  rfl
theorem plus8 (r : Rec) (h : r.p.size ≤ 20) : sL (⟨#[90, 65]⟩ ++ sS (putB r.k.toNat 1) ++ sS (putB r.p.size 1) ++ sS (putB r.b.toNat 4) ++ sS (putB r.v.toNat 6) ++ sS (putB r.m.toNat 1) ++ ⟨#[0]⟩ ++ spad r.p 20) = bodyL r := by
  rw [spad20 h]
  simp only [sL_append, sL_S, bodyL, List.append_assoc]
  rfl
theorem spad20_size {p : ByteArray} (h : p.size ≤ 20) : (spad p 20).size = 20 := by
  rw [spad20 h, sS_size, List.length_append, sL_len, List.length_replicate]; omega
set_option maxRecDepth 100000 in
set_option maxHeartbeats 16000000 in
theorem rencF' (k b v m : Int) (p : ByteArray) : Fun Try.prog 70 [recV k b v m p] [] (.tup [strV (renc ⟨k, b, v, m, p⟩).1, i64V (renc ⟨k, b, v, m, p⟩).2]) := by
  have hc := rchkF' k b v m p
  by_cases h0 : rchk ⟨k, b, v, m, p⟩ = 0
  · rw [renc_yes h0]
    rw [h0] at hc
    obtain ⟨q1, q2, q3, q4, q5⟩ := nums h0
    have h20 := (rchk_ok h0).2.2.2.2.1
    have hcat := plus8 ⟨k, b, v, m, p⟩ h20
    have n1 := numF' k 1
    have n2 := numF' p.size 1
    have n3 := numF' b 4
    have n4 := numF' v 6
    have n5 := numF' m 1
    rw [q1] at n1
    rw [q2] at n2
    rw [q3] at n3
    rw [q4] at n4
    rw [q5] at n5
    dsimp only at n1 n2 n3 n4 n5 hcat h20
    have hpad := padF' p 20 (by omega) (by decide)
    have s1 : (sS (putB k.toNat 1)).size = 1 := by rw [sS_size, putB_len]
    have s2 : (sS (putB p.size 1)).size = 1 := by rw [sS_size, putB_len]
    have s3 : (sS (putB b.toNat 4)).size = 4 := by rw [sS_size, putB_len]
    have s4 : (sS (putB v.toNat 6)).size = 6 := by rw [sS_size, putB_len]
    have s5 : (sS (putB m.toNat 1)).size = 1 := by rw [sS_size, putB_len]
    have s6 := spad20_size h20
    have s7 : (⟨#[90, 65]⟩ : ByteArray).size = 2 := rfl
    have s8 : (⟨#[0]⟩ : ByteArray).size = 1 := rfl
    have he : encL ⟨k, b, v, m, p⟩ = sealL (bodyL ⟨k, b, v, m, p⟩) := rfl
    rw [← hcat] at he
    generalize sS (putB k.toNat 1) = S1 at *
    generalize sS (putB p.size 1) = S2 at *
    generalize sS (putB b.toNat 4) = S3 at *
    generalize sS (putB v.toNat 6) = S4 at *
    generalize sS (putB m.toNat 1) = S5 at *
    generalize spad p 20 = S6 at *
    have hseal := sealF' (⟨#[90, 65]⟩ ++ S1 ++ S2 ++ S3 ++ S4 ++ S5 ++ ⟨#[0]⟩ ++ S6) (by simp only [size_append, s1, s2, s3, s4, s5, s6, s7, s8]; decide)
    rw [← he] at hseal
    clear he hcat q1 q2 q3 q4 q5 h0
    have z1 : (⟨#[90, 65]⟩ : ByteArray).size + S1.size ≤ 9223372036854775807 := by simp only [size_append, s1, s2, s3, s4, s5, s6, s7, s8]; decide
    have z2 : (⟨#[90, 65]⟩ ++ S1).size + S2.size ≤ 9223372036854775807 := by simp only [size_append, s1, s2, s3, s4, s5, s6, s7, s8]; decide
    have z3 : (⟨#[90, 65]⟩ ++ S1 ++ S2).size + S3.size ≤ 9223372036854775807 := by simp only [size_append, s1, s2, s3, s4, s5, s6, s7, s8]; decide
    have z4 : (⟨#[90, 65]⟩ ++ S1 ++ S2 ++ S3).size + S4.size ≤ 9223372036854775807 := by simp only [size_append, s1, s2, s3, s4, s5, s6, s7, s8]; decide
    have z5 : (⟨#[90, 65]⟩ ++ S1 ++ S2 ++ S3 ++ S4).size + S5.size ≤ 9223372036854775807 := by simp only [size_append, s1, s2, s3, s4, s5, s6, s7, s8]; decide
    have z6 : (⟨#[90, 65]⟩ ++ S1 ++ S2 ++ S3 ++ S4 ++ S5).size + (⟨#[0]⟩ : ByteArray).size ≤ 9223372036854775807 := by simp only [size_append, s1, s2, s3, s4, s5, s6, s7, s8]; decide
    have z7 : (⟨#[90, 65]⟩ ++ S1 ++ S2 ++ S3 ++ S4 ++ S5 ++ ⟨#[0]⟩).size + S6.size ≤ 9223372036854775807 := by simp only [size_append, s1, s2, s3, s4, s5, s6, s7, s8]; decide
    refine fun_of_vc tabOk mixOk Try.func70 rfl (by rfl) (rs := [.tmp 2, .tmp 3]) rfl rfl 43 ?_; rw [Try.ntmps70]
    (conv => whnf); repeat (first | (refine And.intro (DrawOk.mk (by first | (simp only [List.map_cons, List.map_nil, List.nil_append, List.cons_append, List.append_nil, updsL, List.length_cons, List.length_nil]; decide +kernel) | exact rfl)) ?_; conv => whnf) | (refine And.intro rfl ?_; conv => whnf) | (refine And.intro (fun _ => ?_) (fun h => Bool.noConfusion h); conv => whnf) | (refine And.intro (fun h => Bool.noConfusion h) (fun _ => ?_); conv => whnf))
    refine ⟨_, _, hc, ?_⟩
    (conv => whnf); repeat (first | (refine And.intro (DrawOk.mk (by first | (simp only [List.map_cons, List.map_nil, List.nil_append, List.cons_append, List.append_nil, updsL, List.length_cons, List.length_nil]; decide +kernel) | exact rfl)) ?_; conv => whnf) | (refine And.intro rfl ?_; conv => whnf) | (refine And.intro (fun _ => ?_) (fun h => Bool.noConfusion h); conv => whnf) | (refine And.intro (fun h => Bool.noConfusion h) (fun _ => ?_); conv => whnf))
    repeat' (first | ((refine And.intro (fun h => ?_) (fun h => ?_)) <;> (try simp at h) <;> ((conv => whnf); repeat (first | (refine And.intro (DrawOk.mk (by first | (simp only [List.map_cons, List.map_nil, List.nil_append, List.cons_append, List.append_nil, updsL, List.length_cons, List.length_nil]; decide +kernel) | exact rfl)) ?_; conv => whnf) | (refine And.intro rfl ?_; conv => whnf) | (refine And.intro (fun _ => ?_) (fun h => Bool.noConfusion h); conv => whnf) | (refine And.intro (fun h => Bool.noConfusion h) (fun _ => ?_); conv => whnf)))) | (refine ⟨_, _, n1, ?_⟩; ((conv => whnf); repeat (first | (refine And.intro (DrawOk.mk (by first | (simp only [List.map_cons, List.map_nil, List.nil_append, List.cons_append, List.append_nil, updsL, List.length_cons, List.length_nil]; decide +kernel) | exact rfl)) ?_; conv => whnf) | (refine And.intro rfl ?_; conv => whnf) | (refine And.intro (fun _ => ?_) (fun h => Bool.noConfusion h); conv => whnf) | (refine And.intro (fun h => Bool.noConfusion h) (fun _ => ?_); conv => whnf)))) | (refine ⟨_, _, n2, ?_⟩; ((conv => whnf); repeat (first | (refine And.intro (DrawOk.mk (by first | (simp only [List.map_cons, List.map_nil, List.nil_append, List.cons_append, List.append_nil, updsL, List.length_cons, List.length_nil]; decide +kernel) | exact rfl)) ?_; conv => whnf) | (refine And.intro rfl ?_; conv => whnf) | (refine And.intro (fun _ => ?_) (fun h => Bool.noConfusion h); conv => whnf) | (refine And.intro (fun h => Bool.noConfusion h) (fun _ => ?_); conv => whnf)))) | (refine ⟨_, _, n3, ?_⟩; ((conv => whnf); repeat (first | (refine And.intro (DrawOk.mk (by first | (simp only [List.map_cons, List.map_nil, List.nil_append, List.cons_append, List.append_nil, updsL, List.length_cons, List.length_nil]; decide +kernel) | exact rfl)) ?_; conv => whnf) | (refine And.intro rfl ?_; conv => whnf) | (refine And.intro (fun _ => ?_) (fun h => Bool.noConfusion h); conv => whnf) | (refine And.intro (fun h => Bool.noConfusion h) (fun _ => ?_); conv => whnf)))) | (refine ⟨_, _, n4, ?_⟩; ((conv => whnf); repeat (first | (refine And.intro (DrawOk.mk (by first | (simp only [List.map_cons, List.map_nil, List.nil_append, List.cons_append, List.append_nil, updsL, List.length_cons, List.length_nil]; decide +kernel) | exact rfl)) ?_; conv => whnf) | (refine And.intro rfl ?_; conv => whnf) | (refine And.intro (fun _ => ?_) (fun h => Bool.noConfusion h); conv => whnf) | (refine And.intro (fun h => Bool.noConfusion h) (fun _ => ?_); conv => whnf)))) | (refine ⟨_, _, n5, ?_⟩; ((conv => whnf); repeat (first | (refine And.intro (DrawOk.mk (by first | (simp only [List.map_cons, List.map_nil, List.nil_append, List.cons_append, List.append_nil, updsL, List.length_cons, List.length_nil]; decide +kernel) | exact rfl)) ?_; conv => whnf) | (refine And.intro rfl ?_; conv => whnf) | (refine And.intro (fun _ => ?_) (fun h => Bool.noConfusion h); conv => whnf) | (refine And.intro (fun h => Bool.noConfusion h) (fun _ => ?_); conv => whnf)))) | (refine ⟨_, _, hpad, ?_⟩; ((conv => whnf); repeat (first | (refine And.intro (DrawOk.mk (by first | (simp only [List.map_cons, List.map_nil, List.nil_append, List.cons_append, List.append_nil, updsL, List.length_cons, List.length_nil]; decide +kernel) | exact rfl)) ?_; conv => whnf) | (refine And.intro rfl ?_; conv => whnf) | (refine And.intro (fun _ => ?_) (fun h => Bool.noConfusion h); conv => whnf) | (refine And.intro (fun h => Bool.noConfusion h) (fun _ => ?_); conv => whnf)))) | (refine ⟨z1, ?_⟩; ((conv => whnf); repeat (first | (refine And.intro (DrawOk.mk (by first | (simp only [List.map_cons, List.map_nil, List.nil_append, List.cons_append, List.append_nil, updsL, List.length_cons, List.length_nil]; decide +kernel) | exact rfl)) ?_; conv => whnf) | (refine And.intro rfl ?_; conv => whnf) | (refine And.intro (fun _ => ?_) (fun h => Bool.noConfusion h); conv => whnf) | (refine And.intro (fun h => Bool.noConfusion h) (fun _ => ?_); conv => whnf)))) | (refine ⟨z2, ?_⟩; ((conv => whnf); repeat (first | (refine And.intro (DrawOk.mk (by first | (simp only [List.map_cons, List.map_nil, List.nil_append, List.cons_append, List.append_nil, updsL, List.length_cons, List.length_nil]; decide +kernel) | exact rfl)) ?_; conv => whnf) | (refine And.intro rfl ?_; conv => whnf) | (refine And.intro (fun _ => ?_) (fun h => Bool.noConfusion h); conv => whnf) | (refine And.intro (fun h => Bool.noConfusion h) (fun _ => ?_); conv => whnf)))) | (refine ⟨z3, ?_⟩; ((conv => whnf); repeat (first | (refine And.intro (DrawOk.mk (by first | (simp only [List.map_cons, List.map_nil, List.nil_append, List.cons_append, List.append_nil, updsL, List.length_cons, List.length_nil]; decide +kernel) | exact rfl)) ?_; conv => whnf) | (refine And.intro rfl ?_; conv => whnf) | (refine And.intro (fun _ => ?_) (fun h => Bool.noConfusion h); conv => whnf) | (refine And.intro (fun h => Bool.noConfusion h) (fun _ => ?_); conv => whnf)))) | (refine ⟨z4, ?_⟩; ((conv => whnf); repeat (first | (refine And.intro (DrawOk.mk (by first | (simp only [List.map_cons, List.map_nil, List.nil_append, List.cons_append, List.append_nil, updsL, List.length_cons, List.length_nil]; decide +kernel) | exact rfl)) ?_; conv => whnf) | (refine And.intro rfl ?_; conv => whnf) | (refine And.intro (fun _ => ?_) (fun h => Bool.noConfusion h); conv => whnf) | (refine And.intro (fun h => Bool.noConfusion h) (fun _ => ?_); conv => whnf)))) | (refine ⟨z5, ?_⟩; ((conv => whnf); repeat (first | (refine And.intro (DrawOk.mk (by first | (simp only [List.map_cons, List.map_nil, List.nil_append, List.cons_append, List.append_nil, updsL, List.length_cons, List.length_nil]; decide +kernel) | exact rfl)) ?_; conv => whnf) | (refine And.intro rfl ?_; conv => whnf) | (refine And.intro (fun _ => ?_) (fun h => Bool.noConfusion h); conv => whnf) | (refine And.intro (fun h => Bool.noConfusion h) (fun _ => ?_); conv => whnf)))) | (refine ⟨z6, ?_⟩; ((conv => whnf); repeat (first | (refine And.intro (DrawOk.mk (by first | (simp only [List.map_cons, List.map_nil, List.nil_append, List.cons_append, List.append_nil, updsL, List.length_cons, List.length_nil]; decide +kernel) | exact rfl)) ?_; conv => whnf) | (refine And.intro rfl ?_; conv => whnf) | (refine And.intro (fun _ => ?_) (fun h => Bool.noConfusion h); conv => whnf) | (refine And.intro (fun h => Bool.noConfusion h) (fun _ => ?_); conv => whnf)))) | (refine ⟨z7, ?_⟩; ((conv => whnf); repeat (first | (refine And.intro (DrawOk.mk (by first | (simp only [List.map_cons, List.map_nil, List.nil_append, List.cons_append, List.append_nil, updsL, List.length_cons, List.length_nil]; decide +kernel) | exact rfl)) ?_; conv => whnf) | (refine And.intro rfl ?_; conv => whnf) | (refine And.intro (fun _ => ?_) (fun h => Bool.noConfusion h); conv => whnf) | (refine And.intro (fun h => Bool.noConfusion h) (fun _ => ?_); conv => whnf)))) | (refine ⟨_, _, hseal, ?_⟩; ((conv => whnf); repeat (first | (refine And.intro (DrawOk.mk (by first | (simp only [List.map_cons, List.map_nil, List.nil_append, List.cons_append, List.append_nil, updsL, List.length_cons, List.length_nil]; decide +kernel) | exact rfl)) ?_; conv => whnf) | (refine And.intro rfl ?_; conv => whnf) | (refine And.intro (fun _ => ?_) (fun h => Bool.noConfusion h); conv => whnf) | (refine And.intro (fun h => Bool.noConfusion h) (fun _ => ?_); conv => whnf)))) | fail)
    all_goals (first | (simp at *; done) | skip)
    refine Exists.intro [] (And.intro List.nodup_nil ?_); ((conv => whnf); repeat (first | (refine And.intro (DrawOk.mk (by first | (simp only [List.map_cons, List.map_nil, List.nil_append, List.cons_append, List.append_nil, updsL, List.length_cons, List.length_nil]; decide +kernel) | exact rfl)) ?_; conv => whnf) | (refine And.intro rfl ?_; conv => whnf) | (refine And.intro (fun _ => ?_) (fun h => Bool.noConfusion h); conv => whnf) | (refine And.intro (fun h => Bool.noConfusion h) (fun _ => ?_); conv => whnf)))
    rfl
  · rw [renc_no h0]
    refine fun_of_vc tabOk mixOk Try.func70 rfl (by rfl) (rs := [.tmp 2, .tmp 3]) rfl rfl 43 ?_; rw [Try.ntmps70]
    (conv => whnf); repeat (first | (refine And.intro (DrawOk.mk (by first | (simp only [List.map_cons, List.map_nil, List.nil_append, List.cons_append, List.append_nil, updsL, List.length_cons, List.length_nil]; decide +kernel) | exact rfl)) ?_; conv => whnf) | (refine And.intro rfl ?_; conv => whnf) | (refine And.intro (fun _ => ?_) (fun h => Bool.noConfusion h); conv => whnf) | (refine And.intro (fun h => Bool.noConfusion h) (fun _ => ?_); conv => whnf))
    refine ⟨_, _, hc, ?_⟩
    (conv => whnf); repeat (first | (refine And.intro (DrawOk.mk (by first | (simp only [List.map_cons, List.map_nil, List.nil_append, List.cons_append, List.append_nil, updsL, List.length_cons, List.length_nil]; decide +kernel) | exact rfl)) ?_; conv => whnf) | (refine And.intro rfl ?_; conv => whnf) | (refine And.intro (fun _ => ?_) (fun h => Bool.noConfusion h); conv => whnf) | (refine And.intro (fun h => Bool.noConfusion h) (fun _ => ?_); conv => whnf))
    refine And.intro (fun _ => ?_) (fun h => absurd (by simpa using h) h0)
    (conv => whnf); repeat (first | (refine And.intro (DrawOk.mk (by first | (simp only [List.map_cons, List.map_nil, List.nil_append, List.cons_append, List.append_nil, updsL, List.length_cons, List.length_nil]; decide +kernel) | exact rfl)) ?_; conv => whnf) | (refine And.intro rfl ?_; conv => whnf) | (refine And.intro (fun _ => ?_) (fun h => Bool.noConfusion h); conv => whnf) | (refine And.intro (fun h => Bool.noConfusion h) (fun _ => ?_); conv => whnf))
    refine Exists.intro [] (And.intro List.nodup_nil ?_); ((conv => whnf); repeat (first | (refine And.intro (DrawOk.mk (by first | (simp only [List.map_cons, List.map_nil, List.nil_append, List.cons_append, List.append_nil, updsL, List.length_cons, List.length_nil]; decide +kernel) | exact rfl)) ?_; conv => whnf) | (refine And.intro rfl ?_; conv => whnf) | (refine And.intro (fun _ => ?_) (fun h => Bool.noConfusion h); conv => whnf) | (refine And.intro (fun h => Bool.noConfusion h) (fun _ => ?_); conv => whnf)))
    rfl
theorem recEq (k b v m : Int) (p : ByteArray) : (k == k && (b == b && (v == v && (m == m && (p.toList == p.toList && true))))) = true := by simp
end Go.Proofs.Ytkpicojhnnkibaa.Ab
