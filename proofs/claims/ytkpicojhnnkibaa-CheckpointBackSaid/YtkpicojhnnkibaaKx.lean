/- Checkpoints: the sums of records. No condition. -/
import Derived.Test.YtkpicojhnnkibaaKb
namespace Go.Proofs.Ytkpicojhnnkibaa.Ab
set_option linter.unusedVariables false
set_option linter.unusedSimpArgs false
open Go.RowKit

theorem nu_le (n k : Int) : (nu n k).size ≤ 7 := by
  unfold nu sput
  split
  · rename_i h
    rw [sS_size, putB_len]
    have := h.1; have := h.2.1
    omega
  · decide
set_option maxRecDepth 100000 in
set_option maxHeartbeats 8000000 in
theorem pairF (a b k : Int) : Fun Try.prog 50 [i64V a, i64V b, i64V k] [] (.v (strV (nu a k ++ nu b k))) := by
  have h1 := nu_le a k
  have h2 := nu_le b k
  have p1 := putF a k
  have p2 := putF b k
  unfold nu at *
  refine fun_of_vc tabOk mixOk Try.func50 rfl (by rfl) (rs := [.tmp 6]) rfl rfl 30 ?_; rw [Try.ntmps50]
  (conv => whnf); repeat (first | (refine And.intro (DrawOk.mk (by first | (simp only [List.map_cons, List.map_nil, List.nil_append, List.cons_append, List.append_nil, updsL, List.length_cons, List.length_nil]; decide +kernel) | exact rfl)) ?_; conv => whnf) | (refine And.intro rfl ?_; conv => whnf) | (refine And.intro (fun _ => ?_) (fun h => Bool.noConfusion h); conv => whnf) | (refine And.intro (fun h => Bool.noConfusion h) (fun _ => ?_); conv => whnf))
  refine ⟨_, _, p1, ?_⟩
  (conv => whnf); repeat (first | (refine And.intro (DrawOk.mk (by first | (simp only [List.map_cons, List.map_nil, List.nil_append, List.cons_append, List.append_nil, updsL, List.length_cons, List.length_nil]; decide +kernel) | exact rfl)) ?_; conv => whnf) | (refine And.intro rfl ?_; conv => whnf) | (refine And.intro (fun _ => ?_) (fun h => Bool.noConfusion h); conv => whnf) | (refine And.intro (fun h => Bool.noConfusion h) (fun _ => ?_); conv => whnf))
  refine ⟨_, _, p2, ?_⟩
  (conv => whnf); repeat (first | (refine And.intro (DrawOk.mk (by first | (simp only [List.map_cons, List.map_nil, List.nil_append, List.cons_append, List.append_nil, updsL, List.length_cons, List.length_nil]; decide +kernel) | exact rfl)) ?_; conv => whnf) | (refine And.intro rfl ?_; conv => whnf) | (refine And.intro (fun _ => ?_) (fun h => Bool.noConfusion h); conv => whnf) | (refine And.intro (fun h => Bool.noConfusion h) (fun _ => ?_); conv => whnf))
  refine ⟨by omega, ?_⟩
  (conv => whnf); repeat (first | (refine And.intro (DrawOk.mk (by first | (simp only [List.map_cons, List.map_nil, List.nil_append, List.cons_append, List.append_nil, updsL, List.length_cons, List.length_nil]; decide +kernel) | exact rfl)) ?_; conv => whnf) | (refine And.intro rfl ?_; conv => whnf) | (refine And.intro (fun _ => ?_) (fun h => Bool.noConfusion h); conv => whnf) | (refine And.intro (fun h => Bool.noConfusion h) (fun _ => ?_); conv => whnf))
  refine Exists.intro [] (And.intro List.nodup_nil ?_); ((conv => whnf); repeat (first | (refine And.intro (DrawOk.mk (by first | (simp only [List.map_cons, List.map_nil, List.nil_append, List.cons_append, List.append_nil, updsL, List.length_cons, List.length_nil]; decide +kernel) | exact rfl)) ?_; conv => whnf) | (refine And.intro rfl ?_; conv => whnf) | (refine And.intro (fun _ => ?_) (fun h => Bool.noConfusion h); conv => whnf) | (refine And.intro (fun h => Bool.noConfusion h) (fun _ => ?_); conv => whnf)))
  rfl
set_option maxRecDepth 100000 in
set_option maxHeartbeats 8000000 in
theorem cnumF (a k : Int) : Fun Try.prog 52 [i64V a, i64V k] [] (.v (strV (nu a k))) := by
  have p1 := putF' a k
  unfold nu
  refine fun_of_vc tabOk mixOk Try.func52 rfl (by rfl) (rs := [.tmp 4]) rfl rfl 18 ?_; rw [Try.ntmps52]
  (conv => whnf); repeat (first | (refine And.intro (DrawOk.mk (by first | (simp only [List.map_cons, List.map_nil, List.nil_append, List.cons_append, List.append_nil, updsL, List.length_cons, List.length_nil]; decide +kernel) | exact rfl)) ?_; conv => whnf) | (refine And.intro rfl ?_; conv => whnf) | (refine And.intro (fun _ => ?_) (fun h => Bool.noConfusion h); conv => whnf) | (refine And.intro (fun h => Bool.noConfusion h) (fun _ => ?_); conv => whnf))
  refine ⟨_, _, p1, ?_⟩
  (conv => whnf); repeat (first | (refine And.intro (DrawOk.mk (by first | (simp only [List.map_cons, List.map_nil, List.nil_append, List.cons_append, List.append_nil, updsL, List.length_cons, List.length_nil]; decide +kernel) | exact rfl)) ?_; conv => whnf) | (refine And.intro rfl ?_; conv => whnf) | (refine And.intro (fun _ => ?_) (fun h => Bool.noConfusion h); conv => whnf) | (refine And.intro (fun h => Bool.noConfusion h) (fun _ => ?_); conv => whnf))
  refine Exists.intro [] (And.intro List.nodup_nil ?_); ((conv => whnf); repeat (first | (refine And.intro (DrawOk.mk (by first | (simp only [List.map_cons, List.map_nil, List.nil_append, List.cons_append, List.append_nil, updsL, List.length_cons, List.length_nil]; decide +kernel) | exact rfl)) ?_; conv => whnf) | (refine And.intro rfl ?_; conv => whnf) | (refine And.intro (fun _ => ?_) (fun h => Bool.noConfusion h); conv => whnf) | (refine And.intro (fun h => Bool.noConfusion h) (fun _ => ?_); conv => whnf)))
  rfl
theorem crc_snoc' (B x : List UInt8) : Crc.add crcP crcO (crcN B) (x.map UInt8.toNat) = crcN (B ++ x) := by unfold crcN; rw [List.map_append, Crc.add_append]
theorem caddC (B : List UInt8) (s : ByteArray) (hs : s.size ≤ 1000000) : Fun Try.prog 79 [u32V (crcN B), strV s] [] (.v (u32V (crcN (B ++ sL s)))) := by
  rw [← crc_snoc']
  exact fun_of_calls (args := [.int .u32 (crcN B), .string s]) (v := .int .u32 (Crc.add crcP crcO (crcN B) (crcB s) : Nat)) ⟨_, Try.func79, rfl, by rfl⟩ rfl (fun w => add_any (crcN B) s w (crcN_lt B) (by unfold maxLen; omega))
theorem bodies_snoc (rs : List Rec) (r : Rec) : bodies (rs ++ [r]) = bodies rs ++ (if rchk r = 0 then bodyL r else []) := by simp [bodies]
theorem bodies_len (rs : List Rec) : (bodies rs).length ≤ 36 * rs.length := by
  induction rs with
  | nil => simp [bodies]
  | cons r rs ih =>
    have : bodies (r :: rs) = (if rchk r = 0 then bodyL r else []) ++ bodies rs := by simp [bodies]
    rw [this, List.length_append, List.length_cons]
    split
    · rename_i h
      rw [body_len (rchk_ok h).2.2.2.2.1]
      omega
    · simp; omega
theorem enc36 {r : Rec} (h : rchk r = 0) : sL ((sS (encL r)).extract (0 : Int).toNat (36 : Int).toNat) = bodyL r := by
  have h5 := (rchk_ok h).2.2.2.2.1
  rw [ex36 (by rw [sS_size, enc_len h5]), sL_S, encL, sealL]
  exact List.take_left' (body_len h5)
theorem enc36s {r : Rec} (h : rchk r = 0) : (sS (encL r)).extract (0 : Int).toNat (36 : Int).toNat = sS (bodyL r) := sL_inj (enc36 h)
set_option maxRecDepth 100000 in
set_option maxHeartbeats 8000000 in
theorem csumF (rs : List Rec) (hl : rs.length ≤ 140737488355328) : Fun Try.prog 51 [slV (rR rs)] [] (.v (strV (sumR rs))) := by
  have hs := sumF ByteArray.empty (by decide)
  refine fun_of_vc tabOk mixOk Try.func51 rfl (by rfl) (rs := [.tmp 2]) rfl rfl 41 ?_; rw [Try.ntmps51]
  (conv => whnf); repeat (first | (refine And.intro (DrawOk.mk (by first | (simp only [List.map_cons, List.map_nil, List.nil_append, List.cons_append, List.append_nil, updsL, List.length_cons, List.length_nil]; decide +kernel) | exact rfl)) ?_; conv => whnf) | (refine And.intro rfl ?_; conv => whnf) | (refine And.intro (fun _ => ?_) (fun h => Bool.noConfusion h); conv => whnf) | (refine And.intro (fun h => Bool.noConfusion h) (fun _ => ?_); conv => whnf))
  refine ⟨_, _, hs, ?_⟩
  (conv => whnf); repeat (first | (refine And.intro (DrawOk.mk (by first | (simp only [List.map_cons, List.map_nil, List.nil_append, List.cons_append, List.append_nil, updsL, List.length_cons, List.length_nil]; decide +kernel) | exact rfl)) ?_; conv => whnf) | (refine And.intro rfl ?_; conv => whnf) | (refine And.intro (fun _ => ?_) (fun h => Bool.noConfusion h); conv => whnf) | (refine And.intro (fun h => Bool.noConfusion h) (fun _ => ?_); conv => whnf))
  refine vc_loop [2, 11, 12] [] (X := Nat) (fun x gs => [(13, ATint x), (3, .v (u32V (crcN (bodies (rs.take x)))))]) (fun _ _ => []) (fun x => x ≤ rs.length) (fun x => rs.length - x) _ (Ghost.refl _) 0 (Nat.zero_le _) ?_ ?_
  · (refine And.intro rfl (And.intro rfl ?_)); (repeat' (first | exact trivial | exact rfl | apply And.intro | (refine congrArg (Value.int .i64) (w64_nat ?_); omega)))
  rintro gs k hk
  (conv => whnf); repeat (first | (refine And.intro (DrawOk.mk (by first | (simp only [List.map_cons, List.map_nil, List.nil_append, List.cons_append, List.append_nil, updsL, List.length_cons, List.length_nil]; decide +kernel) | exact rfl)) ?_; conv => whnf) | (refine And.intro rfl ?_; conv => whnf) | (refine And.intro (fun _ => ?_) (fun h => Bool.noConfusion h); conv => whnf) | (refine And.intro (fun h => Bool.noConfusion h) (fun _ => ?_); conv => whnf))
  refine And.intro (fun h => ?_) (fun h => ?_)
  · have hlt : k < rs.length := by have := of_decide_eq_true h; rw [rLen] at this; omega
    have he := rencF rs[k].k rs[k].b rs[k].v rs[k].m rs[k].p
    rw [show (⟨rs[k].k, rs[k].b, rs[k].v, rs[k].m, rs[k].p⟩ : Rec) = rs[k] from rfl] at he
    have hsn : bodies (rs.take (k + 1)) = bodies (rs.take k) ++ (if rchk rs[k] = 0 then bodyL rs[k] else []) := by rw [List.take_succ_eq_append_getElem hlt, bodies_snoc]
    have hit := rItem hlt
    (conv => whnf); repeat (first | (refine And.intro (DrawOk.mk (by first | (simp only [List.map_cons, List.map_nil, List.nil_append, List.cons_append, List.append_nil, updsL, List.length_cons, List.length_nil]; decide +kernel) | exact rfl)) ?_; conv => whnf) | (refine And.intro rfl ?_; conv => whnf) | (refine And.intro (fun _ => ?_) (fun h => Bool.noConfusion h); conv => whnf) | (refine And.intro (fun h => Bool.noConfusion h) (fun _ => ?_); conv => whnf))
    refine ⟨by omega, _, hit, rfl, ?_⟩
    (conv => whnf); repeat (first | (refine And.intro (DrawOk.mk (by first | (simp only [List.map_cons, List.map_nil, List.nil_append, List.cons_append, List.append_nil, updsL, List.length_cons, List.length_nil]; decide +kernel) | exact rfl)) ?_; conv => whnf) | (refine And.intro rfl ?_; conv => whnf) | (refine And.intro (fun _ => ?_) (fun h => Bool.noConfusion h); conv => whnf) | (refine And.intro (fun h => Bool.noConfusion h) (fun _ => ?_); conv => whnf))
    by_cases hc : rchk rs[k] = 0
    · have h5 := (rchk_ok hc).2.2.2.2.1
      rw [renc_yes hc] at he
      rw [if_pos hc] at hsn
      have ha := caddC (bodies (rs.take k)) (sS (bodyL rs[k])) (by rw [sS_size, body_len h5]; decide)
      rw [sL_S, ← hsn] at ha
      have hsz : (sS (encL rs[k])).size = 40 := by rw [sS_size, enc_len h5]
      have hex := enc36s hc
      refine ⟨_, _, he, ?_⟩
      generalize sS (encL rs[k]) = E at hsz hex
      (conv => whnf); repeat (first | (refine And.intro (DrawOk.mk (by first | (simp only [List.map_cons, List.map_nil, List.nil_append, List.cons_append, List.append_nil, updsL, List.length_cons, List.length_nil]; decide +kernel) | exact rfl)) ?_; conv => whnf) | (refine And.intro rfl ?_; conv => whnf) | (refine And.intro (fun _ => ?_) (fun h => Bool.noConfusion h); conv => whnf) | (refine And.intro (fun h => Bool.noConfusion h) (fun _ => ?_); conv => whnf))
      refine And.intro (fun h2 => ?_) (fun h2 => absurd h2 (by simp [hsz]))
      (conv => whnf); repeat (first | (refine And.intro (DrawOk.mk (by first | (simp only [List.map_cons, List.map_nil, List.nil_append, List.cons_append, List.append_nil, updsL, List.length_cons, List.length_nil]; decide +kernel) | exact rfl)) ?_; conv => whnf) | (refine And.intro rfl ?_; conv => whnf) | (refine And.intro (fun _ => ?_) (fun h => Bool.noConfusion h); conv => whnf) | (refine And.intro (fun h => Bool.noConfusion h) (fun _ => ?_); conv => whnf))
      refine ⟨by decide, by decide, by dsimp only; omega, ?_⟩
      (conv => whnf); repeat (first | (refine And.intro (DrawOk.mk (by first | (simp only [List.map_cons, List.map_nil, List.nil_append, List.cons_append, List.append_nil, updsL, List.length_cons, List.length_nil]; decide +kernel) | exact rfl)) ?_; conv => whnf) | (refine And.intro rfl ?_; conv => whnf) | (refine And.intro (fun _ => ?_) (fun h => Bool.noConfusion h); conv => whnf) | (refine And.intro (fun h => Bool.noConfusion h) (fun _ => ?_); conv => whnf))
      rw [hex]
      refine ⟨_, _, ha, ?_⟩
      (conv => whnf); repeat (first | (refine And.intro (DrawOk.mk (by first | (simp only [List.map_cons, List.map_nil, List.nil_append, List.cons_append, List.append_nil, updsL, List.length_cons, List.length_nil]; decide +kernel) | exact rfl)) ?_; conv => whnf) | (refine And.intro rfl ?_; conv => whnf) | (refine And.intro (fun _ => ?_) (fun h => Bool.noConfusion h); conv => whnf) | (refine And.intro (fun h => Bool.noConfusion h) (fun _ => ?_); conv => whnf))
      refine again (k + 1) hlt (by omega) ?_
      (refine And.intro rfl (And.intro rfl ?_)); (repeat' (first | exact trivial | exact rfl | apply And.intro | (refine congrArg (Value.int .i64) (w64_nat ?_); omega)))
    · rw [renc_no hc] at he
      rw [if_neg hc, List.append_nil] at hsn
      refine ⟨_, _, he, ?_⟩
      (conv => whnf); repeat (first | (refine And.intro (DrawOk.mk (by first | (simp only [List.map_cons, List.map_nil, List.nil_append, List.cons_append, List.append_nil, updsL, List.length_cons, List.length_nil]; decide +kernel) | exact rfl)) ?_; conv => whnf) | (refine And.intro rfl ?_; conv => whnf) | (refine And.intro (fun _ => ?_) (fun h => Bool.noConfusion h); conv => whnf) | (refine And.intro (fun h => Bool.noConfusion h) (fun _ => ?_); conv => whnf))
      refine again (k + 1) hlt (by omega) ?_
      (refine And.intro rfl (And.intro rfl ?_)); (repeat' (first | exact trivial | exact rfl | apply And.intro | (refine congrArg (Value.int .i64) (w64_nat ?_); omega)))
      all_goals exact congrArg (fun z => Value.int .u32 (crcN z : Nat)) hsn.symm
  · have hge : ¬ k < rs.length := by have := of_decide_eq_false h; rw [rLen] at this; omega
    have hp := putF (crcN (bodies rs) : Nat) 4
    have hq := crc_put (bodies rs)
    have h64 := crc_i64 (bodies rs)
    rw [List.take_of_length_le (Nat.le_of_not_lt hge)]
    unfold sumR
    (conv => whnf); repeat (first | (refine And.intro (DrawOk.mk (by first | (simp only [List.map_cons, List.map_nil, List.nil_append, List.cons_append, List.append_nil, updsL, List.length_cons, List.length_nil]; decide +kernel) | exact rfl)) ?_; conv => whnf) | (refine And.intro rfl ?_; conv => whnf) | (refine And.intro (fun _ => ?_) (fun h => Bool.noConfusion h); conv => whnf) | (refine And.intro (fun h => Bool.noConfusion h) (fun _ => ?_); conv => whnf))
    rw [h64]
    refine ⟨_, _, hp, ?_⟩
    rw [hq]
    (conv => whnf); repeat (first | (refine And.intro (DrawOk.mk (by first | (simp only [List.map_cons, List.map_nil, List.nil_append, List.cons_append, List.append_nil, updsL, List.length_cons, List.length_nil]; decide +kernel) | exact rfl)) ?_; conv => whnf) | (refine And.intro rfl ?_; conv => whnf) | (refine And.intro (fun _ => ?_) (fun h => Bool.noConfusion h); conv => whnf) | (refine And.intro (fun h => Bool.noConfusion h) (fun _ => ?_); conv => whnf))
    refine Exists.intro [] (And.intro List.nodup_nil ?_); ((conv => whnf); repeat (first | (refine And.intro (DrawOk.mk (by first | (simp only [List.map_cons, List.map_nil, List.nil_append, List.cons_append, List.append_nil, updsL, List.length_cons, List.length_nil]; decide +kernel) | exact rfl)) ?_; conv => whnf) | (refine And.intro rfl ?_; conv => whnf) | (refine And.intro (fun _ => ?_) (fun h => Bool.noConfusion h); conv => whnf) | (refine And.intro (fun h => Bool.noConfusion h) (fun _ => ?_); conv => whnf)))
    rfl
theorem nu_nat (n k : Nat) (h1 : 1 ≤ k) (h7 : k ≤ 7) (hn : n < 256 ^ k) : nu (n : Int) k = sS (putB n k) := num_nat h1 h7 hn
theorem nu_4 (n : Nat) (hn : n < 256 ^ 4) : nu (n : Int) ((4 : Nat) : Int) = sS (putB n 4) := nu_nat n 4 (by omega) (by omega) hn
theorem cnum4 (n : Nat) (hn : n < 256 ^ 4) : Fun Try.prog 52 [i64V n, i64V ((4 : Nat) : Int)] [] (.v (strV (sS (putB n 4)))) := by
  have h := cnumF n ((4 : Nat) : Int)
  rw [nu_4 n hn] at h
  exact h
set_option maxRecDepth 100000 in
set_option maxHeartbeats 8000000 in
theorem csumF' (rs : List Rec) (hl : rs.length ≤ 20000) : Fun Try.prog 53 [slV (rR rs)] [] (.v (strV (sumR rs))) := by
  have hbl := bodies_len rs
  refine fun_of_vc tabOk mixOk Try.func53 rfl (by rfl) (rs := [.tmp 2]) rfl rfl 35 ?_; rw [Try.ntmps53]
  (conv => whnf); repeat (first | (refine And.intro (DrawOk.mk (by first | (simp only [List.map_cons, List.map_nil, List.nil_append, List.cons_append, List.append_nil, updsL, List.length_cons, List.length_nil]; decide +kernel) | exact rfl)) ?_; conv => whnf) | (refine And.intro rfl ?_; conv => whnf) | (refine And.intro (fun _ => ?_) (fun h => Bool.noConfusion h); conv => whnf) | (refine And.intro (fun h => Bool.noConfusion h) (fun _ => ?_); conv => whnf))
  refine vc_loop [0, 2] [] (X := Nat × ByteArray) (fun x gs => [(4, ATint x.1), (3, .v (strV x.2))]) (fun _ _ => []) (fun x => x.1 ≤ rs.length ∧ x.2 = sS (bodies (rs.take x.1))) (fun x => rs.length - x.1) _ (Ghost.refl _) (0, ⟨#[]⟩) ⟨Nat.zero_le _, rfl⟩ ?_ ?_
  · (refine And.intro rfl (And.intro rfl ?_)); (repeat' (first | exact trivial | exact rfl | apply And.intro | (refine congrArg (Value.int .i64) (w64_nat ?_); omega)))
  rintro gs ⟨k, A⟩ ⟨hk, hA⟩
  dsimp only at hk hA ⊢
  (conv => whnf); repeat (first | (refine And.intro (DrawOk.mk (by first | (simp only [List.map_cons, List.map_nil, List.nil_append, List.cons_append, List.append_nil, updsL, List.length_cons, List.length_nil]; decide +kernel) | exact rfl)) ?_; conv => whnf) | (refine And.intro rfl ?_; conv => whnf) | (refine And.intro (fun _ => ?_) (fun h => Bool.noConfusion h); conv => whnf) | (refine And.intro (fun h => Bool.noConfusion h) (fun _ => ?_); conv => whnf))
  refine And.intro (fun h => ?_) (fun h => ?_)
  · have hlt : k < rs.length := by have := of_decide_eq_true h; rw [rLen] at this; omega
    have he := rencF' rs[k].k rs[k].b rs[k].v rs[k].m rs[k].p
    rw [show (⟨rs[k].k, rs[k].b, rs[k].v, rs[k].m, rs[k].p⟩ : Rec) = rs[k] from rfl] at he
    have hsn : bodies (rs.take (k + 1)) = bodies (rs.take k) ++ (if rchk rs[k] = 0 then bodyL rs[k] else []) := by rw [List.take_succ_eq_append_getElem hlt, bodies_snoc]
    have hbk := bodies_len (rs.take k)
    rw [List.length_take] at hbk
    have hit := rItem hlt
    (conv => whnf); repeat (first | (refine And.intro (DrawOk.mk (by first | (simp only [List.map_cons, List.map_nil, List.nil_append, List.cons_append, List.append_nil, updsL, List.length_cons, List.length_nil]; decide +kernel) | exact rfl)) ?_; conv => whnf) | (refine And.intro rfl ?_; conv => whnf) | (refine And.intro (fun _ => ?_) (fun h => Bool.noConfusion h); conv => whnf) | (refine And.intro (fun h => Bool.noConfusion h) (fun _ => ?_); conv => whnf))
    refine ⟨by omega, _, hit, rfl, ?_⟩
    (conv => whnf); repeat (first | (refine And.intro (DrawOk.mk (by first | (simp only [List.map_cons, List.map_nil, List.nil_append, List.cons_append, List.append_nil, updsL, List.length_cons, List.length_nil]; decide +kernel) | exact rfl)) ?_; conv => whnf) | (refine And.intro rfl ?_; conv => whnf) | (refine And.intro (fun _ => ?_) (fun h => Bool.noConfusion h); conv => whnf) | (refine And.intro (fun h => Bool.noConfusion h) (fun _ => ?_); conv => whnf))
    by_cases hc : rchk rs[k] = 0
    · have h5 := (rchk_ok hc).2.2.2.2.1
      rw [renc_yes hc] at he
      rw [if_pos hc] at hsn
      have hsz : (sS (encL rs[k])).size = 40 := by rw [sS_size, enc_len h5]
      have hex := enc36s hc
      have hb36 := body_len h5
      refine ⟨_, _, he, ?_⟩
      generalize sS (encL rs[k]) = E at hsz hex
      (conv => whnf); repeat (first | (refine And.intro (DrawOk.mk (by first | (simp only [List.map_cons, List.map_nil, List.nil_append, List.cons_append, List.append_nil, updsL, List.length_cons, List.length_nil]; decide +kernel) | exact rfl)) ?_; conv => whnf) | (refine And.intro rfl ?_; conv => whnf) | (refine And.intro (fun _ => ?_) (fun h => Bool.noConfusion h); conv => whnf) | (refine And.intro (fun h => Bool.noConfusion h) (fun _ => ?_); conv => whnf))
      refine ⟨by decide, by decide, by dsimp only; omega, ?_⟩
      (conv => whnf); repeat (first | (refine And.intro (DrawOk.mk (by first | (simp only [List.map_cons, List.map_nil, List.nil_append, List.cons_append, List.append_nil, updsL, List.length_cons, List.length_nil]; decide +kernel) | exact rfl)) ?_; conv => whnf) | (refine And.intro rfl ?_; conv => whnf) | (refine And.intro (fun _ => ?_) (fun h => Bool.noConfusion h); conv => whnf) | (refine And.intro (fun h => Bool.noConfusion h) (fun _ => ?_); conv => whnf))
      rw [hex]
      refine ⟨by rw [hA, sS_size, sS_size]; omega, ?_⟩
      (conv => whnf); repeat (first | (refine And.intro (DrawOk.mk (by first | (simp only [List.map_cons, List.map_nil, List.nil_append, List.cons_append, List.append_nil, updsL, List.length_cons, List.length_nil]; decide +kernel) | exact rfl)) ?_; conv => whnf) | (refine And.intro rfl ?_; conv => whnf) | (refine And.intro (fun _ => ?_) (fun h => Bool.noConfusion h); conv => whnf) | (refine And.intro (fun h => Bool.noConfusion h) (fun _ => ?_); conv => whnf))
      refine again (k + 1, A ++ sS (bodyL rs[k])) ⟨hlt, by dsimp only; rw [hsn, ← sS_append, hA]⟩ (by dsimp only; omega) ?_
      (refine And.intro rfl (And.intro rfl ?_)); (repeat' (first | exact trivial | exact rfl | apply And.intro | (refine congrArg (Value.int .i64) (w64_nat ?_); omega)))
    · rw [renc_no hc] at he
      rw [if_neg hc, List.append_nil] at hsn
      refine ⟨_, _, he, ?_⟩
      (conv => whnf); repeat (first | (refine And.intro (DrawOk.mk (by first | (simp only [List.map_cons, List.map_nil, List.nil_append, List.cons_append, List.append_nil, updsL, List.length_cons, List.length_nil]; decide +kernel) | exact rfl)) ?_; conv => whnf) | (refine And.intro rfl ?_; conv => whnf) | (refine And.intro (fun _ => ?_) (fun h => Bool.noConfusion h); conv => whnf) | (refine And.intro (fun h => Bool.noConfusion h) (fun _ => ?_); conv => whnf))
      refine And.intro (fun h2 => absurd (by simpa using h2) hc) (fun h2 => ?_)
      (conv => whnf); repeat (first | (refine And.intro (DrawOk.mk (by first | (simp only [List.map_cons, List.map_nil, List.nil_append, List.cons_append, List.append_nil, updsL, List.length_cons, List.length_nil]; decide +kernel) | exact rfl)) ?_; conv => whnf) | (refine And.intro rfl ?_; conv => whnf) | (refine And.intro (fun _ => ?_) (fun h => Bool.noConfusion h); conv => whnf) | (refine And.intro (fun h => Bool.noConfusion h) (fun _ => ?_); conv => whnf))
      refine again (k + 1, A) ⟨hlt, by dsimp only; rw [hsn, hA]⟩ (by dsimp only; omega) ?_
      (refine And.intro rfl (And.intro rfl ?_)); (repeat' (first | exact trivial | exact rfl | apply And.intro | (refine congrArg (Value.int .i64) (w64_nat ?_); omega)))
  · have hge : ¬ k < rs.length := by have := of_decide_eq_false h; rw [rLen] at this; omega
    have hp := cnum4 (crcN (bodies rs)) (Nat.lt_of_lt_of_le (crcN_lt _) (by decide))
    have h64 := crc_i64 (bodies rs)
    rw [List.take_of_length_le (Nat.le_of_not_lt hge)] at hA
    have hsm := sumF' A (by rw [hA, sS_size]; omega)
    rw [show sL A = bodies rs by rw [hA, sL_S]] at hsm
    clear hA hbl
    unfold sumR
    generalize crcN (bodies rs) = Z at hp hsm h64 ⊢
    (conv => whnf); repeat (first | (refine And.intro (DrawOk.mk (by first | (simp only [List.map_cons, List.map_nil, List.nil_append, List.cons_append, List.append_nil, updsL, List.length_cons, List.length_nil]; decide +kernel) | exact rfl)) ?_; conv => whnf) | (refine And.intro rfl ?_; conv => whnf) | (refine And.intro (fun _ => ?_) (fun h => Bool.noConfusion h); conv => whnf) | (refine And.intro (fun h => Bool.noConfusion h) (fun _ => ?_); conv => whnf))
    refine ⟨_, _, hsm, ?_⟩
    (conv => whnf); repeat (first | (refine And.intro (DrawOk.mk (by first | (simp only [List.map_cons, List.map_nil, List.nil_append, List.cons_append, List.append_nil, updsL, List.length_cons, List.length_nil]; decide +kernel) | exact rfl)) ?_; conv => whnf) | (refine And.intro rfl ?_; conv => whnf) | (refine And.intro (fun _ => ?_) (fun h => Bool.noConfusion h); conv => whnf) | (refine And.intro (fun h => Bool.noConfusion h) (fun _ => ?_); conv => whnf))
    rw [h64]
    refine ⟨_, _, hp, ?_⟩
    (conv => whnf); repeat (first | (refine And.intro (DrawOk.mk (by first | (simp only [List.map_cons, List.map_nil, List.nil_append, List.cons_append, List.append_nil, updsL, List.length_cons, List.length_nil]; decide +kernel) | exact rfl)) ?_; conv => whnf) | (refine And.intro rfl ?_; conv => whnf) | (refine And.intro (fun _ => ?_) (fun h => Bool.noConfusion h); conv => whnf) | (refine And.intro (fun h => Bool.noConfusion h) (fun _ => ?_); conv => whnf))
    refine Exists.intro [] (And.intro List.nodup_nil ?_); ((conv => whnf); repeat (first | (refine And.intro (DrawOk.mk (by first | (simp only [List.map_cons, List.map_nil, List.nil_append, List.cons_append, List.append_nil, updsL, List.length_cons, List.length_nil]; decide +kernel) | exact rfl)) ?_; conv => whnf) | (refine And.intro rfl ?_; conv => whnf) | (refine And.intro (fun _ => ?_) (fun h => Bool.noConfusion h); conv => whnf) | (refine And.intro (fun h => Bool.noConfusion h) (fun _ => ?_); conv => whnf)))
    rfl
end Go.Proofs.Ytkpicojhnnkibaa.Ab
