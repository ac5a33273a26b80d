/- Records as bytes: Decode of both, the example. -/
import Derived.Test.YtkpicojhnnkibaaQc
namespace Go.Proofs.Ytkpicojhnnkibaa.Ab
set_option linter.unusedVariables false
set_option linter.unusedSimpArgs false
open Go.RowKit

theorem getS {s : ByteArray} (h : s.size = 40) {a k : Nat} (h1 : 1 ≤ k) (h7 : k ≤ 7) (ha : a + k ≤ 40) : sget s a k = ((getN (((sL s).drop a).take k) : Int), 0) := sget_ok h1 h7 (by omega)
theorem cloneS (s : ByteArray) (hs : s.size ≤ 1000) : Fun Try.prog 84 [strV s] [] (.v (strV s)) := by
  have h := fun_of_calls (args := [.string s]) (v := .string s) ⟨_, Try.func102, rfl, by rfl⟩ rfl (fun w => Try.stringslite_Clone s w (by omega))
  refine fun_of_vc tabOk mixOk Try.func84 rfl (by rfl) (rs := [.tmp 2]) rfl rfl 9 ?_; rw [Try.ntmps84]
  (conv => whnf); repeat ((first | refine And.intro DrawOk.go ?_ | refine And.intro rfl ?_ | refine And.intro (fun _ => ?_) (fun h => Bool.noConfusion h) | refine And.intro (fun h => Bool.noConfusion h) (fun _ => ?_)); conv => whnf)
  refine ⟨_, _, h, ?_⟩
  (conv => whnf); repeat ((first | refine And.intro DrawOk.go ?_ | refine And.intro rfl ?_ | refine And.intro (fun _ => ?_) (fun h => Bool.noConfusion h) | refine And.intro (fun h => Bool.noConfusion h) (fun _ => ?_)); conv => whnf)
  refine Exists.intro [] (And.intro List.nodup_nil ?_); ((conv => whnf); repeat ((first | refine And.intro DrawOk.go ?_ | refine And.intro rfl ?_ | refine And.intro (fun _ => ?_) (fun h => Bool.noConfusion h) | refine And.intro (fun h => Bool.noConfusion h) (fun _ => ?_)); conv => whnf))
  rfl
theorem rdec_len {s : ByteArray} (h : s.size ≠ 40) : rdec s = (r0, 2) := by unfold rdec; rw [if_pos h]
theorem rdec_sum {s : ByteArray} (h : s.size = 40) (h2 : getN (((sL s).drop 36).take 4) ≠ crcN ((sL s).take 36)) : rdec s = (r0, 4) := by unfold rdec; rw [if_neg (by omega), if_pos h2]
theorem rdec_form {s : ByteArray} (h : s.size = 40) (h2 : getN (((sL s).drop 36).take 4) = crcN ((sL s).take 36)) (h3 : ¬ (rchk (candL (sL s)) = 0 ∧ encL (candL (sL s)) = sL s)) : rdec s = (r0, 3) := by
  unfold rdec; rw [if_neg (by omega), if_neg (by simpa using h2), if_neg h3]
theorem rdec_ok {s : ByteArray} (h : s.size = 40) (h2 : getN (((sL s).drop 36).take 4) = crcN ((sL s).take 36)) (h3 : rchk (candL (sL s)) = 0 ∧ encL (candL (sL s)) = sL s) : rdec s = (candL (sL s), 0) := by
  unfold rdec; rw [if_neg (by omega), if_neg (by simpa using h2), if_pos h3]
set_option maxRecDepth 100000 in
set_option maxHeartbeats 4000000 in
theorem atF' (s : ByteArray) (a k : Nat) (h : s.size = 40) (h1 : 1 ≤ k) (h7 : k ≤ 7) (ha : a + k ≤ 40) : Fun Try.prog 94 [strV s, i64V a, i64V k] [] (.v (i64V (getN (((sL s).drop a).take k)))) := by
  have hg := getF' s a k (by omega) (by omega) (by omega)
  rw [getS h h1 h7 ha] at hg
  dsimp only at hg
  refine fun_of_vc tabOk mixOk Try.func94 rfl (by rfl) (rs := [.tmp 6]) rfl rfl 21 ?_; rw [Try.ntmps94]
  (conv => whnf); repeat ((first | refine And.intro DrawOk.go ?_ | refine And.intro rfl ?_ | refine And.intro (fun _ => ?_) (fun h => Bool.noConfusion h) | refine And.intro (fun h => Bool.noConfusion h) (fun _ => ?_)); conv => whnf)
  refine ⟨_, _, hg, ?_⟩
  (conv => whnf); repeat ((first | refine And.intro DrawOk.go ?_ | refine And.intro rfl ?_ | refine And.intro (fun _ => ?_) (fun h => Bool.noConfusion h) | refine And.intro (fun h => Bool.noConfusion h) (fun _ => ?_)); conv => whnf)
  refine Exists.intro [] (And.intro List.nodup_nil ?_); ((conv => whnf); repeat ((first | refine And.intro DrawOk.go ?_ | refine And.intro rfl ?_ | refine And.intro (fun _ => ?_) (fun h => Bool.noConfusion h) | refine And.intro (fun h => Bool.noConfusion h) (fun _ => ?_)); conv => whnf))
  rfl
theorem ex36 {s : ByteArray} (h : s.size = 40) : sL (s.extract (0 : Int).toNat (36 : Int).toNat) = (sL s).take 36 := by
  rw [sL_extract]; rfl
theorem ex36_size {s : ByteArray} (h : s.size = 40) : (s.extract (0 : Int).toNat (36 : Int).toNat).size = 36 := by
  rw [← sL_len, ex36 h, List.length_take, sL_len, h]; rfl
theorem ex_pay {s : ByteArray} {n : Nat} : s.extract (16 : Int).toNat ((16 + n : Nat) : Int).toNat = sS (((sL s).take (16 + n)).drop 16) := by
  apply sL_inj
  rw [sL_extract, sL_S]
  rfl

theorem renc_iff (r : Rec) (s : ByteArray) : ((renc r).2 = 0 ∧ (renc r).1 = s) ↔ (rchk r = 0 ∧ encL r = sL s) := by
  by_cases h : rchk r = 0
  · rw [renc_yes h]
    constructor
    · rintro ⟨_, h2⟩; exact ⟨h, by rw [← h2]; rfl⟩
    · rintro ⟨_, h2⟩; exact ⟨rfl, by show sS (encL r) = s; rw [h2]; rfl⟩
  · rw [renc_no h]
    constructor
    · rintro ⟨h1, _⟩; exact absurd h1 h
    · rintro ⟨h1, _⟩; exact absurd h1 h
theorem toList_inj {a b : ByteArray} (h : a.toList = b.toList) : a = b := sL_inj (by rw [← toList_eq, ← toList_eq, h])
set_option maxRecDepth 100000 in
set_option maxHeartbeats 16000000 in
theorem rdecF' (s : ByteArray) (hs : s.size ≤ 1000000) : Fun Try.prog 74 [strV s] [] (.tup [rV (rdec s).1, i64V (rdec s).2]) := by
  by_cases h40 : s.size = 40
  · have g36 := atF' s 36 4 h40 (by decide) (by decide) (by decide)
    have hsum := sumF' (s.extract (0 : Int).toNat (36 : Int).toNat) (by rw [ex36_size h40]; decide)
    rw [ex36 h40] at hsum
    have hw := crc_i64 ((sL s).take 36)
    by_cases h2 : getN (((sL s).drop 36).take 4) = crcN ((sL s).take 36)
    · have g2 := atF' s 2 1 h40 (by decide) (by decide) (by decide)
      have g4 := atF' s 4 4 h40 (by decide) (by decide) (by decide)
      have g8 := atF' s 8 6 h40 (by decide) (by decide) (by decide)
      have g14 := atF' s 14 1 h40 (by decide) (by decide) (by decide)
      have g3 := atF' s 3 1 h40 (by decide) (by decide) (by decide)
      have hmin : ∀ n : Nat, (if (20 : Int) < (n : Int) then (20 : Int) else (n : Int)) = ((min n 20 : Nat) : Int) := fun n => by omega
      have hw2 : ∀ n : Nat, iwrap .i64 (16 + ((min n 20 : Nat) : Int)) = ((16 + min n 20 : Nat) : Int) := fun n => (w64_in (by omega)).trans (by omega)
      have henc := rencF' (candL (sL s)).k (candL (sL s)).b (candL (sL s)).v (candL (sL s)).m (candL (sL s)).p
      have hiff := renc_iff (candL (sL s)) s
      rw [show renc ⟨(candL (sL s)).k, (candL (sL s)).b, (candL (sL s)).v, (candL (sL s)).m, (candL (sL s)).p⟩ = renc (candL (sL s)) from rfl] at henc
      generalize renc (candL (sL s)) = X at henc hiff
      obtain ⟨x, e⟩ := X
      dsimp only at henc hiff
      rw [h2] at g36
      have hres : rdec s = if e = 0 ∧ x = s then (candL (sL s), 0) else (r0, 3) := by
        by_cases hc : e = 0 ∧ x = s
        · rw [if_pos hc, rdec_ok h40 h2 (hiff.1 hc)]
        · rw [if_neg hc, rdec_form h40 h2 (fun h => hc (hiff.2 h))]
      rw [hres]
      refine fun_of_vc tabOk mixOk Try.func74 rfl (by rfl) (rs := [.cell 2 27, .tmp 3]) rfl rfl 52 ?_; rw [Try.ntmps74]
      (conv => whnf); repeat ((first | refine And.intro DrawOk.go ?_ | refine And.intro rfl ?_ | refine And.intro (fun _ => ?_) (fun h => Bool.noConfusion h) | refine And.intro (fun h => Bool.noConfusion h) (fun _ => ?_)); conv => whnf)
      refine And.intro (fun h => by simp at h; omega) (fun _ => ?_)
      (conv => whnf); repeat ((first | refine And.intro DrawOk.go ?_ | refine And.intro rfl ?_ | refine And.intro (fun _ => ?_) (fun h => Bool.noConfusion h) | refine And.intro (fun h => Bool.noConfusion h) (fun _ => ?_)); conv => whnf)
      refine ⟨_, _, g36, ?_⟩
      (conv => whnf); repeat ((first | refine And.intro DrawOk.go ?_ | refine And.intro rfl ?_ | refine And.intro (fun _ => ?_) (fun h => Bool.noConfusion h) | refine And.intro (fun h => Bool.noConfusion h) (fun _ => ?_)); conv => whnf)
      refine ⟨by decide, by decide, by omega, ?_⟩
      (conv => whnf); repeat ((first | refine And.intro DrawOk.go ?_ | refine And.intro rfl ?_ | refine And.intro (fun _ => ?_) (fun h => Bool.noConfusion h) | refine And.intro (fun h => Bool.noConfusion h) (fun _ => ?_)); conv => whnf)
      refine ⟨_, _, hsum, ?_⟩
      (conv => whnf); repeat ((first | refine And.intro DrawOk.go ?_ | refine And.intro rfl ?_ | refine And.intro (fun _ => ?_) (fun h => Bool.noConfusion h) | refine And.intro (fun h => Bool.noConfusion h) (fun _ => ?_)); conv => whnf)
      rw [hw]
      refine And.intro (fun h => by simp at h) (fun _ => ?_)
      (conv => whnf); repeat ((first | refine And.intro DrawOk.go ?_ | refine And.intro rfl ?_ | refine And.intro (fun _ => ?_) (fun h => Bool.noConfusion h) | refine And.intro (fun h => Bool.noConfusion h) (fun _ => ?_)); conv => whnf)
      refine ⟨_, _, g2, ?_⟩
      (conv => whnf); repeat ((first | refine And.intro DrawOk.go ?_ | refine And.intro rfl ?_ | refine And.intro (fun _ => ?_) (fun h => Bool.noConfusion h) | refine And.intro (fun h => Bool.noConfusion h) (fun _ => ?_)); conv => whnf)
      refine ⟨_, _, g4, ?_⟩
      (conv => whnf); repeat ((first | refine And.intro DrawOk.go ?_ | refine And.intro rfl ?_ | refine And.intro (fun _ => ?_) (fun h => Bool.noConfusion h) | refine And.intro (fun h => Bool.noConfusion h) (fun _ => ?_)); conv => whnf)
      refine ⟨_, _, g8, ?_⟩
      (conv => whnf); repeat ((first | refine And.intro DrawOk.go ?_ | refine And.intro rfl ?_ | refine And.intro (fun _ => ?_) (fun h => Bool.noConfusion h) | refine And.intro (fun h => Bool.noConfusion h) (fun _ => ?_)); conv => whnf)
      refine ⟨_, _, g14, ?_⟩
      (conv => whnf); repeat ((first | refine And.intro DrawOk.go ?_ | refine And.intro rfl ?_ | refine And.intro (fun _ => ?_) (fun h => Bool.noConfusion h) | refine And.intro (fun h => Bool.noConfusion h) (fun _ => ?_)); conv => whnf)
      refine ⟨_, _, g3, ?_⟩
      (conv => whnf); repeat ((first | refine And.intro DrawOk.go ?_ | refine And.intro rfl ?_ | refine And.intro (fun _ => ?_) (fun h => Bool.noConfusion h) | refine And.intro (fun h => Bool.noConfusion h) (fun _ => ?_)); conv => whnf)
      rw [hmin, hw2]
      refine ⟨by decide, by omega, by omega, ?_⟩
      (conv => whnf); repeat ((first | refine And.intro DrawOk.go ?_ | refine And.intro rfl ?_ | refine And.intro (fun _ => ?_) (fun h => Bool.noConfusion h) | refine And.intro (fun h => Bool.noConfusion h) (fun _ => ?_)); conv => whnf)
      rw [ex_pay]
      refine ⟨_, _, henc, ?_⟩
      (conv => whnf); repeat ((first | refine And.intro DrawOk.go ?_ | refine And.intro rfl ?_ | refine And.intro (fun _ => ?_) (fun h => Bool.noConfusion h) | refine And.intro (fun h => Bool.noConfusion h) (fun _ => ?_)); conv => whnf)
      refine And.intro (fun h => ?_) (fun h => ?_)
      · have he : ¬ e = 0 := by simpa using h
        (conv => whnf); repeat ((first | refine And.intro DrawOk.go ?_ | refine And.intro rfl ?_ | refine And.intro (fun _ => ?_) (fun h => Bool.noConfusion h) | refine And.intro (fun h => Bool.noConfusion h) (fun _ => ?_)); conv => whnf)
        refine Exists.intro [] (And.intro List.nodup_nil ?_); ((conv => whnf); repeat ((first | refine And.intro DrawOk.go ?_ | refine And.intro rfl ?_ | refine And.intro (fun _ => ?_) (fun h => Bool.noConfusion h) | refine And.intro (fun h => Bool.noConfusion h) (fun _ => ?_)); conv => whnf))
        rw [if_neg (fun h => he h.1)]; rfl
      · have he : e = 0 := by simpa using h
        (conv => whnf); repeat ((first | refine And.intro DrawOk.go ?_ | refine And.intro rfl ?_ | refine And.intro (fun _ => ?_) (fun h => Bool.noConfusion h) | refine And.intro (fun h => Bool.noConfusion h) (fun _ => ?_)); conv => whnf)
        refine And.intro (fun h' => ?_) (fun h' => ?_)
        · have hx : ¬ x = s := fun e => by subst e; simp at h'
          (conv => whnf); repeat ((first | refine And.intro DrawOk.go ?_ | refine And.intro rfl ?_ | refine And.intro (fun _ => ?_) (fun h => Bool.noConfusion h) | refine And.intro (fun h => Bool.noConfusion h) (fun _ => ?_)); conv => whnf)
          refine Exists.intro [] (And.intro List.nodup_nil ?_); ((conv => whnf); repeat ((first | refine And.intro DrawOk.go ?_ | refine And.intro rfl ?_ | refine And.intro (fun _ => ?_) (fun h => Bool.noConfusion h) | refine And.intro (fun h => Bool.noConfusion h) (fun _ => ?_)); conv => whnf))
          rw [if_neg (fun h => hx h.2)]; rfl
        · have hx : x = s := toList_inj (by simpa using h')
          (conv => whnf); repeat ((first | refine And.intro DrawOk.go ?_ | refine And.intro rfl ?_ | refine And.intro (fun _ => ?_) (fun h => Bool.noConfusion h) | refine And.intro (fun h => Bool.noConfusion h) (fun _ => ?_)); conv => whnf)
          refine Exists.intro [] (And.intro List.nodup_nil ?_); ((conv => whnf); repeat ((first | refine And.intro DrawOk.go ?_ | refine And.intro rfl ?_ | refine And.intro (fun _ => ?_) (fun h => Bool.noConfusion h) | refine And.intro (fun h => Bool.noConfusion h) (fun _ => ?_)); conv => whnf))
          rw [if_pos ⟨he, hx⟩]; rfl
    · rw [rdec_sum h40 h2]
      refine fun_of_vc tabOk mixOk Try.func74 rfl (by rfl) (rs := [.cell 2 27, .tmp 3]) rfl rfl 52 ?_; rw [Try.ntmps74]
      (conv => whnf); repeat ((first | refine And.intro DrawOk.go ?_ | refine And.intro rfl ?_ | refine And.intro (fun _ => ?_) (fun h => Bool.noConfusion h) | refine And.intro (fun h => Bool.noConfusion h) (fun _ => ?_)); conv => whnf)
      refine And.intro (fun h => by simp at h; omega) (fun _ => ?_)
      (conv => whnf); repeat ((first | refine And.intro DrawOk.go ?_ | refine And.intro rfl ?_ | refine And.intro (fun _ => ?_) (fun h => Bool.noConfusion h) | refine And.intro (fun h => Bool.noConfusion h) (fun _ => ?_)); conv => whnf)
      refine ⟨_, _, g36, ?_⟩
      (conv => whnf); repeat ((first | refine And.intro DrawOk.go ?_ | refine And.intro rfl ?_ | refine And.intro (fun _ => ?_) (fun h => Bool.noConfusion h) | refine And.intro (fun h => Bool.noConfusion h) (fun _ => ?_)); conv => whnf)
      refine ⟨by decide, by decide, by omega, ?_⟩
      (conv => whnf); repeat ((first | refine And.intro DrawOk.go ?_ | refine And.intro rfl ?_ | refine And.intro (fun _ => ?_) (fun h => Bool.noConfusion h) | refine And.intro (fun h => Bool.noConfusion h) (fun _ => ?_)); conv => whnf)
      refine ⟨_, _, hsum, ?_⟩
      (conv => whnf); repeat ((first | refine And.intro DrawOk.go ?_ | refine And.intro rfl ?_ | refine And.intro (fun _ => ?_) (fun h => Bool.noConfusion h) | refine And.intro (fun h => Bool.noConfusion h) (fun _ => ?_)); conv => whnf)
      rw [hw]
      refine And.intro (fun _ => ?_) (fun h => absurd (show ((getN (((sL s).drop 36).take 4) : Nat) : Int) = (crcN ((sL s).take 36) : Int) by simpa only [bne_eq_false_iff_eq] using h) (by omega))
      (conv => whnf); repeat ((first | refine And.intro DrawOk.go ?_ | refine And.intro rfl ?_ | refine And.intro (fun _ => ?_) (fun h => Bool.noConfusion h) | refine And.intro (fun h => Bool.noConfusion h) (fun _ => ?_)); conv => whnf)
      refine Exists.intro [] (And.intro List.nodup_nil ?_); ((conv => whnf); repeat ((first | refine And.intro DrawOk.go ?_ | refine And.intro rfl ?_ | refine And.intro (fun _ => ?_) (fun h => Bool.noConfusion h) | refine And.intro (fun h => Bool.noConfusion h) (fun _ => ?_)); conv => whnf))
      rfl
  · rw [rdec_len h40]
    refine fun_of_vc tabOk mixOk Try.func74 rfl (by rfl) (rs := [.cell 2 27, .tmp 3]) rfl rfl 52 ?_; rw [Try.ntmps74]
    (conv => whnf); repeat ((first | refine And.intro DrawOk.go ?_ | refine And.intro rfl ?_ | refine And.intro (fun _ => ?_) (fun h => Bool.noConfusion h) | refine And.intro (fun h => Bool.noConfusion h) (fun _ => ?_)); conv => whnf)
    refine And.intro (fun _ => ?_) (fun h => absurd (show (s.size : Int) = 40 by simpa using h) (by omega))
    (conv => whnf); repeat ((first | refine And.intro DrawOk.go ?_ | refine And.intro rfl ?_ | refine And.intro (fun _ => ?_) (fun h => Bool.noConfusion h) | refine And.intro (fun h => Bool.noConfusion h) (fun _ => ?_)); conv => whnf)
    refine Exists.intro [] (And.intro List.nodup_nil ?_); ((conv => whnf); repeat ((first | refine And.intro DrawOk.go ?_ | refine And.intro rfl ?_ | refine And.intro (fun _ => ?_) (fun h => Bool.noConfusion h) | refine And.intro (fun h => Bool.noConfusion h) (fun _ => ?_)); conv => whnf))
    rfl
theorem byteN {s : ByteArray} {i : Nat} (h : i < s.size) : ∃ c : UInt8, s[i]? = some c ∧ getN (((sL s).drop i).take 1) = c.toNat := by
  have h' : i < (sL s).length := h
  exact ⟨(sL s)[i], by rw [sget_eq]; exact List.getElem?_eq_getElem h', get1 h'⟩
theorem byte_i64 (c : UInt8) : iwrap .i64 ((c.toNat : Nat) : Int) = ((c.toNat : Nat) : Int) := by
  have := c.toNat_lt
  exact w64_in (by omega)
set_option maxRecDepth 100000 in
set_option maxHeartbeats 16000000 in
theorem rdecF (s : ByteArray) (hs : s.size ≤ 1000000) : Fun Try.prog 61 [strV s] [] (.tup [rV (rdec s).1, i64V (rdec s).2]) := by
  by_cases h40 : s.size = 40
  · have g36 := getF s 36 4 (by omega) (by decide) (by decide)
    rw [show sget s 36 4 = _ from getS (a := 36) (k := 4) h40 (by decide) (by decide) (by decide)] at g36
    dsimp only at g36
    have hsum := sumF (s.extract (0 : Int).toNat (36 : Int).toNat) (by rw [ex36_size h40]; decide)
    rw [ex36 h40] at hsum
    have hw := crc_i64 ((sL s).take 36)
    by_cases h2 : getN (((sL s).drop 36).take 4) = crcN ((sL s).take 36)
    · rw [h2] at g36
      have g4 := getF s 4 4 (by omega) (by decide) (by decide)
      rw [show sget s 4 4 = _ from getS (a := 4) (k := 4) h40 (by decide) (by decide) (by decide)] at g4
      have g8 := getF s 8 6 (by omega) (by decide) (by decide)
      rw [show sget s 8 6 = _ from getS (a := 8) (k := 6) h40 (by decide) (by decide) (by decide)] at g8
      dsimp only at g4 g8
      obtain ⟨c3, i3, j3⟩ := byteN (s := s) (i := 3) (by omega)
      by_cases h3 : c3.toNat > 20
      · have hb : rdec s = (r0, 3) := rdec_form h40 h2 (fun h => enc_long (l := sL s) h40 (by rw [j3]; exact h3) h.2)
        rw [hb]
        refine fun_of_vc tabOk mixOk Try.func61 rfl (by rfl) (rs := [.cell 2 27, .tmp 3]) rfl rfl 74 ?_; rw [Try.ntmps61]
        (conv => whnf); repeat ((first | refine And.intro DrawOk.go ?_ | refine And.intro rfl ?_ | refine And.intro (fun _ => ?_) (fun h => Bool.noConfusion h) | refine And.intro (fun h => Bool.noConfusion h) (fun _ => ?_)); conv => whnf)
        refine And.intro (fun h => by simp at h; omega) (fun _ => ?_)
        (conv => whnf); repeat ((first | refine And.intro DrawOk.go ?_ | refine And.intro rfl ?_ | refine And.intro (fun _ => ?_) (fun h => Bool.noConfusion h) | refine And.intro (fun h => Bool.noConfusion h) (fun _ => ?_)); conv => whnf)
        refine ⟨_, _, g36, ?_⟩
        (conv => whnf); repeat ((first | refine And.intro DrawOk.go ?_ | refine And.intro rfl ?_ | refine And.intro (fun _ => ?_) (fun h => Bool.noConfusion h) | refine And.intro (fun h => Bool.noConfusion h) (fun _ => ?_)); conv => whnf)
        refine ⟨by decide, by decide, by omega, ?_⟩
        (conv => whnf); repeat ((first | refine And.intro DrawOk.go ?_ | refine And.intro rfl ?_ | refine And.intro (fun _ => ?_) (fun h => Bool.noConfusion h) | refine And.intro (fun h => Bool.noConfusion h) (fun _ => ?_)); conv => whnf)
        refine ⟨_, _, hsum, ?_⟩
        (conv => whnf); repeat ((first | refine And.intro DrawOk.go ?_ | refine And.intro rfl ?_ | refine And.intro (fun _ => ?_) (fun h => Bool.noConfusion h) | refine And.intro (fun h => Bool.noConfusion h) (fun _ => ?_)); conv => whnf)
        rw [hw]
        refine And.intro (fun h => by simp at h) (fun _ => ?_)
        (conv => whnf); repeat ((first | refine And.intro DrawOk.go ?_ | refine And.intro rfl ?_ | refine And.intro (fun _ => ?_) (fun h => Bool.noConfusion h) | refine And.intro (fun h => Bool.noConfusion h) (fun _ => ?_)); conv => whnf)
        refine ⟨by decide, c3, i3, ?_⟩
        (conv => whnf); repeat ((first | refine And.intro DrawOk.go ?_ | refine And.intro rfl ?_ | refine And.intro (fun _ => ?_) (fun h => Bool.noConfusion h) | refine And.intro (fun h => Bool.noConfusion h) (fun _ => ?_)); conv => whnf)
        rw [byte_i64]
        refine And.intro (fun _ => ?_) (fun h => by have := of_decide_eq_false h; omega)
        (conv => whnf); repeat ((first | refine And.intro DrawOk.go ?_ | refine And.intro rfl ?_ | refine And.intro (fun _ => ?_) (fun h => Bool.noConfusion h) | refine And.intro (fun h => Bool.noConfusion h) (fun _ => ?_)); conv => whnf)
        refine Exists.intro [] (And.intro List.nodup_nil ?_); ((conv => whnf); repeat ((first | refine And.intro DrawOk.go ?_ | refine And.intro rfl ?_ | refine And.intro (fun _ => ?_) (fun h => Bool.noConfusion h) | refine And.intro (fun h => Bool.noConfusion h) (fun _ => ?_)); conv => whnf))
        rfl
      · obtain ⟨c2, i2, j2⟩ := byteN (s := s) (i := 2) (by omega)
        obtain ⟨c14, i14, j14⟩ := byteN (s := s) (i := 14) (by omega)
        have hcand : candL (sL s) = ⟨c2.toNat, getN (((sL s).drop 4).take 4), getN (((sL s).drop 8).take 6), c14.toNat, sS (((sL s).take (16 + c3.toNat)).drop 16)⟩ := by
          unfold candL
          rw [j2, j14, j3, Nat.min_eq_left (by omega)]
        have hiff := renc_iff (candL (sL s)) s
        have henc := rencF c2.toNat (getN (((sL s).drop 4).take 4)) (getN (((sL s).drop 8).take 6)) c14.toNat (sS (((sL s).take (16 + c3.toNat)).drop 16))
        rw [← hcand] at henc
        have hclone := cloneS (sS (((sL s).take (16 + c3.toNat)).drop 16)) (by rw [sS_size, List.length_drop, List.length_take, sL_len]; omega)
        have hw2 : iwrap .i64 (16 + (c3.toNat : Int)) = ((16 + c3.toNat : Nat) : Int) := (w64_in (by omega)).trans (by omega)
        generalize renc (candL (sL s)) = X at henc hiff
        obtain ⟨x, e⟩ := X
        dsimp only at henc hiff
        have hres : rdec s = if e = 0 ∧ x = s then (candL (sL s), 0) else (r0, 3) := by
          by_cases hc : e = 0 ∧ x = s
          · rw [if_pos hc, rdec_ok h40 h2 (hiff.1 hc)]
          · rw [if_neg hc, rdec_form h40 h2 (fun h => hc (hiff.2 h))]
        rw [hres, hcand]
        clear hres hcand hiff j2 j14 j3
        refine fun_of_vc tabOk mixOk Try.func61 rfl (by rfl) (rs := [.cell 2 27, .tmp 3]) rfl rfl 74 ?_; rw [Try.ntmps61]
        (conv => whnf); repeat ((first | refine And.intro DrawOk.go ?_ | refine And.intro rfl ?_ | refine And.intro (fun _ => ?_) (fun h => Bool.noConfusion h) | refine And.intro (fun h => Bool.noConfusion h) (fun _ => ?_)); conv => whnf)
        refine And.intro (fun h => by simp at h; omega) (fun _ => ?_)
        (conv => whnf); repeat ((first | refine And.intro DrawOk.go ?_ | refine And.intro rfl ?_ | refine And.intro (fun _ => ?_) (fun h => Bool.noConfusion h) | refine And.intro (fun h => Bool.noConfusion h) (fun _ => ?_)); conv => whnf)
        refine ⟨_, _, g36, ?_⟩
        (conv => whnf); repeat ((first | refine And.intro DrawOk.go ?_ | refine And.intro rfl ?_ | refine And.intro (fun _ => ?_) (fun h => Bool.noConfusion h) | refine And.intro (fun h => Bool.noConfusion h) (fun _ => ?_)); conv => whnf)
        refine ⟨by decide, by decide, by omega, ?_⟩
        (conv => whnf); repeat ((first | refine And.intro DrawOk.go ?_ | refine And.intro rfl ?_ | refine And.intro (fun _ => ?_) (fun h => Bool.noConfusion h) | refine And.intro (fun h => Bool.noConfusion h) (fun _ => ?_)); conv => whnf)
        refine ⟨_, _, hsum, ?_⟩
        (conv => whnf); repeat ((first | refine And.intro DrawOk.go ?_ | refine And.intro rfl ?_ | refine And.intro (fun _ => ?_) (fun h => Bool.noConfusion h) | refine And.intro (fun h => Bool.noConfusion h) (fun _ => ?_)); conv => whnf)
        rw [hw]
        refine And.intro (fun h => by simp at h) (fun _ => ?_)
        (conv => whnf); repeat ((first | refine And.intro DrawOk.go ?_ | refine And.intro rfl ?_ | refine And.intro (fun _ => ?_) (fun h => Bool.noConfusion h) | refine And.intro (fun h => Bool.noConfusion h) (fun _ => ?_)); conv => whnf)
        refine ⟨by decide, c3, i3, ?_⟩
        (conv => whnf); repeat ((first | refine And.intro DrawOk.go ?_ | refine And.intro rfl ?_ | refine And.intro (fun _ => ?_) (fun h => Bool.noConfusion h) | refine And.intro (fun h => Bool.noConfusion h) (fun _ => ?_)); conv => whnf)
        rw [byte_i64]
        refine And.intro (fun h => by have := of_decide_eq_true h; omega) (fun _ => ?_)
        (conv => whnf); repeat ((first | refine And.intro DrawOk.go ?_ | refine And.intro rfl ?_ | refine And.intro (fun _ => ?_) (fun h => Bool.noConfusion h) | refine And.intro (fun h => Bool.noConfusion h) (fun _ => ?_)); conv => whnf)
        refine ⟨by decide, c2, i2, ?_⟩
        (conv => whnf); repeat ((first | refine And.intro DrawOk.go ?_ | refine And.intro rfl ?_ | refine And.intro (fun _ => ?_) (fun h => Bool.noConfusion h) | refine And.intro (fun h => Bool.noConfusion h) (fun _ => ?_)); conv => whnf)
        refine ⟨by decide, c14, i14, ?_⟩
        (conv => whnf); repeat ((first | refine And.intro DrawOk.go ?_ | refine And.intro rfl ?_ | refine And.intro (fun _ => ?_) (fun h => Bool.noConfusion h) | refine And.intro (fun h => Bool.noConfusion h) (fun _ => ?_)); conv => whnf)
        rw [hw2]
        refine ⟨by decide, by omega, by omega, ?_⟩
        (conv => whnf); repeat ((first | refine And.intro DrawOk.go ?_ | refine And.intro rfl ?_ | refine And.intro (fun _ => ?_) (fun h => Bool.noConfusion h) | refine And.intro (fun h => Bool.noConfusion h) (fun _ => ?_)); conv => whnf)
        rw [ex_pay]
        refine ⟨_, _, hclone, ?_⟩
        (conv => whnf); repeat ((first | refine And.intro DrawOk.go ?_ | refine And.intro rfl ?_ | refine And.intro (fun _ => ?_) (fun h => Bool.noConfusion h) | refine And.intro (fun h => Bool.noConfusion h) (fun _ => ?_)); conv => whnf)
        refine ⟨_, _, g4, ?_⟩
        (conv => whnf); repeat ((first | refine And.intro DrawOk.go ?_ | refine And.intro rfl ?_ | refine And.intro (fun _ => ?_) (fun h => Bool.noConfusion h) | refine And.intro (fun h => Bool.noConfusion h) (fun _ => ?_)); conv => whnf)
        refine ⟨_, _, g8, ?_⟩
        (conv => whnf); repeat ((first | refine And.intro DrawOk.go ?_ | refine And.intro rfl ?_ | refine And.intro (fun _ => ?_) (fun h => Bool.noConfusion h) | refine And.intro (fun h => Bool.noConfusion h) (fun _ => ?_)); conv => whnf)
        rw [byte_i64, byte_i64]
        refine ⟨_, _, henc, ?_⟩
        (conv => whnf); repeat ((first | refine And.intro DrawOk.go ?_ | refine And.intro rfl ?_ | refine And.intro (fun _ => ?_) (fun h => Bool.noConfusion h) | refine And.intro (fun h => Bool.noConfusion h) (fun _ => ?_)); conv => whnf)
        refine And.intro (fun h => ?_) (fun h => ?_)
        · have he : ¬ e = 0 := by simpa using h
          (conv => whnf); repeat ((first | refine And.intro DrawOk.go ?_ | refine And.intro rfl ?_ | refine And.intro (fun _ => ?_) (fun h => Bool.noConfusion h) | refine And.intro (fun h => Bool.noConfusion h) (fun _ => ?_)); conv => whnf)
          refine Exists.intro [] (And.intro List.nodup_nil ?_); ((conv => whnf); repeat ((first | refine And.intro DrawOk.go ?_ | refine And.intro rfl ?_ | refine And.intro (fun _ => ?_) (fun h => Bool.noConfusion h) | refine And.intro (fun h => Bool.noConfusion h) (fun _ => ?_)); conv => whnf))
          rw [if_neg (fun h => he h.1)]; rfl
        · have he : e = 0 := by simpa using h
          (conv => whnf); repeat ((first | refine And.intro DrawOk.go ?_ | refine And.intro rfl ?_ | refine And.intro (fun _ => ?_) (fun h => Bool.noConfusion h) | refine And.intro (fun h => Bool.noConfusion h) (fun _ => ?_)); conv => whnf)
          refine And.intro (fun h' => ?_) (fun h' => ?_)
          · have hx : ¬ x = s := fun e => by subst e; simp at h'
            (conv => whnf); repeat ((first | refine And.intro DrawOk.go ?_ | refine And.intro rfl ?_ | refine And.intro (fun _ => ?_) (fun h => Bool.noConfusion h) | refine And.intro (fun h => Bool.noConfusion h) (fun _ => ?_)); conv => whnf)
            refine Exists.intro [] (And.intro List.nodup_nil ?_); ((conv => whnf); repeat ((first | refine And.intro DrawOk.go ?_ | refine And.intro rfl ?_ | refine And.intro (fun _ => ?_) (fun h => Bool.noConfusion h) | refine And.intro (fun h => Bool.noConfusion h) (fun _ => ?_)); conv => whnf))
            rw [if_neg (fun h => hx h.2)]; rfl
          · have hx : x = s := toList_inj (by simpa using h')
            (conv => whnf); repeat ((first | refine And.intro DrawOk.go ?_ | refine And.intro rfl ?_ | refine And.intro (fun _ => ?_) (fun h => Bool.noConfusion h) | refine And.intro (fun h => Bool.noConfusion h) (fun _ => ?_)); conv => whnf)
            refine Exists.intro [] (And.intro List.nodup_nil ?_); ((conv => whnf); repeat ((first | refine And.intro DrawOk.go ?_ | refine And.intro rfl ?_ | refine And.intro (fun _ => ?_) (fun h => Bool.noConfusion h) | refine And.intro (fun h => Bool.noConfusion h) (fun _ => ?_)); conv => whnf))
            rw [if_pos ⟨he, hx⟩]; rfl
    · rw [rdec_sum h40 h2]
      refine fun_of_vc tabOk mixOk Try.func61 rfl (by rfl) (rs := [.cell 2 27, .tmp 3]) rfl rfl 74 ?_; rw [Try.ntmps61]
      (conv => whnf); repeat ((first | refine And.intro DrawOk.go ?_ | refine And.intro rfl ?_ | refine And.intro (fun _ => ?_) (fun h => Bool.noConfusion h) | refine And.intro (fun h => Bool.noConfusion h) (fun _ => ?_)); conv => whnf)
      refine And.intro (fun h => by simp at h; omega) (fun _ => ?_)
      (conv => whnf); repeat ((first | refine And.intro DrawOk.go ?_ | refine And.intro rfl ?_ | refine And.intro (fun _ => ?_) (fun h => Bool.noConfusion h) | refine And.intro (fun h => Bool.noConfusion h) (fun _ => ?_)); conv => whnf)
      refine ⟨_, _, g36, ?_⟩
      (conv => whnf); repeat ((first | refine And.intro DrawOk.go ?_ | refine And.intro rfl ?_ | refine And.intro (fun _ => ?_) (fun h => Bool.noConfusion h) | refine And.intro (fun h => Bool.noConfusion h) (fun _ => ?_)); conv => whnf)
      refine ⟨by decide, by decide, by omega, ?_⟩
      (conv => whnf); repeat ((first | refine And.intro DrawOk.go ?_ | refine And.intro rfl ?_ | refine And.intro (fun _ => ?_) (fun h => Bool.noConfusion h) | refine And.intro (fun h => Bool.noConfusion h) (fun _ => ?_)); conv => whnf)
      refine ⟨_, _, hsum, ?_⟩
      (conv => whnf); repeat ((first | refine And.intro DrawOk.go ?_ | refine And.intro rfl ?_ | refine And.intro (fun _ => ?_) (fun h => Bool.noConfusion h) | refine And.intro (fun h => Bool.noConfusion h) (fun _ => ?_)); conv => whnf)
      rw [hw]
      refine And.intro (fun _ => ?_) (fun h => absurd (show ((getN (((sL s).drop 36).take 4) : Nat) : Int) = (crcN ((sL s).take 36) : Int) by simpa only [bne_eq_false_iff_eq] using h) (by omega))
      (conv => whnf); repeat ((first | refine And.intro DrawOk.go ?_ | refine And.intro rfl ?_ | refine And.intro (fun _ => ?_) (fun h => Bool.noConfusion h) | refine And.intro (fun h => Bool.noConfusion h) (fun _ => ?_)); conv => whnf)
      refine Exists.intro [] (And.intro List.nodup_nil ?_); ((conv => whnf); repeat ((first | refine And.intro DrawOk.go ?_ | refine And.intro rfl ?_ | refine And.intro (fun _ => ?_) (fun h => Bool.noConfusion h) | refine And.intro (fun h => Bool.noConfusion h) (fun _ => ?_)); conv => whnf))
      rfl
  · rw [rdec_len h40]
    refine fun_of_vc tabOk mixOk Try.func61 rfl (by rfl) (rs := [.cell 2 27, .tmp 3]) rfl rfl 74 ?_; rw [Try.ntmps61]
    (conv => whnf); repeat ((first | refine And.intro DrawOk.go ?_ | refine And.intro rfl ?_ | refine And.intro (fun _ => ?_) (fun h => Bool.noConfusion h) | refine And.intro (fun h => Bool.noConfusion h) (fun _ => ?_)); conv => whnf)
    refine And.intro (fun _ => ?_) (fun h => absurd (show (s.size : Int) = 40 by simpa using h) (by omega))
    (conv => whnf); repeat ((first | refine And.intro DrawOk.go ?_ | refine And.intro rfl ?_ | refine And.intro (fun _ => ?_) (fun h => Bool.noConfusion h) | refine And.intro (fun h => Bool.noConfusion h) (fun _ => ?_)); conv => whnf)
    refine Exists.intro [] (And.intro List.nodup_nil ?_); ((conv => whnf); repeat ((first | refine And.intro DrawOk.go ?_ | refine And.intro rfl ?_ | refine And.intro (fun _ => ?_) (fun h => Bool.noConfusion h) | refine And.intro (fun h => Bool.noConfusion h) (fun _ => ?_)); conv => whnf))
    rfl
end Go.Proofs.Ytkpicojhnnkibaa.Ab
