/- Records as bytes: a record is read back; the example. -/
import Derived.Test.YtijajfldpaadnaaQd
namespace Go.Proofs.Ytijajfldpaadnaa.Ab
set_option linter.unusedVariables false
set_option linter.unusedSimpArgs false
open Go.RowKit

theorem putB_zero (n : Nat) : putB n 0 = [] := rfl
theorem encX (r : Rec) : encL r = 90 :: 65 :: (putB r.k.toNat 1 ++ (putB r.p.size 1 ++ (putB r.b.toNat 4 ++ (putB r.v.toNat 6 ++ (putB r.m.toNat 1 ++ (0 :: (sL r.p ++ (List.replicate (20 - r.p.size) 0 ++ putB (crcN (bodyL r)) 4)))))))) := by
  simp only [encL, sealL, bodyL, List.append_assoc, List.cons_append, List.nil_append]
theorem part_mid {α : Type} (a b c : List α) {n k : Nat} (ha : a.length = n) (hb : b.length = k) : ((a ++ (b ++ c)).drop n).take k = b := by
  rw [List.drop_left' ha, List.take_left' hb]
theorem dec_enc {r : Rec} (h : rchk r = 0) : rdec (sS (encL r)) = (r, 0) := by
  obtain ⟨h1, h2, h3, h4, h5, _⟩ := rchk_ok h
  have hl := enc_len h5
  have hb := body_len h5
  have e1 : sL (sS (encL r)) = encL r := rfl
  have e36 : (encL r).take 36 = bodyL r := by rw [encL, sealL]; exact List.take_left' hb
  have e4 : ((encL r).drop 36).take 4 = putB (crcN (bodyL r)) 4 := by
    rw [encL, sealL, List.drop_left' hb]
    exact List.take_of_length_le (by rw [putB_len]; exact Nat.le_refl _)
  have f2 : ((encL r).drop 2).take 1 = putB r.k.toNat 1 := by
    rw [encX]; exact part_mid [90, 65] _ _ rfl (putB_len _ _)
  have f3 : ((encL r).drop 3).take 1 = putB r.p.size 1 := by
    rw [encX]; exact part_mid (90 :: 65 :: putB r.k.toNat 1) _ _ (by simp [putB_len]) (putB_len _ _)
  have f4 : ((encL r).drop 4).take 4 = putB r.b.toNat 4 := by
    rw [encX]
    have := part_mid (90 :: 65 :: (putB r.k.toNat 1 ++ putB r.p.size 1)) (putB r.b.toNat 4) (putB r.v.toNat 6 ++ (putB r.m.toNat 1 ++ (0 :: (sL r.p ++ (List.replicate (20 - r.p.size) 0 ++ putB (crcN (bodyL r)) 4))))) (n := 4) (k := 4) (by simp [putB_len]) (putB_len _ _)
    simpa only [List.cons_append, List.append_assoc] using this
  have f8 : ((encL r).drop 8).take 6 = putB r.v.toNat 6 := by
    rw [encX]
    have := part_mid (90 :: 65 :: (putB r.k.toNat 1 ++ (putB r.p.size 1 ++ putB r.b.toNat 4))) (putB r.v.toNat 6) (putB r.m.toNat 1 ++ (0 :: (sL r.p ++ (List.replicate (20 - r.p.size) 0 ++ putB (crcN (bodyL r)) 4)))) (n := 8) (k := 6) (by simp [putB_len]) (putB_len _ _)
    simpa only [List.cons_append, List.append_assoc] using this
  have f14 : ((encL r).drop 14).take 1 = putB r.m.toNat 1 := by
    rw [encX]
    have := part_mid (90 :: 65 :: (putB r.k.toNat 1 ++ (putB r.p.size 1 ++ (putB r.b.toNat 4 ++ putB r.v.toNat 6)))) (putB r.m.toNat 1) (0 :: (sL r.p ++ (List.replicate (20 - r.p.size) 0 ++ putB (crcN (bodyL r)) 4))) (n := 14) (k := 1) (by simp [putB_len]) (putB_len _ _)
    simpa only [List.cons_append, List.append_assoc] using this
  have f16 : ((encL r).take (16 + r.p.size)).drop 16 = sL r.p := by
    rw [encX]
    have := part_mid (90 :: 65 :: (putB r.k.toNat 1 ++ (putB r.p.size 1 ++ (putB r.b.toNat 4 ++ (putB r.v.toNat 6 ++ (putB r.m.toNat 1 ++ [0])))))) (sL r.p) (List.replicate (20 - r.p.size) 0 ++ putB (crcN (bodyL r)) 4) (n := 16) (k := r.p.size) (by simp [putB_len]) (sL_len _)
    rw [List.drop_take, Nat.add_sub_cancel_left]
    simpa only [List.cons_append, List.append_assoc, List.nil_append] using this
  have hn : ∀ {x : Int}, 0 ≤ x → ((x.toNat : Nat) : Int) = x := fun hx => Int.toNat_of_nonneg hx
  have hcand : candL (encL r) = r := by
    unfold candL
    rw [f2, f3, f4, f8, f14, getN_putB 1 _ (by omega), getN_putB 1 _ (by omega), getN_putB 4 _ (by omega), getN_putB 6 _ (by omega), getN_putB 1 _ (by omega), Nat.min_eq_left h5, f16, hn (by omega), hn (by omega), hn (by omega), hn (by omega)]
    rfl
  have hr := rdec_ok (s := sS (encL r)) (by rw [sS_size, hl]) (by rw [e1, e36, e4, getN_putB 4 _ (Nat.lt_of_lt_of_le (crcN_lt _) (by decide))]) (by rw [e1, hcand]; exact ⟨h, rfl⟩)
  rw [hr, e1, hcand]
theorem encL_inj {a b : Rec} (ha : rchk a = 0) (hb : rchk b = 0) (h : encL a = encL b) : a = b := by
  have h1 := dec_enc ha
  rw [h, dec_enc hb] at h1
  injection h1 with h1
  exact h1.symm
def rx : Rec := ⟨2, 3, 7, 0, ByteArray.empty⟩
theorem rx_ok : rchk rx = 0 := by decide
end Go.Proofs.Ytijajfldpaadnaa.Ab
