/- Records as bytes: a record is read back, one bit changed is noticed; a byte changed and the sum made anew is another record or none. -/
import Derived.Test.YtfldnpjmkllekaaQh
namespace Go.Proofs.Ytfldnpjmkllekaa.Ab
set_option linter.unusedVariables false
set_option linter.unusedSimpArgs false
open Go.RowKit

theorem sflip_dec {r : Rec} (h : rchk r = 0) (i b : Int) : rdec (sflip (sS (encL r)) i b) = (r0, 4) := by
  obtain ⟨_, _, _, _, hp, _⟩ := rchk_ok h
  have hl := enc_len hp
  have h1 := dmod_in2 (x := i) (n := ((sS (encL r)).size : Int)) (by rw [sS_size, hl]; decide) (by rw [sS_size, hl]; decide)
  have h2 := dmod_in2 (x := b) (n := 8) (by decide) (by decide)
  rw [sS_size, hl] at h1
  unfold sflip
  rw [sL_S, sS_size, hl]
  exact rdec_flip h (by omega) (Nat.pow_pos (by decide)) (Nat.pow_lt_pow_right (n := 8) (by decide) (by omega))
theorem sflip_size (s : ByteArray) (i b : Int) : (sflip s i b).size = s.size := by
  unfold sflip
  rw [sS_size, setX_len, sL_len]
set_option maxRecDepth 100000 in
set_option maxHeartbeats 16000000 in
theorem recordBackF (k b v m : Int) (p : ByteArray) (i bit : Int) : Fun Try.prog 6 [recV k b v m p, i64V i, i64V bit] [] (ATbool true) := by
  have c1 := rchkF k b v m p
  have c2 := rchkF' k b v m p
  by_cases hc : rchk ⟨k, b, v, m, p⟩ = 0
  · rw [hc] at c1 c2
    obtain ⟨_, _, _, _, hp, _⟩ := rchk_ok hc
    dsimp only at hp
    have hl := enc_len (r := ⟨k, b, v, m, p⟩) hp
    have e1 := rencF k b v m p
    rw [renc_yes hc] at e1
    have hsz : (sS (encL ⟨k, b, v, m, p⟩)).size = 40 := by rw [sS_size, hl]
    have d1 := rdecF (sS (encL ⟨k, b, v, m, p⟩)) (by omega)
    rw [dec_enc hc] at d1
    have fl := flipF (sS (encL ⟨k, b, v, m, p⟩)) i bit (by omega) (by omega)
    have d2 := rdecF (sflip (sS (encL ⟨k, b, v, m, p⟩)) i bit) (by rw [sflip_size]; omega)
    rw [sflip_dec hc] at d2
    generalize sflip (sS (encL ⟨k, b, v, m, p⟩)) i bit = X at fl d2
    generalize sS (encL ⟨k, b, v, m, p⟩) = A at e1 d1 fl
    dsimp only at e1 d1 d2
    refine fun_of_vc tabOk mixOk Try.func6 rfl (by rfl) (rs := [.tmp 6]) rfl rfl 63 ?_; rw [Try.ntmps6]
    (conv => whnf); repeat (first | (refine And.intro rfl ?_; conv => whnf) | (refine And.intro (fun _ => ?_) (fun h => Bool.noConfusion h); conv => whnf) | (refine And.intro (fun h => Bool.noConfusion h) (fun _ => ?_); conv => whnf))
    refine And.intro (fun h => by have := of_decide_eq_true h; omega) (fun h => ?_)
    (conv => whnf); repeat (first | (refine And.intro rfl ?_; conv => whnf) | (refine And.intro (fun _ => ?_) (fun h => Bool.noConfusion h); conv => whnf) | (refine And.intro (fun h => Bool.noConfusion h) (fun _ => ?_); conv => whnf))
    repeat' (first | ((refine And.intro (fun h => ?_) (fun h => ?_)) <;> (try simp at h) <;> ((conv => whnf); repeat (first | (refine And.intro rfl ?_; conv => whnf) | (refine And.intro (fun _ => ?_) (fun h => Bool.noConfusion h); conv => whnf) | (refine And.intro (fun h => Bool.noConfusion h) (fun _ => ?_); conv => whnf)))) | (refine ⟨_, _, rcAwake, ?_⟩; ((conv => whnf); repeat (first | (refine And.intro rfl ?_; conv => whnf) | (refine And.intro (fun _ => ?_) (fun h => Bool.noConfusion h); conv => whnf) | (refine And.intro (fun h => Bool.noConfusion h) (fun _ => ?_); conv => whnf)))) | (refine ⟨_, _, c1, ?_⟩; ((conv => whnf); repeat (first | (refine And.intro rfl ?_; conv => whnf) | (refine And.intro (fun _ => ?_) (fun h => Bool.noConfusion h); conv => whnf) | (refine And.intro (fun h => Bool.noConfusion h) (fun _ => ?_); conv => whnf)))) | (refine ⟨_, _, c2, ?_⟩; ((conv => whnf); repeat (first | (refine And.intro rfl ?_; conv => whnf) | (refine And.intro (fun _ => ?_) (fun h => Bool.noConfusion h); conv => whnf) | (refine And.intro (fun h => Bool.noConfusion h) (fun _ => ?_); conv => whnf)))) | (refine ⟨_, _, e1, ?_⟩; ((conv => whnf); repeat (first | (refine And.intro rfl ?_; conv => whnf) | (refine And.intro (fun _ => ?_) (fun h => Bool.noConfusion h); conv => whnf) | (refine And.intro (fun h => Bool.noConfusion h) (fun _ => ?_); conv => whnf)))) | (refine ⟨_, _, d1, ?_⟩; ((conv => whnf); repeat (first | (refine And.intro rfl ?_; conv => whnf) | (refine And.intro (fun _ => ?_) (fun h => Bool.noConfusion h); conv => whnf) | (refine And.intro (fun h => Bool.noConfusion h) (fun _ => ?_); conv => whnf)))) | (refine ⟨_, _, fl, ?_⟩; ((conv => whnf); repeat (first | (refine And.intro rfl ?_; conv => whnf) | (refine And.intro (fun _ => ?_) (fun h => Bool.noConfusion h); conv => whnf) | (refine And.intro (fun h => Bool.noConfusion h) (fun _ => ?_); conv => whnf)))) | (refine ⟨_, _, d2, ?_⟩; ((conv => whnf); repeat (first | (refine And.intro rfl ?_; conv => whnf) | (refine And.intro (fun _ => ?_) (fun h => Bool.noConfusion h); conv => whnf) | (refine And.intro (fun h => Bool.noConfusion h) (fun _ => ?_); conv => whnf)))) | fail)
    all_goals (refine Exists.intro [] (And.intro List.nodup_nil ?_); ((conv => whnf); repeat (first | (refine And.intro rfl ?_; conv => whnf) | (refine And.intro (fun _ => ?_) (fun h => Bool.noConfusion h); conv => whnf) | (refine And.intro (fun h => Bool.noConfusion h) (fun _ => ?_); conv => whnf))))
    all_goals exact congrArg ATbool (by simp)
  · refine fun_of_vc tabOk mixOk Try.func6 rfl (by rfl) (rs := [.tmp 6]) rfl rfl 63 ?_; rw [Try.ntmps6]
    (conv => whnf); repeat (first | (refine And.intro rfl ?_; conv => whnf) | (refine And.intro (fun _ => ?_) (fun h => Bool.noConfusion h); conv => whnf) | (refine And.intro (fun h => Bool.noConfusion h) (fun _ => ?_); conv => whnf))
    repeat' (first | ((refine And.intro (fun h => ?_) (fun h => ?_)) <;> (try simp at h) <;> ((conv => whnf); repeat (first | (refine And.intro rfl ?_; conv => whnf) | (refine And.intro (fun _ => ?_) (fun h => Bool.noConfusion h); conv => whnf) | (refine And.intro (fun h => Bool.noConfusion h) (fun _ => ?_); conv => whnf)))) | (refine ⟨_, _, rcAwake, ?_⟩; ((conv => whnf); repeat (first | (refine And.intro rfl ?_; conv => whnf) | (refine And.intro (fun _ => ?_) (fun h => Bool.noConfusion h); conv => whnf) | (refine And.intro (fun h => Bool.noConfusion h) (fun _ => ?_); conv => whnf)))) | (refine ⟨_, _, c1, ?_⟩; ((conv => whnf); repeat (first | (refine And.intro rfl ?_; conv => whnf) | (refine And.intro (fun _ => ?_) (fun h => Bool.noConfusion h); conv => whnf) | (refine And.intro (fun h => Bool.noConfusion h) (fun _ => ?_); conv => whnf)))) | (refine ⟨_, _, c2, ?_⟩; ((conv => whnf); repeat (first | (refine And.intro rfl ?_; conv => whnf) | (refine And.intro (fun _ => ?_) (fun h => Bool.noConfusion h); conv => whnf) | (refine And.intro (fun h => Bool.noConfusion h) (fun _ => ?_); conv => whnf)))) | fail)
    all_goals (try exact absurd (by assumption) hc)
    all_goals (refine Exists.intro [] (And.intro List.nodup_nil ?_); ((conv => whnf); repeat (first | (refine And.intro rfl ?_; conv => whnf) | (refine And.intro (fun _ => ?_) (fun h => Bool.noConfusion h); conv => whnf) | (refine And.intro (fun h => Bool.noConfusion h) (fun _ => ?_); conv => whnf))))
    all_goals rfl
set_option maxRecDepth 100000 in
set_option maxHeartbeats 4000000 in
theorem sectorF (k b v m : Int) (p : ByteArray) : Fun Try.prog 29 [recV k b v m p] [] (.v (strV (renc ⟨k, b, v, m, p⟩).1)) := by
  have e := rencF' k b v m p
  refine fun_of_vc tabOk mixOk Try.func29 rfl (by rfl) (rs := [.tmp 2]) rfl rfl 15 ?_; rw [Try.ntmps29]
  (conv => whnf); repeat (first | (refine And.intro rfl ?_; conv => whnf) | (refine And.intro (fun _ => ?_) (fun h => Bool.noConfusion h); conv => whnf) | (refine And.intro (fun h => Bool.noConfusion h) (fun _ => ?_); conv => whnf))
  refine ⟨_, _, e, ?_⟩
  (conv => whnf); repeat (first | (refine And.intro rfl ?_; conv => whnf) | (refine And.intro (fun _ => ?_) (fun h => Bool.noConfusion h); conv => whnf) | (refine And.intro (fun h => Bool.noConfusion h) (fun _ => ?_); conv => whnf))
  refine Exists.intro [] (And.intro List.nodup_nil ?_); ((conv => whnf); repeat (first | (refine And.intro rfl ?_; conv => whnf) | (refine And.intro (fun _ => ?_) (fun h => Bool.noConfusion h); conv => whnf) | (refine And.intro (fun h => Bool.noConfusion h) (fun _ => ?_); conv => whnf)))
  rfl
set_option maxRecDepth 100000 in
set_option maxHeartbeats 4000000 in
theorem sealedF (s : ByteArray) (hs : s.size ≤ 1000) : Fun Try.prog 32 [strV s] [] (.v (strV (sS (sealL (sL s))))) := by
  have e := sealF' s hs
  refine fun_of_vc tabOk mixOk Try.func32 rfl (by rfl) (rs := [.tmp 2]) rfl rfl 9 ?_; rw [Try.ntmps32]
  (conv => whnf); repeat (first | (refine And.intro rfl ?_; conv => whnf) | (refine And.intro (fun _ => ?_) (fun h => Bool.noConfusion h); conv => whnf) | (refine And.intro (fun h => Bool.noConfusion h) (fun _ => ?_); conv => whnf))
  refine ⟨_, _, e, ?_⟩
  (conv => whnf); repeat (first | (refine And.intro rfl ?_; conv => whnf) | (refine And.intro (fun _ => ?_) (fun h => Bool.noConfusion h); conv => whnf) | (refine And.intro (fun h => Bool.noConfusion h) (fun _ => ?_); conv => whnf))
  refine Exists.intro [] (And.intro List.nodup_nil ?_); ((conv => whnf); repeat (first | (refine And.intro rfl ?_; conv => whnf) | (refine And.intro (fun _ => ?_) (fun h => Bool.noConfusion h); conv => whnf) | (refine And.intro (fun h => Bool.noConfusion h) (fun _ => ?_); conv => whnf)))
  rfl
set_option maxRecDepth 100000 in
set_option maxHeartbeats 32000000 in
theorem recordSealedF (L : List Int) (i x : Int) (hb : L.length ≤ 140737488355328) : Fun Try.prog 7 [slV (wV L), i64V i, i64V x] [] (ATbool true) := by
  have hlight := lightF L hb
  by_cases hL : L.length ≤ 300
  · rw [decide_eq_true hL] at hlight
    have hn := dval_in L 0 (n := 90) (by omega) (by omega)
    have hw : iwrap .i64 (1 + dval L 0 90) = 1 + dval L 0 90 := w64_in (by omega)
    have hrec := mkRecF L (dnx L 0) 9 (1 + dval L 0 90) (by omega)
    obtain ⟨r1, _, _⟩ := mkRec_ok (L := L) (k := dnx L 0) (n := 9) (v := 1 + dval L 0 90) (by decide) (by omega)
    generalize mkRec L (dnx L 0) 9 (1 + dval L 0 90) = r at hrec r1
    obtain ⟨_, _, _, _, hp, _⟩ := rchk_ok r1
    have hsec := sectorF r.k r.b r.v r.m r.p
    rw [show renc ⟨r.k, r.b, r.v, r.m, r.p⟩ = _ from renc_yes r1] at hsec
    have hl := enc_len hp
    have hA : (sS (encL r)).size = 40 := by rw [sS_size, hl]
    dsimp only at hsec
    generalize sS (encL r) = A at hsec hA
    obtain ⟨k, hk, hk36⟩ : ∃ k : Nat, dmod i 36 = (k : Int) ∧ k < 36 := by
      have := dmod_in2 (x := i) (n := 36) (by decide) (by decide)
      exact ⟨(dmod i 36).toNat, by omega, by omega⟩
    obtain ⟨d, hd, hd0, hd256⟩ : ∃ d : Nat, iwrap .u8 (iwrap .i64 (1 + dmod x 255)) = (d : Int) ∧ 0 < d ∧ d < 256 := by
      have := dmod_in2 (x := x) (n := 255) (by decide) (by decide)
      refine ⟨(1 + dmod x 255).toNat, ?_, by omega, by omega⟩
      rw [show iwrap .i64 (1 + dmod x 255) = 1 + dmod x 255 from w64_in (by omega)]
      simp [iwrap, IntKind.wrap, IntKind.signed, IntKind.bits]
      omega
    have hmi := modF i 36
    have hmx := modF x 255
    rw [hk] at hmi
    have hB := ex36_size hA
    obtain ⟨B, hBe⟩ : ∃ B, A.extract (0 : Int).toNat (36 : Int).toNat = B := ⟨_, rfl⟩
    rw [hBe] at hB
    have hsl' : (sBytes B).length = B.size := by rw [sBytes_eq, cVb, List.length_map, bI_len, sL_len]
    have hks : k < B.size := by omega
    have hit : (sBytes B)[((k : Int)).toNat]? = some [.sc (.int .u8 (((sL B)[k]'hks).toNat : Int))] := by
      rw [sBytes_eq]
      simp only [cVb, bI, List.map_map, List.getElem?_map]
      rw [show ((k : Int)).toNat = k from rfl, List.getElem?_eq_getElem (by rw [sL_len]; exact hks)]
      rfl
    have hxor := u8_xor (sL B)[k].toNat_lt hd256
    have hset : (sBytes B).set ((k : Int)).toNat [.sc (.int .u8 (((sL B)[k].toNat ^^^ d : Nat) : Int))] = cVb ((bI (sL B)).set k (((sL B)[k].toNat ^^^ d : Nat) : Int)) := by
      rw [sBytes_eq]
      exact bytes_set _ _ _
    have hstr := bytes_setX (l := sL B) (k := k) (d := d) hks
    have hsl := sealedF (sS (setX (sL B) k d)) (by rw [sS_size, setX_len, sL_len]; omega)
    have hS : (sS (sealL (sL (sS (setX (sL B) k d))))).size ≤ 1000 := by rw [sS_size, seal_len, sL_S, setX_len, sL_len]; omega
    generalize sS (sealL (sL (sS (setX (sL B) k d)))) = S at hsl hS
    have d1 := rdecF S (by omega)
    have d2 := rdecF' S (by omega)
    have hz := rdec_zero (s := S)
    generalize rdec S = Y at d1 d2 hz
    obtain ⟨⟨Y1, Y2, Y3, Y4, Y5⟩, Y6⟩ := Y
    have e1 := rencF Y1 Y2 Y3 Y4 Y5
    have he : Y6 = 0 → renc ⟨Y1, Y2, Y3, Y4, Y5⟩ = (S, 0) := fun h => by
      obtain ⟨h1, h2⟩ := hz h
      rw [show renc ⟨Y1, Y2, Y3, Y4, Y5⟩ = _ from renc_yes h1, h2, sS_L]
    generalize renc ⟨Y1, Y2, Y3, Y4, Y5⟩ = E at e1 he
    obtain ⟨E1, E2⟩ := E
    dsimp only at d1 d2 e1
    refine fun_of_vc tabOk mixOk Try.func7 rfl (by rfl) (rs := [.tmp 6]) rfl rfl 89 ?_; rw [Try.ntmps7]
    (conv => whnf); repeat (first | (refine And.intro rfl ?_; conv => whnf) | (refine And.intro (fun _ => ?_) (fun h => Bool.noConfusion h); conv => whnf) | (refine And.intro (fun h => Bool.noConfusion h) (fun _ => ?_); conv => whnf))
    refine ⟨_, _, hlight, ?_⟩
    (conv => whnf); repeat (first | (refine And.intro rfl ?_; conv => whnf) | (refine And.intro (fun _ => ?_) (fun h => Bool.noConfusion h); conv => whnf) | (refine And.intro (fun h => Bool.noConfusion h) (fun _ => ?_); conv => whnf))
    refine ⟨_, _, rollF L (by omega), ?_⟩
    (conv => whnf); repeat (first | (refine And.intro rfl ?_; conv => whnf) | (refine And.intro (fun _ => ?_) (fun h => Bool.noConfusion h); conv => whnf) | (refine And.intro (fun h => Bool.noConfusion h) (fun _ => ?_); conv => whnf))
    refine ⟨_, _, nextF L 0 90 (by omega), ?_⟩
    (conv => whnf); repeat (first | (refine And.intro rfl ?_; conv => whnf) | (refine And.intro (fun _ => ?_) (fun h => Bool.noConfusion h); conv => whnf) | (refine And.intro (fun h => Bool.noConfusion h) (fun _ => ?_); conv => whnf))
    rw [hw]
    refine ⟨_, _, hrec, ?_⟩
    (conv => whnf); repeat (first | (refine And.intro rfl ?_; conv => whnf) | (refine And.intro (fun _ => ?_) (fun h => Bool.noConfusion h); conv => whnf) | (refine And.intro (fun h => Bool.noConfusion h) (fun _ => ?_); conv => whnf))
    refine ⟨_, _, hsec, ?_⟩
    (conv => whnf); repeat (first | (refine And.intro rfl ?_; conv => whnf) | (refine And.intro (fun _ => ?_) (fun h => Bool.noConfusion h); conv => whnf) | (refine And.intro (fun h => Bool.noConfusion h) (fun _ => ?_); conv => whnf))
    rw [hBe]
    refine ⟨by decide, by decide, by omega, ?_⟩
    (conv => whnf); repeat (first | (refine And.intro rfl ?_; conv => whnf) | (refine And.intro (fun _ => ?_) (fun h => Bool.noConfusion h); conv => whnf) | (refine And.intro (fun h => Bool.noConfusion h) (fun _ => ?_); conv => whnf))
    refine ⟨by omega, ?_⟩
    (conv => whnf); repeat (first | (refine And.intro rfl ?_; conv => whnf) | (refine And.intro (fun _ => ?_) (fun h => Bool.noConfusion h); conv => whnf) | (refine And.intro (fun h => Bool.noConfusion h) (fun _ => ?_); conv => whnf))
    refine ⟨_, _, hmi, ?_⟩
    (conv => whnf); repeat (first | (refine And.intro rfl ?_; conv => whnf) | (refine And.intro (fun _ => ?_) (fun h => Bool.noConfusion h); conv => whnf) | (refine And.intro (fun h => Bool.noConfusion h) (fun _ => ?_); conv => whnf))
    refine ⟨by omega, by rw [hsl']; exact hks, ?_⟩
    (conv => whnf); repeat (first | (refine And.intro rfl ?_; conv => whnf) | (refine And.intro (fun _ => ?_) (fun h => Bool.noConfusion h); conv => whnf) | (refine And.intro (fun h => Bool.noConfusion h) (fun _ => ?_); conv => whnf))
    refine ⟨_, hit, ?_⟩
    (conv => whnf); repeat (first | (refine And.intro rfl ?_; conv => whnf) | (refine And.intro (fun _ => ?_) (fun h => Bool.noConfusion h); conv => whnf) | (refine And.intro (fun h => Bool.noConfusion h) (fun _ => ?_); conv => whnf))
    refine ⟨_, _, hmx, ?_⟩
    (conv => whnf); repeat (first | (refine And.intro rfl ?_; conv => whnf) | (refine And.intro (fun _ => ?_) (fun h => Bool.noConfusion h); conv => whnf) | (refine And.intro (fun h => Bool.noConfusion h) (fun _ => ?_); conv => whnf))
    rw [hd]
    refine ⟨by omega, by rw [hsl']; exact hks, ?_⟩
    (conv => whnf); repeat (first | (refine And.intro rfl ?_; conv => whnf) | (refine And.intro (fun _ => ?_) (fun h => Bool.noConfusion h); conv => whnf) | (refine And.intro (fun h => Bool.noConfusion h) (fun _ => ?_); conv => whnf))
    refine ⟨_, hit, ?_⟩
    (conv => whnf); repeat (first | (refine And.intro rfl ?_; conv => whnf) | (refine And.intro (fun _ => ?_) (fun h => Bool.noConfusion h); conv => whnf) | (refine And.intro (fun h => Bool.noConfusion h) (fun _ => ?_); conv => whnf))
    rw [hxor, hset]
    refine ⟨_, rfl, ?_⟩
    (conv => whnf); repeat (first | (refine And.intro rfl ?_; conv => whnf) | (refine And.intro (fun _ => ?_) (fun h => Bool.noConfusion h); conv => whnf) | (refine And.intro (fun h => Bool.noConfusion h) (fun _ => ?_); conv => whnf))
    rw [hstr]
    refine ⟨_, _, hsl, ?_⟩
    (conv => whnf); repeat (first | (refine And.intro rfl ?_; conv => whnf) | (refine And.intro (fun _ => ?_) (fun h => Bool.noConfusion h); conv => whnf) | (refine And.intro (fun h => Bool.noConfusion h) (fun _ => ?_); conv => whnf))
    refine ⟨_, _, d1, ?_⟩
    (conv => whnf); repeat (first | (refine And.intro rfl ?_; conv => whnf) | (refine And.intro (fun _ => ?_) (fun h => Bool.noConfusion h); conv => whnf) | (refine And.intro (fun h => Bool.noConfusion h) (fun _ => ?_); conv => whnf))
    refine ⟨_, _, d2, ?_⟩
    (conv => whnf); repeat (first | (refine And.intro rfl ?_; conv => whnf) | (refine And.intro (fun _ => ?_) (fun h => Bool.noConfusion h); conv => whnf) | (refine And.intro (fun h => Bool.noConfusion h) (fun _ => ?_); conv => whnf))
    refine ⟨_, _, e1, ?_⟩
    (conv => whnf); repeat (first | (refine And.intro rfl ?_; conv => whnf) | (refine And.intro (fun _ => ?_) (fun h => Bool.noConfusion h); conv => whnf) | (refine And.intro (fun h => Bool.noConfusion h) (fun _ => ?_); conv => whnf))
    clear hz
    by_cases hY : Y6 = 0
    · subst hY
      have he' := he rfl
      injection he' with q1 q2
      subst q1 q2
      clear he
      repeat' (first | ((refine And.intro (fun h => ?_) (fun h => ?_)) <;> (try simp at h) <;> ((conv => whnf); repeat (first | (refine And.intro rfl ?_; conv => whnf) | (refine And.intro (fun _ => ?_) (fun h => Bool.noConfusion h); conv => whnf) | (refine And.intro (fun h => Bool.noConfusion h) (fun _ => ?_); conv => whnf)))) | (refine ⟨_, _, rcAwake, ?_⟩; ((conv => whnf); repeat (first | (refine And.intro rfl ?_; conv => whnf) | (refine And.intro (fun _ => ?_) (fun h => Bool.noConfusion h); conv => whnf) | (refine And.intro (fun h => Bool.noConfusion h) (fun _ => ?_); conv => whnf)))) | fail)
      all_goals (refine Exists.intro [] (And.intro List.nodup_nil ?_); ((conv => whnf); repeat (first | (refine And.intro rfl ?_; conv => whnf) | (refine And.intro (fun _ => ?_) (fun h => Bool.noConfusion h); conv => whnf) | (refine And.intro (fun h => Bool.noConfusion h) (fun _ => ?_); conv => whnf))))
      all_goals exact congrArg ATbool (by simp)
    · repeat' (first | ((refine And.intro (fun h => ?_) (fun h => ?_)) <;> (try simp at h) <;> ((conv => whnf); repeat (first | (refine And.intro rfl ?_; conv => whnf) | (refine And.intro (fun _ => ?_) (fun h => Bool.noConfusion h); conv => whnf) | (refine And.intro (fun h => Bool.noConfusion h) (fun _ => ?_); conv => whnf)))) | (refine ⟨_, _, rcAwake, ?_⟩; ((conv => whnf); repeat (first | (refine And.intro rfl ?_; conv => whnf) | (refine And.intro (fun _ => ?_) (fun h => Bool.noConfusion h); conv => whnf) | (refine And.intro (fun h => Bool.noConfusion h) (fun _ => ?_); conv => whnf)))) | fail)
      all_goals (refine Exists.intro [] (And.intro List.nodup_nil ?_); ((conv => whnf); repeat (first | (refine And.intro rfl ?_; conv => whnf) | (refine And.intro (fun _ => ?_) (fun h => Bool.noConfusion h); conv => whnf) | (refine And.intro (fun h => Bool.noConfusion h) (fun _ => ?_); conv => whnf))))
      all_goals first | exact absurd (by assumption) hY | exact congrArg ATbool (by simp [hY])
  · rw [decide_eq_false hL] at hlight
    refine fun_of_vc tabOk mixOk Try.func7 rfl (by rfl) (rs := [.tmp 6]) rfl rfl 89 ?_; rw [Try.ntmps7]
    (conv => whnf); repeat (first | (refine And.intro rfl ?_; conv => whnf) | (refine And.intro (fun _ => ?_) (fun h => Bool.noConfusion h); conv => whnf) | (refine And.intro (fun h => Bool.noConfusion h) (fun _ => ?_); conv => whnf))
    refine ⟨_, _, hlight, ?_⟩
    (conv => whnf); repeat (first | (refine And.intro rfl ?_; conv => whnf) | (refine And.intro (fun _ => ?_) (fun h => Bool.noConfusion h); conv => whnf) | (refine And.intro (fun h => Bool.noConfusion h) (fun _ => ?_); conv => whnf))
    refine ⟨_, _, rcAwake, ?_⟩
    (conv => whnf); repeat (first | (refine And.intro rfl ?_; conv => whnf) | (refine And.intro (fun _ => ?_) (fun h => Bool.noConfusion h); conv => whnf) | (refine And.intro (fun h => Bool.noConfusion h) (fun _ => ?_); conv => whnf))
    refine Exists.intro [] (And.intro List.nodup_nil ?_); ((conv => whnf); repeat (first | (refine And.intro rfl ?_; conv => whnf) | (refine And.intro (fun _ => ?_) (fun h => Bool.noConfusion h); conv => whnf) | (refine And.intro (fun h => Bool.noConfusion h) (fun _ => ?_); conv => whnf)))
    rfl
end Go.Proofs.Ytfldnpjmkllekaa.Ab
namespace Go.Proofs.Ytfldnpjmkllekaa
set_option linter.unusedVariables false
set_option linter.unusedSimpArgs false
open Ab
set_option maxRecDepth 100000 in
theorem recordBack.walk {H : Type} {enc : TypeId × Value → H} {W : World} {base : Nat}
    (v : Value) (d : DataW H) (p : List MemPlace) (hv : Value.okWide Try.prog W .any base 34 v) (h : DataW.Trod enc Try.prog W 0 (fun _ => true) true 34 v d p) (_hw : ∀ n ∈ d.weights Try.prog 34, n ≤ 140737488351232)
    (a1 : Int) (w1 : (Lit.int .i64 a1).wf = true) (a2 : Int) (w2 : (Lit.int .i64 a2).wf = true)
    (W' : World) (hW : W' = W := by rfl) : Calls Try.prog 6 #[v, .int .i64 a1, .int .i64 a2] W' (True1 W') := by
  subst hW
  obtain ⟨r0, q0, q0'⟩ := open_agg tabOk 6 (t := 34) (by decide +kernel) (by rfl) hv h
  obtain ⟨k, b, vv, m, p, rfl, _, _⟩ := rec_of (d := 4) q0
  exact law_of_fun (recordBackF k b vv m p a1 a2) rfl (reps_get (vs := [_, _, _]) ⟨q0' _ _, .sc _ rfl, .sc _ rfl, trivial⟩)
set_option maxRecDepth 100000 in
theorem recordSealed.walk {H : Type} {enc : TypeId × Value → H} {W : World} {base : Nat} (v : Value) (d : DataW H) (p : List MemPlace) (hv : Value.okWide Try.prog W .any base 42 v)
    (h : DataW.Trod enc Try.prog W 0 (fun _ => true) true 42 v d p) (hw : ∀ n ∈ d.weights Try.prog 42, n ≤ 140737488351232)
    (a1 : Int) (w1 : (Lit.int .i64 a1).wf = true) (a2 : Int) (w2 : (Lit.int .i64 a2).wf = true)
    (W' : World) (hW : W' = W := by rfl) : Calls Try.prog 7 #[v, .int .i64 a1, .int .i64 a2] W' (True1 W') := by
  subst hW
  obtain ⟨es, _, q1, q2⟩ := open_sl tabOk 3 (t := 42) (by decide +kernel) rfl hv h
  obtain ⟨xs, rfl⟩ := ints_of (d := 2) es (fun r hr => (q1 r hr).2)
  have b3 := slice_bound tabOk (e := 3) rfl h hw (q2 (fun _ _ => undef) (fun _ => 0))
  rw [bytesOf_eq tabOk (fun h => TK.noConfusion h)] at b3
  have b3' : (wV xs).length * 8 ≤ 140737488351232 := b3
  exact law_of_fun (recordSealedF xs a1 a2 (by simp [wV] at b3'; omega)) rfl (reps_get (vs := [_, _, _]) ⟨q2 _ _, .sc _ rfl, .sc _ rfl, trivial⟩)
end Go.Proofs.Ytfldnpjmkllekaa
