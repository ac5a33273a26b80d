/- Found records: ScanFinds. No condition. -/
import Derived.Test.YtkpicojhnnkibaaNe
namespace Go.Proofs.Ytkpicojhnnkibaa.Ab
set_option linter.unusedVariables false
set_option linter.unusedSimpArgs false
open Go.RowKit

theorem scanZ_set {zs zs' : List Zn} {k : Nat} {s : ByteArray} (hk : k < zs.length) (hm : zs'.map Zn.ss = (zs.map Zn.ss).set k (zs[k].ss ++ [s])) (hg : goodB s = true) (i : Nat) :
    scanZ zs' i = scanZ zs i ++ (if i = k then [⟨k, zs[k].ss.length, (rdec s).1⟩] else []) := by
  have hl : zs'.length = zs.length := by have := congrArg List.length hm; simpa using this
  by_cases hi : i < zs.length
  · have hi' : i < zs'.length := by omega
    rw [scanZ_at hi, scanZ_at hi']
    have e := congrArg (fun l => l[i]?) hm
    simp only [List.getElem?_map, List.getElem?_eq_getElem hi', Option.map_some] at e
    by_cases hik : i = k
    · subst hik
      rw [List.getElem?_set_self (by simpa using hk)] at e
      injection e with e
      rw [e, if_pos rfl, scanG_snoc, hg, if_pos rfl, Nat.zero_add]
    · rw [List.getElem?_set_ne (fun h => hik h.symm), List.getElem?_map, List.getElem?_eq_getElem hi] at e
      injection e with e
      rw [e, if_neg hik, List.append_nil]
  · rw [scanZ_no (Or.inr (by omega)), scanZ_no (Or.inr (by omega)), if_neg (by omega)]
    rfl
theorem scanA_set {c : Cf} {zs zs' : List Zn} {k : Nat} {s : ByteArray} (hk : k < zs.length) (hm : zs'.map Zn.ss = (zs.map Zn.ss).set k (zs[k].ss ++ [s])) (hg : goodB s = true) (hd : isData c (k : Int) = true) (n : Nat) :
    (n ≤ k → scanA c zs' n = scanA c zs n) ∧ (k < n → ∃ P Q, scanA c zs n = P ++ Q ∧ scanA c zs' n = P ++ [⟨k, zs[k].ss.length, (rdec s).1⟩] ++ Q) := by
  induction n with
  | zero => exact ⟨fun _ => rfl, fun h => by omega⟩
  | succ n ih =>
    obtain ⟨i1, i2⟩ := ih
    rw [scanA_succ, scanA_succ, scanZ_set hk hm hg n]
    refine ⟨fun h => ?_, fun h => ?_⟩
    · rw [i1 (by omega), if_neg (show ¬ n = k by omega), List.append_nil]
    · by_cases hnk : n = k
      · subst hnk
        rw [i1 (Nat.le_refl _), if_pos rfl, hd, if_pos rfl, if_pos rfl]
        exact ⟨scanA c zs n ++ scanZ zs n, [], by simp, by simp⟩
      · obtain ⟨P, Q, e1, e2⟩ := i2 (by omega)
        rw [if_neg hnk, List.append_nil, e1, e2]
        exact ⟨P, Q ++ (if isData c (n : Int) = true then scanZ zs (n : Int) else []), by simp, by simp⟩
set_option maxRecDepth 100000 in
set_option maxHeartbeats 32000000 in
theorem sFindsF (L : List Int) (z b v : Int) (hb : L.length ≤ 140737488355328) (hz : 0 ≤ z ∧ z ≤ 255) (hbk : 0 ≤ b ∧ b ≤ 255) (hv : 0 ≤ v ∧ v ≤ 65535) :
    Fun Try.prog 6 [slV (wV L), .c (.i (.sc (.int .u8 z))), .c (.i (.sc (.int .u8 b))), .c (.i (.sc (.int .u16 v)))] [] (ATbool true) := by
  have hlight := lightF L hb
  have aw := scAwake
  by_cases hL : L.length ≤ 300
  rotate_left
  · rw [decide_eq_false hL] at hlight
    refine fun_of_vc tabOk mixOk Try.func6 rfl (by rfl) (rs := [.tmp 8]) rfl rfl 96 ?_; rw [Try.ntmps6]
    (conv => whnf); repeat (first | (refine And.intro (DrawOk.mk (by first | (simp only [List.map_cons, List.map_nil, List.nil_append, List.cons_append, List.append_nil, updsL, List.length_cons, List.length_nil]; decide +kernel) | exact rfl)) ?_; conv => whnf) | (refine And.intro rfl ?_; conv => whnf) | (refine And.intro (fun _ => ?_) (fun h => Bool.noConfusion h); conv => whnf) | (refine And.intro (fun h => Bool.noConfusion h) (fun _ => ?_); conv => whnf))
    refine ⟨_, _, hlight, ?_⟩
    (conv => whnf); repeat (first | (refine And.intro (DrawOk.mk (by first | (simp only [List.map_cons, List.map_nil, List.nil_append, List.cons_append, List.append_nil, updsL, List.length_cons, List.length_nil]; decide +kernel) | exact rfl)) ?_; conv => whnf) | (refine And.intro rfl ?_; conv => whnf) | (refine And.intro (fun _ => ?_) (fun h => Bool.noConfusion h); conv => whnf) | (refine And.intro (fun h => Bool.noConfusion h) (fun _ => ?_); conv => whnf))
    refine ⟨_, _, aw, ?_⟩
    (conv => whnf); repeat (first | (refine And.intro (DrawOk.mk (by first | (simp only [List.map_cons, List.map_nil, List.nil_append, List.cons_append, List.append_nil, updsL, List.length_cons, List.length_nil]; decide +kernel) | exact rfl)) ?_; conv => whnf) | (refine And.intro rfl ?_; conv => whnf) | (refine And.intro (fun _ => ?_) (fun h => Bool.noConfusion h); conv => whnf) | (refine And.intro (fun h => Bool.noConfusion h) (fun _ => ?_); conv => whnf))
    refine Exists.intro [] (And.intro List.nodup_nil ?_); ((conv => whnf); repeat (first | (refine And.intro (DrawOk.mk (by first | (simp only [List.map_cons, List.map_nil, List.nil_append, List.cons_append, List.append_nil, updsL, List.length_cons, List.length_nil]; decide +kernel) | exact rfl)) ?_; conv => whnf) | (refine And.intro rfl ?_; conv => whnf) | (refine And.intro (fun _ => ?_) (fun h => Bool.noConfusion h); conv => whnf) | (refine And.intro (fun h => Bool.noConfusion h) (fun _ => ?_); conv => whnf)))
    rfl
  rw [decide_eq_true hL] at hlight
  obtain ⟨c, D, hm, hsp, hdev, hlen⟩ := sMadeF L (by omega)
  obtain ⟨hc, hF0, hF1, hD0, hD1, hcz⟩ := small_facts hsp
  have hof := lyOfF' c
  rw [hc, show lyOf c = lyV c by unfold lyOf; rw [if_pos hc]] at hof
  unfold lyV at hof
  have hw1 : iwrap .i64 z = z := w64_in (by omega)
  have hw2 : iwrap .i64 b = b := w64_in (by omega)
  have hw3 : iwrap .i64 v = v := w64_in (by omega)
  have hw4 : iwrap .i64 (1 + v) = 1 + v := w64_in (by omega)
  have ht : z.tmod (lyData c) = z % lyData c := Int.tmod_eq_emod_of_nonneg hz.1
  have ht1 := Int.emod_nonneg z (show lyData c ≠ 0 by omega)
  have ht2 := Int.emod_lt_of_pos z (show 0 < lyData c by omega)
  obtain ⟨k, hk⟩ : ∃ k : Nat, lyFirst c + z % lyData c = k := ⟨(lyFirst c + z % lyData c).toNat, by omega⟩
  have hw5 : iwrap .i64 (lyFirst c + z.tmod (lyData c)) = (k : Int) := by rw [ht, hk]; exact w64_in (by omega)
  have hkD : k < D.zs.length := by omega
  have hdat : isData c (k : Int) = true := decide_eq_true ⟨hc, by omega, by omega⟩
  have hrok : rchk ⟨1, b, 1 + v, 0, vval z⟩ = 0 := by
    have hs := vval_size z
    unfold rchk
    dsimp only
    rw [if_neg (by omega), if_neg (by omega), if_neg (by rw [hs]; omega)]
  have hval := valF z
  have hsec := sectorF 1 b (1 + v) 0 (vval z)
  rw [renc_yes hrok] at hsec
  dsimp only at hsec
  have hgood := goodB_enc hrok (Or.inl rfl) (by dsimp only; omega)
  have happ := appF D.s D.mo D.ma D.zs k (sS (encL ⟨1, b, 1 + v, 0, vval z⟩)) (by omega) (fun x hx => by have := (hdev x hx).1; omega)
  rw [show (⟨D.s, D.mo, D.ma, D.zs⟩ : Dv) = D from rfl] at happ
  have hok := fun h => dapp_ok (d := D) (n := k) (s := sS (encL ⟨1, b, 1 + v, 0, vval z⟩)) h
  have hdv := fun h => dapp_dev (d := D) (n := k) (s := sS (encL ⟨1, b, 1 + v, 0, vval z⟩)) h hdev
  generalize dappend D k (sS (encL ⟨1, b, 1 + v, 0, vval z⟩)) = A at happ hok hdv
  have hd2 : ∀ zs : List Zn, devL zs → ∀ x ∈ zs, x.ss.length ≤ 1000 ∧ ∀ y ∈ x.ss, y.size ≤ 1000000 := fun zs hdev x hx => ⟨by have := (hdev x hx).1; omega, fun y hy => by have := (hdev x hx).2 y hy; omega⟩
  have A1 := scanAF c D.s D.mo D.ma D.zs (by omega) (hd2 _ hdev)
  have hne : ¬ lyData c = 0 := by omega
  obtain ⟨Y, at_, e⟩ := A
  dsimp only at happ hok hdv
  by_cases he : e = 0
  rotate_left
  · generalize sS (encL ⟨1, b, 1 + v, 0, vval z⟩) = sec at hsec happ
    generalize vval z = pv at hval hsec
    generalize lyFirst c = F at hof hw5
    generalize lyData c = Dn at hof hw5 hne
    obtain ⟨cz, cs, cb, cq, cd, ch⟩ := c
    refine fun_of_vc tabOk mixOk Try.func6 rfl (by rfl) (rs := [.tmp 8]) rfl rfl 96 ?_; rw [Try.ntmps6]
    (conv => whnf); repeat (first | (refine And.intro (DrawOk.mk (by first | (simp only [List.map_cons, List.map_nil, List.nil_append, List.cons_append, List.append_nil, updsL, List.length_cons, List.length_nil]; decide +kernel) | exact rfl)) ?_; conv => whnf) | (refine And.intro rfl ?_; conv => whnf) | (refine And.intro (fun _ => ?_) (fun h => Bool.noConfusion h); conv => whnf) | (refine And.intro (fun h => Bool.noConfusion h) (fun _ => ?_); conv => whnf))
    refine ⟨_, _, hlight, ?_⟩
    (conv => whnf); repeat (first | (refine And.intro (DrawOk.mk (by first | (simp only [List.map_cons, List.map_nil, List.nil_append, List.cons_append, List.append_nil, updsL, List.length_cons, List.length_nil]; decide +kernel) | exact rfl)) ?_; conv => whnf) | (refine And.intro rfl ?_; conv => whnf) | (refine And.intro (fun _ => ?_) (fun h => Bool.noConfusion h); conv => whnf) | (refine And.intro (fun h => Bool.noConfusion h) (fun _ => ?_); conv => whnf))
    refine ⟨_, _, hm, ?_⟩
    (conv => whnf); repeat (first | (refine And.intro (DrawOk.mk (by first | (simp only [List.map_cons, List.map_nil, List.nil_append, List.cons_append, List.append_nil, updsL, List.length_cons, List.length_nil]; decide +kernel) | exact rfl)) ?_; conv => whnf) | (refine And.intro rfl ?_; conv => whnf) | (refine And.intro (fun _ => ?_) (fun h => Bool.noConfusion h); conv => whnf) | (refine And.intro (fun h => Bool.noConfusion h) (fun _ => ?_); conv => whnf))
    refine ⟨_, _, hof, ?_⟩
    (conv => whnf); repeat (first | (refine And.intro (DrawOk.mk (by first | (simp only [List.map_cons, List.map_nil, List.nil_append, List.cons_append, List.append_nil, updsL, List.length_cons, List.length_nil]; decide +kernel) | exact rfl)) ?_; conv => whnf) | (refine And.intro rfl ?_; conv => whnf) | (refine And.intro (fun _ => ?_) (fun h => Bool.noConfusion h); conv => whnf) | (refine And.intro (fun h => Bool.noConfusion h) (fun _ => ?_); conv => whnf))
    refine ⟨hne, ?_⟩
    (conv => whnf); repeat (first | (refine And.intro (DrawOk.mk (by first | (simp only [List.map_cons, List.map_nil, List.nil_append, List.cons_append, List.append_nil, updsL, List.length_cons, List.length_nil]; decide +kernel) | exact rfl)) ?_; conv => whnf) | (refine And.intro rfl ?_; conv => whnf) | (refine And.intro (fun _ => ?_) (fun h => Bool.noConfusion h); conv => whnf) | (refine And.intro (fun h => Bool.noConfusion h) (fun _ => ?_); conv => whnf))
    rw [hw1, hw2, hw3, hw4, hw5]
    refine ⟨_, _, hval, ?_⟩
    (conv => whnf); repeat (first | (refine And.intro (DrawOk.mk (by first | (simp only [List.map_cons, List.map_nil, List.nil_append, List.cons_append, List.append_nil, updsL, List.length_cons, List.length_nil]; decide +kernel) | exact rfl)) ?_; conv => whnf) | (refine And.intro rfl ?_; conv => whnf) | (refine And.intro (fun _ => ?_) (fun h => Bool.noConfusion h); conv => whnf) | (refine And.intro (fun h => Bool.noConfusion h) (fun _ => ?_); conv => whnf))
    refine ⟨_, _, hsec, ?_⟩
    (conv => whnf); repeat (first | (refine And.intro (DrawOk.mk (by first | (simp only [List.map_cons, List.map_nil, List.nil_append, List.cons_append, List.append_nil, updsL, List.length_cons, List.length_nil]; decide +kernel) | exact rfl)) ?_; conv => whnf) | (refine And.intro rfl ?_; conv => whnf) | (refine And.intro (fun _ => ?_) (fun h => Bool.noConfusion h); conv => whnf) | (refine And.intro (fun h => Bool.noConfusion h) (fun _ => ?_); conv => whnf))
    refine ⟨_, _, happ, ?_⟩
    (conv => whnf); repeat (first | (refine And.intro (DrawOk.mk (by first | (simp only [List.map_cons, List.map_nil, List.nil_append, List.cons_append, List.append_nil, updsL, List.length_cons, List.length_nil]; decide +kernel) | exact rfl)) ?_; conv => whnf) | (refine And.intro rfl ?_; conv => whnf) | (refine And.intro (fun _ => ?_) (fun h => Bool.noConfusion h); conv => whnf) | (refine And.intro (fun h => Bool.noConfusion h) (fun _ => ?_); conv => whnf))
    repeat' (first | ((refine And.intro (fun h => ?_) (fun h => ?_)) <;> (try simp at h) <;> ((conv => whnf); repeat (first | (refine And.intro (DrawOk.mk (by first | (simp only [List.map_cons, List.map_nil, List.nil_append, List.cons_append, List.append_nil, updsL, List.length_cons, List.length_nil]; decide +kernel) | exact rfl)) ?_; conv => whnf) | (refine And.intro rfl ?_; conv => whnf) | (refine And.intro (fun _ => ?_) (fun h => Bool.noConfusion h); conv => whnf) | (refine And.intro (fun h => Bool.noConfusion h) (fun _ => ?_); conv => whnf)))) | (refine ⟨_, _, aw, ?_⟩; ((conv => whnf); repeat (first | (refine And.intro (DrawOk.mk (by first | (simp only [List.map_cons, List.map_nil, List.nil_append, List.cons_append, List.append_nil, updsL, List.length_cons, List.length_nil]; decide +kernel) | exact rfl)) ?_; conv => whnf) | (refine And.intro rfl ?_; conv => whnf) | (refine And.intro (fun _ => ?_) (fun h => Bool.noConfusion h); conv => whnf) | (refine And.intro (fun h => Bool.noConfusion h) (fun _ => ?_); conv => whnf)))) | fail)
    all_goals first
      | (exfalso; omega)
      | (refine Exists.intro [] (And.intro List.nodup_nil ?_); ((conv => whnf); repeat (first | (refine And.intro (DrawOk.mk (by first | (simp only [List.map_cons, List.map_nil, List.nil_append, List.cons_append, List.append_nil, updsL, List.length_cons, List.length_nil]; decide +kernel) | exact rfl)) ?_; conv => whnf) | (refine And.intro rfl ?_; conv => whnf) | (refine And.intro (fun _ => ?_) (fun h => Bool.noConfusion h); conv => whnf) | (refine And.intro (fun h => Bool.noConfusion h) (fun _ => ?_); conv => whnf)))
         rfl)
  subst he
  obtain ⟨k', hk', e1, _, _, e2, e3⟩ := hok rfl
  obtain rfl : k = k' := by omega
  obtain ⟨hdY, hlY⟩ := hdv rfl
  have A2 := scanAF c Y.s Y.mo Y.ma Y.zs (by omega) (hd2 _ hdY)
  obtain ⟨P, Q, f1, f2⟩ := (scanA_set (c := c) hkD e2 hgood.1 hdat D.zs.length).2 hkD
  rw [hgood.2] at f2
  rw [hlY] at A2
  have hAl : (scanA c D.zs D.zs.length).length ≤ 28000 := Nat.le_trans (scanA_len (M := 1000) (fun x hx => (hd2 _ hdev x hx).1) _) (by omega)
  rw [f1] at A1 hAl
  rw [f2] at A2
  have hlen2 : (fR (P ++ [⟨k, D.zs[k].ss.length, ⟨1, b, 1 + v, 0, vval z⟩⟩] ++ Q)).length = (fR (P ++ Q)).length + 1 := by
    rw [fLen, fLen]
    simp
    omega
  have hbl : (fR (P ++ Q)).length ≤ 28000 := by rw [fLen]; exact hAl
  have hin := hasFF (P ++ [⟨k, D.zs[k].ss.length, ⟨1, b, 1 + v, 0, vval z⟩⟩] ++ Q) k D.zs[k].ss.length 1 b (1 + v) 0 (vval z) (by rw [fLen, fLen] at hlen2; omega)
  rw [decide_eq_true (by simp)] at hin
  have hal := allFF (P ++ Q) (P ++ [⟨k, D.zs[k].ss.length, ⟨1, b, 1 + v, 0, vval z⟩⟩] ++ Q) (by omega) (by rw [fLen, fLen] at hlen2; omega)
  rw [decide_eq_true (fun x hx => by
    rcases List.mem_append.1 hx with hx | hx
    · simp [hx]
    · simp [hx])] at hal
  rw [← e3] at hin hal A2 hlen2
  clear hd2 hAl f1 f2 e2 e3 hok hdv hdev hdY hgood hrok
  generalize sS (encL ⟨1, b, 1 + v, 0, vval z⟩) = sec at hsec happ
  generalize vval z = pv at hval hsec A2 hin hal hlen2
  generalize fR (P ++ [⟨k, at_, ⟨1, b, 1 + v, 0, pv⟩⟩] ++ Q) = M2 at A2 hin hal hlen2
  generalize fR (P ++ Q) = M1 at A1 hal hlen2 hbl
  have hwl : iwrap .i64 ((M1.length : Int) + 1) = ((M1.length + 1 : Nat) : Int) := w64_nat (by omega)
  generalize lyFirst c = F at hof hw5
  generalize lyData c = Dn at hof hw5 hne
  obtain ⟨cz, cs, cb, cq, cd, ch⟩ := c
  refine fun_of_vc tabOk mixOk Try.func6 rfl (by rfl) (rs := [.tmp 8]) rfl rfl 96 ?_; rw [Try.ntmps6]
  (conv => whnf); repeat (first | (refine And.intro (DrawOk.mk (by first | (simp only [List.map_cons, List.map_nil, List.nil_append, List.cons_append, List.append_nil, updsL, List.length_cons, List.length_nil]; decide +kernel) | exact rfl)) ?_; conv => whnf) | (refine And.intro rfl ?_; conv => whnf) | (refine And.intro (fun _ => ?_) (fun h => Bool.noConfusion h); conv => whnf) | (refine And.intro (fun h => Bool.noConfusion h) (fun _ => ?_); conv => whnf))
  refine ⟨_, _, hlight, ?_⟩
  (conv => whnf); repeat (first | (refine And.intro (DrawOk.mk (by first | (simp only [List.map_cons, List.map_nil, List.nil_append, List.cons_append, List.append_nil, updsL, List.length_cons, List.length_nil]; decide +kernel) | exact rfl)) ?_; conv => whnf) | (refine And.intro rfl ?_; conv => whnf) | (refine And.intro (fun _ => ?_) (fun h => Bool.noConfusion h); conv => whnf) | (refine And.intro (fun h => Bool.noConfusion h) (fun _ => ?_); conv => whnf))
  refine ⟨_, _, hm, ?_⟩
  (conv => whnf); repeat (first | (refine And.intro (DrawOk.mk (by first | (simp only [List.map_cons, List.map_nil, List.nil_append, List.cons_append, List.append_nil, updsL, List.length_cons, List.length_nil]; decide +kernel) | exact rfl)) ?_; conv => whnf) | (refine And.intro rfl ?_; conv => whnf) | (refine And.intro (fun _ => ?_) (fun h => Bool.noConfusion h); conv => whnf) | (refine And.intro (fun h => Bool.noConfusion h) (fun _ => ?_); conv => whnf))
  refine ⟨_, _, hof, ?_⟩
  (conv => whnf); repeat (first | (refine And.intro (DrawOk.mk (by first | (simp only [List.map_cons, List.map_nil, List.nil_append, List.cons_append, List.append_nil, updsL, List.length_cons, List.length_nil]; decide +kernel) | exact rfl)) ?_; conv => whnf) | (refine And.intro rfl ?_; conv => whnf) | (refine And.intro (fun _ => ?_) (fun h => Bool.noConfusion h); conv => whnf) | (refine And.intro (fun h => Bool.noConfusion h) (fun _ => ?_); conv => whnf))
  refine ⟨hne, ?_⟩
  (conv => whnf); repeat (first | (refine And.intro (DrawOk.mk (by first | (simp only [List.map_cons, List.map_nil, List.nil_append, List.cons_append, List.append_nil, updsL, List.length_cons, List.length_nil]; decide +kernel) | exact rfl)) ?_; conv => whnf) | (refine And.intro rfl ?_; conv => whnf) | (refine And.intro (fun _ => ?_) (fun h => Bool.noConfusion h); conv => whnf) | (refine And.intro (fun h => Bool.noConfusion h) (fun _ => ?_); conv => whnf))
  rw [hw1, hw2, hw3, hw4, hw5]
  refine ⟨_, _, hval, ?_⟩
  (conv => whnf); repeat (first | (refine And.intro (DrawOk.mk (by first | (simp only [List.map_cons, List.map_nil, List.nil_append, List.cons_append, List.append_nil, updsL, List.length_cons, List.length_nil]; decide +kernel) | exact rfl)) ?_; conv => whnf) | (refine And.intro rfl ?_; conv => whnf) | (refine And.intro (fun _ => ?_) (fun h => Bool.noConfusion h); conv => whnf) | (refine And.intro (fun h => Bool.noConfusion h) (fun _ => ?_); conv => whnf))
  refine ⟨_, _, hsec, ?_⟩
  (conv => whnf); repeat (first | (refine And.intro (DrawOk.mk (by first | (simp only [List.map_cons, List.map_nil, List.nil_append, List.cons_append, List.append_nil, updsL, List.length_cons, List.length_nil]; decide +kernel) | exact rfl)) ?_; conv => whnf) | (refine And.intro rfl ?_; conv => whnf) | (refine And.intro (fun _ => ?_) (fun h => Bool.noConfusion h); conv => whnf) | (refine And.intro (fun h => Bool.noConfusion h) (fun _ => ?_); conv => whnf))
  refine ⟨_, _, happ, ?_⟩
  (conv => whnf); repeat (first | (refine And.intro (DrawOk.mk (by first | (simp only [List.map_cons, List.map_nil, List.nil_append, List.cons_append, List.append_nil, updsL, List.length_cons, List.length_nil]; decide +kernel) | exact rfl)) ?_; conv => whnf) | (refine And.intro rfl ?_; conv => whnf) | (refine And.intro (fun _ => ?_) (fun h => Bool.noConfusion h); conv => whnf) | (refine And.intro (fun h => Bool.noConfusion h) (fun _ => ?_); conv => whnf))
  refine ⟨_, _, A1, ?_⟩
  (conv => whnf); repeat (first | (refine And.intro (DrawOk.mk (by first | (simp only [List.map_cons, List.map_nil, List.nil_append, List.cons_append, List.append_nil, updsL, List.length_cons, List.length_nil]; decide +kernel) | exact rfl)) ?_; conv => whnf) | (refine And.intro rfl ?_; conv => whnf) | (refine And.intro (fun _ => ?_) (fun h => Bool.noConfusion h); conv => whnf) | (refine And.intro (fun h => Bool.noConfusion h) (fun _ => ?_); conv => whnf))
  refine ⟨_, _, A2, ?_⟩
  (conv => whnf); repeat (first | (refine And.intro (DrawOk.mk (by first | (simp only [List.map_cons, List.map_nil, List.nil_append, List.cons_append, List.append_nil, updsL, List.length_cons, List.length_nil]; decide +kernel) | exact rfl)) ?_; conv => whnf) | (refine And.intro rfl ?_; conv => whnf) | (refine And.intro (fun _ => ?_) (fun h => Bool.noConfusion h); conv => whnf) | (refine And.intro (fun h => Bool.noConfusion h) (fun _ => ?_); conv => whnf))
  rw [hwl, hlen2]
  repeat' (first | ((refine And.intro (fun h => ?_) (fun h => ?_)) <;> (try simp at h) <;> ((conv => whnf); repeat (first | (refine And.intro (DrawOk.mk (by first | (simp only [List.map_cons, List.map_nil, List.nil_append, List.cons_append, List.append_nil, updsL, List.length_cons, List.length_nil]; decide +kernel) | exact rfl)) ?_; conv => whnf) | (refine And.intro rfl ?_; conv => whnf) | (refine And.intro (fun _ => ?_) (fun h => Bool.noConfusion h); conv => whnf) | (refine And.intro (fun h => Bool.noConfusion h) (fun _ => ?_); conv => whnf)))) | (refine ⟨_, _, hin, ?_⟩; ((conv => whnf); repeat (first | (refine And.intro (DrawOk.mk (by first | (simp only [List.map_cons, List.map_nil, List.nil_append, List.cons_append, List.append_nil, updsL, List.length_cons, List.length_nil]; decide +kernel) | exact rfl)) ?_; conv => whnf) | (refine And.intro rfl ?_; conv => whnf) | (refine And.intro (fun _ => ?_) (fun h => Bool.noConfusion h); conv => whnf) | (refine And.intro (fun h => Bool.noConfusion h) (fun _ => ?_); conv => whnf)))) | (refine ⟨_, _, hal, ?_⟩; ((conv => whnf); repeat (first | (refine And.intro (DrawOk.mk (by first | (simp only [List.map_cons, List.map_nil, List.nil_append, List.cons_append, List.append_nil, updsL, List.length_cons, List.length_nil]; decide +kernel) | exact rfl)) ?_; conv => whnf) | (refine And.intro rfl ?_; conv => whnf) | (refine And.intro (fun _ => ?_) (fun h => Bool.noConfusion h); conv => whnf) | (refine And.intro (fun h => Bool.noConfusion h) (fun _ => ?_); conv => whnf)))) | (refine ⟨_, _, aw, ?_⟩; ((conv => whnf); repeat (first | (refine And.intro (DrawOk.mk (by first | (simp only [List.map_cons, List.map_nil, List.nil_append, List.cons_append, List.append_nil, updsL, List.length_cons, List.length_nil]; decide +kernel) | exact rfl)) ?_; conv => whnf) | (refine And.intro rfl ?_; conv => whnf) | (refine And.intro (fun _ => ?_) (fun h => Bool.noConfusion h); conv => whnf) | (refine And.intro (fun h => Bool.noConfusion h) (fun _ => ?_); conv => whnf)))) | fail)
  all_goals first
    | (refine Exists.intro [] (And.intro List.nodup_nil ?_); ((conv => whnf); repeat (first | (refine And.intro (DrawOk.mk (by first | (simp only [List.map_cons, List.map_nil, List.nil_append, List.cons_append, List.append_nil, updsL, List.length_cons, List.length_nil]; decide +kernel) | exact rfl)) ?_; conv => whnf) | (refine And.intro rfl ?_; conv => whnf) | (refine And.intro (fun _ => ?_) (fun h => Bool.noConfusion h); conv => whnf) | (refine And.intro (fun h => Bool.noConfusion h) (fun _ => ?_); conv => whnf)))
       rfl)
    | (exfalso; simp at *; done)
end Go.Proofs.Ytkpicojhnnkibaa.Ab
namespace Go.Proofs.Ytkpicojhnnkibaa
set_option linter.unusedVariables false
set_option linter.unusedSimpArgs false
open Ab
set_option maxRecDepth 100000 in
theorem scanFinds.walk {H : Type} {enc : TypeId × Value → H} {W : World} {base : Nat} (v : Value) (d : DataW H) (p : List MemPlace) (hv : Value.okWide Try.prog W .any base 38 v)
    (h : DataW.Trod enc Try.prog W 0 (fun _ => true) true 38 v d p) (hw : ∀ n ∈ d.weights Try.prog 38, n ≤ 140737488351232)
    (a1 : Int) (w1 : (Lit.int .u8 a1).wf = true) (a2 : Int) (w2 : (Lit.int .u8 a2).wf = true) (a3 : Int) (w3 : (Lit.int .u16 a3).wf = true)
    (W' : World) (hW : W' = W := by rfl) : Calls Try.prog 6 #[v, .int .u8 a1, .int .u8 a2, .int .u16 a3] W' (True1 W') := by
  subst hW
  obtain ⟨es, _, q1, q2⟩ := open_sl tabOk 3 (t := 38) (by decide +kernel) rfl hv h
  obtain ⟨xs, rfl⟩ := ints_of (d := 2) es (fun r hr => (q1 r hr).2)
  have b3 := slice_bound tabOk (e := 3) rfl h hw (q2 (fun _ _ => undef) (fun _ => 0))
  rw [bytesOf_eq tabOk (fun h => TK.noConfusion h)] at b3
  have b3' : (wV xs).length * 8 ≤ 140737488351232 := b3
  exact law_of_fun (sFindsF xs a1 a2 a3 (by simp [wV] at b3'; omega) (bounds_u8 w1) (bounds_u8 w2) (bounds_u16 w3)) rfl (reps_get (vs := [_, _, _, _]) ⟨q2 _ _, .sc _ rfl, .sc _ rfl, .sc _ rfl, trivial⟩)
end Go.Proofs.Ytkpicojhnnkibaa
