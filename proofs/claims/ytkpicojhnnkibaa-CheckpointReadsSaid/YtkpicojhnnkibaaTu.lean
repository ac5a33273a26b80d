/- CheckpointReads. No condition. -/
import Derived.Test.YtkpicojhnnkibaaKf
import Derived.Test.YtkpicojhnnkibaaRk
import Derived.Test.YtkpicojhnnkibaaDe
import Derived.Test.YtkpicojhnnkibaaTw
import Derived.Test.YtkpicojhnnkibaaOd
import Derived.Test.YtkpicojhnnkibaaTg
namespace Go.Proofs.Ytkpicojhnnkibaa.Ab
set_option linter.unusedVariables false
set_option linter.unusedSimpArgs false
open Go.RowKit

/-! ### The device, step by step -/
def lessR (w a b : Int) (slot : Nat) (r : List Rec) : List Rec :=
  if dmod w 5 = 1 ∧ (slot : Int) = dmod b 2 then r.take (dmod a r.length).toNat ++ r.drop ((dmod a r.length).toNat + 1) else r
def slSec (w a b : Int) (R : List Rec) (i : Nat) : ByteArray :=
  match R[i]? with
  | none => ByteArray.empty
  | some r => if dmod w 5 = 2 ∧ (i : Int) = dmod a R.length then sflip (sS (encL r)) b a else sS (encL r)
def apRun (S C slot : Nat) (w a b : Int) (R : List Rec) (D : Dv) : Nat → Dv
  | 0 => D
  | i + 1 => (dappend (apRun S C slot w a b R D i) ((slot * S + i / C : Nat) : Int) (slSec w a b R i)).1
theorem apRun_dev {S C slot : Nat} {w a b : Int} {R : List Rec} {D : Dv} (h : devL D.zs) (i : Nat) : devL (apRun S C slot w a b R D i).zs ∧ (apRun S C slot w a b R D i).zs.length = D.zs.length := by
  induction i with
  | zero => exact ⟨h, rfl⟩
  | succ i ih =>
    have h2 := dapp_any (apRun S C slot w a b R D i) ((slot * S + i / C : Nat) : Int) (slSec w a b R i) ih.1
    exact ⟨h2.1, h2.2.trans ih.2⟩
def slN (L : List Int) (nb k : Nat) : Nat := nb + (dval L k 6).toNat / 5
def slR (L : List Int) (nb : Nat) (w a b : Int) (slot k : Nat) : List Rec := lessR w a b slot (cenc (cmade L (dnx L k) (slN L nb k)))
def slStep (L : List Int) (S C nb : Nat) (w a b : Int) (slot : Nat) (st : Nat × Dv) : Nat × Dv :=
  (cmadeK L (dnx L st.1) (slN L nb st.1), apRun S C slot w a b (slR L nb w a b slot st.1) st.2 (min (slR L nb w a b slot st.1).length (S * C)))
def slRun (L : List Int) (S C nb : Nat) (w a b : Int) (k0 : Nat) (D0 : Dv) : Nat → Nat × Dv
  | 0 => (k0, D0)
  | j + 1 => slStep L S C nb w a b j (slRun L S C nb w a b k0 D0 j)
theorem slN_le {L : List Int} {nb k : Nat} (h : nb ≤ 6) : slN L nb k ≤ 7 := by
  have := dval_in L k (n := 6) (by decide) (by decide)
  unfold slN
  omega
theorem lessR_facts {w a b : Int} {slot : Nat} {r : List Rec} (h : ∀ x ∈ r, rchk x = 0) : (lessR w a b slot r).length ≤ r.length ∧ ∀ x ∈ lessR w a b slot r, rchk x = 0 := by
  unfold lessR
  split
  · refine ⟨by rw [List.length_append, List.length_take, List.length_drop]; omega, fun x hx => ?_⟩
    rcases List.mem_append.1 hx with hx | hx
    · exact h x (List.mem_of_mem_take hx)
    · exact h x (List.mem_of_mem_drop hx)
  · exact ⟨Nat.le_refl _, h⟩
/-- What one slot holds, for the walk. -/
theorem slEnv (L : List Int) (hl : L.length ≤ 1000000) {S C Z nb : Nat} (w a b : Int) (slot k : Nat) (hk : k ≤ L.length) (D : Dv) (hD : devL D.zs ∧ D.zs.length ≤ 28) (hslot : slot < 2) (hnb : 1 ≤ nb ∧ nb ≤ 6) (hC : 3 ≤ C ∧ C ≤ 6) (hS : 1 ≤ S ∧ S ≤ 3) :
    ∃ (x : Int) (n m1 m2 : Nat) (B : Bse) (R0 R : List Rec) (k1 k2 : Nat) (A : Nat → Dv) (sec : Nat → ByteArray),
      FunP Try.prog 46 (dcs L k) [i64V 6] (dcs L k1) (.v (i64V x)) ∧ iwrap .i64 ((nb : Int) + iwrap .i64 (Int.tdiv x 5)) = (n : Int) ∧ FunP Try.prog 19 (dcs L k1) [i64V n] (dcs L k2) (.v (bseV B)) ∧ k2 ≤ L.length ∧
      Fun Try.prog 11 [bseV B] [] (.tup [slV (rR R0), i64V 0]) ∧ 2 ≤ R0.length ∧ R0.length ≤ 9 ∧ R = lessR w a b slot R0 ∧ R.length ≤ R0.length ∧
      A 0 = D ∧ A (min R.length (S * C)) = (slStep L S C nb w a b slot (k, D)).2 ∧ k2 = (slStep L S C nb w a b slot (k, D)).1 ∧
      (∀ i, i < R.length → i < S * C → ∃ (j : Nat) (r : Rec) (e f : Int), iwrap .i64 (Int.tdiv (i : Int) (C : Int)) = (j : Int) ∧ (wV (slotsL S slot S))[((j : Int)).toNat]? = some [.sc (.int .i64 ((slot * S + j : Nat) : Int))] ∧ (rR R)[((i : Int)).toNat]? = some (rRow r) ∧
        Fun Try.prog 36 [recV r.k r.b r.v r.m r.p] [] (.v (strV (sS (encL r)))) ∧
        (dmod w 5 = 2 ∧ (i : Int) = dmod a R.length → Fun Try.prog 59 [strV (sS (encL r)), i64V b, i64V a] [] (.v (strV (sec i)))) ∧ (¬ (dmod w 5 = 2 ∧ (i : Int) = dmod a R.length) → sS (encL r) = sec i) ∧
        Fun Try.prog 35 [dvV (A i), i64V ((slot * S + j : Nat) : Int), strV (sec i)] [] (.tup [dvV (A (i + 1)), i64V e, i64V f])) := by
  have hn7 := slN_le (L := L) (k := k) hnb.2
  obtain ⟨h1, h2, h3, h4⟩ := cmade_ok (L := L) (k := dnx L k) (n := slN L nb k) (by omega) (dnx_le hk)
  have v := dval_in L k (n := 6) (by decide) (by decide)
  have hB := cencF' (cmade L (dnx L k) (slN L nb k)).s (cmade L (dnx L k) (slN L nb k)).n (cmade L (dnx L k) (slN L nb k)).c (cmade L (dnx L k) (slN L nb k)).es
  have hlen := cenc_len (cmade L (dnx L k) (slN L nb k))
  have hrok := cenc_ok h1
  obtain ⟨f1, f2⟩ := lessR_facts (w := w) (a := a) (b := b) (slot := slot) hrok
  refine ⟨dval L k 6, slN L nb k, 0, 0, cmade L (dnx L k) (slN L nb k), cenc (cmade L (dnx L k) (slN L nb k)), slR L nb w a b slot k, dnx L k, cmadeK L (dnx L k) (slN L nb k),
    apRun S C slot w a b (slR L nb w a b slot k) D, slSec w a b (slR L nb w a b slot k), nextF L k 6 hl, ?_, cmadeF L (dnx L k) (slN L nb k) hl (by omega) (dnx_le hk), h2, ?_, by omega, by omega, rfl, f1, rfl, rfl, rfl, ?_⟩
  · unfold slN
    rw [Int.tdiv_eq_ediv_of_nonneg v.1, show iwrap .i64 (dval L k 6 / 5) = dval L k 6 / 5 from w64_in (by omega)]
    exact (w64_in (by omega)).trans (by omega)
  · rw [cencode_yes h1] at hB
    exact hB
  intro i hi hiS
  have hRR : slR L nb w a b slot k = lessR w a b slot (cenc (cmade L (dnx L k) (slN L nb k))) := rfl
  rw [← hRR] at f1 f2
  generalize slR L nb w a b slot k = R at hi f1 f2 ⊢
  clear hRR hB hlen hrok h1 h2 h3 h4 f1
  have hjS : i / C < S := Nat.div_lt_of_lt_mul (by rw [Nat.mul_comm]; exact hiS)
  have hj : iwrap .i64 (Int.tdiv (i : Int) (C : Int)) = ((i / C : Nat) : Int) := by
    have e : Int.tdiv (i : Int) (C : Int) = ((i / C : Nat) : Int) := by
      rw [Int.tdiv_eq_ediv_of_nonneg (Int.natCast_nonneg _)]
      rfl
    rw [e]
    generalize i / C = j at hjS
    exact w64_in (by omega)
  have hsl : (wV (slotsL S slot S))[(((i / C : Nat) : Int)).toNat]? = some [IV.sc (.int .i64 ((slot * S + i / C : Nat) : Int))] := by
    rw [wItem (by rw [slotsL_len]; exact hjS), slots_get hjS]
    congr 4
  have hr := f2 _ (List.getElem_mem hi)
  have hdev := apRun_dev (S := S) (C := C) (slot := slot) (w := w) (a := a) (b := b) (R := R) hD.1 i
  have happ := appF (apRun S C slot w a b R D i).s (apRun S C slot w a b R D i).mo (apRun S C slot w a b R D i).ma (apRun S C slot w a b R D i).zs ((slot * S + i / C : Nat) : Int) (slSec w a b R i) (by rw [hdev.2]; omega) (fun z hz => Nat.le_trans (hdev.1 z hz).1 (by decide))
  refine ⟨i / C, R[i], _, _, hj, hsl, rItem hi, secF_of hr, fun hh => ?_, fun hh => ?_, happ⟩
  · have e : slSec w a b R i = sflip (sS (encL R[i])) b a := by
      unfold slSec
      rw [List.getElem?_eq_getElem hi]
      dsimp only
      rw [if_pos hh]
    rw [e]
    have hsz : (sS (encL R[i])).size = 40 := by rw [sS_size, enc_len (rchk_ok hr).2.2.2.2.1]
    exact flipF _ b a (by rw [hsz]; decide) (by rw [hsz]; decide)
  · unfold slSec
    rw [List.getElem?_eq_getElem hi]
    dsimp only
    rw [if_neg hh]
end Go.Proofs.Ytkpicojhnnkibaa.Ab
namespace Go.Proofs.Ytkpicojhnnkibaa.Ab
set_option linter.unusedVariables false
set_option linter.unusedSimpArgs false
open Go.RowKit

theorem slRun_inv (L : List Int) {S C nb : Nat} (w a b : Int) (k0 : Nat) (D0 : Dv) (hk : k0 ≤ L.length) (hD : devL D0.zs) (hnb : nb ≤ 6) (j : Nat) :
    (slRun L S C nb w a b k0 D0 j).1 ≤ L.length ∧ devL (slRun L S C nb w a b k0 D0 j).2.zs ∧ (slRun L S C nb w a b k0 D0 j).2.zs.length = D0.zs.length := by
  induction j with
  | zero => exact ⟨hk, hD, rfl⟩
  | succ j ih =>
    have hn7 := slN_le (L := L) (k := (slRun L S C nb w a b k0 D0 j).1) hnb
    have h2 := (cmade_ok (L := L) (k := dnx L (slRun L S C nb w a b k0 D0 j).1) (n := slN L nb (slRun L S C nb w a b k0 D0 j).1) (by omega) (dnx_le ih.1)).2.1
    have h3 := apRun_dev (S := S) (C := C) (slot := j) (w := w) (a := a) (b := b) (R := slR L nb w a b j (slRun L S C nb w a b k0 D0 j).1) ih.2.1 (min (slR L nb w a b j (slRun L S C nb w a b k0 D0 j).1).length (S * C))
    exact ⟨h2, h3.1, h3.2.trans ih.2.2⟩
theorem eq_beq {x y : Int} (h : (x == y) = true) : x = y := by simpa using h
theorem ne_beq {x y : Int} (h : (x == y) = false) : ¬ x = y := by simpa using h
theorem sl_mul {S C : Nat} (hC : 3 ≤ C ∧ C ≤ 6) (hS : 1 ≤ S ∧ S ≤ 3) : iwrap .i64 ((S : Int) * (C : Int)) = ((S * C : Nat) : Int) := by
  have hSC : S * C ≤ 18 := Nat.mul_le_mul hS.2 hC.2
  rw [← Int.natCast_mul]
  exact w64_in (by omega)
theorem rcut {R0 : List Rec} {k : Nat} : (List.take ((k : Int)).toNat (rR R0)).drop (0 : Int).toNat = rR (R0.take k) := by
  rw [Int.toNat_natCast, show (0 : Int).toNat = 0 from rfl, List.drop_zero, rR, rR, List.map_take]
theorem rcut2 {R0 : List Rec} {k : Nat} : (List.take (((rR R0).length : Int)).toNat (rR R0)).drop ((k + 1 : Nat) : Int).toNat = rR (R0.drop (k + 1)) := by
  rw [Int.toNat_natCast, Int.toNat_natCast, List.take_length, rR, rR, List.map_drop]
theorem kmod {a : Int} {n : Nat} (h : 1 ≤ n) (h2 : n ≤ 1000) : ∃ k : Nat, dmod a n = k ∧ k < n := by
  have := dmod_in (x := a) (n := (n : Int)) (by omega) (by omega)
  exact ⟨(dmod a n).toNat, by omega, by omega⟩
theorem min_go {i a b : Nat} (h : i ≤ min a b) (h1 : i < a) (h2 : i < b) : i + 1 ≤ min a b := by omega
theorem min_end1 {i a b : Nat} (h : i ≤ min a b) (h1 : ¬ i < a) : i = min a b := by omega
theorem min_end2 {i a b : Nat} (h : i ≤ min a b) (h1 : ¬ i < b) : i = min a b := by omega
theorem dec_ltI {a : Nat} {b : Int} (n : Nat) (hb : b = n) (h : decide ((a : Int) < b) = true) : a < n := by have := of_decide_eq_true h; omega
theorem dec_geI {a : Nat} {b : Int} (n : Nat) (hb : b = n) (h : decide ((a : Int) < b) = false) : ¬ a < n := by have := of_decide_eq_false h; omega
theorem less_yes {w a b : Int} {j : Nat} {R R0 : List Rec} {kk : Nat} (h : R = lessR w a b j R0) (h1 : dmod w 5 = 1) (h2 : (j : Int) = dmod b 2) (hk : dmod a R0.length = kk) : R = R0.take kk ++ R0.drop (kk + 1) := by
  rw [h, lessR, if_pos ⟨h1, h2⟩, hk, Int.toNat_natCast]
theorem less_no {w a b : Int} {j : Nat} {R R0 : List Rec} (h : R = lessR w a b j R0) (h1 : ¬ (dmod w 5 = 1 ∧ (j : Int) = dmod b 2)) : R = R0 := by
  rw [h, lessR, if_neg h1]
theorem len_b1 {R0 : List Rec} {kk : Nat} (h : R0.length ≤ 9) : ([] : List (List IV)).length + (rR (R0.take kk)).length ≤ 2000000 := by
  rw [rLen, List.length_take, List.length_nil]
  omega
theorem len_b2 {R0 : List Rec} {kk : Nat} (h : R0.length ≤ 9) : (([] : List (List IV)) ++ rR (R0.take kk)).length + (rR (R0.drop (kk + 1))).length ≤ 2000000 := by
  rw [List.nil_append, rLen, rLen, List.length_take, List.length_drop]
  omega
theorem len_b3 {R0 : List Rec} {kk : Nat} (h : R0.length ≤ 9) (hk : kk < R0.length) : (kk : Int) ≤ (R0.length : Int) := by omega
theorem len_w {R0 : List Rec} {kk : Nat} (h : R0.length ≤ 9) (hk : kk < R0.length) : iwrap .i64 ((kk : Int) + 1) = ((kk + 1 : Nat) : Int) := w64_nat (by omega)
set_option maxRecDepth 100000 in
set_option maxHeartbeats 32000000 in
theorem slottedF (L : List Int) (w a b : Int) (hL : L.length ≤ 300) : ∃ (c : Cf) (D : Dv) (S : Nat), cfChk c = 0 ∧ lySlot c = S ∧ (1 ≤ S ∧ S ≤ 3) ∧ devL D.zs ∧ D.zs.length ≤ 28 ∧
    Fun Try.prog 39 [slV (wV L), i64V w, i64V a, i64V b] [] (.tup [cfV c, dvV D]) := by
  have hl : L.length ≤ 1000000 := by omega
  have hroll := rollF L hl
  obtain ⟨c, k0, hsm, hsp, _, hk0⟩ := smallF L 0 hl
  have hk0 := hk0 (Nat.zero_le _)
  obtain ⟨S, C, Z, nb, cq, cd, ch, rfl, hS, hc, hnb, hC, hS1, hZ, hfit⟩ := fit_nums hsp
  have hnew := dnewF (Z : Int) (C : Int) 3 3
  rw [dnew_ok (by omega) (by omega), Int.toNat_natCast] at hnew
  have hinv := fun j => slRun_inv L (S := S) (C := C) (nb := nb) w a b k0 ⟨C, 3, 3, List.replicate Z z0⟩ hk0 (devL_new Z) hnb.2 j
  have hst : slRun L S C nb w a b k0 ⟨C, 3, 3, List.replicate Z z0⟩ 0 = (k0, ⟨C, 3, 3, List.replicate Z z0⟩) := rfl
  have hsu : ∀ j, slRun L S C nb w a b k0 ⟨C, 3, 3, List.replicate Z z0⟩ (j + 1) = slStep L S C nb w a b j (slRun L S C nb w a b k0 ⟨C, 3, 3, List.replicate Z z0⟩ j) := fun j => rfl
  have hZl : (List.replicate Z z0).length = Z := List.length_replicate
  generalize List.replicate Z z0 = zs0 at hnew hinv hst hsu hZl
  generalize slRun L S C nb w a b k0 ⟨C, 3, 3, zs0⟩ = run at hinv hst hsu
  have hZ28 : zs0.length ≤ 28 := hZl ▸ hZ.2.2
  refine ⟨⟨Z, C, nb, cq, cd, ch⟩, (run 2).2, S, hc, hS, hS1, (hinv 2).2.1, Nat.le_trans (Nat.le_of_eq (hinv 2).2.2) hZ28, ?_⟩
  have henv := fun (j k : Nat) (D : Dv) (hj : j < 2) (hr : run j = (k, D)) => slEnv L hl (Z := Z) (nb := nb) (C := C) (S := S) w a b j k (by have := (hinv j).1; rw [hr] at this; exact this) D (by have := (hinv j).2; rw [hr] at this; exact ⟨this.1, Nat.le_trans (Nat.le_of_eq this.2) hZ28⟩) hj hnb hC hS1
  have hslot := fun (j : Nat) (hj : j < 2) => slotsF' ⟨(Z : Int), (C : Int), (nb : Int), cq, cd, ch⟩ (j : Int) S hc hS (Nat.le_trans hS1.2 (by decide)) (by omega)
  have hwl := fun (j : Int) => show ((wV (slotsL S j S)).length : Int) = S from by rw [wLen', slotsL_len]
  have hmul := sl_mul hC hS1
  have hCne : (C : Int) ≠ 0 := nat_ne hC
  clear hinv hfit hZ hZl hZ28 hnb hC hS1 hk0 hsp hL
  have m1 := modF w 5
  have m2 := modF b 2
  unfold cfV at hsm hslot
  dsimp only at hsm hslot
  refine fun_of_vc (tabXOk [4000059, 4000107]) mixOk Try.func39 rfl (by rfl) (rs := [.cell 8 46, .cell 9 49]) rfl rfl 132 ?_; rw [Try.ntmps39]
  (conv => whnf); repeat ((first | refine And.intro DrawOk.go ?_ | refine And.intro rfl ?_ | refine And.intro (fun _ => ?_) (fun h => Bool.noConfusion h) | refine And.intro (fun h => Bool.noConfusion h) (fun _ => ?_)); conv => whnf)
  refine ⟨_, _, hroll, ?_⟩
  (conv => whnf); repeat ((first | refine And.intro DrawOk.go ?_ | refine And.intro rfl ?_ | refine And.intro (fun _ => ?_) (fun h => Bool.noConfusion h) | refine And.intro (fun h => Bool.noConfusion h) (fun _ => ?_)); conv => whnf)
  refine ⟨_, _, hsm, ?_⟩
  (conv => whnf); repeat ((first | refine And.intro DrawOk.go ?_ | refine And.intro rfl ?_ | refine And.intro (fun _ => ?_) (fun h => Bool.noConfusion h) | refine And.intro (fun h => Bool.noConfusion h) (fun _ => ?_)); conv => whnf)
  refine ⟨_, _, hnew, ?_⟩
  (conv => whnf); repeat ((first | refine And.intro DrawOk.go ?_ | refine And.intro rfl ?_ | refine And.intro (fun _ => ?_) (fun h => Bool.noConfusion h) | refine And.intro (fun h => Bool.noConfusion h) (fun _ => ?_)); conv => whnf)
  refine vc_loop [1, 2, 3, 8, 9, 10, 11, 12] [8, 9, 11] (X := Nat × Nat × Dv) (fun x gs => [(14, ATint x.1)]) (fun x gs => [(23, .var 1 (dcs L x.2.1)), (12, .var 1 [.i (.sc (.int .i64 x.2.2.s)), .i (.sc (.int .i64 x.2.2.mo)), .i (.sc (.int .i64 x.2.2.ma)), .i (.sl (zR x.2.2.zs))])]) (fun x => x.1 ≤ 2 ∧ run x.1 = x.2) (fun x => 2 - x.1) _ (Ghost.refl _) (0, k0, ⟨C, 3, 3, zs0⟩) ⟨Nat.zero_le _, hst⟩ ?_ ?_
  · (refine And.intro rfl (And.intro rfl ?_)); (repeat' (first | exact trivial | exact rfl | apply And.intro | (refine congrArg (Value.int .i64) (w64_nat ?_); omega)))
  intro gs x hx
  obtain ⟨j, k, D⟩ := x
  have hj2 : j ≤ 2 := hx.1
  have he : run j = (k, D) := hx.2
  clear hx
  (conv => whnf); repeat ((first | refine And.intro DrawOk.go ?_ | refine And.intro rfl ?_ | refine And.intro (fun _ => ?_) (fun h => Bool.noConfusion h) | refine And.intro (fun h => Bool.noConfusion h) (fun _ => ?_)); conv => whnf)
  refine And.intro (fun h => ?_) (fun h => ?_)
  · have hj : j < 2 := dec_ltI 2 rfl h
    obtain ⟨x, n, _, _, B, R0, R, k1, k2, A, sec, b1, hn, b2, _, henc, hR2, hR9, hR, hRle, hA0, hA1, hk2, hstep⟩ := henv j k D hj he
    have hs := hsu j
    rw [he] at hs
    rw [show slStep L S C nb w a b j (k, D) = (k2, A (min R.length (S * C))) from by rw [hA1, hk2]] at hs
    clear hA1 hk2 henv hsu
    subst hA0
    have hsl := hslot j hj
    have hwlj := hwl j
    generalize slotsL S j S = ZL at hsl hwlj hstep
    obtain ⟨kk, hkk, hkl⟩ := kmod (a := a) (n := R0.length) (by omega) (by omega)
    have m3 := modF a ((rR R0).length : Int)
    rw [show dmod a ((rR R0).length : Int) = kk from by rw [rLen]; exact hkk] at m3
    (conv => whnf); repeat ((first | refine And.intro DrawOk.go ?_ | refine And.intro rfl ?_ | refine And.intro (fun _ => ?_) (fun h => Bool.noConfusion h) | refine And.intro (fun h => Bool.noConfusion h) (fun _ => ?_)); conv => whnf)
    refine ⟨_, _, b1, ?_⟩
    (conv => whnf); repeat ((first | refine And.intro DrawOk.go ?_ | refine And.intro rfl ?_ | refine And.intro (fun _ => ?_) (fun h => Bool.noConfusion h) | refine And.intro (fun h => Bool.noConfusion h) (fun _ => ?_)); conv => whnf)
    refine ⟨by decide, ?_⟩
    (conv => whnf); repeat ((first | refine And.intro DrawOk.go ?_ | refine And.intro rfl ?_ | refine And.intro (fun _ => ?_) (fun h => Bool.noConfusion h) | refine And.intro (fun h => Bool.noConfusion h) (fun _ => ?_)); conv => whnf)
    rw [hn]
    refine ⟨_, _, b2, ?_⟩
    (conv => whnf); repeat ((first | refine And.intro DrawOk.go ?_ | refine And.intro rfl ?_ | refine And.intro (fun _ => ?_) (fun h => Bool.noConfusion h) | refine And.intro (fun h => Bool.noConfusion h) (fun _ => ?_)); conv => whnf)
    refine ⟨_, _, henc, ?_⟩
    (conv => whnf); repeat ((first | refine And.intro DrawOk.go ?_ | refine And.intro rfl ?_ | refine And.intro (fun _ => ?_) (fun h => Bool.noConfusion h) | refine And.intro (fun h => Bool.noConfusion h) (fun _ => ?_)); conv => whnf)
    refine vc_join [1, 2, 3, 8, 9, 10, 11, 12, 14] [8, 9, 11] (X := Unit) (fun _ gs' => [(16, .v (slV (rR R)))]) (fun _ gs' => [(23, .var 1 (dcs L k2)), (12, .var 1 [.i (.sc (.int .i64 (A 0).s)), .i (.sc (.int .i64 (A 0).mo)), .i (.sc (.int .i64 (A 0).ma)), .i (.sl (zR (A 0).zs))])]) (fun _ => True) ?_ ?_
    · (conv => whnf); repeat ((first | refine And.intro DrawOk.go ?_ | refine And.intro rfl ?_ | refine And.intro (fun _ => ?_) (fun h => Bool.noConfusion h) | refine And.intro (fun h => Bool.noConfusion h) (fun _ => ?_)); conv => whnf)
      refine ⟨_, _, m1, ?_⟩
      (conv => whnf); repeat ((first | refine And.intro DrawOk.go ?_ | refine And.intro rfl ?_ | refine And.intro (fun _ => ?_) (fun h => Bool.noConfusion h) | refine And.intro (fun h => Bool.noConfusion h) (fun _ => ?_)); conv => whnf)
      refine And.intro (fun h1 => ?_) (fun h1 => ?_)
      · (conv => whnf); repeat ((first | refine And.intro DrawOk.go ?_ | refine And.intro rfl ?_ | refine And.intro (fun _ => ?_) (fun h => Bool.noConfusion h) | refine And.intro (fun h => Bool.noConfusion h) (fun _ => ?_)); conv => whnf)
        refine ⟨_, _, m2, ?_⟩
        (conv => whnf); repeat ((first | refine And.intro DrawOk.go ?_ | refine And.intro rfl ?_ | refine And.intro (fun _ => ?_) (fun h => Bool.noConfusion h) | refine And.intro (fun h => Bool.noConfusion h) (fun _ => ?_)); conv => whnf)
        refine And.intro (fun h2 => ?_) (fun h2 => ?_)
        · have hRe : R = R0.take kk ++ R0.drop (kk + 1) := less_yes hR (eq_beq h1) (eq_beq h2) hkk
          have hb1 := len_b1 (kk := kk) hR9
          have hb2 := len_b2 (kk := kk) hR9
          have hb3 := len_b3 (kk := kk) hR9 hkl
          have hw3 := len_w hR9 hkl
          (conv => whnf); repeat ((first | refine And.intro DrawOk.go ?_ | refine And.intro rfl ?_ | refine And.intro (fun _ => ?_) (fun h => Bool.noConfusion h) | refine And.intro (fun h => Bool.noConfusion h) (fun _ => ?_)); conv => whnf)
          refine ⟨_, _, m3, ?_⟩
          (conv => whnf); repeat ((first | refine And.intro DrawOk.go ?_ | refine And.intro rfl ?_ | refine And.intro (fun _ => ?_) (fun h => Bool.noConfusion h) | refine And.intro (fun h => Bool.noConfusion h) (fun _ => ?_)); conv => whnf)
          refine ⟨rSz R0, ?_⟩
          (conv => whnf); repeat ((first | refine And.intro DrawOk.go ?_ | refine And.intro rfl ?_ | refine And.intro (fun _ => ?_) (fun h => Bool.noConfusion h) | refine And.intro (fun h => Bool.noConfusion h) (fun _ => ?_)); conv => whnf)
          refine ⟨by decide, Int.natCast_nonneg _, by rw [rLen]; exact hb3, ?_⟩
          (conv => whnf); repeat ((first | refine And.intro DrawOk.go ?_ | refine And.intro rfl ?_ | refine And.intro (fun _ => ?_) (fun h => Bool.noConfusion h) | refine And.intro (fun h => Bool.noConfusion h) (fun _ => ?_)); conv => whnf)
          rw [rcut]
          refine ⟨rSz _, ?_⟩
          (conv => whnf); repeat ((first | refine And.intro DrawOk.go ?_ | refine And.intro rfl ?_ | refine And.intro (fun _ => ?_) (fun h => Bool.noConfusion h) | refine And.intro (fun h => Bool.noConfusion h) (fun _ => ?_)); conv => whnf)
          refine ⟨bytes_le (by decide) hb1, ?_⟩
          (conv => whnf); repeat ((first | refine And.intro DrawOk.go ?_ | refine And.intro rfl ?_ | refine And.intro (fun _ => ?_) (fun h => Bool.noConfusion h) | refine And.intro (fun h => Bool.noConfusion h) (fun _ => ?_)); conv => whnf)
          rw [hw3]
          refine ⟨rSz R0, ?_⟩
          (conv => whnf); repeat ((first | refine And.intro DrawOk.go ?_ | refine And.intro rfl ?_ | refine And.intro (fun _ => ?_) (fun h => Bool.noConfusion h) | refine And.intro (fun h => Bool.noConfusion h) (fun _ => ?_)); conv => whnf)
          refine ⟨Int.natCast_nonneg _, by rw [rLen]; exact Int.ofNat_le.2 hkl, by omega, ?_⟩
          (conv => whnf); repeat ((first | refine And.intro DrawOk.go ?_ | refine And.intro rfl ?_ | refine And.intro (fun _ => ?_) (fun h => Bool.noConfusion h) | refine And.intro (fun h => Bool.noConfusion h) (fun _ => ?_)); conv => whnf)
          rw [rcut2]
          refine ⟨rSz _, ?_⟩
          (conv => whnf); repeat ((first | refine And.intro DrawOk.go ?_ | refine And.intro rfl ?_ | refine And.intro (fun _ => ?_) (fun h => Bool.noConfusion h) | refine And.intro (fun h => Bool.noConfusion h) (fun _ => ?_)); conv => whnf)
          refine ⟨bytes_le (by decide) hb2, ?_⟩
          (conv => whnf); repeat ((first | refine And.intro DrawOk.go ?_ | refine And.intro rfl ?_ | refine And.intro (fun _ => ?_) (fun h => Bool.noConfusion h) | refine And.intro (fun h => Bool.noConfusion h) (fun _ => ?_)); conv => whnf)
          refine joined () trivial ?_
          (refine And.intro rfl (And.intro rfl ?_)); (repeat' (first | exact trivial | exact rfl | apply And.intro | (refine congrArg (Value.int .i64) (w64_nat ?_); omega)))
          all_goals exact (List.nil_append _ ▸ rApp _ _).trans (congrArg rR hRe.symm)
        · obtain rfl : R = R0 := less_no hR (fun g => ne_beq h2 g.2)
          (conv => whnf); repeat ((first | refine And.intro DrawOk.go ?_ | refine And.intro rfl ?_ | refine And.intro (fun _ => ?_) (fun h => Bool.noConfusion h) | refine And.intro (fun h => Bool.noConfusion h) (fun _ => ?_)); conv => whnf)
          refine joined () trivial ?_
          (refine And.intro rfl (And.intro rfl ?_)); (repeat' (first | exact trivial | exact rfl | apply And.intro | (refine congrArg (Value.int .i64) (w64_nat ?_); omega)))
      · obtain rfl : R = R0 := less_no hR (fun g => ne_beq h1 g.1)
        (conv => whnf); repeat ((first | refine And.intro DrawOk.go ?_ | refine And.intro rfl ?_ | refine And.intro (fun _ => ?_) (fun h => Bool.noConfusion h) | refine And.intro (fun h => Bool.noConfusion h) (fun _ => ?_)); conv => whnf)
        refine joined () trivial ?_
        (refine And.intro rfl (And.intro rfl ?_)); (repeat' (first | exact trivial | exact rfl | apply And.intro | (refine congrArg (Value.int .i64) (w64_nat ?_); omega)))
    intro gs3 _ _
    clear m3 henc b1 b2 hn hR hkk
    (conv => whnf); repeat ((first | refine And.intro DrawOk.go ?_ | refine And.intro rfl ?_ | refine And.intro (fun _ => ?_) (fun h => Bool.noConfusion h) | refine And.intro (fun h => Bool.noConfusion h) (fun _ => ?_)); conv => whnf)
    refine ⟨_, _, hsl, ?_⟩
    (conv => whnf); repeat ((first | refine And.intro DrawOk.go ?_ | refine And.intro rfl ?_ | refine And.intro (fun _ => ?_) (fun h => Bool.noConfusion h) | refine And.intro (fun h => Bool.noConfusion h) (fun _ => ?_)); conv => whnf)
    have hRl := rLen R
    have hR9' : R.length ≤ 9 := Nat.le_trans hRle hR9
    have hmin : min R.length (S * C) ≤ 9 := Nat.le_trans (Nat.min_le_left _ _) hR9'
    refine loop_abs (fun Q' hQ' => ?_)
    refine vc_loop [1, 2, 3, 8, 9, 10, 11, 12, 14, 16, 19] [8, 9, 11] (X := Nat) (fun i gs' => [(20, ATint i)]) (fun i gs' => [(12, .var 1 [.i (.sc (.int .i64 (A i).s)), .i (.sc (.int .i64 (A i).mo)), .i (.sc (.int .i64 (A i).ma)), .i (.sl (zR (A i).zs))]), (23, .var 1 (dcs L k2))]) (fun i => i ≤ min R.length (S * C)) (fun i => min R.length (S * C) - i) _ (Ghost.refl _) 0 (Nat.zero_le _) ?_ ?_
    · (refine And.intro rfl (And.intro rfl ?_)); (repeat' (first | exact trivial | exact rfl | apply And.intro | (refine congrArg (Value.int .i64) (w64_nat ?_); omega)))
    intro gs4 i hi
    have hfin : i = min R.length (S * C) → (k2, A i) = (k2, A (min R.length (S * C))) := fun e => by rw [e]
    (conv => whnf); repeat ((first | refine And.intro DrawOk.go ?_ | refine And.intro rfl ?_ | refine And.intro (fun _ => ?_) (fun h => Bool.noConfusion h) | refine And.intro (fun h => Bool.noConfusion h) (fun _ => ?_)); conv => whnf)
    refine And.intro (fun h1 => ?_) (fun h1 => ?_)
    · have hlt1 : i < R.length := dec_ltI R.length (by rw [hRl]) h1
      (conv => whnf); repeat ((first | refine And.intro DrawOk.go ?_ | refine And.intro rfl ?_ | refine And.intro (fun _ => ?_) (fun h => Bool.noConfusion h) | refine And.intro (fun h => Bool.noConfusion h) (fun _ => ?_)); conv => whnf)
      rw [hwlj, hmul]
      refine And.intro (fun h2 => ?_) (fun h2 => ?_)
      · have hlt2 : i < S * C := dec_ltI (S * C) rfl h2
        obtain ⟨jj, r, e, f, g1, g2, g3, g4, g5, g6, g7⟩ := hstep i hlt1 hlt2
        have m4 := modF a ((rR R).length : Int)
        rw [rLen] at m4
        (conv => whnf); repeat ((first | refine And.intro DrawOk.go ?_ | refine And.intro rfl ?_ | refine And.intro (fun _ => ?_) (fun h => Bool.noConfusion h) | refine And.intro (fun h => Bool.noConfusion h) (fun _ => ?_)); conv => whnf)
        refine ⟨Int.natCast_nonneg _, _, g3, rfl, ?_⟩
        (conv => whnf); repeat ((first | refine And.intro DrawOk.go ?_ | refine And.intro rfl ?_ | refine And.intro (fun _ => ?_) (fun h => Bool.noConfusion h) | refine And.intro (fun h => Bool.noConfusion h) (fun _ => ?_)); conv => whnf)
        refine ⟨_, _, g4, ?_⟩
        (conv => whnf); repeat ((first | refine And.intro DrawOk.go ?_ | refine And.intro rfl ?_ | refine And.intro (fun _ => ?_) (fun h => Bool.noConfusion h) | refine And.intro (fun h => Bool.noConfusion h) (fun _ => ?_)); conv => whnf)
        refine vc_join [1, 2, 3, 8, 9, 10, 11, 12, 14, 16, 19, 20] [8, 9, 11] (X := Unit) (fun _ gs' => [(21, .v (strV (sec i)))]) (fun _ gs' => [(23, .var 1 (dcs L k2)), (12, .var 1 [.i (.sc (.int .i64 (A i).s)), .i (.sc (.int .i64 (A i).mo)), .i (.sc (.int .i64 (A i).ma)), .i (.sl (zR (A i).zs))])]) (fun _ => True) ?_ ?_
        · (conv => whnf); repeat ((first | refine And.intro DrawOk.go ?_ | refine And.intro rfl ?_ | refine And.intro (fun _ => ?_) (fun h => Bool.noConfusion h) | refine And.intro (fun h => Bool.noConfusion h) (fun _ => ?_)); conv => whnf)
          refine ⟨_, _, m1, ?_⟩
          (conv => whnf); repeat ((first | refine And.intro DrawOk.go ?_ | refine And.intro rfl ?_ | refine And.intro (fun _ => ?_) (fun h => Bool.noConfusion h) | refine And.intro (fun h => Bool.noConfusion h) (fun _ => ?_)); conv => whnf)
          refine And.intro (fun h3 => ?_) (fun h3 => ?_)
          · (conv => whnf); repeat ((first | refine And.intro DrawOk.go ?_ | refine And.intro rfl ?_ | refine And.intro (fun _ => ?_) (fun h => Bool.noConfusion h) | refine And.intro (fun h => Bool.noConfusion h) (fun _ => ?_)); conv => whnf)
            rw [hRl]
            refine ⟨_, _, m4, ?_⟩
            (conv => whnf); repeat ((first | refine And.intro DrawOk.go ?_ | refine And.intro rfl ?_ | refine And.intro (fun _ => ?_) (fun h => Bool.noConfusion h) | refine And.intro (fun h => Bool.noConfusion h) (fun _ => ?_)); conv => whnf)
            refine And.intro (fun h4 => ?_) (fun h4 => ?_)
            · have g5 := g5 ⟨eq_beq h3, eq_beq h4⟩
              (conv => whnf); repeat ((first | refine And.intro DrawOk.go ?_ | refine And.intro rfl ?_ | refine And.intro (fun _ => ?_) (fun h => Bool.noConfusion h) | refine And.intro (fun h => Bool.noConfusion h) (fun _ => ?_)); conv => whnf)
              refine ⟨_, _, g5, ?_⟩
              (conv => whnf); repeat ((first | refine And.intro DrawOk.go ?_ | refine And.intro rfl ?_ | refine And.intro (fun _ => ?_) (fun h => Bool.noConfusion h) | refine And.intro (fun h => Bool.noConfusion h) (fun _ => ?_)); conv => whnf)
              refine joined () trivial ?_
              (refine And.intro rfl (And.intro rfl ?_)); (repeat' (first | exact trivial | exact rfl | apply And.intro | (refine congrArg (Value.int .i64) (w64_nat ?_); omega)))
            · have g6 := g6 (fun g => ne_beq h4 g.2)
              (conv => whnf); repeat ((first | refine And.intro DrawOk.go ?_ | refine And.intro rfl ?_ | refine And.intro (fun _ => ?_) (fun h => Bool.noConfusion h) | refine And.intro (fun h => Bool.noConfusion h) (fun _ => ?_)); conv => whnf)
              refine joined () trivial ?_
              (refine And.intro rfl (And.intro rfl ?_)); (repeat' (first | exact trivial | exact rfl | apply And.intro | (refine congrArg (Value.int .i64) (w64_nat ?_); omega)))
              all_goals exact congrArg Value.string g6
          · have g6 := g6 (fun g => ne_beq h3 g.1)
            (conv => whnf); repeat ((first | refine And.intro DrawOk.go ?_ | refine And.intro rfl ?_ | refine And.intro (fun _ => ?_) (fun h => Bool.noConfusion h) | refine And.intro (fun h => Bool.noConfusion h) (fun _ => ?_)); conv => whnf)
            refine joined () trivial ?_
            (refine And.intro rfl (And.intro rfl ?_)); (repeat' (first | exact trivial | exact rfl | apply And.intro | (refine congrArg (Value.int .i64) (w64_nat ?_); omega)))
            all_goals exact congrArg Value.string g6
        intro gs5 _ _
        clear g5 g6 m4
        (conv => whnf); repeat ((first | refine And.intro DrawOk.go ?_ | refine And.intro rfl ?_ | refine And.intro (fun _ => ?_) (fun h => Bool.noConfusion h) | refine And.intro (fun h => Bool.noConfusion h) (fun _ => ?_)); conv => whnf)
        refine ⟨hCne, ?_⟩
        (conv => whnf); repeat ((first | refine And.intro DrawOk.go ?_ | refine And.intro rfl ?_ | refine And.intro (fun _ => ?_) (fun h => Bool.noConfusion h) | refine And.intro (fun h => Bool.noConfusion h) (fun _ => ?_)); conv => whnf)
        rw [g1]
        refine ⟨Int.natCast_nonneg _, _, g2, rfl, ?_⟩
        (conv => whnf); repeat ((first | refine And.intro DrawOk.go ?_ | refine And.intro rfl ?_ | refine And.intro (fun _ => ?_) (fun h => Bool.noConfusion h) | refine And.intro (fun h => Bool.noConfusion h) (fun _ => ?_)); conv => whnf)
        refine ⟨_, _, g7, ?_⟩
        (conv => whnf); repeat ((first | refine And.intro DrawOk.go ?_ | refine And.intro rfl ?_ | refine And.intro (fun _ => ?_) (fun h => Bool.noConfusion h) | refine And.intro (fun h => Bool.noConfusion h) (fun _ => ?_)); conv => whnf)
        refine again (i + 1) (min_go hi hlt1 hlt2) (Nat.sub_lt_sub_left (min_go hi hlt1 hlt2) (Nat.lt_succ_self i)) ?_
        (refine And.intro rfl (And.intro rfl ?_)); (repeat' (first | exact trivial | exact rfl | apply And.intro | (refine congrArg (Value.int .i64) (w64_nat ?_); omega)))
      · have hge : ¬ i < S * C := dec_geI (S * C) rfl h2
        obtain rfl : i = min R.length (S * C) := min_end2 hi hge
        (conv => whnf); repeat ((first | refine And.intro DrawOk.go ?_ | refine And.intro rfl ?_ | refine And.intro (fun _ => ?_) (fun h => Bool.noConfusion h) | refine And.intro (fun h => Bool.noConfusion h) (fun _ => ?_)); conv => whnf)
        rw [hQ']
        (conv => whnf); repeat ((first | refine And.intro DrawOk.go ?_ | refine And.intro rfl ?_ | refine And.intro (fun _ => ?_) (fun h => Bool.noConfusion h) | refine And.intro (fun h => Bool.noConfusion h) (fun _ => ?_)); conv => whnf)
        refine again (j + 1, k2, A (min R.length (S * C))) ⟨hj, hs⟩ (by dsimp only; omega) ?_
        (refine And.intro rfl (And.intro rfl ?_)); (repeat' (first | exact trivial | exact rfl | apply And.intro | (refine congrArg (Value.int .i64) (w64_nat ?_); omega)))
    · have hge : ¬ i < R.length := dec_geI R.length (by rw [hRl]) h1
      obtain rfl : i = min R.length (S * C) := min_end1 hi hge
      (conv => whnf); repeat ((first | refine And.intro DrawOk.go ?_ | refine And.intro rfl ?_ | refine And.intro (fun _ => ?_) (fun h => Bool.noConfusion h) | refine And.intro (fun h => Bool.noConfusion h) (fun _ => ?_)); conv => whnf)
      rw [hQ']
      (conv => whnf); repeat ((first | refine And.intro DrawOk.go ?_ | refine And.intro rfl ?_ | refine And.intro (fun _ => ?_) (fun h => Bool.noConfusion h) | refine And.intro (fun h => Bool.noConfusion h) (fun _ => ?_)); conv => whnf)
      refine again (j + 1, k2, A (min R.length (S * C))) ⟨hj, hs⟩ (by dsimp only; omega) ?_
      (refine And.intro rfl (And.intro rfl ?_)); (repeat' (first | exact trivial | exact rfl | apply And.intro | (refine congrArg (Value.int .i64) (w64_nat ?_); omega)))
  · have hj : ¬ j < 2 := dec_geI 2 rfl h
    obtain rfl : j = 2 := by omega
    rw [he]
    (conv => whnf); repeat ((first | refine And.intro DrawOk.go ?_ | refine And.intro rfl ?_ | refine And.intro (fun _ => ?_) (fun h => Bool.noConfusion h) | refine And.intro (fun h => Bool.noConfusion h) (fun _ => ?_)); conv => whnf)
    refine Exists.intro [] (And.intro List.nodup_nil ?_); ((conv => whnf); repeat ((first | refine And.intro DrawOk.go ?_ | refine And.intro rfl ?_ | refine And.intro (fun _ => ?_) (fun h => Bool.noConfusion h) | refine And.intro (fun h => Bool.noConfusion h) (fun _ => ?_)); conv => whnf))
    rfl
end Go.Proofs.Ytkpicojhnnkibaa.Ab
namespace Go.Proofs.Ytkpicojhnnkibaa.Ab
set_option linter.unusedVariables false
set_option linter.unusedSimpArgs false
open Go.RowKit

theorem cread_len {n : Nat} {cb : Int} {zs : List Zn} {slot : Int} (hn : n ≤ 100) (hz : ∀ x ∈ zs, x.ss.length ≤ 1000) : (cread n cb zs slot).1.es.length ≤ 140737488355328 := by
  unfold cread
  split
  · exact Nat.zero_le _
  split
  · exact Nat.zero_le _
  split
  · have hpay := (recGo_pay (secs zs (slotsL n slot n)) [] (fun r hr => by cases hr)).2
    have hsec := secs_len (Z := slotsL n slot n) hz
    rw [slotsL_len] at hsec
    have hd := cdecode_len (recGo [] (secs zs (slotsL n slot n))).1
    have hn100 : n * 1000 ≤ 100000 := Nat.le_trans (Nat.mul_le_mul_right 1000 hn) (by decide)
    simp only [List.length_nil, Nat.zero_add] at hpay
    unfold wholeC
    split
    · dsimp only
      omega
    · exact Nat.zero_le _
  · exact Nat.zero_le _
theorem bsameV (B : Bse) (h : B.es.length ≤ 140737488355328) : Fun Try.prog 17 [bseV B, bseV B] [] (ATbool true) := by
  have := csameF B.s B.n B.c B.es B.s B.n B.c B.es h h
  rw [bsame_iff.2 rfl] at this
  exact this
theorem odd_or (D : Dv) (w a b : Int) (hD : devL D.zs) (hl : D.zs.length ≤ 28) : ∃ D2 : Dv, (dmod w 5 = 3 → D2 = odd D b a b) ∧ (dmod w 5 ≠ 3 → D2 = D) ∧ D2.zs.length ≤ 1000 ∧ ∀ x ∈ D2.zs, x.ss.length ≤ 1000 ∧ ∀ y ∈ x.ss, y.size ≤ 1000000 := by
  by_cases h : dmod w 5 = 3
  · obtain ⟨h1, h2⟩ := odd_bounds (D := D) (w := b) (at_ := a) (by_ := b) (M := 100) (N := 40) (by decide) (fun x hx => ⟨(hD x hx).1, fun y hy => by have := (hD x hx).2 y hy; omega⟩)
    exact ⟨odd D b a b, fun _ => rfl, fun g => absurd h g, by omega, fun x hx => ⟨Nat.le_trans (h2 x hx).1 (by decide), fun y hy => Nat.le_trans ((h2 x hx).2 y hy) (by decide)⟩⟩
  · exact ⟨D, fun g => absurd g h, fun _ => rfl, by omega, fun x hx => ⟨Nat.le_trans (hD x hx).1 (by decide), fun y hy => by have := (hD x hx).2 y hy; omega⟩⟩
theorem i4 {i : Nat} (h : decide ((i : Int) < 4) = true) : i = 0 ∨ i = 1 ∨ i = 2 ∨ i = 3 := by have := of_decide_eq_true h; omega
set_option maxRecDepth 100000 in
set_option maxHeartbeats 32000000 in
theorem ckReadsF (L : List Int) (w a b slot : Int) (hb : L.length ≤ 140737488355328) : Fun Try.prog 7 [slV (wV L), i64V w, i64V a, i64V b, i64V slot] [] (ATbool true) := by
  have hlight := lightF L hb
  have aw := ckAwake
  by_cases hL : L.length ≤ 300
  rotate_left
  · rw [decide_eq_false hL] at hlight
    refine fun_of_vc tabOk mixOk Try.func7 rfl (by rfl) (rs := [.tmp 10]) rfl rfl 103 ?_; rw [Try.ntmps7]
    (conv => whnf); repeat ((first | refine And.intro DrawOk.go ?_ | refine And.intro rfl ?_ | refine And.intro (fun _ => ?_) (fun h => Bool.noConfusion h) | refine And.intro (fun h => Bool.noConfusion h) (fun _ => ?_)); conv => whnf)
    refine ⟨_, _, hlight, ?_⟩
    (conv => whnf); repeat ((first | refine And.intro DrawOk.go ?_ | refine And.intro rfl ?_ | refine And.intro (fun _ => ?_) (fun h => Bool.noConfusion h) | refine And.intro (fun h => Bool.noConfusion h) (fun _ => ?_)); conv => whnf)
    refine ⟨_, _, aw, ?_⟩
    (conv => whnf); repeat ((first | refine And.intro DrawOk.go ?_ | refine And.intro rfl ?_ | refine And.intro (fun _ => ?_) (fun h => Bool.noConfusion h) | refine And.intro (fun h => Bool.noConfusion h) (fun _ => ?_)); conv => whnf)
    refine Exists.intro [] (And.intro List.nodup_nil ?_); ((conv => whnf); repeat ((first | refine And.intro DrawOk.go ?_ | refine And.intro rfl ?_ | refine And.intro (fun _ => ?_) (fun h => Bool.noConfusion h) | refine And.intro (fun h => Bool.noConfusion h) (fun _ => ?_)); conv => whnf))
    rfl
  rw [decide_eq_true hL] at hlight
  obtain ⟨c, D, S, hc, hS, hS1, hD, hDl, hsl⟩ := slottedF L w a b hL
  obtain ⟨D2, e1, e2, hl2, hz2⟩ := odd_or D w a b hD hDl
  have hodd := oddF D.s D.mo D.ma D.zs b a b (by omega) (fun x hx => Nat.le_trans (hD x hx).1 (by decide))
  have hn100 : S ≤ 100 := by omega
  have hr1 := fun slot => creadF c D2.s D2.mo D2.ma D2.zs slot S hc hS hS1.1 hn100 hl2 hz2
  have hr2 := fun slot => creadF' c D2.s D2.mo D2.ma D2.zs slot S hc hS hS1.1 hn100 hl2 hz2
  have hn1 := cnewF c D2.s D2.mo D2.ma D2.zs S hc hS hS1.1 hn100 hl2 hz2
  have hn2 := cnewF' c D2.s D2.mo D2.ma D2.zs S hc hS hS1.1 hn100 hl2 hz2
  have hsame := fun slot => bsameV _ (cread_len (n := S) (cb := c.b) (zs := D2.zs) (slot := slot) hn100 (fun x hx => (hz2 x hx).1))
  have hsameN : Fun Try.prog 17 [bseV (nst S c.b D2.zs 2).1, bseV (nst S c.b D2.zs 2).1] [] (ATbool true) := by
    refine bsameV _ ?_
    rw [nst_new]
    unfold newR
    have h0 := cread_len (n := S) (cb := c.b) (zs := D2.zs) (slot := 0) hn100 (fun x hx => (hz2 x hx).1)
    have h1 := cread_len (n := S) (cb := c.b) (zs := D2.zs) (slot := 1) hn100 (fun x hx => (hz2 x hx).1)
    split
    · exact h0
    split
    · exact h1
    · exact Nat.zero_le _
  generalize nst S c.b D2.zs 2 = N at hn1 hn2 hsameN
  generalize cread S c.b D2.zs = G at hr1 hr2 hsame
  clear hL hb hc hS hS1 hD hDl hl2 hz2 hn100
  have m5 := modF w 5
  generalize dmod w 5 = W at m5 e1 e2
  have hodd' : W = 3 → Fun Try.prog 40 [dvA D.s D.mo D.ma D.zs, i64V b, i64V a, i64V b] [] (.v (dvV D2)) := fun h => by rw [e1 h]; exact hodd
  clear hodd e1
  obtain ⟨cz, cs, cb, cq, cd, ch⟩ := c
  obtain ⟨d1, d2, d3, d4⟩ := D
  obtain ⟨x1, x2, x3, x4⟩ := D2
  dsimp only at hr1 hr2 hn1 hn2 hodd'
  refine fun_of_vc (tabXOk [4000037]) mixOk Try.func7 rfl (by rfl) (rs := [.tmp 10]) rfl rfl 103 ?_; rw [Try.ntmps7]
  (conv => whnf); repeat ((first | refine And.intro DrawOk.go ?_ | refine And.intro rfl ?_ | refine And.intro (fun _ => ?_) (fun h => Bool.noConfusion h) | refine And.intro (fun h => Bool.noConfusion h) (fun _ => ?_)); conv => whnf)
  refine ⟨_, _, hlight, ?_⟩
  (conv => whnf); repeat ((first | refine And.intro DrawOk.go ?_ | refine And.intro rfl ?_ | refine And.intro (fun _ => ?_) (fun h => Bool.noConfusion h) | refine And.intro (fun h => Bool.noConfusion h) (fun _ => ?_)); conv => whnf)
  refine ⟨_, _, hsl, ?_⟩
  (conv => whnf); repeat ((first | refine And.intro DrawOk.go ?_ | refine And.intro rfl ?_ | refine And.intro (fun _ => ?_) (fun h => Bool.noConfusion h) | refine And.intro (fun h => Bool.noConfusion h) (fun _ => ?_)); conv => whnf)
  refine vc_join [4, 11, 12] [11] (X := Unit) (fun _ gs => []) (fun _ gs => [(12, .var 1 [.i (.sc (.int .i64 x1)), .i (.sc (.int .i64 x2)), .i (.sc (.int .i64 x3)), .i (.sl (zR x4))])]) (fun _ => True) ?_ ?_
  · (conv => whnf); repeat ((first | refine And.intro DrawOk.go ?_ | refine And.intro rfl ?_ | refine And.intro (fun _ => ?_) (fun h => Bool.noConfusion h) | refine And.intro (fun h => Bool.noConfusion h) (fun _ => ?_)); conv => whnf)
    refine ⟨_, _, m5, ?_⟩
    (conv => whnf); repeat ((first | refine And.intro DrawOk.go ?_ | refine And.intro rfl ?_ | refine And.intro (fun _ => ?_) (fun h => Bool.noConfusion h) | refine And.intro (fun h => Bool.noConfusion h) (fun _ => ?_)); conv => whnf)
    refine And.intro (fun h => ?_) (fun h => ?_)
    · (conv => whnf); repeat ((first | refine And.intro DrawOk.go ?_ | refine And.intro rfl ?_ | refine And.intro (fun _ => ?_) (fun h => Bool.noConfusion h) | refine And.intro (fun h => Bool.noConfusion h) (fun _ => ?_)); conv => whnf)
      refine ⟨_, _, hodd' (eq_beq h), ?_⟩
      (conv => whnf); repeat ((first | refine And.intro DrawOk.go ?_ | refine And.intro rfl ?_ | refine And.intro (fun _ => ?_) (fun h => Bool.noConfusion h) | refine And.intro (fun h => Bool.noConfusion h) (fun _ => ?_)); conv => whnf)
      refine joined () trivial ?_
      (refine And.intro rfl (And.intro rfl ?_)); (repeat' (first | exact trivial | exact rfl | apply And.intro | (refine congrArg (Value.int .i64) (w64_nat ?_); omega)))
    · have e := e2 (ne_beq h)
      injection e with q1 q2 q3 q4
      subst q1 q2 q3 q4
      (conv => whnf); repeat ((first | refine And.intro DrawOk.go ?_ | refine And.intro rfl ?_ | refine And.intro (fun _ => ?_) (fun h => Bool.noConfusion h) | refine And.intro (fun h => Bool.noConfusion h) (fun _ => ?_)); conv => whnf)
      refine joined () trivial ?_
      (refine And.intro rfl (And.intro rfl ?_)); (repeat' (first | exact trivial | exact rfl | apply And.intro | (refine congrArg (Value.int .i64) (w64_nat ?_); omega)))
  intro gs _ _
  clear e2 hodd' hsl
  (conv => whnf); repeat ((first | refine And.intro DrawOk.go ?_ | refine And.intro rfl ?_ | refine And.intro (fun _ => ?_) (fun h => Bool.noConfusion h) | refine And.intro (fun h => Bool.noConfusion h) (fun _ => ?_)); conv => whnf)
  refine vc_loop [11, 12, 13] [11, 12, 13] (X := Nat) (fun i gs' => [(14, ATint i)]) (fun i gs' => []) (fun i => i ≤ 4) (fun i => 4 - i) _ (Ghost.refl _) 0 (Nat.zero_le _) ?_ ?_
  · (refine And.intro rfl (And.intro rfl ?_)); (repeat' (first | exact trivial | exact rfl | apply And.intro | (refine congrArg (Value.int .i64) (w64_nat ?_); omega)))
  intro gs2 i hi
  (conv => whnf); repeat ((first | refine And.intro DrawOk.go ?_ | refine And.intro rfl ?_ | refine And.intro (fun _ => ?_) (fun h => Bool.noConfusion h) | refine And.intro (fun h => Bool.noConfusion h) (fun _ => ?_)); conv => whnf)
  refine And.intro (fun h => ?_) (fun h => ?_)
  · rcases i4 h with rfl | rfl | rfl | rfl
    all_goals
      ((conv => whnf); repeat ((first | refine And.intro DrawOk.go ?_ | refine And.intro rfl ?_ | refine And.intro (fun _ => ?_) (fun h => Bool.noConfusion h) | refine And.intro (fun h => Bool.noConfusion h) (fun _ => ?_)); conv => whnf))
      refine ⟨by decide, by decide, ?_⟩
      ((conv => whnf); repeat ((first | refine And.intro DrawOk.go ?_ | refine And.intro rfl ?_ | refine And.intro (fun _ => ?_) (fun h => Bool.noConfusion h) | refine And.intro (fun h => Bool.noConfusion h) (fun _ => ?_)); conv => whnf))
      refine ⟨_, _, hr1 _, ?_⟩
      ((conv => whnf); repeat ((first | refine And.intro DrawOk.go ?_ | refine And.intro rfl ?_ | refine And.intro (fun _ => ?_) (fun h => Bool.noConfusion h) | refine And.intro (fun h => Bool.noConfusion h) (fun _ => ?_)); conv => whnf))
      refine ⟨by decide, by decide, ?_⟩
      ((conv => whnf); repeat ((first | refine And.intro DrawOk.go ?_ | refine And.intro rfl ?_ | refine And.intro (fun _ => ?_) (fun h => Bool.noConfusion h) | refine And.intro (fun h => Bool.noConfusion h) (fun _ => ?_)); conv => whnf))
      refine ⟨_, _, hr2 _, ?_⟩
      ((conv => whnf); repeat ((first | refine And.intro DrawOk.go ?_ | refine And.intro rfl ?_ | refine And.intro (fun _ => ?_) (fun h => Bool.noConfusion h) | refine And.intro (fun h => Bool.noConfusion h) (fun _ => ?_)); conv => whnf))
      refine And.intro (fun h => absurd h (by simp)) (fun _ => ?_)
      ((conv => whnf); repeat ((first | refine And.intro DrawOk.go ?_ | refine And.intro rfl ?_ | refine And.intro (fun _ => ?_) (fun h => Bool.noConfusion h) | refine And.intro (fun h => Bool.noConfusion h) (fun _ => ?_)); conv => whnf))
      refine ⟨_, _, hsame _, ?_⟩
      ((conv => whnf); repeat ((first | refine And.intro DrawOk.go ?_ | refine And.intro rfl ?_ | refine And.intro (fun _ => ?_) (fun h => Bool.noConfusion h) | refine And.intro (fun h => Bool.noConfusion h) (fun _ => ?_)); conv => whnf))
    · refine again 1 (by decide) (by decide) ?_
      (refine And.intro rfl (And.intro rfl ?_)); (repeat' (first | exact trivial | exact rfl | apply And.intro | (refine congrArg (Value.int .i64) (w64_nat ?_); omega)))
    · refine again 2 (by decide) (by decide) ?_
      (refine And.intro rfl (And.intro rfl ?_)); (repeat' (first | exact trivial | exact rfl | apply And.intro | (refine congrArg (Value.int .i64) (w64_nat ?_); omega)))
    · refine again 3 (by decide) (by decide) ?_
      (refine And.intro rfl (And.intro rfl ?_)); (repeat' (first | exact trivial | exact rfl | apply And.intro | (refine congrArg (Value.int .i64) (w64_nat ?_); omega)))
    · refine again 4 (by decide) (by decide) ?_
      (refine And.intro rfl (And.intro rfl ?_)); (repeat' (first | exact trivial | exact rfl | apply And.intro | (refine congrArg (Value.int .i64) (w64_nat ?_); omega)))
  · (conv => whnf); repeat ((first | refine And.intro DrawOk.go ?_ | refine And.intro rfl ?_ | refine And.intro (fun _ => ?_) (fun h => Bool.noConfusion h) | refine And.intro (fun h => Bool.noConfusion h) (fun _ => ?_)); conv => whnf)
    refine ⟨_, _, hn1, ?_⟩
    (conv => whnf); repeat ((first | refine And.intro DrawOk.go ?_ | refine And.intro rfl ?_ | refine And.intro (fun _ => ?_) (fun h => Bool.noConfusion h) | refine And.intro (fun h => Bool.noConfusion h) (fun _ => ?_)); conv => whnf)
    refine ⟨_, _, hn2, ?_⟩
    (conv => whnf); repeat ((first | refine And.intro DrawOk.go ?_ | refine And.intro rfl ?_ | refine And.intro (fun _ => ?_) (fun h => Bool.noConfusion h) | refine And.intro (fun h => Bool.noConfusion h) (fun _ => ?_)); conv => whnf)
    repeat' (first | ((refine And.intro (fun h => ?_) (fun h => ?_)) <;> (try simp at h) <;> ((conv => whnf); repeat ((first | refine And.intro DrawOk.go ?_ | refine And.intro rfl ?_ | refine And.intro (fun _ => ?_) (fun h => Bool.noConfusion h) | refine And.intro (fun h => Bool.noConfusion h) (fun _ => ?_)); conv => whnf))) | (refine ⟨_, _, hsameN, ?_⟩; ((conv => whnf); repeat ((first | refine And.intro DrawOk.go ?_ | refine And.intro rfl ?_ | refine And.intro (fun _ => ?_) (fun h => Bool.noConfusion h) | refine And.intro (fun h => Bool.noConfusion h) (fun _ => ?_)); conv => whnf))) | (refine ⟨_, _, aw, ?_⟩; ((conv => whnf); repeat ((first | refine And.intro DrawOk.go ?_ | refine And.intro rfl ?_ | refine And.intro (fun _ => ?_) (fun h => Bool.noConfusion h) | refine And.intro (fun h => Bool.noConfusion h) (fun _ => ?_)); conv => whnf))) | fail)
    all_goals first
      | contradiction
      | (refine Exists.intro [] (And.intro List.nodup_nil ?_); ((conv => whnf); repeat ((first | refine And.intro DrawOk.go ?_ | refine And.intro rfl ?_ | refine And.intro (fun _ => ?_) (fun h => Bool.noConfusion h) | refine And.intro (fun h => Bool.noConfusion h) (fun _ => ?_)); conv => whnf))
         rfl)
end Go.Proofs.Ytkpicojhnnkibaa.Ab
namespace Go.Proofs.Ytkpicojhnnkibaa
set_option linter.unusedVariables false
set_option linter.unusedSimpArgs false
open Ab
set_option maxRecDepth 100000 in
theorem checkpointReads.walk {H : Type} {enc : TypeId × Value → H} {W : World} {base : Nat} (v : Value) (d : DataW H) (p : List MemPlace) (hv : Value.okWide Try.prog W .any base 38 v)
    (h : DataW.Trod enc Try.prog W 0 (fun _ => true) true 38 v d p) (hw : ∀ n ∈ d.weights Try.prog 38, n ≤ 140737488351232)
    (a1 : Int) (_w1 : (Lit.int .i64 a1).wf = true) (a2 : Int) (_w2 : (Lit.int .i64 a2).wf = true) (a3 : Int) (_w3 : (Lit.int .i64 a3).wf = true) (a4 : Int) (_w4 : (Lit.int .i64 a4).wf = true)
    (W' : World) (hW : W' = W := by rfl) : Calls Try.prog 7 #[v, .int .i64 a1, .int .i64 a2, .int .i64 a3, .int .i64 a4] W' (True1 W') := by
  subst hW
  obtain ⟨es, _, q1, q2⟩ := open_sl tabOk 3 (t := 38) (by decide +kernel) rfl hv h
  obtain ⟨xs, rfl⟩ := ints_of (d := 2) es (fun r hr => (q1 r hr).2)
  have b3 := slice_bound tabOk (e := 3) rfl h hw (q2 (fun _ _ => undef) (fun _ => 0))
  rw [bytesOf_eq tabOk (fun h => TK.noConfusion h)] at b3
  have b3' : (wV xs).length * 8 ≤ 140737488351232 := b3
  exact law_of_fun (ckReadsF xs a1 a2 a3 a4 (by simp [wV] at b3'; omega)) rfl (reps_get (vs := [_, _, _, _, _]) ⟨q2 _ _, .sc _ rfl, .sc _ rfl, .sc _ rfl, .sc _ rfl, trivial⟩)
end Go.Proofs.Ytkpicojhnnkibaa
