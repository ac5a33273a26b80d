/- Found records: equal lists, members, and whether they say the same. No condition. -/
import Derived.Test.YtkpicojhnnkibaaDd
import Derived.Test.YtkpicojhnnkibaaRk
import Derived.Test.YtkpicojhnnkibaaPs
namespace Go.Proofs.Ytkpicojhnnkibaa.Ab
set_option linter.unusedVariables false
set_option linter.unusedSimpArgs false
open Go.RowKit

structure Fnd where
  z : Int
  o : Int
  r : Rec
def fRow (f : Fnd) : List IV := [.sc (.int .i64 f.z), .sc (.int .i64 f.o), .sc (.int .i64 f.r.k), .sc (.int .i64 f.r.b), .sc (.int .i64 f.r.v), .sc (.int .i64 f.r.m), .sc (.string f.r.p)]
def fA (z o k b v m : Int) (p : ByteArray) : AV := .agg [.i (.sc (.int .i64 z)), .i (.sc (.int .i64 o)), .i (.sc (.int .i64 k)), .i (.sc (.int .i64 b)), .i (.sc (.int .i64 v)), .i (.sc (.int .i64 m)), .i (.sc (.string p))]
def fR (l : List Fnd) : List (List IV) := l.map fRow
theorem fLen (l : List Fnd) : (fR l).length = l.length := by simp [fR]
theorem fItem {l : List Fnd} {k : Nat} (h : k < l.length) : (fR l)[((k : Int)).toNat]? = some (fRow l[k]) := by simp [fR, h]
theorem fSz (l : List Fnd) : ∀ z ∈ fR l, z.length = 7 := by
  intro z hz
  obtain ⟨x, _, rfl⟩ := List.mem_map.1 hz
  rfl
theorem fSnoc (a : List Fnd) (f : Fnd) : fR a ++ [fRow f] = fR (a ++ [f]) := by simp [fR]
theorem fApp (a b : List Fnd) : fR a ++ fR b = fR (a ++ b) := by simp [fR]
def fEq (a b : Fnd) : Bool := ((a.z == b.z && (a.o == b.o && true)) && ((a.r.k == b.r.k && (a.r.b == b.r.b && (a.r.v == b.r.v && (a.r.m == b.r.m && (a.r.p.toList == b.r.p.toList && true))))) && true))
theorem fEq_iff {a b : Fnd} : fEq a b = true ↔ a = b := by
  obtain ⟨a1, a2, ⟨a3, a4, a5, a6, a7⟩⟩ := a
  obtain ⟨b1, b2, ⟨b3, b4, b5, b6, b7⟩⟩ := b
  simp only [fEq, Bool.and_eq_true, beq_iff_eq, and_true, Fnd.mk.injEq, Rec.mk.injEq]
  constructor
  · rintro ⟨⟨h1, h2⟩, h3, h4, h5, h6, h7⟩
    exact ⟨h1, h2, h3, h4, h5, h6, sL_inj (by rw [← toList_eq, ← toList_eq, h7])⟩
  · rintro ⟨h1, h2, h3, h4, h5, h6, h7⟩
    exact ⟨⟨h1, h2⟩, h3, h4, h5, h6, by rw [h7]⟩
theorem fEq_self (a : Fnd) : fEq a a = true := fEq_iff.2 rfl
instance : DecidableEq Fnd := fun a b => decidable_of_iff _ fEq_iff
/-- Does a sector hold the record of a block? -/
def isBlk (s : ByteArray) : Bool := decide ((rdec s).2 = 0 ∧ ((rdec s).1.k = 1 ∨ (rdec s).1.k = 2))
def goodB (s : ByteArray) : Bool := decide ((rdec s).2 = 0 ∧ ((rdec s).1.k = 1 ∨ (rdec s).1.k = 2) ∧ (rdec s).1.v ≥ 1)
def scanG (z : Int) : Nat → List ByteArray → List Fnd
  | _, [] => []
  | i, s :: l => (if goodB s then [⟨z, i, (rdec s).1⟩] else []) ++ scanG z (i + 1) l
theorem scanG_snoc (z : Int) (s : ByteArray) : ∀ (l : List ByteArray) (i : Nat), scanG z i (l ++ [s]) = scanG z i l ++ (if goodB s then [⟨z, ((i + l.length : Nat) : Int), (rdec s).1⟩] else []) := by
  intro l
  induction l with
  | nil => intro i; simp [scanG]
  | cons x l ih =>
    intro i
    rw [List.cons_append, scanG, scanG, ih (i + 1), List.append_assoc, List.length_cons, show i + 1 + l.length = i + (l.length + 1) by omega]
theorem scanG_take {z : Int} {ss : List ByteArray} {k : Nat} (h : k < ss.length) : scanG z 0 (ss.take (k + 1)) = scanG z 0 (ss.take k) ++ (if goodB ss[k] then [⟨z, (k : Int), (rdec ss[k]).1⟩] else []) := by
  rw [List.take_succ_eq_append_getElem h, scanG_snoc, List.length_take, Nat.min_eq_left (by omega), Nat.zero_add]
theorem scanG_len (z : Int) (l : List ByteArray) : ∀ i, (scanG z i l).length ≤ l.length := by
  induction l with
  | nil => intro i; exact Nat.le_refl _
  | cons s l ih =>
    intro i
    rw [scanG, List.length_append, List.length_cons]
    have := ih (i + 1)
    split <;> simp <;> omega
def scanZ (zs : List Zn) (z : Int) : List Fnd := if z < 0 ∨ z ≥ zs.length then [] else match zs[z.toNat]? with
  | none => []
  | some x => scanG z 0 x.ss
theorem scanZ_no {zs : List Zn} {z : Int} (h : z < 0 ∨ z ≥ zs.length) : scanZ zs z = [] := by unfold scanZ; rw [if_pos h]
theorem scanZ_at {zs : List Zn} {k : Nat} (h : k < zs.length) : scanZ zs k = scanG k 0 zs[k].ss := by
  unfold scanZ
  rw [if_neg (by omega), Int.toNat_natCast, List.getElem?_eq_getElem h]
theorem goodB_yes {s : ByteArray} (h1 : (rdec s).2 = 0) (h2 : (rdec s).1.k = 1 ∨ (rdec s).1.k = 2) (h3 : (rdec s).1.v ≥ 1) : goodB s = true := decide_eq_true ⟨h1, h2, h3⟩
theorem goodB_no {s : ByteArray} (h : ¬ ((rdec s).2 = 0 ∧ ((rdec s).1.k = 1 ∨ (rdec s).1.k = 2) ∧ (rdec s).1.v ≥ 1)) : goodB s = false := decide_eq_false h
set_option maxRecDepth 100000 in
set_option maxHeartbeats 16000000 in
theorem scanZF (s mo ma : Int) (zs : List Zn) (z : Int) (hl : zs.length ≤ 1000000) (hz : ∀ x ∈ zs, x.ss.length ≤ 1000000 ∧ ∀ y ∈ x.ss, y.size ≤ 1000000) :
    Fun Try.prog 26 [dvA s mo ma zs, i64V z] [] (.v (slV (fR (scanZ zs z)))) := by
  have hzl := zLen zs
  by_cases hb : z < 0 ∨ z ≥ zs.length
  · rw [scanZ_no hb]
    refine fun_of_vc tabOk mixOk Try.func26 rfl (by rfl) (rs := [.tmp 4]) rfl rfl 67 ?_; rw [Try.ntmps26]
    (conv => whnf); repeat (first | (refine And.intro (DrawOk.mk (by first | (simp only [List.map_cons, List.map_nil, List.nil_append, List.cons_append, List.append_nil, updsL, List.length_cons, List.length_nil]; decide +kernel) | exact rfl)) ?_; conv => whnf) | (refine And.intro rfl ?_; conv => whnf) | (refine And.intro (fun _ => ?_) (fun h => Bool.noConfusion h); conv => whnf) | (refine And.intro (fun h => Bool.noConfusion h) (fun _ => ?_); conv => whnf))
    repeat' (first | ((refine And.intro (fun h => ?_) (fun h => ?_)) <;> (try simp at h) <;> ((conv => whnf); repeat (first | (refine And.intro (DrawOk.mk (by first | (simp only [List.map_cons, List.map_nil, List.nil_append, List.cons_append, List.append_nil, updsL, List.length_cons, List.length_nil]; decide +kernel) | exact rfl)) ?_; conv => whnf) | (refine And.intro rfl ?_; conv => whnf) | (refine And.intro (fun _ => ?_) (fun h => Bool.noConfusion h); conv => whnf) | (refine And.intro (fun h => Bool.noConfusion h) (fun _ => ?_); conv => whnf)))) | fail)
    all_goals first
      | (exfalso; omega)
      | (refine Exists.intro [] (And.intro List.nodup_nil ?_); ((conv => whnf); repeat (first | (refine And.intro (DrawOk.mk (by first | (simp only [List.map_cons, List.map_nil, List.nil_append, List.cons_append, List.append_nil, updsL, List.length_cons, List.length_nil]; decide +kernel) | exact rfl)) ?_; conv => whnf) | (refine And.intro rfl ?_; conv => whnf) | (refine And.intro (fun _ => ?_) (fun h => Bool.noConfusion h); conv => whnf) | (refine And.intro (fun h => Bool.noConfusion h) (fun _ => ?_); conv => whnf)))
         rfl)
  obtain ⟨k, rfl⟩ : ∃ k : Nat, z = k := ⟨z.toNat, by omega⟩
  have hk : k < zs.length := by omega
  rw [scanZ_at hk]
  have hit := zItem hk
  obtain ⟨hz1, hz2⟩ := hz _ (List.getElem_mem hk)
  generalize zs[k] = x at hit hz1 hz2 ⊢
  obtain ⟨st, du, ss⟩ := x
  dsimp only at hz1 hz2 ⊢
  replace hit : (zR zs)[((k : Int)).toNat]? = some [IV.sc (.int .i64 st), IV.sc (.int .i64 du), IV.sl (sV ss)] := hit
  refine fun_of_vc tabOk mixOk Try.func26 rfl (by rfl) (rs := [.tmp 4]) rfl rfl 67 ?_; rw [Try.ntmps26]
  (conv => whnf); repeat (first | (refine And.intro (DrawOk.mk (by first | (simp only [List.map_cons, List.map_nil, List.nil_append, List.cons_append, List.append_nil, updsL, List.length_cons, List.length_nil]; decide +kernel) | exact rfl)) ?_; conv => whnf) | (refine And.intro rfl ?_; conv => whnf) | (refine And.intro (fun _ => ?_) (fun h => Bool.noConfusion h); conv => whnf) | (refine And.intro (fun h => Bool.noConfusion h) (fun _ => ?_); conv => whnf))
  repeat' (first | ((refine And.intro (fun h => ?_) (fun h => ?_)) <;> (try simp at h) <;> ((conv => whnf); repeat (first | (refine And.intro (DrawOk.mk (by first | (simp only [List.map_cons, List.map_nil, List.nil_append, List.cons_append, List.append_nil, updsL, List.length_cons, List.length_nil]; decide +kernel) | exact rfl)) ?_; conv => whnf) | (refine And.intro rfl ?_; conv => whnf) | (refine And.intro (fun _ => ?_) (fun h => Bool.noConfusion h); conv => whnf) | (refine And.intro (fun h => Bool.noConfusion h) (fun _ => ?_); conv => whnf)))) | (refine ⟨by omega, _, hit, rfl, ?_⟩; ((conv => whnf); repeat (first | (refine And.intro (DrawOk.mk (by first | (simp only [List.map_cons, List.map_nil, List.nil_append, List.cons_append, List.append_nil, updsL, List.length_cons, List.length_nil]; decide +kernel) | exact rfl)) ?_; conv => whnf) | (refine And.intro rfl ?_; conv => whnf) | (refine And.intro (fun _ => ?_) (fun h => Bool.noConfusion h); conv => whnf) | (refine And.intro (fun h => Bool.noConfusion h) (fun _ => ?_); conv => whnf)))) | fail)
  all_goals first
    | (exfalso; omega)
    | skip
  refine vc_loop [1, 4, 24, 25] [] (X := Nat) (fun i gs => [(26, ATint i), (5, .v (.c (.own 60 (gs 60))))]) (fun i gs => [(60, .row (gs 60) 72 7 (fR (scanG k 0 (ss.take i))))]) (fun i => i ≤ ss.length) (fun i => ss.length - i) _ (Ghost.ownNil 5 60 72 7 rfl (Nat.le_of_ble_eq_true rfl)) 0 (Nat.zero_le _) ?_ ?_
  · (refine And.intro rfl (And.intro rfl ?_)); (repeat' (first | exact trivial | exact rfl | apply And.intro | (refine congrArg (Value.int .i64) (w64_nat ?_); omega)))
  rintro gs i hi
  (conv => whnf); repeat (first | (refine And.intro (DrawOk.mk (by first | (simp only [List.map_cons, List.map_nil, List.nil_append, List.cons_append, List.append_nil, updsL, List.length_cons, List.length_nil]; decide +kernel) | exact rfl)) ?_; conv => whnf) | (refine And.intro rfl ?_; conv => whnf) | (refine And.intro (fun _ => ?_) (fun h => Bool.noConfusion h); conv => whnf) | (refine And.intro (fun h => Bool.noConfusion h) (fun _ => ?_); conv => whnf))
  refine And.intro (fun h => ?_) (fun h => ?_)
  · have hlt : i < ss.length := by have := of_decide_eq_true h; rw [sLen] at this; omega
    have hd := rdecF ss[i] (hz2 _ (List.getElem_mem hlt))
    have hst := scanG_take (z := (k : Int)) hlt
    have hlen := scanG_len k (ss.take i) 0
    rw [List.length_take] at hlen
    have gy := goodB_yes (s := ss[i])
    have gn := goodB_no (s := ss[i])
    have hit2 := sItem hlt
    clear hz2 hz hit
    generalize hD : rdec ss[i] = D at hd hst gy gn
    obtain ⟨⟨rk, rb, rv, rm, rp⟩, e⟩ := D
    dsimp only at hd hst gy gn
    (conv => whnf); repeat (first | (refine And.intro (DrawOk.mk (by first | (simp only [List.map_cons, List.map_nil, List.nil_append, List.cons_append, List.append_nil, updsL, List.length_cons, List.length_nil]; decide +kernel) | exact rfl)) ?_; conv => whnf) | (refine And.intro rfl ?_; conv => whnf) | (refine And.intro (fun _ => ?_) (fun h => Bool.noConfusion h); conv => whnf) | (refine And.intro (fun h => Bool.noConfusion h) (fun _ => ?_); conv => whnf))
    refine ⟨by omega, _, hit2, rfl, ?_⟩
    (conv => whnf); repeat (first | (refine And.intro (DrawOk.mk (by first | (simp only [List.map_cons, List.map_nil, List.nil_append, List.cons_append, List.append_nil, updsL, List.length_cons, List.length_nil]; decide +kernel) | exact rfl)) ?_; conv => whnf) | (refine And.intro rfl ?_; conv => whnf) | (refine And.intro (fun _ => ?_) (fun h => Bool.noConfusion h); conv => whnf) | (refine And.intro (fun h => Bool.noConfusion h) (fun _ => ?_); conv => whnf))
    refine ⟨_, _, hd, ?_⟩
    by_cases g : e = 0 ∧ (rk = 1 ∨ rk = 2) ∧ rv ≥ 1
    · rw [if_pos (gy g.1 g.2.1 g.2.2)] at hst
      (conv => whnf); repeat (first | (refine And.intro (DrawOk.mk (by first | (simp only [List.map_cons, List.map_nil, List.nil_append, List.cons_append, List.append_nil, updsL, List.length_cons, List.length_nil]; decide +kernel) | exact rfl)) ?_; conv => whnf) | (refine And.intro rfl ?_; conv => whnf) | (refine And.intro (fun _ => ?_) (fun h => Bool.noConfusion h); conv => whnf) | (refine And.intro (fun h => Bool.noConfusion h) (fun _ => ?_); conv => whnf))
      repeat' (first | ((refine And.intro (fun h => ?_) (fun h => ?_)) <;> (try simp at h) <;> ((conv => whnf); repeat (first | (refine And.intro (DrawOk.mk (by first | (simp only [List.map_cons, List.map_nil, List.nil_append, List.cons_append, List.append_nil, updsL, List.length_cons, List.length_nil]; decide +kernel) | exact rfl)) ?_; conv => whnf) | (refine And.intro rfl ?_; conv => whnf) | (refine And.intro (fun _ => ?_) (fun h => Bool.noConfusion h); conv => whnf) | (refine And.intro (fun h => Bool.noConfusion h) (fun _ => ?_); conv => whnf)))) | fail)
      all_goals first
        | (exfalso; omega)
        | skip
      all_goals
        refine ⟨fSz [⟨k, i, ⟨rk, rb, rv, rm, rp⟩⟩], ?_⟩
        ((conv => whnf); repeat (first | (refine And.intro (DrawOk.mk (by first | (simp only [List.map_cons, List.map_nil, List.nil_append, List.cons_append, List.append_nil, updsL, List.length_cons, List.length_nil]; decide +kernel) | exact rfl)) ?_; conv => whnf) | (refine And.intro rfl ?_; conv => whnf) | (refine And.intro (fun _ => ?_) (fun h => Bool.noConfusion h); conv => whnf) | (refine And.intro (fun h => Bool.noConfusion h) (fun _ => ?_); conv => whnf)))
        refine ⟨bytes_le (by decide) (by rw [fLen]; simp; omega), ?_⟩
        ((conv => whnf); repeat (first | (refine And.intro (DrawOk.mk (by first | (simp only [List.map_cons, List.map_nil, List.nil_append, List.cons_append, List.append_nil, updsL, List.length_cons, List.length_nil]; decide +kernel) | exact rfl)) ?_; conv => whnf) | (refine And.intro rfl ?_; conv => whnf) | (refine And.intro (fun _ => ?_) (fun h => Bool.noConfusion h); conv => whnf) | (refine And.intro (fun h => Bool.noConfusion h) (fun _ => ?_); conv => whnf)))
        refine again (i + 1) hlt (by omega) ?_
        ((refine And.intro rfl (And.intro rfl ?_)); (repeat' (first | exact trivial | exact rfl | apply And.intro | (refine congrArg (Value.int .i64) (w64_nat ?_); omega))))
      all_goals exact congrArg (Blk.row _ _ _) ((fSnoc _ ⟨k, i, ⟨rk, rb, rv, rm, rp⟩⟩).trans (congrArg fR hst.symm))
    · rw [if_neg (by rw [gn g]; decide), List.append_nil] at hst
      (conv => whnf); repeat (first | (refine And.intro (DrawOk.mk (by first | (simp only [List.map_cons, List.map_nil, List.nil_append, List.cons_append, List.append_nil, updsL, List.length_cons, List.length_nil]; decide +kernel) | exact rfl)) ?_; conv => whnf) | (refine And.intro rfl ?_; conv => whnf) | (refine And.intro (fun _ => ?_) (fun h => Bool.noConfusion h); conv => whnf) | (refine And.intro (fun h => Bool.noConfusion h) (fun _ => ?_); conv => whnf))
      repeat' (first | ((refine And.intro (fun h => ?_) (fun h => ?_)) <;> (try simp at h) <;> ((conv => whnf); repeat (first | (refine And.intro (DrawOk.mk (by first | (simp only [List.map_cons, List.map_nil, List.nil_append, List.cons_append, List.append_nil, updsL, List.length_cons, List.length_nil]; decide +kernel) | exact rfl)) ?_; conv => whnf) | (refine And.intro rfl ?_; conv => whnf) | (refine And.intro (fun _ => ?_) (fun h => Bool.noConfusion h); conv => whnf) | (refine And.intro (fun h => Bool.noConfusion h) (fun _ => ?_); conv => whnf)))) | fail)
      all_goals first
        | (exfalso; omega)
        | skip
      all_goals
        refine again (i + 1) hlt (by omega) ?_
        ((refine And.intro rfl (And.intro rfl ?_)); (repeat' (first | exact trivial | exact rfl | apply And.intro | (refine congrArg (Value.int .i64) (w64_nat ?_); omega))))
      all_goals exact congrArg (fun x => Blk.row _ _ _ (fR x)) hst.symm
  · have hge : ¬ i < ss.length := by have := of_decide_eq_false h; rw [sLen] at this; omega
    rw [List.take_of_length_le (Nat.le_of_not_lt hge)]
    (conv => whnf); repeat (first | (refine And.intro (DrawOk.mk (by first | (simp only [List.map_cons, List.map_nil, List.nil_append, List.cons_append, List.append_nil, updsL, List.length_cons, List.length_nil]; decide +kernel) | exact rfl)) ?_; conv => whnf) | (refine And.intro rfl ?_; conv => whnf) | (refine And.intro (fun _ => ?_) (fun h => Bool.noConfusion h); conv => whnf) | (refine And.intro (fun h => Bool.noConfusion h) (fun _ => ?_); conv => whnf))
    refine Exists.intro [] (And.intro List.nodup_nil ?_); ((conv => whnf); repeat (first | (refine And.intro (DrawOk.mk (by first | (simp only [List.map_cons, List.map_nil, List.nil_append, List.cons_append, List.append_nil, updsL, List.length_cons, List.length_nil]; decide +kernel) | exact rfl)) ?_; conv => whnf) | (refine And.intro rfl ?_; conv => whnf) | (refine And.intro (fun _ => ?_) (fun h => Bool.noConfusion h); conv => whnf) | (refine And.intro (fun h => Bool.noConfusion h) (fun _ => ?_); conv => whnf)))
    rfl
end Go.Proofs.Ytkpicojhnnkibaa.Ab
namespace Go.Proofs.Ytkpicojhnnkibaa.Ab
set_option linter.unusedVariables false
set_option linter.unusedSimpArgs false
open Go.RowKit

def blkR (s : ByteArray) : Rec := if isBlk s then (rdec s).1 else r0
set_option maxRecDepth 100000 in
set_option maxHeartbeats 8000000 in
theorem blockF (s : ByteArray) (hs : s.size ≤ 1000000) : Fun Try.prog 62 [strV s] [] (.tup [rV (blkR s), bV (isBlk s)]) := by
  have hd := rdecF' s hs
  unfold blkR isBlk
  generalize rdec s = D at hd ⊢
  obtain ⟨⟨rk, rb, rv, rm, rp⟩, e⟩ := D
  dsimp only at hd ⊢
  by_cases g : e = 0 ∧ (rk = 1 ∨ rk = 2)
  · rw [decide_eq_true g, if_pos rfl]
    refine fun_of_vc tabOk mixOk Try.func62 rfl (by rfl) (rs := [.cell 2 27, .tmp 3]) rfl rfl 29 ?_; rw [Try.ntmps62]
    (conv => whnf); repeat (first | (refine And.intro (DrawOk.mk (by first | (simp only [List.map_cons, List.map_nil, List.nil_append, List.cons_append, List.append_nil, updsL, List.length_cons, List.length_nil]; decide +kernel) | exact rfl)) ?_; conv => whnf) | (refine And.intro rfl ?_; conv => whnf) | (refine And.intro (fun _ => ?_) (fun h => Bool.noConfusion h); conv => whnf) | (refine And.intro (fun h => Bool.noConfusion h) (fun _ => ?_); conv => whnf))
    repeat' (first | ((refine And.intro (fun h => ?_) (fun h => ?_)) <;> (try simp at h) <;> ((conv => whnf); repeat (first | (refine And.intro (DrawOk.mk (by first | (simp only [List.map_cons, List.map_nil, List.nil_append, List.cons_append, List.append_nil, updsL, List.length_cons, List.length_nil]; decide +kernel) | exact rfl)) ?_; conv => whnf) | (refine And.intro rfl ?_; conv => whnf) | (refine And.intro (fun _ => ?_) (fun h => Bool.noConfusion h); conv => whnf) | (refine And.intro (fun h => Bool.noConfusion h) (fun _ => ?_); conv => whnf)))) | (refine ⟨_, _, hd, ?_⟩; ((conv => whnf); repeat (first | (refine And.intro (DrawOk.mk (by first | (simp only [List.map_cons, List.map_nil, List.nil_append, List.cons_append, List.append_nil, updsL, List.length_cons, List.length_nil]; decide +kernel) | exact rfl)) ?_; conv => whnf) | (refine And.intro rfl ?_; conv => whnf) | (refine And.intro (fun _ => ?_) (fun h => Bool.noConfusion h); conv => whnf) | (refine And.intro (fun h => Bool.noConfusion h) (fun _ => ?_); conv => whnf)))) | fail)
    all_goals first
      | (exfalso; omega)
      | (refine Exists.intro [] (And.intro List.nodup_nil ?_); ((conv => whnf); repeat (first | (refine And.intro (DrawOk.mk (by first | (simp only [List.map_cons, List.map_nil, List.nil_append, List.cons_append, List.append_nil, updsL, List.length_cons, List.length_nil]; decide +kernel) | exact rfl)) ?_; conv => whnf) | (refine And.intro rfl ?_; conv => whnf) | (refine And.intro (fun _ => ?_) (fun h => Bool.noConfusion h); conv => whnf) | (refine And.intro (fun h => Bool.noConfusion h) (fun _ => ?_); conv => whnf)))
         rfl)
  · rw [decide_eq_false g, if_neg (by decide)]
    refine fun_of_vc tabOk mixOk Try.func62 rfl (by rfl) (rs := [.cell 2 27, .tmp 3]) rfl rfl 29 ?_; rw [Try.ntmps62]
    (conv => whnf); repeat (first | (refine And.intro (DrawOk.mk (by first | (simp only [List.map_cons, List.map_nil, List.nil_append, List.cons_append, List.append_nil, updsL, List.length_cons, List.length_nil]; decide +kernel) | exact rfl)) ?_; conv => whnf) | (refine And.intro rfl ?_; conv => whnf) | (refine And.intro (fun _ => ?_) (fun h => Bool.noConfusion h); conv => whnf) | (refine And.intro (fun h => Bool.noConfusion h) (fun _ => ?_); conv => whnf))
    repeat' (first | ((refine And.intro (fun h => ?_) (fun h => ?_)) <;> (try simp at h) <;> ((conv => whnf); repeat (first | (refine And.intro (DrawOk.mk (by first | (simp only [List.map_cons, List.map_nil, List.nil_append, List.cons_append, List.append_nil, updsL, List.length_cons, List.length_nil]; decide +kernel) | exact rfl)) ?_; conv => whnf) | (refine And.intro rfl ?_; conv => whnf) | (refine And.intro (fun _ => ?_) (fun h => Bool.noConfusion h); conv => whnf) | (refine And.intro (fun h => Bool.noConfusion h) (fun _ => ?_); conv => whnf)))) | (refine ⟨_, _, hd, ?_⟩; ((conv => whnf); repeat (first | (refine And.intro (DrawOk.mk (by first | (simp only [List.map_cons, List.map_nil, List.nil_append, List.cons_append, List.append_nil, updsL, List.length_cons, List.length_nil]; decide +kernel) | exact rfl)) ?_; conv => whnf) | (refine And.intro rfl ?_; conv => whnf) | (refine And.intro (fun _ => ?_) (fun h => Bool.noConfusion h); conv => whnf) | (refine And.intro (fun h => Bool.noConfusion h) (fun _ => ?_); conv => whnf)))) | fail)
    all_goals first
      | (exfalso; omega)
      | (refine Exists.intro [] (And.intro List.nodup_nil ?_); ((conv => whnf); repeat (first | (refine And.intro (DrawOk.mk (by first | (simp only [List.map_cons, List.map_nil, List.nil_append, List.cons_append, List.append_nil, updsL, List.length_cons, List.length_nil]; decide +kernel) | exact rfl)) ?_; conv => whnf) | (refine And.intro rfl ?_; conv => whnf) | (refine And.intro (fun _ => ?_) (fun h => Bool.noConfusion h); conv => whnf) | (refine And.intro (fun h => Bool.noConfusion h) (fun _ => ?_); conv => whnf)))
         rfl)
theorem goodB_blk (s : ByteArray) : goodB s = true ↔ isBlk s = true ∧ (rdec s).1.v ≥ 1 := by
  unfold goodB isBlk
  rw [decide_eq_true_iff, decide_eq_true_iff]
  exact ⟨fun h => ⟨⟨h.1, h.2.1⟩, h.2.2⟩, fun h => ⟨h.1.1, h.1.2, h.2⟩⟩
set_option maxRecDepth 100000 in
set_option maxHeartbeats 16000000 in
theorem scanZF' (s mo ma : Int) (zs : List Zn) (z : Int) (hl : zs.length ≤ 1000000) (hz : ∀ x ∈ zs, x.ss.length ≤ 1000000 ∧ ∀ y ∈ x.ss, y.size ≤ 1000000) :
    Fun Try.prog 27 [dvA s mo ma zs, i64V z] [] (.v (slV (fR (scanZ zs z)))) := by
  have hzl := zLen zs
  by_cases hb : z < 0 ∨ z ≥ zs.length
  · rw [scanZ_no hb]
    refine fun_of_vc tabOk mixOk Try.func27 rfl (by rfl) (rs := [.tmp 4]) rfl rfl 58 ?_; rw [Try.ntmps27]
    (conv => whnf); repeat (first | (refine And.intro (DrawOk.mk (by first | (simp only [List.map_cons, List.map_nil, List.nil_append, List.cons_append, List.append_nil, updsL, List.length_cons, List.length_nil]; decide +kernel) | exact rfl)) ?_; conv => whnf) | (refine And.intro rfl ?_; conv => whnf) | (refine And.intro (fun _ => ?_) (fun h => Bool.noConfusion h); conv => whnf) | (refine And.intro (fun h => Bool.noConfusion h) (fun _ => ?_); conv => whnf))
    repeat' (first | ((refine And.intro (fun h => ?_) (fun h => ?_)) <;> (try simp at h) <;> ((conv => whnf); repeat (first | (refine And.intro (DrawOk.mk (by first | (simp only [List.map_cons, List.map_nil, List.nil_append, List.cons_append, List.append_nil, updsL, List.length_cons, List.length_nil]; decide +kernel) | exact rfl)) ?_; conv => whnf) | (refine And.intro rfl ?_; conv => whnf) | (refine And.intro (fun _ => ?_) (fun h => Bool.noConfusion h); conv => whnf) | (refine And.intro (fun h => Bool.noConfusion h) (fun _ => ?_); conv => whnf)))) | fail)
    all_goals first
      | (exfalso; omega)
      | (refine Exists.intro [] (And.intro List.nodup_nil ?_); ((conv => whnf); repeat (first | (refine And.intro (DrawOk.mk (by first | (simp only [List.map_cons, List.map_nil, List.nil_append, List.cons_append, List.append_nil, updsL, List.length_cons, List.length_nil]; decide +kernel) | exact rfl)) ?_; conv => whnf) | (refine And.intro rfl ?_; conv => whnf) | (refine And.intro (fun _ => ?_) (fun h => Bool.noConfusion h); conv => whnf) | (refine And.intro (fun h => Bool.noConfusion h) (fun _ => ?_); conv => whnf)))
         rfl)
  obtain ⟨k, rfl⟩ : ∃ k : Nat, z = k := ⟨z.toNat, by omega⟩
  have hk : k < zs.length := by omega
  rw [scanZ_at hk]
  have hit := zItem hk
  obtain ⟨hz1, hz2⟩ := hz _ (List.getElem_mem hk)
  generalize zs[k] = x at hit hz1 hz2 ⊢
  obtain ⟨st, du, ss⟩ := x
  dsimp only at hz1 hz2 ⊢
  replace hit : (zR zs)[((k : Int)).toNat]? = some [IV.sc (.int .i64 st), IV.sc (.int .i64 du), IV.sl (sV ss)] := hit
  refine fun_of_vc tabOk mixOk Try.func27 rfl (by rfl) (rs := [.tmp 4]) rfl rfl 58 ?_; rw [Try.ntmps27]
  (conv => whnf); repeat (first | (refine And.intro (DrawOk.mk (by first | (simp only [List.map_cons, List.map_nil, List.nil_append, List.cons_append, List.append_nil, updsL, List.length_cons, List.length_nil]; decide +kernel) | exact rfl)) ?_; conv => whnf) | (refine And.intro rfl ?_; conv => whnf) | (refine And.intro (fun _ => ?_) (fun h => Bool.noConfusion h); conv => whnf) | (refine And.intro (fun h => Bool.noConfusion h) (fun _ => ?_); conv => whnf))
  repeat' (first | ((refine And.intro (fun h => ?_) (fun h => ?_)) <;> (try simp at h) <;> ((conv => whnf); repeat (first | (refine And.intro (DrawOk.mk (by first | (simp only [List.map_cons, List.map_nil, List.nil_append, List.cons_append, List.append_nil, updsL, List.length_cons, List.length_nil]; decide +kernel) | exact rfl)) ?_; conv => whnf) | (refine And.intro rfl ?_; conv => whnf) | (refine And.intro (fun _ => ?_) (fun h => Bool.noConfusion h); conv => whnf) | (refine And.intro (fun h => Bool.noConfusion h) (fun _ => ?_); conv => whnf)))) | (refine ⟨by omega, _, hit, rfl, ?_⟩; ((conv => whnf); repeat (first | (refine And.intro (DrawOk.mk (by first | (simp only [List.map_cons, List.map_nil, List.nil_append, List.cons_append, List.append_nil, updsL, List.length_cons, List.length_nil]; decide +kernel) | exact rfl)) ?_; conv => whnf) | (refine And.intro rfl ?_; conv => whnf) | (refine And.intro (fun _ => ?_) (fun h => Bool.noConfusion h); conv => whnf) | (refine And.intro (fun h => Bool.noConfusion h) (fun _ => ?_); conv => whnf)))) | fail)
  all_goals first
    | (exfalso; omega)
    | skip
  refine vc_loop [1, 4, 6] [] (X := Nat) (fun i gs => [(7, ATint i), (5, .v (.c (.own 52 (gs 52))))]) (fun i gs => [(52, .row (gs 52) 72 7 (fR (scanG k 0 (ss.take i))))]) (fun i => i ≤ ss.length) (fun i => ss.length - i) _ (Ghost.ownNil 5 52 72 7 rfl (Nat.le_of_ble_eq_true rfl)) 0 (Nat.zero_le _) ?_ ?_
  · (refine And.intro rfl (And.intro rfl ?_)); (repeat' (first | exact trivial | exact rfl | apply And.intro | (refine congrArg (Value.int .i64) (w64_nat ?_); omega)))
  rintro gs i hi
  (conv => whnf); repeat (first | (refine And.intro (DrawOk.mk (by first | (simp only [List.map_cons, List.map_nil, List.nil_append, List.cons_append, List.append_nil, updsL, List.length_cons, List.length_nil]; decide +kernel) | exact rfl)) ?_; conv => whnf) | (refine And.intro rfl ?_; conv => whnf) | (refine And.intro (fun _ => ?_) (fun h => Bool.noConfusion h); conv => whnf) | (refine And.intro (fun h => Bool.noConfusion h) (fun _ => ?_); conv => whnf))
  refine And.intro (fun h => ?_) (fun h => ?_)
  · have hlt : i < ss.length := by have := of_decide_eq_true h; rw [sLen] at this; omega
    have hd := blockF ss[i] (hz2 _ (List.getElem_mem hlt))
    have hst := scanG_take (z := (k : Int)) hlt
    have hlen := scanG_len k (ss.take i) 0
    rw [List.length_take] at hlen
    have gb := goodB_blk ss[i]
    have hit2 := sItem hlt
    have hbr : isBlk ss[i] = true → blkR ss[i] = (rdec ss[i]).1 := fun h => by unfold blkR; rw [if_pos h]
    clear hz2 hz hit
    generalize hG : goodB ss[i] = G at hst gb
    generalize hI : isBlk ss[i] = I at hd gb hbr
    generalize hD : (rdec ss[i]).1 = D at hst gb hbr
    generalize blkR ss[i] = D2 at hd hbr
    (conv => whnf); repeat (first | (refine And.intro (DrawOk.mk (by first | (simp only [List.map_cons, List.map_nil, List.nil_append, List.cons_append, List.append_nil, updsL, List.length_cons, List.length_nil]; decide +kernel) | exact rfl)) ?_; conv => whnf) | (refine And.intro rfl ?_; conv => whnf) | (refine And.intro (fun _ => ?_) (fun h => Bool.noConfusion h); conv => whnf) | (refine And.intro (fun h => Bool.noConfusion h) (fun _ => ?_); conv => whnf))
    refine ⟨by omega, _, hit2, rfl, ?_⟩
    (conv => whnf); repeat (first | (refine And.intro (DrawOk.mk (by first | (simp only [List.map_cons, List.map_nil, List.nil_append, List.cons_append, List.append_nil, updsL, List.length_cons, List.length_nil]; decide +kernel) | exact rfl)) ?_; conv => whnf) | (refine And.intro rfl ?_; conv => whnf) | (refine And.intro (fun _ => ?_) (fun h => Bool.noConfusion h); conv => whnf) | (refine And.intro (fun h => Bool.noConfusion h) (fun _ => ?_); conv => whnf))
    refine ⟨_, _, hd, ?_⟩
    cases I with
    | false =>
      have hg : G = false := by cases G with | false => rfl | true => exact absurd (gb.1 rfl).1 (by decide)
      subst hg
      rw [if_neg (by decide), List.append_nil] at hst
      (conv => whnf); repeat (first | (refine And.intro (DrawOk.mk (by first | (simp only [List.map_cons, List.map_nil, List.nil_append, List.cons_append, List.append_nil, updsL, List.length_cons, List.length_nil]; decide +kernel) | exact rfl)) ?_; conv => whnf) | (refine And.intro rfl ?_; conv => whnf) | (refine And.intro (fun _ => ?_) (fun h => Bool.noConfusion h); conv => whnf) | (refine And.intro (fun h => Bool.noConfusion h) (fun _ => ?_); conv => whnf))
      refine again (i + 1) hlt (by omega) ?_
      (refine And.intro rfl (And.intro rfl ?_)); (repeat' (first | exact trivial | exact rfl | apply And.intro | (refine congrArg (Value.int .i64) (w64_nat ?_); omega)))
      all_goals exact congrArg (fun x => Blk.row _ _ _ (fR x)) hst.symm
    | true =>
      obtain rfl : D2 = D := hbr rfl
      obtain ⟨rk, rb, rv, rm, rp⟩ := D2
      dsimp only at gb
      by_cases hv : rv ≥ 1
      · have hg : G = true := gb.2 ⟨rfl, hv⟩
        subst hg
        rw [if_pos rfl] at hst
        (conv => whnf); repeat (first | (refine And.intro (DrawOk.mk (by first | (simp only [List.map_cons, List.map_nil, List.nil_append, List.cons_append, List.append_nil, updsL, List.length_cons, List.length_nil]; decide +kernel) | exact rfl)) ?_; conv => whnf) | (refine And.intro rfl ?_; conv => whnf) | (refine And.intro (fun _ => ?_) (fun h => Bool.noConfusion h); conv => whnf) | (refine And.intro (fun h => Bool.noConfusion h) (fun _ => ?_); conv => whnf))
        repeat' (first | ((refine And.intro (fun h => ?_) (fun h => ?_)) <;> (try simp at h) <;> ((conv => whnf); repeat (first | (refine And.intro (DrawOk.mk (by first | (simp only [List.map_cons, List.map_nil, List.nil_append, List.cons_append, List.append_nil, updsL, List.length_cons, List.length_nil]; decide +kernel) | exact rfl)) ?_; conv => whnf) | (refine And.intro rfl ?_; conv => whnf) | (refine And.intro (fun _ => ?_) (fun h => Bool.noConfusion h); conv => whnf) | (refine And.intro (fun h => Bool.noConfusion h) (fun _ => ?_); conv => whnf)))) | fail)
        all_goals first
          | (exfalso; omega)
          | skip
        all_goals
          refine ⟨fSz [⟨k, i, ⟨rk, rb, rv, rm, rp⟩⟩], ?_⟩
          ((conv => whnf); repeat (first | (refine And.intro (DrawOk.mk (by first | (simp only [List.map_cons, List.map_nil, List.nil_append, List.cons_append, List.append_nil, updsL, List.length_cons, List.length_nil]; decide +kernel) | exact rfl)) ?_; conv => whnf) | (refine And.intro rfl ?_; conv => whnf) | (refine And.intro (fun _ => ?_) (fun h => Bool.noConfusion h); conv => whnf) | (refine And.intro (fun h => Bool.noConfusion h) (fun _ => ?_); conv => whnf)))
          refine ⟨bytes_le (by decide) (by rw [fLen]; simp; omega), ?_⟩
          ((conv => whnf); repeat (first | (refine And.intro (DrawOk.mk (by first | (simp only [List.map_cons, List.map_nil, List.nil_append, List.cons_append, List.append_nil, updsL, List.length_cons, List.length_nil]; decide +kernel) | exact rfl)) ?_; conv => whnf) | (refine And.intro rfl ?_; conv => whnf) | (refine And.intro (fun _ => ?_) (fun h => Bool.noConfusion h); conv => whnf) | (refine And.intro (fun h => Bool.noConfusion h) (fun _ => ?_); conv => whnf)))
          refine again (i + 1) hlt (by omega) ?_
          ((refine And.intro rfl (And.intro rfl ?_)); (repeat' (first | exact trivial | exact rfl | apply And.intro | (refine congrArg (Value.int .i64) (w64_nat ?_); omega))))
        all_goals exact congrArg (Blk.row _ _ _) ((fSnoc _ ⟨k, i, ⟨rk, rb, rv, rm, rp⟩⟩).trans (congrArg fR hst.symm))
      · have hg : G = false := by cases G with | false => rfl | true => exact absurd (gb.1 rfl).2 hv
        subst hg
        rw [if_neg (by decide), List.append_nil] at hst
        (conv => whnf); repeat (first | (refine And.intro (DrawOk.mk (by first | (simp only [List.map_cons, List.map_nil, List.nil_append, List.cons_append, List.append_nil, updsL, List.length_cons, List.length_nil]; decide +kernel) | exact rfl)) ?_; conv => whnf) | (refine And.intro rfl ?_; conv => whnf) | (refine And.intro (fun _ => ?_) (fun h => Bool.noConfusion h); conv => whnf) | (refine And.intro (fun h => Bool.noConfusion h) (fun _ => ?_); conv => whnf))
        repeat' (first | ((refine And.intro (fun h => ?_) (fun h => ?_)) <;> (try simp at h) <;> ((conv => whnf); repeat (first | (refine And.intro (DrawOk.mk (by first | (simp only [List.map_cons, List.map_nil, List.nil_append, List.cons_append, List.append_nil, updsL, List.length_cons, List.length_nil]; decide +kernel) | exact rfl)) ?_; conv => whnf) | (refine And.intro rfl ?_; conv => whnf) | (refine And.intro (fun _ => ?_) (fun h => Bool.noConfusion h); conv => whnf) | (refine And.intro (fun h => Bool.noConfusion h) (fun _ => ?_); conv => whnf)))) | fail)
        all_goals first
          | (exfalso; omega)
          | skip
        all_goals
          refine again (i + 1) hlt (by omega) ?_
          ((refine And.intro rfl (And.intro rfl ?_)); (repeat' (first | exact trivial | exact rfl | apply And.intro | (refine congrArg (Value.int .i64) (w64_nat ?_); omega))))
        all_goals exact congrArg (fun x => Blk.row _ _ _ (fR x)) hst.symm
  · have hge : ¬ i < ss.length := by have := of_decide_eq_false h; rw [sLen] at this; omega
    rw [List.take_of_length_le (Nat.le_of_not_lt hge)]
    (conv => whnf); repeat (first | (refine And.intro (DrawOk.mk (by first | (simp only [List.map_cons, List.map_nil, List.nil_append, List.cons_append, List.append_nil, updsL, List.length_cons, List.length_nil]; decide +kernel) | exact rfl)) ?_; conv => whnf) | (refine And.intro rfl ?_; conv => whnf) | (refine And.intro (fun _ => ?_) (fun h => Bool.noConfusion h); conv => whnf) | (refine And.intro (fun h => Bool.noConfusion h) (fun _ => ?_); conv => whnf))
    refine Exists.intro [] (And.intro List.nodup_nil ?_); ((conv => whnf); repeat (first | (refine And.intro (DrawOk.mk (by first | (simp only [List.map_cons, List.map_nil, List.nil_append, List.cons_append, List.append_nil, updsL, List.length_cons, List.length_nil]; decide +kernel) | exact rfl)) ?_; conv => whnf) | (refine And.intro rfl ?_; conv => whnf) | (refine And.intro (fun _ => ?_) (fun h => Bool.noConfusion h); conv => whnf) | (refine And.intro (fun h => Bool.noConfusion h) (fun _ => ?_); conv => whnf)))
    rfl
/-- The records of the first zones. -/
def scanA (c : Cf) (zs : List Zn) (n : Nat) : List Fnd := ((List.range n).map fun (i : Nat) => if isData c (i : Int) then scanZ zs (i : Int) else []).flatten
theorem scanA_succ (c : Cf) (zs : List Zn) (n : Nat) : scanA c zs (n + 1) = scanA c zs n ++ (if isData c (n : Int) then scanZ zs (n : Int) else []) := by simp [scanA, List.range_succ]
theorem scanZ_len {zs : List Zn} {z : Int} {M : Nat} (hz : ∀ x ∈ zs, x.ss.length ≤ M) : (scanZ zs z).length ≤ M := by
  unfold scanZ
  split
  · simp
  · split
    · simp
    · rename_i x hx
      exact Nat.le_trans (scanG_len z x.ss 0) (hz x (List.mem_of_getElem? hx))
theorem scanA_len {c : Cf} {zs : List Zn} {M : Nat} (hz : ∀ x ∈ zs, x.ss.length ≤ M) (n : Nat) : (scanA c zs n).length ≤ n * M := by
  induction n with
  | zero => simp [scanA]
  | succ n ih =>
    rw [scanA_succ, List.length_append, Nat.succ_mul]
    have := scanZ_len (z := (n : Int)) hz
    split
    · omega
    · simp; omega
set_option maxRecDepth 100000 in
set_option maxHeartbeats 16000000 in
theorem scanAF (c : Cf) (s mo ma : Int) (zs : List Zn) (hl : zs.length ≤ 1000) (hz : ∀ x ∈ zs, x.ss.length ≤ 1000 ∧ ∀ y ∈ x.ss, y.size ≤ 1000000) :
    Fun Try.prog 24 [cfV c, dvA s mo ma zs] [] (.v (slV (fR (scanA c zs zs.length)))) := by
  have hzl := zLen zs
  have hdat := isDataF c
  have hzn := fun (i : Nat) => scanZF s mo ma zs (i : Int) (by omega) (fun x hx => ⟨by have := (hz x hx).1; omega, (hz x hx).2⟩)
  have hln := fun (i : Nat) => scanA_len (c := c) (fun x hx => (hz x hx).1) i
  have hzz := fun (i : Nat) => scanZ_len (z := (i : Int)) (fun x hx => (hz x hx).1)
  have hs := scanA_succ c zs
  generalize isData c = dat at hdat hs
  generalize hf : scanA c zs = A at hs hln ⊢
  have h0 : A 0 = [] := by rw [← hf]; rfl
  clear hf hz
  obtain ⟨cz, cs, cb, cq, cd, ch⟩ := c
  refine fun_of_vc tabOk mixOk Try.func24 rfl (by rfl) (rs := [.tmp 4]) rfl rfl 27 ?_; rw [Try.ntmps24]
  (conv => whnf); repeat (first | (refine And.intro (DrawOk.mk (by first | (simp only [List.map_cons, List.map_nil, List.nil_append, List.cons_append, List.append_nil, updsL, List.length_cons, List.length_nil]; decide +kernel) | exact rfl)) ?_; conv => whnf) | (refine And.intro rfl ?_; conv => whnf) | (refine And.intro (fun _ => ?_) (fun h => Bool.noConfusion h); conv => whnf) | (refine And.intro (fun h => Bool.noConfusion h) (fun _ => ?_); conv => whnf))
  refine vc_loop [2, 3, 4, 9] [2, 3] (X := Nat) (fun i gs => [(10, ATint i), (5, .v (.c (.own 20 (gs 20))))]) (fun i gs => [(20, .row (gs 20) 72 7 (fR (A i)))]) (fun i => i ≤ zs.length) (fun i => zs.length - i) _ (Ghost.ownNil 5 20 72 7 rfl (Nat.le_of_ble_eq_true rfl)) 0 (Nat.zero_le _) ?_ ?_
  · (refine And.intro rfl (And.intro rfl ?_)); (repeat' (first | exact trivial | exact rfl | apply And.intro | (refine congrArg (Value.int .i64) (w64_nat ?_); omega)))
    all_goals first
      | exact congrArg (fun x => Blk.row _ _ _ (fR x)) h0.symm
      | exact congrArg (fun x => Blk.row _ _ _ (fR x)) h0
  rintro gs i hi
  (conv => whnf); repeat (first | (refine And.intro (DrawOk.mk (by first | (simp only [List.map_cons, List.map_nil, List.nil_append, List.cons_append, List.append_nil, updsL, List.length_cons, List.length_nil]; decide +kernel) | exact rfl)) ?_; conv => whnf) | (refine And.intro rfl ?_; conv => whnf) | (refine And.intro (fun _ => ?_) (fun h => Bool.noConfusion h); conv => whnf) | (refine And.intro (fun h => Bool.noConfusion h) (fun _ => ?_); conv => whnf))
  refine And.intro (fun h => ?_) (fun h => ?_)
  · have hlt : i < zs.length := by have := of_decide_eq_true h; omega
    have hi1 := hs i
    have hi2 := hln i
    have hi3 := hdat (i : Int)
    have hi4 := hzn i
    have hi5 := hzz i
    have hi6 : i * 1000 ≤ 1000000 := Nat.le_trans (Nat.mul_le_mul_right 1000 (show i ≤ 1000 by omega)) (by decide)
    clear hs hln hdat hzn hzz
    (conv => whnf); repeat (first | (refine And.intro (DrawOk.mk (by first | (simp only [List.map_cons, List.map_nil, List.nil_append, List.cons_append, List.append_nil, updsL, List.length_cons, List.length_nil]; decide +kernel) | exact rfl)) ?_; conv => whnf) | (refine And.intro rfl ?_; conv => whnf) | (refine And.intro (fun _ => ?_) (fun h => Bool.noConfusion h); conv => whnf) | (refine And.intro (fun h => Bool.noConfusion h) (fun _ => ?_); conv => whnf))
    refine ⟨_, _, hi3, ?_⟩
    cases hd : dat (i : Int) with
    | true =>
      rw [hd, if_pos rfl] at hi1
      (conv => whnf); repeat (first | (refine And.intro (DrawOk.mk (by first | (simp only [List.map_cons, List.map_nil, List.nil_append, List.cons_append, List.append_nil, updsL, List.length_cons, List.length_nil]; decide +kernel) | exact rfl)) ?_; conv => whnf) | (refine And.intro rfl ?_; conv => whnf) | (refine And.intro (fun _ => ?_) (fun h => Bool.noConfusion h); conv => whnf) | (refine And.intro (fun h => Bool.noConfusion h) (fun _ => ?_); conv => whnf))
      refine ⟨_, _, hi4, ?_⟩
      (conv => whnf); repeat (first | (refine And.intro (DrawOk.mk (by first | (simp only [List.map_cons, List.map_nil, List.nil_append, List.cons_append, List.append_nil, updsL, List.length_cons, List.length_nil]; decide +kernel) | exact rfl)) ?_; conv => whnf) | (refine And.intro rfl ?_; conv => whnf) | (refine And.intro (fun _ => ?_) (fun h => Bool.noConfusion h); conv => whnf) | (refine And.intro (fun h => Bool.noConfusion h) (fun _ => ?_); conv => whnf))
      refine ⟨fSz _, ?_⟩
      (conv => whnf); repeat (first | (refine And.intro (DrawOk.mk (by first | (simp only [List.map_cons, List.map_nil, List.nil_append, List.cons_append, List.append_nil, updsL, List.length_cons, List.length_nil]; decide +kernel) | exact rfl)) ?_; conv => whnf) | (refine And.intro rfl ?_; conv => whnf) | (refine And.intro (fun _ => ?_) (fun h => Bool.noConfusion h); conv => whnf) | (refine And.intro (fun h => Bool.noConfusion h) (fun _ => ?_); conv => whnf))
      refine ⟨bytes_le (by decide) (by rw [fLen, fLen]; omega), ?_⟩
      (conv => whnf); repeat (first | (refine And.intro (DrawOk.mk (by first | (simp only [List.map_cons, List.map_nil, List.nil_append, List.cons_append, List.append_nil, updsL, List.length_cons, List.length_nil]; decide +kernel) | exact rfl)) ?_; conv => whnf) | (refine And.intro rfl ?_; conv => whnf) | (refine And.intro (fun _ => ?_) (fun h => Bool.noConfusion h); conv => whnf) | (refine And.intro (fun h => Bool.noConfusion h) (fun _ => ?_); conv => whnf))
      refine again (i + 1) hlt (by omega) ?_
      (refine And.intro rfl (And.intro rfl ?_)); (repeat' (first | exact trivial | exact rfl | apply And.intro | (refine congrArg (Value.int .i64) (w64_nat ?_); omega)))
      all_goals exact congrArg (Blk.row _ _ _) ((fApp _ _).trans (congrArg fR hi1.symm))
    | false =>
      rw [hd, if_neg (by decide), List.append_nil] at hi1
      (conv => whnf); repeat (first | (refine And.intro (DrawOk.mk (by first | (simp only [List.map_cons, List.map_nil, List.nil_append, List.cons_append, List.append_nil, updsL, List.length_cons, List.length_nil]; decide +kernel) | exact rfl)) ?_; conv => whnf) | (refine And.intro rfl ?_; conv => whnf) | (refine And.intro (fun _ => ?_) (fun h => Bool.noConfusion h); conv => whnf) | (refine And.intro (fun h => Bool.noConfusion h) (fun _ => ?_); conv => whnf))
      refine again (i + 1) hlt (by omega) ?_
      (refine And.intro rfl (And.intro rfl ?_)); (repeat' (first | exact trivial | exact rfl | apply And.intro | (refine congrArg (Value.int .i64) (w64_nat ?_); omega)))
      all_goals exact congrArg (fun x => Blk.row _ _ _ (fR x)) hi1.symm
  · obtain rfl : i = zs.length := by have := of_decide_eq_false h; omega
    (conv => whnf); repeat (first | (refine And.intro (DrawOk.mk (by first | (simp only [List.map_cons, List.map_nil, List.nil_append, List.cons_append, List.append_nil, updsL, List.length_cons, List.length_nil]; decide +kernel) | exact rfl)) ?_; conv => whnf) | (refine And.intro rfl ?_; conv => whnf) | (refine And.intro (fun _ => ?_) (fun h => Bool.noConfusion h); conv => whnf) | (refine And.intro (fun h => Bool.noConfusion h) (fun _ => ?_); conv => whnf))
    refine Exists.intro [] (And.intro List.nodup_nil ?_); ((conv => whnf); repeat (first | (refine And.intro (DrawOk.mk (by first | (simp only [List.map_cons, List.map_nil, List.nil_append, List.cons_append, List.append_nil, updsL, List.length_cons, List.length_nil]; decide +kernel) | exact rfl)) ?_; conv => whnf) | (refine And.intro rfl ?_; conv => whnf) | (refine And.intro (fun _ => ?_) (fun h => Bool.noConfusion h); conv => whnf) | (refine And.intro (fun h => Bool.noConfusion h) (fun _ => ?_); conv => whnf)))
    rfl
set_option maxRecDepth 100000 in
set_option maxHeartbeats 16000000 in
theorem scanAF' (c : Cf) (s mo ma : Int) (zs : List Zn) (hl : zs.length ≤ 1000) (hz : ∀ x ∈ zs, x.ss.length ≤ 1000 ∧ ∀ y ∈ x.ss, y.size ≤ 1000000) :
    Fun Try.prog 28 [cfV c, dvA s mo ma zs] [] (.v (slV (fR (scanA c zs zs.length)))) := by
  have hzl := zLen zs
  have hdat := isDataF' c
  have hzn := fun (i : Nat) => scanZF' s mo ma zs (i : Int) (by omega) (fun x hx => ⟨by have := (hz x hx).1; omega, (hz x hx).2⟩)
  have hln := fun (i : Nat) => scanA_len (c := c) (fun x hx => (hz x hx).1) i
  have hzz := fun (i : Nat) => scanZ_len (z := (i : Int)) (fun x hx => (hz x hx).1)
  have hs := scanA_succ c zs
  generalize isData c = dat at hdat hs
  generalize hf : scanA c zs = A at hs hln ⊢
  have h0 : A 0 = [] := by rw [← hf]; rfl
  clear hf hz
  obtain ⟨cz, cs, cb, cq, cd, ch⟩ := c
  refine fun_of_vc tabOk mixOk Try.func28 rfl (by rfl) (rs := [.tmp 4]) rfl rfl 27 ?_; rw [Try.ntmps28]
  (conv => whnf); repeat (first | (refine And.intro (DrawOk.mk (by first | (simp only [List.map_cons, List.map_nil, List.nil_append, List.cons_append, List.append_nil, updsL, List.length_cons, List.length_nil]; decide +kernel) | exact rfl)) ?_; conv => whnf) | (refine And.intro rfl ?_; conv => whnf) | (refine And.intro (fun _ => ?_) (fun h => Bool.noConfusion h); conv => whnf) | (refine And.intro (fun h => Bool.noConfusion h) (fun _ => ?_); conv => whnf))
  refine vc_loop [2, 3, 4] [2, 3] (X := Nat) (fun i gs => [(6, ATint i), (5, .v (.c (.own 21 (gs 21))))]) (fun i gs => [(21, .row (gs 21) 72 7 (fR (A i)))]) (fun i => i ≤ zs.length) (fun i => zs.length - i) _ (Ghost.ownNil 5 21 72 7 rfl (Nat.le_of_ble_eq_true rfl)) 0 (Nat.zero_le _) ?_ ?_
  · (refine And.intro rfl (And.intro rfl ?_)); (repeat' (first | exact trivial | exact rfl | apply And.intro | (refine congrArg (Value.int .i64) (w64_nat ?_); omega)))
    all_goals first
      | exact congrArg (fun x => Blk.row _ _ _ (fR x)) h0.symm
      | exact congrArg (fun x => Blk.row _ _ _ (fR x)) h0
  rintro gs i hi
  (conv => whnf); repeat (first | (refine And.intro (DrawOk.mk (by first | (simp only [List.map_cons, List.map_nil, List.nil_append, List.cons_append, List.append_nil, updsL, List.length_cons, List.length_nil]; decide +kernel) | exact rfl)) ?_; conv => whnf) | (refine And.intro rfl ?_; conv => whnf) | (refine And.intro (fun _ => ?_) (fun h => Bool.noConfusion h); conv => whnf) | (refine And.intro (fun h => Bool.noConfusion h) (fun _ => ?_); conv => whnf))
  refine And.intro (fun h => ?_) (fun h => ?_)
  · have hlt : i < zs.length := by have := of_decide_eq_true h; omega
    have hi1 := hs i
    have hi2 := hln i
    have hi3 := hdat (i : Int)
    have hi4 := hzn i
    have hi5 := hzz i
    have hi6 : i * 1000 ≤ 1000000 := Nat.le_trans (Nat.mul_le_mul_right 1000 (show i ≤ 1000 by omega)) (by decide)
    clear hs hln hdat hzn hzz
    (conv => whnf); repeat (first | (refine And.intro (DrawOk.mk (by first | (simp only [List.map_cons, List.map_nil, List.nil_append, List.cons_append, List.append_nil, updsL, List.length_cons, List.length_nil]; decide +kernel) | exact rfl)) ?_; conv => whnf) | (refine And.intro rfl ?_; conv => whnf) | (refine And.intro (fun _ => ?_) (fun h => Bool.noConfusion h); conv => whnf) | (refine And.intro (fun h => Bool.noConfusion h) (fun _ => ?_); conv => whnf))
    refine ⟨_, _, hi3, ?_⟩
    cases hd : dat (i : Int) with
    | true =>
      rw [hd, if_pos rfl] at hi1
      (conv => whnf); repeat (first | (refine And.intro (DrawOk.mk (by first | (simp only [List.map_cons, List.map_nil, List.nil_append, List.cons_append, List.append_nil, updsL, List.length_cons, List.length_nil]; decide +kernel) | exact rfl)) ?_; conv => whnf) | (refine And.intro rfl ?_; conv => whnf) | (refine And.intro (fun _ => ?_) (fun h => Bool.noConfusion h); conv => whnf) | (refine And.intro (fun h => Bool.noConfusion h) (fun _ => ?_); conv => whnf))
      refine ⟨_, _, hi4, ?_⟩
      (conv => whnf); repeat (first | (refine And.intro (DrawOk.mk (by first | (simp only [List.map_cons, List.map_nil, List.nil_append, List.cons_append, List.append_nil, updsL, List.length_cons, List.length_nil]; decide +kernel) | exact rfl)) ?_; conv => whnf) | (refine And.intro rfl ?_; conv => whnf) | (refine And.intro (fun _ => ?_) (fun h => Bool.noConfusion h); conv => whnf) | (refine And.intro (fun h => Bool.noConfusion h) (fun _ => ?_); conv => whnf))
      refine ⟨fSz _, ?_⟩
      (conv => whnf); repeat (first | (refine And.intro (DrawOk.mk (by first | (simp only [List.map_cons, List.map_nil, List.nil_append, List.cons_append, List.append_nil, updsL, List.length_cons, List.length_nil]; decide +kernel) | exact rfl)) ?_; conv => whnf) | (refine And.intro rfl ?_; conv => whnf) | (refine And.intro (fun _ => ?_) (fun h => Bool.noConfusion h); conv => whnf) | (refine And.intro (fun h => Bool.noConfusion h) (fun _ => ?_); conv => whnf))
      refine ⟨bytes_le (by decide) (by rw [fLen, fLen]; omega), ?_⟩
      (conv => whnf); repeat (first | (refine And.intro (DrawOk.mk (by first | (simp only [List.map_cons, List.map_nil, List.nil_append, List.cons_append, List.append_nil, updsL, List.length_cons, List.length_nil]; decide +kernel) | exact rfl)) ?_; conv => whnf) | (refine And.intro rfl ?_; conv => whnf) | (refine And.intro (fun _ => ?_) (fun h => Bool.noConfusion h); conv => whnf) | (refine And.intro (fun h => Bool.noConfusion h) (fun _ => ?_); conv => whnf))
      refine again (i + 1) hlt (by omega) ?_
      (refine And.intro rfl (And.intro rfl ?_)); (repeat' (first | exact trivial | exact rfl | apply And.intro | (refine congrArg (Value.int .i64) (w64_nat ?_); omega)))
      all_goals exact congrArg (Blk.row _ _ _) ((fApp _ _).trans (congrArg fR hi1.symm))
    | false =>
      rw [hd, if_neg (by decide), List.append_nil] at hi1
      (conv => whnf); repeat (first | (refine And.intro (DrawOk.mk (by first | (simp only [List.map_cons, List.map_nil, List.nil_append, List.cons_append, List.append_nil, updsL, List.length_cons, List.length_nil]; decide +kernel) | exact rfl)) ?_; conv => whnf) | (refine And.intro rfl ?_; conv => whnf) | (refine And.intro (fun _ => ?_) (fun h => Bool.noConfusion h); conv => whnf) | (refine And.intro (fun h => Bool.noConfusion h) (fun _ => ?_); conv => whnf))
      refine again (i + 1) hlt (by omega) ?_
      (refine And.intro rfl (And.intro rfl ?_)); (repeat' (first | exact trivial | exact rfl | apply And.intro | (refine congrArg (Value.int .i64) (w64_nat ?_); omega)))
      all_goals exact congrArg (fun x => Blk.row _ _ _ (fR x)) hi1.symm
  · obtain rfl : i = zs.length := by have := of_decide_eq_false h; omega
    (conv => whnf); repeat (first | (refine And.intro (DrawOk.mk (by first | (simp only [List.map_cons, List.map_nil, List.nil_append, List.cons_append, List.append_nil, updsL, List.length_cons, List.length_nil]; decide +kernel) | exact rfl)) ?_; conv => whnf) | (refine And.intro rfl ?_; conv => whnf) | (refine And.intro (fun _ => ?_) (fun h => Bool.noConfusion h); conv => whnf) | (refine And.intro (fun h => Bool.noConfusion h) (fun _ => ?_); conv => whnf))
    refine Exists.intro [] (And.intro List.nodup_nil ?_); ((conv => whnf); repeat (first | (refine And.intro (DrawOk.mk (by first | (simp only [List.map_cons, List.map_nil, List.nil_append, List.cons_append, List.append_nil, updsL, List.length_cons, List.length_nil]; decide +kernel) | exact rfl)) ?_; conv => whnf) | (refine And.intro rfl ?_; conv => whnf) | (refine And.intro (fun _ => ?_) (fun h => Bool.noConfusion h); conv => whnf) | (refine And.intro (fun h => Bool.noConfusion h) (fun _ => ?_); conv => whnf)))
    rfl
def grt (l : List Fnd) : Int := l.foldl (fun n f => if f.r.v > n then f.r.v else n) 0
theorem grt_take {l : List Fnd} {k : Nat} (h : k < l.length) : grt (l.take (k + 1)) = if l[k].r.v > grt (l.take k) then l[k].r.v else grt (l.take k) := by
  rw [List.take_succ_eq_append_getElem h, grt, List.foldl_append]
  rfl
set_option maxRecDepth 100000 in
set_option maxHeartbeats 16000000 in
theorem grtF (l : List Fnd) (hl : l.length ≤ 100000000) : Fun Try.prog 29 [slV (fR l)] [] (.v (i64V (grt l))) := by
  have hzl := fLen l
  refine fun_of_vc tabOk mixOk Try.func29 rfl (by rfl) (rs := [.tmp 2]) rfl rfl 23 ?_; rw [Try.ntmps29]
  (conv => whnf); repeat (first | (refine And.intro (DrawOk.mk (by first | (simp only [List.map_cons, List.map_nil, List.nil_append, List.cons_append, List.append_nil, updsL, List.length_cons, List.length_nil]; decide +kernel) | exact rfl)) ?_; conv => whnf) | (refine And.intro rfl ?_; conv => whnf) | (refine And.intro (fun _ => ?_) (fun h => Bool.noConfusion h); conv => whnf) | (refine And.intro (fun h => Bool.noConfusion h) (fun _ => ?_); conv => whnf))
  refine vc_loop [2, 6, 7] [] (X := Nat) (fun i gs => [(8, ATint i), (3, .v (i64V (grt (l.take i))))]) (fun i gs => []) (fun i => i ≤ l.length) (fun i => l.length - i) _ (Ghost.refl _) 0 (Nat.zero_le _) ?_ ?_
  · (refine And.intro rfl (And.intro rfl ?_)); (repeat' (first | exact trivial | exact rfl | apply And.intro | (refine congrArg (Value.int .i64) (w64_nat ?_); omega)))
  rintro gs i hi
  (conv => whnf); repeat (first | (refine And.intro (DrawOk.mk (by first | (simp only [List.map_cons, List.map_nil, List.nil_append, List.cons_append, List.append_nil, updsL, List.length_cons, List.length_nil]; decide +kernel) | exact rfl)) ?_; conv => whnf) | (refine And.intro rfl ?_; conv => whnf) | (refine And.intro (fun _ => ?_) (fun h => Bool.noConfusion h); conv => whnf) | (refine And.intro (fun h => Bool.noConfusion h) (fun _ => ?_); conv => whnf))
  refine And.intro (fun h => ?_) (fun h => ?_)
  · have hlt : i < l.length := by have := of_decide_eq_true h; omega
    have e := grt_take hlt
    (conv => whnf); repeat (first | (refine And.intro (DrawOk.mk (by first | (simp only [List.map_cons, List.map_nil, List.nil_append, List.cons_append, List.append_nil, updsL, List.length_cons, List.length_nil]; decide +kernel) | exact rfl)) ?_; conv => whnf) | (refine And.intro rfl ?_; conv => whnf) | (refine And.intro (fun _ => ?_) (fun h => Bool.noConfusion h); conv => whnf) | (refine And.intro (fun h => Bool.noConfusion h) (fun _ => ?_); conv => whnf))
    refine ⟨by omega, _, fItem hlt, rfl, ?_⟩
    (conv => whnf); repeat (first | (refine And.intro (DrawOk.mk (by first | (simp only [List.map_cons, List.map_nil, List.nil_append, List.cons_append, List.append_nil, updsL, List.length_cons, List.length_nil]; decide +kernel) | exact rfl)) ?_; conv => whnf) | (refine And.intro rfl ?_; conv => whnf) | (refine And.intro (fun _ => ?_) (fun h => Bool.noConfusion h); conv => whnf) | (refine And.intro (fun h => Bool.noConfusion h) (fun _ => ?_); conv => whnf))
    refine again (i + 1) hlt (by omega) ?_
    (refine And.intro rfl (And.intro rfl ?_)); (repeat' (first | exact trivial | exact rfl | apply And.intro | (refine congrArg (Value.int .i64) (w64_nat ?_); omega)))
    all_goals exact congrArg (Value.int .i64) e.symm
  · obtain rfl : i = l.length := by have := of_decide_eq_false h; omega
    rw [List.take_length]
    (conv => whnf); repeat (first | (refine And.intro (DrawOk.mk (by first | (simp only [List.map_cons, List.map_nil, List.nil_append, List.cons_append, List.append_nil, updsL, List.length_cons, List.length_nil]; decide +kernel) | exact rfl)) ?_; conv => whnf) | (refine And.intro rfl ?_; conv => whnf) | (refine And.intro (fun _ => ?_) (fun h => Bool.noConfusion h); conv => whnf) | (refine And.intro (fun h => Bool.noConfusion h) (fun _ => ?_); conv => whnf))
    refine Exists.intro [] (And.intro List.nodup_nil ?_); ((conv => whnf); repeat (first | (refine And.intro (DrawOk.mk (by first | (simp only [List.map_cons, List.map_nil, List.nil_append, List.cons_append, List.append_nil, updsL, List.length_cons, List.length_nil]; decide +kernel) | exact rfl)) ?_; conv => whnf) | (refine And.intro rfl ?_; conv => whnf) | (refine And.intro (fun _ => ?_) (fun h => Bool.noConfusion h); conv => whnf) | (refine And.intro (fun h => Bool.noConfusion h) (fun _ => ?_); conv => whnf)))
    rfl
set_option maxRecDepth 100000 in
set_option maxHeartbeats 16000000 in
theorem grtF' (l : List Fnd) (hl : l.length ≤ 100000000) : Fun Try.prog 30 [slV (fR l)] [] (.v (i64V (grt l))) := by
  have hzl := fLen l
  refine fun_of_vc tabOk mixOk Try.func30 rfl (by rfl) (rs := [.tmp 2]) rfl rfl 24 ?_; rw [Try.ntmps30]
  (conv => whnf); repeat (first | (refine And.intro (DrawOk.mk (by first | (simp only [List.map_cons, List.map_nil, List.nil_append, List.cons_append, List.append_nil, updsL, List.length_cons, List.length_nil]; decide +kernel) | exact rfl)) ?_; conv => whnf) | (refine And.intro rfl ?_; conv => whnf) | (refine And.intro (fun _ => ?_) (fun h => Bool.noConfusion h); conv => whnf) | (refine And.intro (fun h => Bool.noConfusion h) (fun _ => ?_); conv => whnf))
  refine vc_loop [0, 2] [] (X := Nat) (fun i gs => [(4, ATint i), (3, .v (i64V (grt (l.take i))))]) (fun i gs => []) (fun i => i ≤ l.length) (fun i => l.length - i) _ (Ghost.refl _) 0 (Nat.zero_le _) ?_ ?_
  · (refine And.intro rfl (And.intro rfl ?_)); (repeat' (first | exact trivial | exact rfl | apply And.intro | (refine congrArg (Value.int .i64) (w64_nat ?_); omega)))
  rintro gs i hi
  (conv => whnf); repeat (first | (refine And.intro (DrawOk.mk (by first | (simp only [List.map_cons, List.map_nil, List.nil_append, List.cons_append, List.append_nil, updsL, List.length_cons, List.length_nil]; decide +kernel) | exact rfl)) ?_; conv => whnf) | (refine And.intro rfl ?_; conv => whnf) | (refine And.intro (fun _ => ?_) (fun h => Bool.noConfusion h); conv => whnf) | (refine And.intro (fun h => Bool.noConfusion h) (fun _ => ?_); conv => whnf))
  refine And.intro (fun h => ?_) (fun h => ?_)
  · have hlt : i < l.length := by have := of_decide_eq_true h; omega
    have e := grt_take hlt
    (conv => whnf); repeat (first | (refine And.intro (DrawOk.mk (by first | (simp only [List.map_cons, List.map_nil, List.nil_append, List.cons_append, List.append_nil, updsL, List.length_cons, List.length_nil]; decide +kernel) | exact rfl)) ?_; conv => whnf) | (refine And.intro rfl ?_; conv => whnf) | (refine And.intro (fun _ => ?_) (fun h => Bool.noConfusion h); conv => whnf) | (refine And.intro (fun h => Bool.noConfusion h) (fun _ => ?_); conv => whnf))
    refine ⟨by omega, _, fItem hlt, rfl, ?_⟩
    (conv => whnf); repeat (first | (refine And.intro (DrawOk.mk (by first | (simp only [List.map_cons, List.map_nil, List.nil_append, List.cons_append, List.append_nil, updsL, List.length_cons, List.length_nil]; decide +kernel) | exact rfl)) ?_; conv => whnf) | (refine And.intro rfl ?_; conv => whnf) | (refine And.intro (fun _ => ?_) (fun h => Bool.noConfusion h); conv => whnf) | (refine And.intro (fun h => Bool.noConfusion h) (fun _ => ?_); conv => whnf))
    refine again (i + 1) hlt (by omega) ?_
    (refine And.intro rfl (And.intro rfl ?_)); (repeat' (first | exact trivial | exact rfl | apply And.intro | (refine congrArg (Value.int .i64) (w64_nat ?_); omega)))
    all_goals exact congrArg (Value.int .i64) e.symm
  · obtain rfl : i = l.length := by have := of_decide_eq_false h; omega
    rw [List.take_length]
    (conv => whnf); repeat (first | (refine And.intro (DrawOk.mk (by first | (simp only [List.map_cons, List.map_nil, List.nil_append, List.cons_append, List.append_nil, updsL, List.length_cons, List.length_nil]; decide +kernel) | exact rfl)) ?_; conv => whnf) | (refine And.intro rfl ?_; conv => whnf) | (refine And.intro (fun _ => ?_) (fun h => Bool.noConfusion h); conv => whnf) | (refine And.intro (fun h => Bool.noConfusion h) (fun _ => ?_); conv => whnf))
    refine Exists.intro [] (And.intro List.nodup_nil ?_); ((conv => whnf); repeat (first | (refine And.intro (DrawOk.mk (by first | (simp only [List.map_cons, List.map_nil, List.nil_append, List.cons_append, List.append_nil, updsL, List.length_cons, List.length_nil]; decide +kernel) | exact rfl)) ?_; conv => whnf) | (refine And.intro rfl ?_; conv => whnf) | (refine And.intro (fun _ => ?_) (fun h => Bool.noConfusion h); conv => whnf) | (refine And.intro (fun h => Bool.noConfusion h) (fun _ => ?_); conv => whnf)))
    rfl
end Go.Proofs.Ytkpicojhnnkibaa.Ab
namespace Go.Proofs.Ytkpicojhnnkibaa.Ab
set_option linter.unusedVariables false
set_option linter.unusedSimpArgs false
open Go.RowKit

theorem take_eq_next {α : Type} {a b : List α} {k : Nat} (h : a.take k = b.take k) (ha : k < a.length) (hb : k < b.length) (he : a[k] = b[k]) : a.take (k + 1) = b.take (k + 1) := by
  rw [List.take_succ_eq_append_getElem ha, List.take_succ_eq_append_getElem hb, h, he]
set_option maxRecDepth 100000 in
set_option maxHeartbeats 8000000 in
theorem fsameF (a b : List Fnd) (hl : a.length ≤ 100000000) (hl2 : b.length ≤ 100000000) : Fun Try.prog 25 [slV (fR a), slV (fR b)] [] (ATbool (decide (a = b))) := by
  by_cases hn : a.length = b.length
  rotate_left
  · rw [decide_eq_false (fun h => hn (by rw [h]))]
    refine fun_of_vc tabOk mixOk Try.func25 rfl (by rfl) (rs := [.tmp 4]) rfl rfl 30 ?_; rw [Try.ntmps25]
    (conv => whnf); repeat (first | (refine And.intro (DrawOk.mk (by first | (simp only [List.map_cons, List.map_nil, List.nil_append, List.cons_append, List.append_nil, updsL, List.length_cons, List.length_nil]; decide +kernel) | exact rfl)) ?_; conv => whnf) | (refine And.intro rfl ?_; conv => whnf) | (refine And.intro (fun _ => ?_) (fun h => Bool.noConfusion h); conv => whnf) | (refine And.intro (fun h => Bool.noConfusion h) (fun _ => ?_); conv => whnf))
    refine And.intro (fun h => ?_) (fun h => absurd h (by simp [fLen, hn]; omega))
    (conv => whnf); repeat (first | (refine And.intro (DrawOk.mk (by first | (simp only [List.map_cons, List.map_nil, List.nil_append, List.cons_append, List.append_nil, updsL, List.length_cons, List.length_nil]; decide +kernel) | exact rfl)) ?_; conv => whnf) | (refine And.intro rfl ?_; conv => whnf) | (refine And.intro (fun _ => ?_) (fun h => Bool.noConfusion h); conv => whnf) | (refine And.intro (fun h => Bool.noConfusion h) (fun _ => ?_); conv => whnf))
    refine Exists.intro [] (And.intro List.nodup_nil ?_); ((conv => whnf); repeat (first | (refine And.intro (DrawOk.mk (by first | (simp only [List.map_cons, List.map_nil, List.nil_append, List.cons_append, List.append_nil, updsL, List.length_cons, List.length_nil]; decide +kernel) | exact rfl)) ?_; conv => whnf) | (refine And.intro rfl ?_; conv => whnf) | (refine And.intro (fun _ => ?_) (fun h => Bool.noConfusion h); conv => whnf) | (refine And.intro (fun h => Bool.noConfusion h) (fun _ => ?_); conv => whnf)))
    rfl
  generalize hR : decide (a = b) = R
  refine fun_of_vc tabOk mixOk Try.func25 rfl (by rfl) (rs := [.tmp 4]) rfl rfl 30 ?_; rw [Try.ntmps25]
  (conv => whnf); repeat (first | (refine And.intro (DrawOk.mk (by first | (simp only [List.map_cons, List.map_nil, List.nil_append, List.cons_append, List.append_nil, updsL, List.length_cons, List.length_nil]; decide +kernel) | exact rfl)) ?_; conv => whnf) | (refine And.intro rfl ?_; conv => whnf) | (refine And.intro (fun _ => ?_) (fun h => Bool.noConfusion h); conv => whnf) | (refine And.intro (fun h => Bool.noConfusion h) (fun _ => ?_); conv => whnf))
  refine And.intro (fun h => absurd h (by simp [fLen, hn])) (fun h => ?_)
  (conv => whnf); repeat (first | (refine And.intro (DrawOk.mk (by first | (simp only [List.map_cons, List.map_nil, List.nil_append, List.cons_append, List.append_nil, updsL, List.length_cons, List.length_nil]; decide +kernel) | exact rfl)) ?_; conv => whnf) | (refine And.intro rfl ?_; conv => whnf) | (refine And.intro (fun _ => ?_) (fun h => Bool.noConfusion h); conv => whnf) | (refine And.intro (fun h => Bool.noConfusion h) (fun _ => ?_); conv => whnf))
  refine vc_loop [0, 1] [] (X := Nat) (fun x gs => [(5, ATint x)]) (fun _ _ => []) (fun x => x ≤ a.length ∧ a.take x = b.take x) (fun x => a.length - x) _ (Ghost.refl _) 0 ⟨Nat.zero_le _, rfl⟩ ?_ ?_
  · (refine And.intro rfl (And.intro rfl ?_)); (repeat' (first | exact trivial | exact rfl | apply And.intro | (refine congrArg (Value.int .i64) (w64_nat ?_); omega)))
  rintro gs k ⟨hk, he⟩
  (conv => whnf); repeat (first | (refine And.intro (DrawOk.mk (by first | (simp only [List.map_cons, List.map_nil, List.nil_append, List.cons_append, List.append_nil, updsL, List.length_cons, List.length_nil]; decide +kernel) | exact rfl)) ?_; conv => whnf) | (refine And.intro rfl ?_; conv => whnf) | (refine And.intro (fun _ => ?_) (fun h => Bool.noConfusion h); conv => whnf) | (refine And.intro (fun h => Bool.noConfusion h) (fun _ => ?_); conv => whnf))
  refine And.intro (fun h => ?_) (fun h => ?_)
  · have hlt : k < a.length := by have := of_decide_eq_true h; rw [fLen] at this; omega
    have hlt2 : k < b.length := by omega
    (conv => whnf); repeat (first | (refine And.intro (DrawOk.mk (by first | (simp only [List.map_cons, List.map_nil, List.nil_append, List.cons_append, List.append_nil, updsL, List.length_cons, List.length_nil]; decide +kernel) | exact rfl)) ?_; conv => whnf) | (refine And.intro rfl ?_; conv => whnf) | (refine And.intro (fun _ => ?_) (fun h => Bool.noConfusion h); conv => whnf) | (refine And.intro (fun h => Bool.noConfusion h) (fun _ => ?_); conv => whnf))
    refine ⟨by omega, _, fItem hlt, rfl, ?_⟩
    (conv => whnf); repeat (first | (refine And.intro (DrawOk.mk (by first | (simp only [List.map_cons, List.map_nil, List.nil_append, List.cons_append, List.append_nil, updsL, List.length_cons, List.length_nil]; decide +kernel) | exact rfl)) ?_; conv => whnf) | (refine And.intro rfl ?_; conv => whnf) | (refine And.intro (fun _ => ?_) (fun h => Bool.noConfusion h); conv => whnf) | (refine And.intro (fun h => Bool.noConfusion h) (fun _ => ?_); conv => whnf))
    refine ⟨by omega, _, fItem hlt2, rfl, ?_⟩
    (conv => whnf); repeat (first | (refine And.intro (DrawOk.mk (by first | (simp only [List.map_cons, List.map_nil, List.nil_append, List.cons_append, List.append_nil, updsL, List.length_cons, List.length_nil]; decide +kernel) | exact rfl)) ?_; conv => whnf) | (refine And.intro rfl ?_; conv => whnf) | (refine And.intro (fun _ => ?_) (fun h => Bool.noConfusion h); conv => whnf) | (refine And.intro (fun h => Bool.noConfusion h) (fun _ => ?_); conv => whnf))
    refine And.intro (fun h => ?_) (fun h => ?_)
    · have h' : (!fEq a[k] b[k]) = true := h
      have hne : a ≠ b := by
        rintro rfl
        rw [fEq_self] at h'
        cases h'
      (conv => whnf); repeat (first | (refine And.intro (DrawOk.mk (by first | (simp only [List.map_cons, List.map_nil, List.nil_append, List.cons_append, List.append_nil, updsL, List.length_cons, List.length_nil]; decide +kernel) | exact rfl)) ?_; conv => whnf) | (refine And.intro rfl ?_; conv => whnf) | (refine And.intro (fun _ => ?_) (fun h => Bool.noConfusion h); conv => whnf) | (refine And.intro (fun h => Bool.noConfusion h) (fun _ => ?_); conv => whnf))
      refine Exists.intro [] (And.intro List.nodup_nil ?_); ((conv => whnf); repeat (first | (refine And.intro (DrawOk.mk (by first | (simp only [List.map_cons, List.map_nil, List.nil_append, List.cons_append, List.append_nil, updsL, List.length_cons, List.length_nil]; decide +kernel) | exact rfl)) ?_; conv => whnf) | (refine And.intro rfl ?_; conv => whnf) | (refine And.intro (fun _ => ?_) (fun h => Bool.noConfusion h); conv => whnf) | (refine And.intro (fun h => Bool.noConfusion h) (fun _ => ?_); conv => whnf)))
      rw [← hR, decide_eq_false hne]
      rfl
    · have h' : (!fEq a[k] b[k]) = false := h
      have hq : a[k] = b[k] := fEq_iff.1 (by simpa using h')
      (conv => whnf); repeat (first | (refine And.intro (DrawOk.mk (by first | (simp only [List.map_cons, List.map_nil, List.nil_append, List.cons_append, List.append_nil, updsL, List.length_cons, List.length_nil]; decide +kernel) | exact rfl)) ?_; conv => whnf) | (refine And.intro rfl ?_; conv => whnf) | (refine And.intro (fun _ => ?_) (fun h => Bool.noConfusion h); conv => whnf) | (refine And.intro (fun h => Bool.noConfusion h) (fun _ => ?_); conv => whnf))
      refine again (k + 1) ⟨hlt, take_eq_next he hlt hlt2 hq⟩ (by omega) ?_
      (refine And.intro rfl (And.intro rfl ?_)); (repeat' (first | exact trivial | exact rfl | apply And.intro | (refine congrArg (Value.int .i64) (w64_nat ?_); omega)))
  · have hge : ¬ k < a.length := by have := of_decide_eq_false h; rw [fLen] at this; omega
    rw [List.take_of_length_le (by omega), List.take_of_length_le (by omega)] at he
    (conv => whnf); repeat (first | (refine And.intro (DrawOk.mk (by first | (simp only [List.map_cons, List.map_nil, List.nil_append, List.cons_append, List.append_nil, updsL, List.length_cons, List.length_nil]; decide +kernel) | exact rfl)) ?_; conv => whnf) | (refine And.intro rfl ?_; conv => whnf) | (refine And.intro (fun _ => ?_) (fun h => Bool.noConfusion h); conv => whnf) | (refine And.intro (fun h => Bool.noConfusion h) (fun _ => ?_); conv => whnf))
    refine Exists.intro [] (And.intro List.nodup_nil ?_); ((conv => whnf); repeat (first | (refine And.intro (DrawOk.mk (by first | (simp only [List.map_cons, List.map_nil, List.nil_append, List.cons_append, List.append_nil, updsL, List.length_cons, List.length_nil]; decide +kernel) | exact rfl)) ?_; conv => whnf) | (refine And.intro rfl ?_; conv => whnf) | (refine And.intro (fun _ => ?_) (fun h => Bool.noConfusion h); conv => whnf) | (refine And.intro (fun h => Bool.noConfusion h) (fun _ => ?_); conv => whnf)))
    rw [← hR, decide_eq_true he]
    rfl
theorem mem_take_next {α : Type} {l : List α} {k : Nat} {P : α → Prop} (h : k < l.length) (h1 : ∀ x ∈ l.take k, P x) (h2 : P l[k]) : ∀ x ∈ l.take (k + 1), P x := by
  intro x hx
  rw [List.take_succ_eq_append_getElem h] at hx
  rcases List.mem_append.1 hx with hx | hx
  · exact h1 x hx
  · rw [List.mem_singleton] at hx
    rw [hx]
    exact h2
set_option maxRecDepth 100000 in
set_option maxHeartbeats 8000000 in
theorem hasFF (l : List Fnd) (z o k b v m : Int) (p : ByteArray) (hl : l.length ≤ 100000000) : Fun Try.prog 37 [slV (fR l), fA z o k b v m p] [] (ATbool (decide ((⟨z, o, ⟨k, b, v, m, p⟩⟩ : Fnd) ∈ l))) := by
  generalize hf : (⟨z, o, ⟨k, b, v, m, p⟩⟩ : Fnd) = f
  generalize hR : decide (f ∈ l) = R
  refine fun_of_vc tabOk mixOk Try.func37 rfl (by rfl) (rs := [.tmp 4]) rfl rfl 22 ?_; rw [Try.ntmps37]
  (conv => whnf); repeat (first | (refine And.intro (DrawOk.mk (by first | (simp only [List.map_cons, List.map_nil, List.nil_append, List.cons_append, List.append_nil, updsL, List.length_cons, List.length_nil]; decide +kernel) | exact rfl)) ?_; conv => whnf) | (refine And.intro rfl ?_; conv => whnf) | (refine And.intro (fun _ => ?_) (fun h => Bool.noConfusion h); conv => whnf) | (refine And.intro (fun h => Bool.noConfusion h) (fun _ => ?_); conv => whnf))
  refine vc_loop [0, 3] [3] (X := Nat) (fun x gs => [(5, ATint x)]) (fun _ _ => []) (fun x => x ≤ l.length ∧ ∀ y ∈ l.take x, y ≠ f) (fun x => l.length - x) _ (Ghost.refl _) 0 ⟨Nat.zero_le _, fun y hy => by cases hy⟩ ?_ ?_
  · (refine And.intro rfl (And.intro rfl ?_)); (repeat' (first | exact trivial | exact rfl | apply And.intro | (refine congrArg (Value.int .i64) (w64_nat ?_); omega)))
  rintro gs i ⟨hi, he⟩
  (conv => whnf); repeat (first | (refine And.intro (DrawOk.mk (by first | (simp only [List.map_cons, List.map_nil, List.nil_append, List.cons_append, List.append_nil, updsL, List.length_cons, List.length_nil]; decide +kernel) | exact rfl)) ?_; conv => whnf) | (refine And.intro rfl ?_; conv => whnf) | (refine And.intro (fun _ => ?_) (fun h => Bool.noConfusion h); conv => whnf) | (refine And.intro (fun h => Bool.noConfusion h) (fun _ => ?_); conv => whnf))
  refine And.intro (fun h => ?_) (fun h => ?_)
  · have hlt : i < l.length := by have := of_decide_eq_true h; rw [fLen] at this; omega
    (conv => whnf); repeat (first | (refine And.intro (DrawOk.mk (by first | (simp only [List.map_cons, List.map_nil, List.nil_append, List.cons_append, List.append_nil, updsL, List.length_cons, List.length_nil]; decide +kernel) | exact rfl)) ?_; conv => whnf) | (refine And.intro rfl ?_; conv => whnf) | (refine And.intro (fun _ => ?_) (fun h => Bool.noConfusion h); conv => whnf) | (refine And.intro (fun h => Bool.noConfusion h) (fun _ => ?_); conv => whnf))
    refine ⟨by omega, _, fItem hlt, rfl, ?_⟩
    (conv => whnf); repeat (first | (refine And.intro (DrawOk.mk (by first | (simp only [List.map_cons, List.map_nil, List.nil_append, List.cons_append, List.append_nil, updsL, List.length_cons, List.length_nil]; decide +kernel) | exact rfl)) ?_; conv => whnf) | (refine And.intro rfl ?_; conv => whnf) | (refine And.intro (fun _ => ?_) (fun h => Bool.noConfusion h); conv => whnf) | (refine And.intro (fun h => Bool.noConfusion h) (fun _ => ?_); conv => whnf))
    refine And.intro (fun h => ?_) (fun h => ?_)
    · have h' : fEq l[i] ⟨z, o, ⟨k, b, v, m, p⟩⟩ = true := h
      rw [hf] at h'
      have hm : f ∈ l := by rw [← fEq_iff.1 h']; exact List.getElem_mem hlt
      (conv => whnf); repeat (first | (refine And.intro (DrawOk.mk (by first | (simp only [List.map_cons, List.map_nil, List.nil_append, List.cons_append, List.append_nil, updsL, List.length_cons, List.length_nil]; decide +kernel) | exact rfl)) ?_; conv => whnf) | (refine And.intro rfl ?_; conv => whnf) | (refine And.intro (fun _ => ?_) (fun h => Bool.noConfusion h); conv => whnf) | (refine And.intro (fun h => Bool.noConfusion h) (fun _ => ?_); conv => whnf))
      refine Exists.intro [] (And.intro List.nodup_nil ?_); ((conv => whnf); repeat (first | (refine And.intro (DrawOk.mk (by first | (simp only [List.map_cons, List.map_nil, List.nil_append, List.cons_append, List.append_nil, updsL, List.length_cons, List.length_nil]; decide +kernel) | exact rfl)) ?_; conv => whnf) | (refine And.intro rfl ?_; conv => whnf) | (refine And.intro (fun _ => ?_) (fun h => Bool.noConfusion h); conv => whnf) | (refine And.intro (fun h => Bool.noConfusion h) (fun _ => ?_); conv => whnf)))
      rw [← hR, decide_eq_true hm]
      rfl
    · have h' : fEq l[i] ⟨z, o, ⟨k, b, v, m, p⟩⟩ = false := h
      rw [hf] at h'
      have hne : l[i] ≠ f := fun e => by rw [e, fEq_self] at h'; cases h'
      (conv => whnf); repeat (first | (refine And.intro (DrawOk.mk (by first | (simp only [List.map_cons, List.map_nil, List.nil_append, List.cons_append, List.append_nil, updsL, List.length_cons, List.length_nil]; decide +kernel) | exact rfl)) ?_; conv => whnf) | (refine And.intro rfl ?_; conv => whnf) | (refine And.intro (fun _ => ?_) (fun h => Bool.noConfusion h); conv => whnf) | (refine And.intro (fun h => Bool.noConfusion h) (fun _ => ?_); conv => whnf))
      refine again (i + 1) ⟨hlt, mem_take_next hlt he hne⟩ (by omega) ?_
      (refine And.intro rfl (And.intro rfl ?_)); (repeat' (first | exact trivial | exact rfl | apply And.intro | (refine congrArg (Value.int .i64) (w64_nat ?_); omega)))
  · have hge : ¬ i < l.length := by have := of_decide_eq_false h; rw [fLen] at this; omega
    rw [List.take_of_length_le (by omega)] at he
    (conv => whnf); repeat (first | (refine And.intro (DrawOk.mk (by first | (simp only [List.map_cons, List.map_nil, List.nil_append, List.cons_append, List.append_nil, updsL, List.length_cons, List.length_nil]; decide +kernel) | exact rfl)) ?_; conv => whnf) | (refine And.intro rfl ?_; conv => whnf) | (refine And.intro (fun _ => ?_) (fun h => Bool.noConfusion h); conv => whnf) | (refine And.intro (fun h => Bool.noConfusion h) (fun _ => ?_); conv => whnf))
    refine Exists.intro [] (And.intro List.nodup_nil ?_); ((conv => whnf); repeat (first | (refine And.intro (DrawOk.mk (by first | (simp only [List.map_cons, List.map_nil, List.nil_append, List.cons_append, List.append_nil, updsL, List.length_cons, List.length_nil]; decide +kernel) | exact rfl)) ?_; conv => whnf) | (refine And.intro rfl ?_; conv => whnf) | (refine And.intro (fun _ => ?_) (fun h => Bool.noConfusion h); conv => whnf) | (refine And.intro (fun h => Bool.noConfusion h) (fun _ => ?_); conv => whnf)))
    rw [← hR, decide_eq_false (fun hm => he f hm rfl)]
    rfl
set_option maxRecDepth 100000 in
set_option maxHeartbeats 8000000 in
theorem allFF (a l : List Fnd) (ha : a.length ≤ 100000000) (hl : l.length ≤ 100000000) : Fun Try.prog 38 [slV (fR a), slV (fR l)] [] (ATbool (decide (∀ x ∈ a, x ∈ l))) := by
  generalize hR : decide (∀ x ∈ a, x ∈ l) = R
  refine fun_of_vc tabOk mixOk Try.func38 rfl (by rfl) (rs := [.tmp 4]) rfl rfl 23 ?_; rw [Try.ntmps38]
  (conv => whnf); repeat (first | (refine And.intro (DrawOk.mk (by first | (simp only [List.map_cons, List.map_nil, List.nil_append, List.cons_append, List.append_nil, updsL, List.length_cons, List.length_nil]; decide +kernel) | exact rfl)) ?_; conv => whnf) | (refine And.intro rfl ?_; conv => whnf) | (refine And.intro (fun _ => ?_) (fun h => Bool.noConfusion h); conv => whnf) | (refine And.intro (fun h => Bool.noConfusion h) (fun _ => ?_); conv => whnf))
  refine vc_loop [0, 1] [] (X := Nat) (fun x gs => [(5, ATint x)]) (fun _ _ => []) (fun x => x ≤ a.length ∧ ∀ y ∈ a.take x, y ∈ l) (fun x => a.length - x) _ (Ghost.refl _) 0 ⟨Nat.zero_le _, fun y hy => by cases hy⟩ ?_ ?_
  · (refine And.intro rfl (And.intro rfl ?_)); (repeat' (first | exact trivial | exact rfl | apply And.intro | (refine congrArg (Value.int .i64) (w64_nat ?_); omega)))
  rintro gs i ⟨hi, he⟩
  (conv => whnf); repeat (first | (refine And.intro (DrawOk.mk (by first | (simp only [List.map_cons, List.map_nil, List.nil_append, List.cons_append, List.append_nil, updsL, List.length_cons, List.length_nil]; decide +kernel) | exact rfl)) ?_; conv => whnf) | (refine And.intro rfl ?_; conv => whnf) | (refine And.intro (fun _ => ?_) (fun h => Bool.noConfusion h); conv => whnf) | (refine And.intro (fun h => Bool.noConfusion h) (fun _ => ?_); conv => whnf))
  refine And.intro (fun h => ?_) (fun h => ?_)
  · have hlt : i < a.length := by have := of_decide_eq_true h; rw [fLen] at this; omega
    have hh := hasFF l a[i].z a[i].o a[i].r.k a[i].r.b a[i].r.v a[i].r.m a[i].r.p hl
    rw [show (⟨a[i].z, a[i].o, ⟨a[i].r.k, a[i].r.b, a[i].r.v, a[i].r.m, a[i].r.p⟩⟩ : Fnd) = a[i] from rfl] at hh
    (conv => whnf); repeat (first | (refine And.intro (DrawOk.mk (by first | (simp only [List.map_cons, List.map_nil, List.nil_append, List.cons_append, List.append_nil, updsL, List.length_cons, List.length_nil]; decide +kernel) | exact rfl)) ?_; conv => whnf) | (refine And.intro rfl ?_; conv => whnf) | (refine And.intro (fun _ => ?_) (fun h => Bool.noConfusion h); conv => whnf) | (refine And.intro (fun h => Bool.noConfusion h) (fun _ => ?_); conv => whnf))
    refine ⟨by omega, _, fItem hlt, rfl, ?_⟩
    (conv => whnf); repeat (first | (refine And.intro (DrawOk.mk (by first | (simp only [List.map_cons, List.map_nil, List.nil_append, List.cons_append, List.append_nil, updsL, List.length_cons, List.length_nil]; decide +kernel) | exact rfl)) ?_; conv => whnf) | (refine And.intro rfl ?_; conv => whnf) | (refine And.intro (fun _ => ?_) (fun h => Bool.noConfusion h); conv => whnf) | (refine And.intro (fun h => Bool.noConfusion h) (fun _ => ?_); conv => whnf))
    by_cases hm : a[i] ∈ l
    · rw [decide_eq_true hm] at hh
      refine ⟨_, _, hh, ?_⟩
      (conv => whnf); repeat (first | (refine And.intro (DrawOk.mk (by first | (simp only [List.map_cons, List.map_nil, List.nil_append, List.cons_append, List.append_nil, updsL, List.length_cons, List.length_nil]; decide +kernel) | exact rfl)) ?_; conv => whnf) | (refine And.intro rfl ?_; conv => whnf) | (refine And.intro (fun _ => ?_) (fun h => Bool.noConfusion h); conv => whnf) | (refine And.intro (fun h => Bool.noConfusion h) (fun _ => ?_); conv => whnf))
      refine again (i + 1) ⟨hlt, mem_take_next hlt he hm⟩ (by omega) ?_
      (refine And.intro rfl (And.intro rfl ?_)); (repeat' (first | exact trivial | exact rfl | apply And.intro | (refine congrArg (Value.int .i64) (w64_nat ?_); omega)))
    · rw [decide_eq_false hm] at hh
      refine ⟨_, _, hh, ?_⟩
      (conv => whnf); repeat (first | (refine And.intro (DrawOk.mk (by first | (simp only [List.map_cons, List.map_nil, List.nil_append, List.cons_append, List.append_nil, updsL, List.length_cons, List.length_nil]; decide +kernel) | exact rfl)) ?_; conv => whnf) | (refine And.intro rfl ?_; conv => whnf) | (refine And.intro (fun _ => ?_) (fun h => Bool.noConfusion h); conv => whnf) | (refine And.intro (fun h => Bool.noConfusion h) (fun _ => ?_); conv => whnf))
      refine Exists.intro [] (And.intro List.nodup_nil ?_); ((conv => whnf); repeat (first | (refine And.intro (DrawOk.mk (by first | (simp only [List.map_cons, List.map_nil, List.nil_append, List.cons_append, List.append_nil, updsL, List.length_cons, List.length_nil]; decide +kernel) | exact rfl)) ?_; conv => whnf) | (refine And.intro rfl ?_; conv => whnf) | (refine And.intro (fun _ => ?_) (fun h => Bool.noConfusion h); conv => whnf) | (refine And.intro (fun h => Bool.noConfusion h) (fun _ => ?_); conv => whnf)))
      rw [← hR, decide_eq_false (fun hall => hm (hall _ (List.getElem_mem hlt)))]
      rfl
  · have hge : ¬ i < a.length := by have := of_decide_eq_false h; rw [fLen] at this; omega
    rw [List.take_of_length_le (by omega)] at he
    (conv => whnf); repeat (first | (refine And.intro (DrawOk.mk (by first | (simp only [List.map_cons, List.map_nil, List.nil_append, List.cons_append, List.append_nil, updsL, List.length_cons, List.length_nil]; decide +kernel) | exact rfl)) ?_; conv => whnf) | (refine And.intro rfl ?_; conv => whnf) | (refine And.intro (fun _ => ?_) (fun h => Bool.noConfusion h); conv => whnf) | (refine And.intro (fun h => Bool.noConfusion h) (fun _ => ?_); conv => whnf))
    refine Exists.intro [] (And.intro List.nodup_nil ?_); ((conv => whnf); repeat (first | (refine And.intro (DrawOk.mk (by first | (simp only [List.map_cons, List.map_nil, List.nil_append, List.cons_append, List.append_nil, updsL, List.length_cons, List.length_nil]; decide +kernel) | exact rfl)) ?_; conv => whnf) | (refine And.intro rfl ?_; conv => whnf) | (refine And.intro (fun _ => ?_) (fun h => Bool.noConfusion h); conv => whnf) | (refine And.intro (fun h => Bool.noConfusion h) (fun _ => ?_); conv => whnf)))
    rw [← hR, decide_eq_true he]
    rfl
/-! ### Do records with the same version say the same? -/
def agP (a b : Fnd) : Prop := a.r.v = b.r.v → a.r.k = b.r.k ∧ a.r.b = b.r.b ∧ a.r.p.toList = b.r.p.toList
instance (a b : Fnd) : Decidable (agP a b) := by unfold agP; infer_instance
def agrB (l : List Fnd) : Bool := decide (∀ a ∈ l, ∀ b ∈ l, agP a b)
theorem agP_symm {a b : Fnd} (h : agP a b) : agP b a := fun e => by obtain ⟨h1, h2, h3⟩ := h e.symm; exact ⟨h1.symm, h2.symm, h3.symm⟩
theorem agP_self (a : Fnd) : agP a a := fun _ => ⟨rfl, rfl, rfl⟩
theorem agr_next {l : List Fnd} {k : Nat} (h : k < l.length) (h1 : ∀ a ∈ l.take k, ∀ b ∈ l.take k, agP a b) (h2 : ∀ a ∈ l.take k, agP l[k] a) : ∀ a ∈ l.take (k + 1), ∀ b ∈ l.take (k + 1), agP a b := by
  refine mem_take_next h (fun a ha => mem_take_next h (h1 a ha) (agP_symm (h2 a ha))) (mem_take_next h h2 (agP_self _))
theorem agr_no {l : List Fnd} {a b : Fnd} (ha : a ∈ l) (hb : b ∈ l) (h : ¬ agP a b) : agrB l = false := decide_eq_false (fun hh => h (hh a ha b hb))
def nRow (r : Rec) : List IV := [.sc (.int .i64 r.k), .sc (.int .i64 r.b), .sc (.int .i64 r.v), .sc (.int .i64 0), .sc (.string r.p)]
def seenF (f : Value → Option (List IV)) (x : Fnd) : Value → Option (List IV) := mput f (.int .i64 x.r.v) (nRow x.r)
def seenL (l : List Fnd) : Value → Option (List IV) := l.foldl seenF (fun _ => none)
theorem seen_take {l : List Fnd} {k : Nat} (h : k < l.length) : seenL (l.take (k + 1)) = mput (seenL (l.take k)) (.int .i64 l[k].r.v) (nRow l[k].r) := by
  rw [List.take_succ_eq_append_getElem h, seenL, List.foldl_append]
  rfl
theorem mput_at (f : Value → Option (List IV)) (n m : Int) (cs : List IV) : mput f (.int .i64 n) cs (.int .i64 m) = if m = n then some cs else f (.int .i64 m) := by
  unfold mput
  by_cases h : m = n
  · subst h
    rw [show keyB (.int .i64 m) (.int .i64 m) = true by simp [keyB], if_pos rfl]
  · rw [show keyB (.int .i64 m) (.int .i64 n) = false by simp [keyB, h], if_neg h]
theorem seen_gen (v : Int) : ∀ (l : List Fnd) (f : Value → Option (List IV)), (l.foldl seenF f (.int .i64 v) = f (.int .i64 v) ∧ ∀ x ∈ l, x.r.v ≠ v) ∨ ∃ x ∈ l, x.r.v = v ∧ l.foldl seenF f (.int .i64 v) = some (nRow x.r) := by
  intro l
  induction l with
  | nil => intro f; exact Or.inl ⟨rfl, fun x hx => by cases hx⟩
  | cons a l ih =>
    intro f
    rw [List.foldl_cons]
    rcases ih (seenF f a) with ⟨h1, h2⟩ | ⟨x, hx, h1, h2⟩
    · rw [seenF, mput_at] at h1
      by_cases h : v = a.r.v
      · rw [if_pos h] at h1
        exact Or.inr ⟨a, List.mem_cons_self, h.symm, h1⟩
      · rw [if_neg h] at h1
        refine Or.inl ⟨h1, fun x hx => ?_⟩
        rcases List.mem_cons.1 hx with rfl | hx
        · exact fun e => h e.symm
        · exact h2 x hx
    · exact Or.inr ⟨x, List.mem_cons_of_mem _ hx, h1, h2⟩
theorem seen_spec (l : List Fnd) (v : Int) : (seenL l (.int .i64 v) = none ∧ ∀ x ∈ l, x.r.v ≠ v) ∨ ∃ x ∈ l, x.r.v = v ∧ seenL l (.int .i64 v) = some (nRow x.r) := seen_gen v l _
set_option maxRecDepth 100000 in
set_option maxHeartbeats 16000000 in
theorem agreeF (l : List Fnd) (hl : l.length ≤ 100000000) : Fun Try.prog 31 [slV (fR l)] [] (ATbool (agrB l)) := by
  have hzl := fLen l
  generalize hR : agrB l = R
  refine fun_of_vc tabOk mixOk Try.func31 rfl (by rfl) (rs := [.tmp 2]) rfl rfl 41 ?_; rw [Try.ntmps31]
  (conv => whnf); repeat (first | (refine And.intro (DrawOk.mk (by first | (simp only [List.map_cons, List.map_nil, List.nil_append, List.cons_append, List.append_nil, updsL, List.length_cons, List.length_nil]; decide +kernel) | exact rfl)) ?_; conv => whnf) | (refine And.intro rfl ?_; conv => whnf) | (refine And.intro (fun _ => ?_) (fun h => Bool.noConfusion h); conv => whnf) | (refine And.intro (fun h => Bool.noConfusion h) (fun _ => ?_); conv => whnf))
  refine vc_loop [10, 11] [] (X := Nat) (fun i gs => [(12, ATint i), (3, .v (.c (.own 9 (gs 9))))]) (fun i gs => [(9, .mp (gs 9) (.int .i64) true (seenL (l.take i)))]) (fun i => i ≤ l.length ∧ ∀ a ∈ l.take i, ∀ b ∈ l.take i, agP a b) (fun i => l.length - i) _ (Ghost.refl _) 0 ⟨Nat.zero_le _, fun a ha => by cases ha⟩ ?_ ?_
  · (refine And.intro rfl (And.intro rfl ?_)); (repeat' (first | exact trivial | exact rfl | apply And.intro | (refine congrArg (Value.int .i64) (w64_nat ?_); omega)))
  rintro gs i ⟨hi, hag⟩
  (conv => whnf); repeat (first | (refine And.intro (DrawOk.mk (by first | (simp only [List.map_cons, List.map_nil, List.nil_append, List.cons_append, List.append_nil, updsL, List.length_cons, List.length_nil]; decide +kernel) | exact rfl)) ?_; conv => whnf) | (refine And.intro rfl ?_; conv => whnf) | (refine And.intro (fun _ => ?_) (fun h => Bool.noConfusion h); conv => whnf) | (refine And.intro (fun h => Bool.noConfusion h) (fun _ => ?_); conv => whnf))
  refine And.intro (fun h => ?_) (fun h => ?_)
  · have hlt : i < l.length := by have := of_decide_eq_true h; omega
    have hput := seen_take hlt
    have hnx := agr_next hlt hag
    have hit := fItem hlt
    (conv => whnf); repeat (first | (refine And.intro (DrawOk.mk (by first | (simp only [List.map_cons, List.map_nil, List.nil_append, List.cons_append, List.append_nil, updsL, List.length_cons, List.length_nil]; decide +kernel) | exact rfl)) ?_; conv => whnf) | (refine And.intro rfl ?_; conv => whnf) | (refine And.intro (fun _ => ?_) (fun h => Bool.noConfusion h); conv => whnf) | (refine And.intro (fun h => Bool.noConfusion h) (fun _ => ?_); conv => whnf))
    refine ⟨by omega, _, hit, rfl, ?_⟩
    (conv => whnf); repeat (first | (refine And.intro (DrawOk.mk (by first | (simp only [List.map_cons, List.map_nil, List.nil_append, List.cons_append, List.append_nil, updsL, List.length_cons, List.length_nil]; decide +kernel) | exact rfl)) ?_; conv => whnf) | (refine And.intro rfl ?_; conv => whnf) | (refine And.intro (fun _ => ?_) (fun h => Bool.noConfusion h); conv => whnf) | (refine And.intro (fun h => Bool.noConfusion h) (fun _ => ?_); conv => whnf))
    rcases seen_spec (l.take i) l[i].r.v with ⟨h1, h2⟩ | ⟨x, hx, h1, h2⟩
    · have hnx' := hnx (fun a ha e => absurd e.symm (h2 a ha))
      clear hag hnx h2
      refine ⟨none, h1, ?_⟩
      (conv => whnf); repeat (first | (refine And.intro (DrawOk.mk (by first | (simp only [List.map_cons, List.map_nil, List.nil_append, List.cons_append, List.append_nil, updsL, List.length_cons, List.length_nil]; decide +kernel) | exact rfl)) ?_; conv => whnf) | (refine And.intro rfl ?_; conv => whnf) | (refine And.intro (fun _ => ?_) (fun h => Bool.noConfusion h); conv => whnf) | (refine And.intro (fun h => Bool.noConfusion h) (fun _ => ?_); conv => whnf))
      refine again (i + 1) ⟨hlt, hnx'⟩ (by omega) ?_
      (refine And.intro rfl (And.intro rfl ?_)); (repeat' (first | exact trivial | exact rfl | apply And.intro | (refine congrArg (Value.int .i64) (w64_nat ?_); omega)))
      all_goals exact congrArg (Blk.mp _ _ _) hput.symm
    · have hxl : x ∈ l := List.mem_of_mem_take hx
      have hno := fun h => agr_no hxl (List.getElem_mem hlt) h
      have hnx' : x.r.k = l[i].r.k ∧ x.r.b = l[i].r.b ∧ x.r.p.toList = l[i].r.p.toList → ∀ a ∈ l.take (i + 1), ∀ b ∈ l.take (i + 1), agP a b := fun hh => hnx (fun a ha e => by
        obtain ⟨e1, e2, e3⟩ := hag x hx a ha (h1.trans e)
        exact ⟨hh.1.symm.trans e1, hh.2.1.symm.trans e2, hh.2.2.symm.trans e3⟩)
      clear hag hnx hx hxl
      refine ⟨some _, h2, ?_⟩
      (conv => whnf); repeat (first | (refine And.intro (DrawOk.mk (by first | (simp only [List.map_cons, List.map_nil, List.nil_append, List.cons_append, List.append_nil, updsL, List.length_cons, List.length_nil]; decide +kernel) | exact rfl)) ?_; conv => whnf) | (refine And.intro rfl ?_; conv => whnf) | (refine And.intro (fun _ => ?_) (fun h => Bool.noConfusion h); conv => whnf) | (refine And.intro (fun h => Bool.noConfusion h) (fun _ => ?_); conv => whnf))
      refine And.intro (fun h => ?_) (fun h => ?_)
      · have h' : (!(x.r.k == l[i].r.k && (x.r.b == l[i].r.b && (x.r.v == l[i].r.v && ((0 : Int) == 0 && (x.r.p.toList == l[i].r.p.toList && true)))))) = true := h
        have hf : R = false := by
          rw [← hR]
          refine hno (fun hh => ?_)
          obtain ⟨e1, e2, e3⟩ := hh h1
          rw [e1, e2, e3, h1] at h'
          simp at h'
        subst hf
        (conv => whnf); repeat (first | (refine And.intro (DrawOk.mk (by first | (simp only [List.map_cons, List.map_nil, List.nil_append, List.cons_append, List.append_nil, updsL, List.length_cons, List.length_nil]; decide +kernel) | exact rfl)) ?_; conv => whnf) | (refine And.intro rfl ?_; conv => whnf) | (refine And.intro (fun _ => ?_) (fun h => Bool.noConfusion h); conv => whnf) | (refine And.intro (fun h => Bool.noConfusion h) (fun _ => ?_); conv => whnf))
        refine Exists.intro [] (And.intro List.nodup_nil ?_); ((conv => whnf); repeat (first | (refine And.intro (DrawOk.mk (by first | (simp only [List.map_cons, List.map_nil, List.nil_append, List.cons_append, List.append_nil, updsL, List.length_cons, List.length_nil]; decide +kernel) | exact rfl)) ?_; conv => whnf) | (refine And.intro rfl ?_; conv => whnf) | (refine And.intro (fun _ => ?_) (fun h => Bool.noConfusion h); conv => whnf) | (refine And.intro (fun h => Bool.noConfusion h) (fun _ => ?_); conv => whnf)))
        rfl
      · have h' : (!(x.r.k == l[i].r.k && (x.r.b == l[i].r.b && (x.r.v == l[i].r.v && ((0 : Int) == 0 && (x.r.p.toList == l[i].r.p.toList && true)))))) = false := h
        have hk := hnx' (by simp at h'; exact ⟨h'.1, h'.2.1, by simpa using h'.2.2.2⟩)
        (conv => whnf); repeat (first | (refine And.intro (DrawOk.mk (by first | (simp only [List.map_cons, List.map_nil, List.nil_append, List.cons_append, List.append_nil, updsL, List.length_cons, List.length_nil]; decide +kernel) | exact rfl)) ?_; conv => whnf) | (refine And.intro rfl ?_; conv => whnf) | (refine And.intro (fun _ => ?_) (fun h => Bool.noConfusion h); conv => whnf) | (refine And.intro (fun h => Bool.noConfusion h) (fun _ => ?_); conv => whnf))
        refine again (i + 1) ⟨hlt, hk⟩ (by omega) ?_
        (refine And.intro rfl (And.intro rfl ?_)); (repeat' (first | exact trivial | exact rfl | apply And.intro | (refine congrArg (Value.int .i64) (w64_nat ?_); omega)))
        all_goals exact congrArg (Blk.mp _ _ _) hput.symm
  · obtain rfl : i = l.length := by have := of_decide_eq_false h; omega
    rw [List.take_length] at hag
    (conv => whnf); repeat (first | (refine And.intro (DrawOk.mk (by first | (simp only [List.map_cons, List.map_nil, List.nil_append, List.cons_append, List.append_nil, updsL, List.length_cons, List.length_nil]; decide +kernel) | exact rfl)) ?_; conv => whnf) | (refine And.intro rfl ?_; conv => whnf) | (refine And.intro (fun _ => ?_) (fun h => Bool.noConfusion h); conv => whnf) | (refine And.intro (fun h => Bool.noConfusion h) (fun _ => ?_); conv => whnf))
    refine Exists.intro [] (And.intro List.nodup_nil ?_); ((conv => whnf); repeat (first | (refine And.intro (DrawOk.mk (by first | (simp only [List.map_cons, List.map_nil, List.nil_append, List.cons_append, List.append_nil, updsL, List.length_cons, List.length_nil]; decide +kernel) | exact rfl)) ?_; conv => whnf) | (refine And.intro rfl ?_; conv => whnf) | (refine And.intro (fun _ => ?_) (fun h => Bool.noConfusion h); conv => whnf) | (refine And.intro (fun h => Bool.noConfusion h) (fun _ => ?_); conv => whnf)))
    rw [← hR, show agrB l = true from decide_eq_true hag]
    rfl
set_option maxRecDepth 100000 in
set_option maxHeartbeats 16000000 in
theorem agreeF' (l : List Fnd) (hl : l.length ≤ 100000000) : Fun Try.prog 32 [slV (fR l)] [] (ATbool (agrB l)) := by
  have hzl := fLen l
  generalize hR : agrB l = R
  refine fun_of_vc tabOk mixOk Try.func32 rfl (by rfl) (rs := [.tmp 2]) rfl rfl 58 ?_; rw [Try.ntmps32]
  (conv => whnf); repeat (first | (refine And.intro (DrawOk.mk (by first | (simp only [List.map_cons, List.map_nil, List.nil_append, List.cons_append, List.append_nil, updsL, List.length_cons, List.length_nil]; decide +kernel) | exact rfl)) ?_; conv => whnf) | (refine And.intro rfl ?_; conv => whnf) | (refine And.intro (fun _ => ?_) (fun h => Bool.noConfusion h); conv => whnf) | (refine And.intro (fun h => Bool.noConfusion h) (fun _ => ?_); conv => whnf))
  refine vc_loop [0] [] (X := Nat) (fun i gs => [(3, ATint i)]) (fun i gs => []) (fun i => i ≤ l.length ∧ ∀ a ∈ l.take i, ∀ b ∈ l.take i, agP a b) (fun i => l.length - i) _ (Ghost.refl _) 0 ⟨Nat.zero_le _, fun a ha => by cases ha⟩ ?_ ?_
  · (refine And.intro rfl (And.intro rfl ?_)); (repeat' (first | exact trivial | exact rfl | apply And.intro | (refine congrArg (Value.int .i64) (w64_nat ?_); omega)))
  rintro gs i ⟨hi, hag⟩
  (conv => whnf); repeat (first | (refine And.intro (DrawOk.mk (by first | (simp only [List.map_cons, List.map_nil, List.nil_append, List.cons_append, List.append_nil, updsL, List.length_cons, List.length_nil]; decide +kernel) | exact rfl)) ?_; conv => whnf) | (refine And.intro rfl ?_; conv => whnf) | (refine And.intro (fun _ => ?_) (fun h => Bool.noConfusion h); conv => whnf) | (refine And.intro (fun h => Bool.noConfusion h) (fun _ => ?_); conv => whnf))
  refine And.intro (fun h => ?_) (fun h => ?_)
  · have hlt : i < l.length := by have := of_decide_eq_true h; omega
    have hnx := agr_next hlt hag
    have hit := fItem hlt
    clear hag
    (conv => whnf); repeat (first | (refine And.intro (DrawOk.mk (by first | (simp only [List.map_cons, List.map_nil, List.nil_append, List.cons_append, List.append_nil, updsL, List.length_cons, List.length_nil]; decide +kernel) | exact rfl)) ?_; conv => whnf) | (refine And.intro rfl ?_; conv => whnf) | (refine And.intro (fun _ => ?_) (fun h => Bool.noConfusion h); conv => whnf) | (refine And.intro (fun h => Bool.noConfusion h) (fun _ => ?_); conv => whnf))
    refine vc_loop [0, 3, 7, 8, 9, 10] [] (X := Nat) (fun j gs => [(4, ATint j)]) (fun j gs => []) (fun j => j ≤ i ∧ ∀ a ∈ l.take j, agP l[i] a) (fun j => i - j) _ (Ghost.refl _) 0 ⟨Nat.zero_le _, fun a ha => by cases ha⟩ ?_ ?_
    · (refine And.intro rfl (And.intro rfl ?_)); (repeat' (first | exact trivial | exact rfl | apply And.intro | (refine congrArg (Value.int .i64) (w64_nat ?_); omega)))
    rintro gs2 j ⟨hj, haj⟩
    (conv => whnf); repeat (first | (refine And.intro (DrawOk.mk (by first | (simp only [List.map_cons, List.map_nil, List.nil_append, List.cons_append, List.append_nil, updsL, List.length_cons, List.length_nil]; decide +kernel) | exact rfl)) ?_; conv => whnf) | (refine And.intro rfl ?_; conv => whnf) | (refine And.intro (fun _ => ?_) (fun h => Bool.noConfusion h); conv => whnf) | (refine And.intro (fun h => Bool.noConfusion h) (fun _ => ?_); conv => whnf))
    refine And.intro (fun h2 => ?_) (fun h2 => ?_)
    · have hlj : j < i := by have := of_decide_eq_true h2; omega
      have hlj2 : j < l.length := by omega
      have hit2 := fItem hlj2
      by_cases hq : agP l[i] l[j]
      · have hnj := mem_take_next hlj2 haj hq
        unfold agP at hq
        clear haj hnx
        generalize l[i] = x at hq hit hnj
        generalize l[j] = y at hq hit2
        obtain ⟨x1, x2, ⟨x3, x4, x5, x6, x7⟩⟩ := x
        obtain ⟨y1, y2, ⟨y3, y4, y5, y6, y7⟩⟩ := y
        dsimp only at hq
        (conv => whnf); repeat (first | (refine And.intro (DrawOk.mk (by first | (simp only [List.map_cons, List.map_nil, List.nil_append, List.cons_append, List.append_nil, updsL, List.length_cons, List.length_nil]; decide +kernel) | exact rfl)) ?_; conv => whnf) | (refine And.intro rfl ?_; conv => whnf) | (refine And.intro (fun _ => ?_) (fun h => Bool.noConfusion h); conv => whnf) | (refine And.intro (fun h => Bool.noConfusion h) (fun _ => ?_); conv => whnf))
        repeat' (first | ((refine And.intro (fun h => ?_) (fun h => ?_)) <;> (try simp at h) <;> ((conv => whnf); repeat (first | (refine And.intro (DrawOk.mk (by first | (simp only [List.map_cons, List.map_nil, List.nil_append, List.cons_append, List.append_nil, updsL, List.length_cons, List.length_nil]; decide +kernel) | exact rfl)) ?_; conv => whnf) | (refine And.intro rfl ?_; conv => whnf) | (refine And.intro (fun _ => ?_) (fun h => Bool.noConfusion h); conv => whnf) | (refine And.intro (fun h => Bool.noConfusion h) (fun _ => ?_); conv => whnf)))) | (refine ⟨by omega, _, hit, rfl, ?_⟩; ((conv => whnf); repeat (first | (refine And.intro (DrawOk.mk (by first | (simp only [List.map_cons, List.map_nil, List.nil_append, List.cons_append, List.append_nil, updsL, List.length_cons, List.length_nil]; decide +kernel) | exact rfl)) ?_; conv => whnf) | (refine And.intro rfl ?_; conv => whnf) | (refine And.intro (fun _ => ?_) (fun h => Bool.noConfusion h); conv => whnf) | (refine And.intro (fun h => Bool.noConfusion h) (fun _ => ?_); conv => whnf)))) | (refine ⟨by omega, _, hit2, rfl, ?_⟩; ((conv => whnf); repeat (first | (refine And.intro (DrawOk.mk (by first | (simp only [List.map_cons, List.map_nil, List.nil_append, List.cons_append, List.append_nil, updsL, List.length_cons, List.length_nil]; decide +kernel) | exact rfl)) ?_; conv => whnf) | (refine And.intro rfl ?_; conv => whnf) | (refine And.intro (fun _ => ?_) (fun h => Bool.noConfusion h); conv => whnf) | (refine And.intro (fun h => Bool.noConfusion h) (fun _ => ?_); conv => whnf)))) | fail)
        all_goals first
          | (refine again (j + 1) ⟨by omega, hnj⟩ (by omega) ?_
             (refine And.intro rfl (And.intro rfl ?_)); (repeat' (first | exact trivial | exact rfl | apply And.intro | (refine congrArg (Value.int .i64) (w64_nat ?_); omega))))
          | (exfalso; simp_all; done)
      · have hf : R = false := by rw [← hR]; exact agr_no (List.getElem_mem hlt) (List.getElem_mem hlj2) hq
        subst hf
        unfold agP at hq
        clear haj hnx hR
        generalize l[i] = x at hq hit
        generalize l[j] = y at hq hit2
        obtain ⟨x1, x2, ⟨x3, x4, x5, x6, x7⟩⟩ := x
        obtain ⟨y1, y2, ⟨y3, y4, y5, y6, y7⟩⟩ := y
        dsimp only at hq
        (conv => whnf); repeat (first | (refine And.intro (DrawOk.mk (by first | (simp only [List.map_cons, List.map_nil, List.nil_append, List.cons_append, List.append_nil, updsL, List.length_cons, List.length_nil]; decide +kernel) | exact rfl)) ?_; conv => whnf) | (refine And.intro rfl ?_; conv => whnf) | (refine And.intro (fun _ => ?_) (fun h => Bool.noConfusion h); conv => whnf) | (refine And.intro (fun h => Bool.noConfusion h) (fun _ => ?_); conv => whnf))
        repeat' (first | ((refine And.intro (fun h => ?_) (fun h => ?_)) <;> (try simp at h) <;> ((conv => whnf); repeat (first | (refine And.intro (DrawOk.mk (by first | (simp only [List.map_cons, List.map_nil, List.nil_append, List.cons_append, List.append_nil, updsL, List.length_cons, List.length_nil]; decide +kernel) | exact rfl)) ?_; conv => whnf) | (refine And.intro rfl ?_; conv => whnf) | (refine And.intro (fun _ => ?_) (fun h => Bool.noConfusion h); conv => whnf) | (refine And.intro (fun h => Bool.noConfusion h) (fun _ => ?_); conv => whnf)))) | (refine ⟨by omega, _, hit, rfl, ?_⟩; ((conv => whnf); repeat (first | (refine And.intro (DrawOk.mk (by first | (simp only [List.map_cons, List.map_nil, List.nil_append, List.cons_append, List.append_nil, updsL, List.length_cons, List.length_nil]; decide +kernel) | exact rfl)) ?_; conv => whnf) | (refine And.intro rfl ?_; conv => whnf) | (refine And.intro (fun _ => ?_) (fun h => Bool.noConfusion h); conv => whnf) | (refine And.intro (fun h => Bool.noConfusion h) (fun _ => ?_); conv => whnf)))) | (refine ⟨by omega, _, hit2, rfl, ?_⟩; ((conv => whnf); repeat (first | (refine And.intro (DrawOk.mk (by first | (simp only [List.map_cons, List.map_nil, List.nil_append, List.cons_append, List.append_nil, updsL, List.length_cons, List.length_nil]; decide +kernel) | exact rfl)) ?_; conv => whnf) | (refine And.intro rfl ?_; conv => whnf) | (refine And.intro (fun _ => ?_) (fun h => Bool.noConfusion h); conv => whnf) | (refine And.intro (fun h => Bool.noConfusion h) (fun _ => ?_); conv => whnf)))) | fail)
        all_goals first
          | (refine Exists.intro [] (And.intro List.nodup_nil ?_); ((conv => whnf); repeat (first | (refine And.intro (DrawOk.mk (by first | (simp only [List.map_cons, List.map_nil, List.nil_append, List.cons_append, List.append_nil, updsL, List.length_cons, List.length_nil]; decide +kernel) | exact rfl)) ?_; conv => whnf) | (refine And.intro rfl ?_; conv => whnf) | (refine And.intro (fun _ => ?_) (fun h => Bool.noConfusion h); conv => whnf) | (refine And.intro (fun h => Bool.noConfusion h) (fun _ => ?_); conv => whnf)))
             rfl)
          | (exfalso; simp_all; done)
    · obtain rfl : j = i := by have := of_decide_eq_false h2; omega
      (conv => whnf); repeat (first | (refine And.intro (DrawOk.mk (by first | (simp only [List.map_cons, List.map_nil, List.nil_append, List.cons_append, List.append_nil, updsL, List.length_cons, List.length_nil]; decide +kernel) | exact rfl)) ?_; conv => whnf) | (refine And.intro rfl ?_; conv => whnf) | (refine And.intro (fun _ => ?_) (fun h => Bool.noConfusion h); conv => whnf) | (refine And.intro (fun h => Bool.noConfusion h) (fun _ => ?_); conv => whnf))
      refine again (j + 1) ⟨hlt, hnx haj⟩ (by omega) ?_
      (refine And.intro rfl (And.intro rfl ?_)); (repeat' (first | exact trivial | exact rfl | apply And.intro | (refine congrArg (Value.int .i64) (w64_nat ?_); omega)))
  · obtain rfl : i = l.length := by have := of_decide_eq_false h; omega
    rw [List.take_length] at hag
    (conv => whnf); repeat (first | (refine And.intro (DrawOk.mk (by first | (simp only [List.map_cons, List.map_nil, List.nil_append, List.cons_append, List.append_nil, updsL, List.length_cons, List.length_nil]; decide +kernel) | exact rfl)) ?_; conv => whnf) | (refine And.intro rfl ?_; conv => whnf) | (refine And.intro (fun _ => ?_) (fun h => Bool.noConfusion h); conv => whnf) | (refine And.intro (fun h => Bool.noConfusion h) (fun _ => ?_); conv => whnf))
    refine Exists.intro [] (And.intro List.nodup_nil ?_); ((conv => whnf); repeat (first | (refine And.intro (DrawOk.mk (by first | (simp only [List.map_cons, List.map_nil, List.nil_append, List.cons_append, List.append_nil, updsL, List.length_cons, List.length_nil]; decide +kernel) | exact rfl)) ?_; conv => whnf) | (refine And.intro rfl ?_; conv => whnf) | (refine And.intro (fun _ => ?_) (fun h => Bool.noConfusion h); conv => whnf) | (refine And.intro (fun h => Bool.noConfusion h) (fun _ => ?_); conv => whnf)))
    rw [← hR, show agrB l = true from decide_eq_true hag]
    rfl
end Go.Proofs.Ytkpicojhnnkibaa.Ab
