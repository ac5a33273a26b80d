/- Slots of checkpoints: what the code reads from them. No condition. -/
import Derived.Test.YtkpicojhnnkibaaKd
import Derived.Test.YtkpicojhnnkibaaDd
import Derived.Test.YtkpicojhnnkibaaPs
import Derived.Test.YtkpicojhnnkibaaQe
namespace Go.Proofs.Ytkpicojhnnkibaa.Ab
set_option linter.unusedVariables false
set_option linter.unusedSimpArgs false
open Go.RowKit

theorem slot_facts {c : Cf} (hs : smallP c) : 1 ≤ lySlot c ∧ lySlot c ≤ 3 ∧ lyFirst c = 2 * lySlot c ∧ c.b + 2 ≤ lySlot c * c.s := by
  obtain ⟨z, s, b, q, d, h⟩ := c
  obtain ⟨⟨s1, s2⟩, ⟨b1, b2⟩, ⟨q1, q2⟩, ⟨d1, d2⟩, ⟨h1, h2⟩, v, v1, v2, hz⟩ := hs
  dsimp only at s1 s2 b1 b2 q1 q2 d1 d2 h1 h2 hz ⊢
  have hs' : s = 3 ∨ s = 4 ∨ s = 5 ∨ s = 6 := by omega
  have hQ : ∃ Q, Int.tdiv (b + 2 + s - 1) s = Q ∧ 1 ≤ Q ∧ Q ≤ 3 ∧ b + 2 ≤ Q * s := by
    refine ⟨_, rfl, ?_⟩
    rw [Int.tdiv_eq_ediv_of_nonneg (by omega)]
    rcases hs' with rfl | rfl | rfl | rfl <;> omega
  obtain ⟨Q, hQ, Q1, Q2, Q3⟩ := hQ
  have e1 : lySlot ⟨z, s, b, q, d, h⟩ = Q := by
    unfold lySlot
    dsimp only
    rw [show iwrap .i64 (b + 2) = b + 2 from w64_in (by omega), show iwrap .i64 (b + 2 + s) = b + 2 + s from w64_in (by omega), show iwrap .i64 (b + 2 + s - 1) = b + 2 + s - 1 from w64_in (by omega), hQ]
    exact w64_in (by omega)
  have e2 : lyFirst ⟨z, s, b, q, d, h⟩ = 2 * Q := by
    unfold lyFirst
    rw [e1]
    exact w64_in (by omega)
  rw [e1, e2]
  exact ⟨Q1, Q2, rfl, Q3⟩
/-- The zones of a slot. -/
def slotsL (S slot : Int) (n : Nat) : List Int := (List.range n).map fun (i : Nat) => slot * S + (i : Int)
theorem slotsL_succ (S slot : Int) (n : Nat) : slotsL S slot (n + 1) = slotsL S slot n ++ [slot * S + (n : Int)] := by simp [slotsL, List.range_succ]
theorem slotsL_len (S slot : Int) (n : Nat) : (slotsL S slot n).length = n := by simp [slotsL]
theorem wSnoc (a : List Int) (x : Int) : wV a ++ [[.sc (.int .i64 x)]] = wV (a ++ [x]) := by simp [wV]
theorem wLen' (a : List Int) : (wV a).length = a.length := by simp [wV]
set_option maxRecDepth 100000 in
set_option maxHeartbeats 16000000 in
theorem slotsF (c : Cf) (slot : Int) (n : Nat) (hc : cfChk c = 0) (hn : lySlot c = n) (hn2 : n ≤ 100) (hs : slot = 0 ∨ slot = 1) : Fun Try.prog 72 [cfV c, i64V slot] [] (.v (slV (wV (slotsL n slot n)))) := by
  have hof := lyOfF c
  rw [hc, show lyOf c = lyV c by unfold lyOf; rw [if_pos hc]] at hof
  unfold lyV at hof
  rw [hn] at hof
  have hsu := slotsL_succ n slot
  have hle := slotsL_len n slot
  have h0 : slotsL n slot 0 = [] := rfl
  have hmul : ∀ i : Nat, i ≤ n → iwrap .i64 (iwrap .i64 (slot * n) + (i : Int)) = slot * n + (i : Int) := by
    intro i hi
    rcases hs with rfl | rfl
    · rw [Int.zero_mul, show iwrap .i64 0 = 0 from w64_in (by decide)]
      exact w64_in (by omega)
    · rw [Int.one_mul, show iwrap .i64 (n : Int) = n from w64_in (by omega)]
      exact w64_in (by omega)
  generalize slotsL n slot = Z at hsu hle h0 ⊢
  obtain ⟨cz, cs, cb, cq, cd, ch⟩ := c
  refine fun_of_vc tabOk mixOk Try.func72 rfl (by rfl) (rs := [.tmp 4]) rfl rfl 44 ?_; rw [Try.ntmps72]
  (conv => whnf); repeat ((first | refine And.intro DrawOk.go ?_ | refine And.intro rfl ?_ | refine And.intro (fun _ => ?_) (fun h => Bool.noConfusion h) | refine And.intro (fun h => Bool.noConfusion h) (fun _ => ?_)); conv => whnf)
  refine ⟨_, _, hof, ?_⟩
  (conv => whnf); repeat ((first | refine And.intro DrawOk.go ?_ | refine And.intro rfl ?_ | refine And.intro (fun _ => ?_) (fun h => Bool.noConfusion h) | refine And.intro (fun h => Bool.noConfusion h) (fun _ => ?_)); conv => whnf)
  repeat' (first | ((refine And.intro (fun h => ?_) (fun h => ?_)) <;> (try simp at h) <;> ((conv => whnf); repeat ((first | refine And.intro DrawOk.go ?_ | refine And.intro rfl ?_ | refine And.intro (fun _ => ?_) (fun h => Bool.noConfusion h) | refine And.intro (fun h => Bool.noConfusion h) (fun _ => ?_)); conv => whnf))) | fail)
  all_goals first
    | (exfalso; omega)
    | skip
  all_goals
    refine vc_loop [1, 4, 5, 25] [5] (X := Nat) (fun i gs => [(26, ATint i), (7, .v (.c (.own 37 (gs 37))))]) (fun i gs => [(37, .row (gs 37) 3 1 (wV (Z i)))]) (fun i => i ≤ n) (fun i => n - i) _ (Ghost.ownNil 7 37 3 1 rfl (Nat.le_of_ble_eq_true rfl)) 0 (Nat.zero_le _) ?_ ?_
    · ((refine And.intro rfl (And.intro rfl ?_)); (repeat' (first | exact trivial | exact rfl | apply And.intro | (refine congrArg (Value.int .i64) (w64_nat ?_); omega))))
      all_goals exact congrArg (fun x => Blk.row _ _ _ (wV x)) h0.symm
    rintro gs i hi
    ((conv => whnf); repeat ((first | refine And.intro DrawOk.go ?_ | refine And.intro rfl ?_ | refine And.intro (fun _ => ?_) (fun h => Bool.noConfusion h) | refine And.intro (fun h => Bool.noConfusion h) (fun _ => ?_)); conv => whnf))
    refine And.intro (fun h => ?_) (fun h => ?_)
    · have hlt : i < n := by have := of_decide_eq_true h; omega
      ((conv => whnf); repeat ((first | refine And.intro DrawOk.go ?_ | refine And.intro rfl ?_ | refine And.intro (fun _ => ?_) (fun h => Bool.noConfusion h) | refine And.intro (fun h => Bool.noConfusion h) (fun _ => ?_)); conv => whnf))
      rw [hmul i (by omega)]
      refine ⟨wSz [slot * n + (i : Int)], ?_⟩
      ((conv => whnf); repeat ((first | refine And.intro DrawOk.go ?_ | refine And.intro rfl ?_ | refine And.intro (fun _ => ?_) (fun h => Bool.noConfusion h) | refine And.intro (fun h => Bool.noConfusion h) (fun _ => ?_)); conv => whnf))
      refine ⟨bytes_le (by decide) (by rw [wLen', hle]; simp; omega), ?_⟩
      ((conv => whnf); repeat ((first | refine And.intro DrawOk.go ?_ | refine And.intro rfl ?_ | refine And.intro (fun _ => ?_) (fun h => Bool.noConfusion h) | refine And.intro (fun h => Bool.noConfusion h) (fun _ => ?_)); conv => whnf))
      refine again (i + 1) hlt (by omega) ?_
      ((refine And.intro rfl (And.intro rfl ?_)); (repeat' (first | exact trivial | exact rfl | apply And.intro | (refine congrArg (Value.int .i64) (w64_nat ?_); omega))))
      all_goals exact congrArg (Blk.row _ _ _) ((wSnoc _ _).trans (congrArg wV (hsu i).symm))
    · obtain rfl : i = n := by have := of_decide_eq_false h; omega
      ((conv => whnf); repeat ((first | refine And.intro DrawOk.go ?_ | refine And.intro rfl ?_ | refine And.intro (fun _ => ?_) (fun h => Bool.noConfusion h) | refine And.intro (fun h => Bool.noConfusion h) (fun _ => ?_)); conv => whnf))
      refine Exists.intro [] (And.intro List.nodup_nil ?_); ((conv => whnf); repeat ((first | refine And.intro DrawOk.go ?_ | refine And.intro rfl ?_ | refine And.intro (fun _ => ?_) (fun h => Bool.noConfusion h) | refine And.intro (fun h => Bool.noConfusion h) (fun _ => ?_)); conv => whnf))
      rfl
set_option maxRecDepth 100000 in
set_option maxHeartbeats 16000000 in
theorem slotsF' (c : Cf) (slot : Int) (n : Nat) (hc : cfChk c = 0) (hn : lySlot c = n) (hn2 : n ≤ 100) (hs : slot = 0 ∨ slot = 1) : Fun Try.prog 47 [cfV c, i64V slot] [] (.v (slV (wV (slotsL n slot n)))) := by
  have hck := cfChkF' c
  rw [hc] at hck
  have hne : ¬ c.s = 0 := by
    intro hs
    have : cfChk c = 1 := cfChk_bad (by omega)
    omega
  have hof := shapeF' c hne
  unfold lyV at hof
  rw [hn] at hof
  have hsu := slotsL_succ n slot
  have hle := slotsL_len n slot
  have h0 : slotsL n slot 0 = [] := rfl
  have hmul : ∀ i : Nat, i ≤ n → iwrap .i64 (iwrap .i64 (slot * n) + (i : Int)) = slot * n + (i : Int) := by
    intro i hi
    rcases hs with rfl | rfl
    · rw [Int.zero_mul, show iwrap .i64 0 = 0 from w64_in (by decide)]
      exact w64_in (by omega)
    · rw [Int.one_mul, show iwrap .i64 (n : Int) = n from w64_in (by omega)]
      exact w64_in (by omega)
  generalize slotsL n slot = Z at hsu hle h0 ⊢
  obtain ⟨cz, cs, cb, cq, cd, ch⟩ := c
  refine fun_of_vc tabOk mixOk Try.func47 rfl (by rfl) (rs := [.tmp 4]) rfl rfl 40 ?_; rw [Try.ntmps47]
  (conv => whnf); repeat ((first | refine And.intro DrawOk.go ?_ | refine And.intro rfl ?_ | refine And.intro (fun _ => ?_) (fun h => Bool.noConfusion h) | refine And.intro (fun h => Bool.noConfusion h) (fun _ => ?_)); conv => whnf)
  repeat' (first | ((refine And.intro (fun h => ?_) (fun h => ?_)) <;> (try simp at h) <;> ((conv => whnf); repeat ((first | refine And.intro DrawOk.go ?_ | refine And.intro rfl ?_ | refine And.intro (fun _ => ?_) (fun h => Bool.noConfusion h) | refine And.intro (fun h => Bool.noConfusion h) (fun _ => ?_)); conv => whnf))) | (refine ⟨_, _, hck, ?_⟩; ((conv => whnf); repeat ((first | refine And.intro DrawOk.go ?_ | refine And.intro rfl ?_ | refine And.intro (fun _ => ?_) (fun h => Bool.noConfusion h) | refine And.intro (fun h => Bool.noConfusion h) (fun _ => ?_)); conv => whnf))) | (refine ⟨_, _, hof, ?_⟩; ((conv => whnf); repeat ((first | refine And.intro DrawOk.go ?_ | refine And.intro rfl ?_ | refine And.intro (fun _ => ?_) (fun h => Bool.noConfusion h) | refine And.intro (fun h => Bool.noConfusion h) (fun _ => ?_)); conv => whnf))) | fail)
  all_goals first
    | (exfalso; omega)
    | skip
  all_goals
    refine vc_loop [1, 4, 6] [] (X := Nat) (fun i gs => [(7, ATint i), (5, .v (.c (.own 34 (gs 34))))]) (fun i gs => [(34, .row (gs 34) 3 1 (wV (Z i)))]) (fun i => i ≤ n) (fun i => n - i) _ (Ghost.ownNil 5 34 3 1 rfl (Nat.le_of_ble_eq_true rfl)) 0 (Nat.zero_le _) ?_ ?_
    · ((refine And.intro rfl (And.intro rfl ?_)); (repeat' (first | exact trivial | exact rfl | apply And.intro | (refine congrArg (Value.int .i64) (w64_nat ?_); omega))))
      all_goals exact congrArg (fun x => Blk.row _ _ _ (wV x)) h0.symm
    rintro gs i hi
    ((conv => whnf); repeat ((first | refine And.intro DrawOk.go ?_ | refine And.intro rfl ?_ | refine And.intro (fun _ => ?_) (fun h => Bool.noConfusion h) | refine And.intro (fun h => Bool.noConfusion h) (fun _ => ?_)); conv => whnf))
    refine And.intro (fun h => ?_) (fun h => ?_)
    · have hlt : i < n := by have := of_decide_eq_true h; omega
      ((conv => whnf); repeat ((first | refine And.intro DrawOk.go ?_ | refine And.intro rfl ?_ | refine And.intro (fun _ => ?_) (fun h => Bool.noConfusion h) | refine And.intro (fun h => Bool.noConfusion h) (fun _ => ?_)); conv => whnf))
      rw [hmul i (by omega)]
      refine ⟨wSz [slot * n + (i : Int)], ?_⟩
      ((conv => whnf); repeat ((first | refine And.intro DrawOk.go ?_ | refine And.intro rfl ?_ | refine And.intro (fun _ => ?_) (fun h => Bool.noConfusion h) | refine And.intro (fun h => Bool.noConfusion h) (fun _ => ?_)); conv => whnf))
      refine ⟨bytes_le (by decide) (by rw [wLen', hle]; simp; omega), ?_⟩
      ((conv => whnf); repeat ((first | refine And.intro DrawOk.go ?_ | refine And.intro rfl ?_ | refine And.intro (fun _ => ?_) (fun h => Bool.noConfusion h) | refine And.intro (fun h => Bool.noConfusion h) (fun _ => ?_)); conv => whnf))
      refine again (i + 1) hlt (by omega) ?_
      ((refine And.intro rfl (And.intro rfl ?_)); (repeat' (first | exact trivial | exact rfl | apply And.intro | (refine congrArg (Value.int .i64) (w64_nat ?_); omega))))
      all_goals exact congrArg (Blk.row _ _ _) ((wSnoc _ _).trans (congrArg wV (hsu i).symm))
    · obtain rfl : i = n := by have := of_decide_eq_false h; omega
      ((conv => whnf); repeat ((first | refine And.intro DrawOk.go ?_ | refine And.intro rfl ?_ | refine And.intro (fun _ => ?_) (fun h => Bool.noConfusion h) | refine And.intro (fun h => Bool.noConfusion h) (fun _ => ?_)); conv => whnf))
      refine Exists.intro [] (And.intro List.nodup_nil ?_); ((conv => whnf); repeat ((first | refine And.intro DrawOk.go ?_ | refine And.intro rfl ?_ | refine And.intro (fun _ => ?_) (fun h => Bool.noConfusion h) | refine And.intro (fun h => Bool.noConfusion h) (fun _ => ?_)); conv => whnf))
      rfl
/-- The records of sectors, up to the first foot. -/
def recGo : List Rec → List ByteArray → List Rec × Bool
  | _, [] => ([], false)
  | acc, s :: l => if (rdec s).2 ≠ 0 then ([], false) else if (rdec s).1.k = 6 then (acc ++ [(rdec s).1], true) else recGo (acc ++ [(rdec s).1]) l
def secs (zs : List Zn) (Z : List Int) : List ByteArray := (Z.map fun z => match zs[z.toNat]? with | some x => x.ss | none => []).flatten
theorem secs_cons {zs : List Zn} {z : Int} {Z : List Int} {k : Nat} (hz : z = k) (hk : k < zs.length) : secs zs (z :: Z) = zs[k].ss ++ secs zs Z := by
  unfold secs
  rw [List.map_cons, List.flatten_cons, hz, Int.toNat_natCast, List.getElem?_eq_getElem hk]
end Go.Proofs.Ytkpicojhnnkibaa.Ab
namespace Go.Proofs.Ytkpicojhnnkibaa.Ab
set_option linter.unusedVariables false
set_option linter.unusedSimpArgs false
open Go.RowKit

theorem rdec_pay {s : ByteArray} (h : (rdec s).2 = 0) : (rdec s).1.p.size ≤ 20 := by
  unfold rdec at h ⊢
  split at h
  · cases h
  rename_i h1
  split at h
  · cases h
  rename_i h2
  split at h
  · rename_i h3
    rw [if_neg h1, if_neg h2, if_pos h3]
    exact (rchk_ok h3.1).2.2.2.2.1
  · cases h
theorem recGo_pay (l : List ByteArray) : ∀ (acc : List Rec), (∀ r ∈ acc, r.p.size ≤ 20) → (∀ r ∈ (recGo acc l).1, r.p.size ≤ 20) ∧ (recGo acc l).1.length ≤ acc.length + l.length := by
  induction l with
  | nil => intro acc _; exact ⟨fun r hr => (by cases hr), (by simp [recGo])⟩
  | cons s l ih =>
    intro acc ha
    rw [recGo]
    split
    · exact ⟨fun r hr => (by cases hr), by simp⟩
    · rename_i h
      have hs : (rdec s).1.p.size ≤ 20 := rdec_pay (by simpa using h)
      have ha' : ∀ r ∈ acc ++ [(rdec s).1], r.p.size ≤ 20 := fun r hr => by
        rcases List.mem_append.1 hr with hr | hr
        · exact ha r hr
        · rw [List.mem_singleton] at hr; rw [hr]; exact hs
      split
      · exact ⟨ha', by simp⟩
      · obtain ⟨h1, h2⟩ := ih (acc ++ [(rdec s).1]) ha'
        refine ⟨h1, Nat.le_trans h2 ?_⟩
        simp
        omega
def zSecs (zs : List Zn) (z : Int) : List ByteArray := match zs[z.toNat]? with
  | some x => x.ss
  | none => []
theorem zSecs_len {zs : List Zn} {z : Int} {M : Nat} (hz : ∀ x ∈ zs, x.ss.length ≤ M) : (zSecs zs z).length ≤ M := by
  unfold zSecs
  split
  · rename_i x hx
    exact hz x (List.mem_of_getElem? hx)
  · exact Nat.zero_le _
theorem secs_len {zs : List Zn} {Z : List Int} {M : Nat} (hz : ∀ x ∈ zs, x.ss.length ≤ M) : (secs zs Z).length ≤ Z.length * M := by
  induction Z with
  | nil => simp [secs]
  | cons z Z ih =>
    have e : secs zs (z :: Z) = zSecs zs z ++ secs zs Z := by unfold secs zSecs; rw [List.map_cons, List.flatten_cons]; try rfl
    have h2 := zSecs_len (z := z) hz
    rw [e, List.length_append, List.length_cons, Nat.succ_mul]
    omega
theorem loop_abs {B : St → (Ex → St → Prop) → Prop} {S : St} {Q : Ex → St → Prop} (h : ∀ Q', Q' = Q → LoopVC B S Q') : LoopVC B S Q := h Q rfl
set_option maxRecDepth 100000 in
set_option maxHeartbeats 16000000 in
theorem recordsF (s mo ma : Int) (zs : List Zn) (Z : List Int) (hl : zs.length ≤ 1000) (hz : ∀ x ∈ zs, x.ss.length ≤ 1000 ∧ ∀ y ∈ x.ss, y.size ≤ 1000000) (hZl : Z.length ≤ 100) (hZ : ∀ z ∈ Z, 0 ≤ z ∧ z < zs.length) :
    Fun Try.prog 73 [dvA s mo ma zs, slV (wV Z)] [] (.tup [slV (rR (recGo [] (secs zs Z)).1), bV (recGo [] (secs zs Z)).2]) := by
  have hzl := zLen zs
  have hwl := wLen' Z
  generalize hR : recGo [] (secs zs Z) = R
  refine fun_of_vc (tabXOk [2000049]) mixOk Try.func73 rfl (by rfl) (rs := [.tmp 4, .tmp 5]) rfl rfl 50 ?_; rw [Try.ntmps73]
  (conv => whnf); repeat ((first | refine And.intro DrawOk.go ?_ | refine And.intro rfl ?_ | refine And.intro (fun _ => ?_) (fun h => Bool.noConfusion h) | refine And.intro (fun h => Bool.noConfusion h) (fun _ => ?_)); conv => whnf)
  refine vc_loop [2, 12, 13] [2] (X := Nat × List Rec) (fun x gs => [(14, ATint x.1), (4, .v (.c (.own 39 (gs 39))))]) (fun x gs => [(39, .row (gs 39) 27 5 (rR x.2))]) (fun x => x.1 ≤ Z.length ∧ R = recGo x.2 (secs zs (Z.drop x.1)) ∧ x.2.length ≤ x.1 * 1000) (fun x => Z.length - x.1) _ (Ghost.ownNil 4 39 27 5 rfl (Nat.le_of_ble_eq_true rfl)) (0, []) ⟨Nat.zero_le _, hR.symm, Nat.zero_le _⟩ ?_ ?_
  · (refine And.intro rfl (And.intro rfl ?_)); (repeat' (first | exact trivial | exact rfl | apply And.intro | (refine congrArg (Value.int .i64) (w64_nat ?_); omega)))
  rintro gs ⟨i, acc⟩ ⟨hi, he, hal⟩
  dsimp only at hi he hal ⊢
  clear hR
  (conv => whnf); repeat ((first | refine And.intro DrawOk.go ?_ | refine And.intro rfl ?_ | refine And.intro (fun _ => ?_) (fun h => Bool.noConfusion h) | refine And.intro (fun h => Bool.noConfusion h) (fun _ => ?_)); conv => whnf)
  refine And.intro (fun h => ?_) (fun h => ?_)
  · have hlt : i < Z.length := by have := of_decide_eq_true h; omega
    obtain ⟨hz0, hz1⟩ := hZ _ (List.getElem_mem hlt)
    obtain ⟨k, hk⟩ : ∃ k : Nat, Z[i] = k := ⟨Z[i].toNat, by omega⟩
    have hkl : k < zs.length := by omega
    rw [List.drop_eq_getElem_cons hlt, secs_cons hk hkl] at he
    have hit := wItem hlt
    rw [hk] at hit
    have hit2 := zItem hkl
    obtain ⟨hs1, hs2⟩ := hz _ (List.getElem_mem hkl)
    generalize hre : secs zs (Z.drop (i + 1)) = rest at he
    generalize zs[k] = x at he hit2 hs1 hs2
    obtain ⟨st, du, ss⟩ := x
    dsimp only at he hs1 hs2
    replace hit2 : (zR zs)[((k : Int)).toNat]? = some [IV.sc (.int .i64 st), IV.sc (.int .i64 du), IV.sl (sV ss)] := hit2
    (conv => whnf); repeat ((first | refine And.intro DrawOk.go ?_ | refine And.intro rfl ?_ | refine And.intro (fun _ => ?_) (fun h => Bool.noConfusion h) | refine And.intro (fun h => Bool.noConfusion h) (fun _ => ?_)); conv => whnf)
    refine ⟨by omega, _, hit, rfl, ?_⟩
    (conv => whnf); repeat ((first | refine And.intro DrawOk.go ?_ | refine And.intro rfl ?_ | refine And.intro (fun _ => ?_) (fun h => Bool.noConfusion h) | refine And.intro (fun h => Bool.noConfusion h) (fun _ => ?_)); conv => whnf)
    refine ⟨by omega, _, hit2, rfl, ?_⟩
    (conv => whnf); repeat ((first | refine And.intro DrawOk.go ?_ | refine And.intro rfl ?_ | refine And.intro (fun _ => ?_) (fun h => Bool.noConfusion h) | refine And.intro (fun h => Bool.noConfusion h) (fun _ => ?_)); conv => whnf)
    obtain ⟨M0, hM0⟩ : ∃ M0, M0 = i * 1000 := ⟨_, rfl⟩
    rw [← hM0] at hal
    refine loop_abs (fun Q' hQ' => ?_)
    refine vc_loop [2, 12, 13, 14, 23, 24] [2] (X := Nat × List Rec) (fun x gs => [(25, ATint x.1), (4, .v (.c (.own 39 (gs 39))))]) (fun x gs => [(39, .row (gs 39) 27 5 (rR x.2))]) (fun x => x.1 ≤ ss.length ∧ R = recGo x.2 (ss.drop x.1 ++ rest) ∧ x.2.length ≤ M0 + x.1) (fun x => ss.length - x.1) _ (Ghost.refl _) (0, acc) ⟨Nat.zero_le _, by rw [List.drop_zero]; exact he, by dsimp only; omega⟩ ?_ ?_
    · (refine And.intro rfl (And.intro rfl ?_)); (repeat' (first | exact trivial | exact rfl | apply And.intro | (refine congrArg (Value.int .i64) (w64_nat ?_); omega)))
    intro gs2 x hx
    have hj : x.1 ≤ ss.length := hx.1
    have he2 : R = recGo x.2 (ss.drop x.1 ++ rest) := hx.2.1
    have ha2 : x.2.length ≤ M0 + x.1 := hx.2.2
    clear hx
    obtain ⟨j, a2⟩ := x
    dsimp only at hj he2 ha2
    have hi100 : M0 ≤ 100000 := hM0 ▸ Nat.le_trans (Nat.mul_le_mul_right 1000 (show i ≤ 100 by omega)) (by decide)
    (conv => whnf); repeat ((first | refine And.intro DrawOk.go ?_ | refine And.intro rfl ?_ | refine And.intro (fun _ => ?_) (fun h => Bool.noConfusion h) | refine And.intro (fun h => Bool.noConfusion h) (fun _ => ?_)); conv => whnf)
    refine And.intro (fun h2 => ?_) (fun h2 => ?_)
    · have hlj : j < ss.length := by have := of_decide_eq_true h2; rw [sLen] at this; omega
      rw [List.drop_eq_getElem_cons hlj, List.cons_append, recGo] at he2
      have hd := rdecF ss[j] (hs2 _ (List.getElem_mem hlj))
      have hit3 := sItem hlj
      generalize rdec ss[j] = D at he2 hd
      obtain ⟨⟨rk, rb, rv, rm, rp⟩, e⟩ := D
      dsimp only at he2 hd
      (conv => whnf); repeat ((first | refine And.intro DrawOk.go ?_ | refine And.intro rfl ?_ | refine And.intro (fun _ => ?_) (fun h => Bool.noConfusion h) | refine And.intro (fun h => Bool.noConfusion h) (fun _ => ?_)); conv => whnf)
      refine ⟨by omega, _, hit3, rfl, ?_⟩
      (conv => whnf); repeat ((first | refine And.intro DrawOk.go ?_ | refine And.intro rfl ?_ | refine And.intro (fun _ => ?_) (fun h => Bool.noConfusion h) | refine And.intro (fun h => Bool.noConfusion h) (fun _ => ?_)); conv => whnf)
      refine ⟨_, _, hd, ?_⟩
      by_cases g : e = 0
      rotate_left
      · rw [if_pos g] at he2
        subst he2
        (conv => whnf); repeat ((first | refine And.intro DrawOk.go ?_ | refine And.intro rfl ?_ | refine And.intro (fun _ => ?_) (fun h => Bool.noConfusion h) | refine And.intro (fun h => Bool.noConfusion h) (fun _ => ?_)); conv => whnf)
        refine And.intro (fun h => ?_) (fun h => absurd h (by simp [g]))
        (conv => whnf); repeat ((first | refine And.intro DrawOk.go ?_ | refine And.intro rfl ?_ | refine And.intro (fun _ => ?_) (fun h => Bool.noConfusion h) | refine And.intro (fun h => Bool.noConfusion h) (fun _ => ?_)); conv => whnf)
        rw [hQ']
        (conv => whnf); repeat ((first | refine And.intro DrawOk.go ?_ | refine And.intro rfl ?_ | refine And.intro (fun _ => ?_) (fun h => Bool.noConfusion h) | refine And.intro (fun h => Bool.noConfusion h) (fun _ => ?_)); conv => whnf)
        refine Exists.intro [] (And.intro List.nodup_nil ?_); ((conv => whnf); repeat ((first | refine And.intro DrawOk.go ?_ | refine And.intro rfl ?_ | refine And.intro (fun _ => ?_) (fun h => Bool.noConfusion h) | refine And.intro (fun h => Bool.noConfusion h) (fun _ => ?_)); conv => whnf))
        rfl
      rw [if_neg (fun h => h g)] at he2
      subst g
      (conv => whnf); repeat ((first | refine And.intro DrawOk.go ?_ | refine And.intro rfl ?_ | refine And.intro (fun _ => ?_) (fun h => Bool.noConfusion h) | refine And.intro (fun h => Bool.noConfusion h) (fun _ => ?_)); conv => whnf)
      refine ⟨_, caddA a2 [⟨rk, rb, rv, rm, rp⟩] (by simp; omega), rScI _, ?_⟩
      (conv => whnf); repeat ((first | refine And.intro DrawOk.go ?_ | refine And.intro rfl ?_ | refine And.intro (fun _ => ?_) (fun h => Bool.noConfusion h) | refine And.intro (fun h => Bool.noConfusion h) (fun _ => ?_)); conv => whnf)
      by_cases g6 : rk = 6
      · rw [if_pos g6] at he2
        subst he2
        refine And.intro (fun _ => ?_) (fun h => absurd h (by simp [g6]))
        (conv => whnf); repeat ((first | refine And.intro DrawOk.go ?_ | refine And.intro rfl ?_ | refine And.intro (fun _ => ?_) (fun h => Bool.noConfusion h) | refine And.intro (fun h => Bool.noConfusion h) (fun _ => ?_)); conv => whnf)
        rw [hQ']
        (conv => whnf); repeat ((first | refine And.intro DrawOk.go ?_ | refine And.intro rfl ?_ | refine And.intro (fun _ => ?_) (fun h => Bool.noConfusion h) | refine And.intro (fun h => Bool.noConfusion h) (fun _ => ?_)); conv => whnf)
        refine Exists.intro [] (And.intro List.nodup_nil ?_); ((conv => whnf); repeat ((first | refine And.intro DrawOk.go ?_ | refine And.intro rfl ?_ | refine And.intro (fun _ => ?_) (fun h => Bool.noConfusion h) | refine And.intro (fun h => Bool.noConfusion h) (fun _ => ?_)); conv => whnf))
        rfl
      · rw [if_neg g6] at he2
        refine And.intro (fun h => absurd (by simpa using h) g6) (fun _ => ?_)
        (conv => whnf); repeat ((first | refine And.intro DrawOk.go ?_ | refine And.intro rfl ?_ | refine And.intro (fun _ => ?_) (fun h => Bool.noConfusion h) | refine And.intro (fun h => Bool.noConfusion h) (fun _ => ?_)); conv => whnf)
        refine again (j + 1, a2 ++ [⟨rk, rb, rv, rm, rp⟩]) ⟨hlj, he2, by dsimp only; simp; omega⟩ (by dsimp only; omega) ?_
        (refine And.intro rfl (And.intro rfl ?_)); (repeat' (first | exact trivial | exact rfl | apply And.intro | (refine congrArg (Value.int .i64) (w64_nat ?_); omega)))
    · obtain rfl : j = ss.length := by have := of_decide_eq_false h2; rw [sLen] at this; omega
      rw [List.drop_length, List.nil_append] at he2
      (conv => whnf); repeat ((first | refine And.intro DrawOk.go ?_ | refine And.intro rfl ?_ | refine And.intro (fun _ => ?_) (fun h => Bool.noConfusion h) | refine And.intro (fun h => Bool.noConfusion h) (fun _ => ?_)); conv => whnf)
      rw [hQ']
      (conv => whnf); repeat ((first | refine And.intro DrawOk.go ?_ | refine And.intro rfl ?_ | refine And.intro (fun _ => ?_) (fun h => Bool.noConfusion h) | refine And.intro (fun h => Bool.noConfusion h) (fun _ => ?_)); conv => whnf)
      refine again (i + 1, a2) ⟨hlt, by rw [hre]; exact he2, by dsimp only; omega⟩ (by dsimp only; omega) ?_
      (refine And.intro rfl (And.intro rfl ?_)); (repeat' (first | exact trivial | exact rfl | apply And.intro | (refine congrArg (Value.int .i64) (w64_nat ?_); omega)))
  · obtain rfl : i = Z.length := by have := of_decide_eq_false h; omega
    rw [List.drop_length] at he
    have he' : R = ([], false) := he
    subst he'
    (conv => whnf); repeat ((first | refine And.intro DrawOk.go ?_ | refine And.intro rfl ?_ | refine And.intro (fun _ => ?_) (fun h => Bool.noConfusion h) | refine And.intro (fun h => Bool.noConfusion h) (fun _ => ?_)); conv => whnf)
    refine Exists.intro [] (And.intro List.nodup_nil ?_); ((conv => whnf); repeat ((first | refine And.intro DrawOk.go ?_ | refine And.intro rfl ?_ | refine And.intro (fun _ => ?_) (fun h => Bool.noConfusion h) | refine And.intro (fun h => Bool.noConfusion h) (fun _ => ?_)); conv => whnf))
    rfl
def lastB (es : List Ety) (cb : Int) : Bool := match es.getLast? with
  | some e => decide (e.b ≥ cb)
  | none => false
theorem lastB_nil (cb : Int) : lastB [] cb = false := rfl
theorem lastB_snoc (es : List Ety) (e : Ety) (cb : Int) : lastB (es ++ [e]) cb = decide (e.b ≥ cb) := by simp [lastB]
def wholeC (cb : Int) (D : Bse × Int) : Bse × Int := if D.2 = 0 ∧ (D.1.es.length : Int) ≤ cb ∧ lastB D.1.es cb = false then (D.1, 0) else (b0, 3)
def cread (n : Nat) (cb : Int) (zs : List Zn) (slot : Int) : Bse × Int :=
  if ¬ (slot = 0 ∨ slot = 1) then (b0, 1)
  else if slot * n + n > zs.length then (b0, 5)
  else if (recGo [] (secs zs (slotsL n slot n))).2 = true then wholeC cb (cdecode (recGo [] (secs zs (slotsL n slot n))).1) else (b0, 3)
theorem cdecode_len (l : List Rec) : (cdecode l).1.es.length ≤ l.length := by
  unfold cdecode
  split
  · split
    · rw [cand_es]
      simp only [List.length_cons]
      omega
    · simp [b0]
  · simp [b0]
theorem slots_get {n : Nat} {slot : Int} {i : Nat} (h : i < n) : (slotsL n slot n)[i]'(by rw [slotsL_len]; exact h) = slot * n + (i : Int) := by simp [slotsL]
set_option maxRecDepth 100000 in
set_option maxHeartbeats 32000000 in
theorem creadF (c : Cf) (s mo ma : Int) (zs : List Zn) (slot : Int) (n : Nat) (hc : cfChk c = 0) (hn : lySlot c = n) (hn1 : 1 ≤ n) (hn2 : n ≤ 100) (hl : zs.length ≤ 1000) (hz : ∀ x ∈ zs, x.ss.length ≤ 1000 ∧ ∀ y ∈ x.ss, y.size ≤ 1000000) :
    Fun Try.prog 41 [cfV c, dvA s mo ma zs, i64V slot] [] (.tup [bseV (cread n c.b zs slot).1, i64V (cread n c.b zs slot).2]) := by
  have hck := cfChkF c
  rw [hc] at hck
  have hzl := zLen zs
  by_cases hs : slot = 0 ∨ slot = 1
  rotate_left
  · have hR : cread n c.b zs slot = (b0, 1) := by unfold cread; rw [if_pos hs]
    rw [hR]
    obtain ⟨cz, cs, cb, cq, cd, ch⟩ := c
    refine fun_of_vc tabOk mixOk Try.func41 rfl (by rfl) (rs := [.cell 6 24, .tmp 7]) rfl rfl 95 ?_; rw [Try.ntmps41]
    (conv => whnf); repeat ((first | refine And.intro DrawOk.go ?_ | refine And.intro rfl ?_ | refine And.intro (fun _ => ?_) (fun h => Bool.noConfusion h) | refine And.intro (fun h => Bool.noConfusion h) (fun _ => ?_)); conv => whnf)
    repeat' (first | ((refine And.intro (fun h => ?_) (fun h => ?_)) <;> (try simp at h) <;> ((conv => whnf); repeat ((first | refine And.intro DrawOk.go ?_ | refine And.intro rfl ?_ | refine And.intro (fun _ => ?_) (fun h => Bool.noConfusion h) | refine And.intro (fun h => Bool.noConfusion h) (fun _ => ?_)); conv => whnf))) | (refine ⟨_, _, hck, ?_⟩; ((conv => whnf); repeat ((first | refine And.intro DrawOk.go ?_ | refine And.intro rfl ?_ | refine And.intro (fun _ => ?_) (fun h => Bool.noConfusion h) | refine And.intro (fun h => Bool.noConfusion h) (fun _ => ?_)); conv => whnf))) | fail)
    all_goals first
      | (exfalso; omega)
      | (refine Exists.intro [] (And.intro List.nodup_nil ?_); ((conv => whnf); repeat ((first | refine And.intro DrawOk.go ?_ | refine And.intro rfl ?_ | refine And.intro (fun _ => ?_) (fun h => Bool.noConfusion h) | refine And.intro (fun h => Bool.noConfusion h) (fun _ => ?_)); conv => whnf))
         rfl)
  have hsl := slotsF c slot n hc hn hn2 hs
  have hget : ∀ i (h : i < n), (wV (slotsL n slot n))[((i : Int)).toNat]? = some [IV.sc (.int .i64 (slot * n + (i : Int)))] := by
    intro i h
    rw [wItem (by rw [slotsL_len]; exact h), slots_get h]
  have hwl : (wV (slotsL n slot n)).length = n := by rw [wLen', slotsL_len]
  have hs0 : 0 ≤ slot * n ∧ slot * n ≤ n := by rcases hs with rfl | rfl <;> omega
  by_cases h5 : slot * n + n > zs.length
  · have hR : cread n c.b zs slot = (b0, 5) := by unfold cread; rw [if_neg (fun h => h hs), if_pos h5]
    rw [hR]
    generalize slotsL n slot n = Z at hsl hget hwl
    generalize slot * (n : Int) = B at hget hs0 h5
    obtain ⟨cz, cs, cb, cq, cd, ch⟩ := c
    refine fun_of_vc tabOk mixOk Try.func41 rfl (by rfl) (rs := [.cell 6 24, .tmp 7]) rfl rfl 95 ?_; rw [Try.ntmps41]
    (conv => whnf); repeat ((first | refine And.intro DrawOk.go ?_ | refine And.intro rfl ?_ | refine And.intro (fun _ => ?_) (fun h => Bool.noConfusion h) | refine And.intro (fun h => Bool.noConfusion h) (fun _ => ?_)); conv => whnf)
    repeat' (first | ((refine And.intro (fun h => ?_) (fun h => ?_)) <;> (try simp at h) <;> ((conv => whnf); repeat ((first | refine And.intro DrawOk.go ?_ | refine And.intro rfl ?_ | refine And.intro (fun _ => ?_) (fun h => Bool.noConfusion h) | refine And.intro (fun h => Bool.noConfusion h) (fun _ => ?_)); conv => whnf))) | (refine ⟨_, _, hck, ?_⟩; ((conv => whnf); repeat ((first | refine And.intro DrawOk.go ?_ | refine And.intro rfl ?_ | refine And.intro (fun _ => ?_) (fun h => Bool.noConfusion h) | refine And.intro (fun h => Bool.noConfusion h) (fun _ => ?_)); conv => whnf))) | (refine ⟨_, _, hsl, ?_⟩; ((conv => whnf); repeat ((first | refine And.intro DrawOk.go ?_ | refine And.intro rfl ?_ | refine And.intro (fun _ => ?_) (fun h => Bool.noConfusion h) | refine And.intro (fun h => Bool.noConfusion h) (fun _ => ?_)); conv => whnf))) | fail)
    all_goals first
      | (exfalso; omega)
      | skip
    all_goals
      refine vc_loop [3, 4, 6, 9, 32, 33] [3, 4, 6] (X := Nat) (fun i gs => [(34, ATint i)]) (fun i gs => []) (fun i => i ≤ n ∧ (i = 0 ∨ B + (i : Int) ≤ zs.length)) (fun i => n - i) _ (Ghost.refl _) 0 ⟨Nat.zero_le _, Or.inl rfl⟩ ?_ ?_
      · ((refine And.intro rfl (And.intro rfl ?_)); (repeat' (first | exact trivial | exact rfl | apply And.intro | (refine congrArg (Value.int .i64) (w64_nat ?_); omega))))
      rintro gs i ⟨hi, hi2⟩
      ((conv => whnf); repeat ((first | refine And.intro DrawOk.go ?_ | refine And.intro rfl ?_ | refine And.intro (fun _ => ?_) (fun h => Bool.noConfusion h) | refine And.intro (fun h => Bool.noConfusion h) (fun _ => ?_)); conv => whnf))
      refine And.intro (fun h => ?_) (fun h => by have := of_decide_eq_false h; omega)
      have hlt : i < n := by have := of_decide_eq_true h; omega
      have hit := hget i hlt
      ((conv => whnf); repeat ((first | refine And.intro DrawOk.go ?_ | refine And.intro rfl ?_ | refine And.intro (fun _ => ?_) (fun h => Bool.noConfusion h) | refine And.intro (fun h => Bool.noConfusion h) (fun _ => ?_)); conv => whnf))
      refine ⟨by omega, _, hit, rfl, ?_⟩
      ((conv => whnf); repeat ((first | refine And.intro DrawOk.go ?_ | refine And.intro rfl ?_ | refine And.intro (fun _ => ?_) (fun h => Bool.noConfusion h) | refine And.intro (fun h => Bool.noConfusion h) (fun _ => ?_)); conv => whnf))
      refine And.intro (fun h2 => ?_) (fun h2 => ?_)
      · ((conv => whnf); repeat ((first | refine And.intro DrawOk.go ?_ | refine And.intro rfl ?_ | refine And.intro (fun _ => ?_) (fun h => Bool.noConfusion h) | refine And.intro (fun h => Bool.noConfusion h) (fun _ => ?_)); conv => whnf))
        refine Exists.intro [] (And.intro List.nodup_nil ?_); ((conv => whnf); repeat ((first | refine And.intro DrawOk.go ?_ | refine And.intro rfl ?_ | refine And.intro (fun _ => ?_) (fun h => Bool.noConfusion h) | refine And.intro (fun h => Bool.noConfusion h) (fun _ => ?_)); conv => whnf))
        rfl
      · have h2' := of_decide_eq_false h2
        ((conv => whnf); repeat ((first | refine And.intro DrawOk.go ?_ | refine And.intro rfl ?_ | refine And.intro (fun _ => ?_) (fun h => Bool.noConfusion h) | refine And.intro (fun h => Bool.noConfusion h) (fun _ => ?_)); conv => whnf))
        refine again (i + 1) ⟨hlt, Or.inr (by omega)⟩ (by omega) ?_
        ((refine And.intro rfl (And.intro rfl ?_)); (repeat' (first | exact trivial | exact rfl | apply And.intro | (refine congrArg (Value.int .i64) (w64_nat ?_); omega))))
  have hrec := recordsF s mo ma zs (slotsL n slot n) hl hz (by rw [slotsL_len]; exact hn2) (fun z hz => by
    obtain ⟨i, hi, rfl⟩ := List.mem_map.1 hz
    have := List.mem_range.1 hi
    omega)
  have hpay := recGo_pay (secs zs (slotsL n slot n)) [] (fun r hr => by cases hr)
  have hsec := secs_len (Z := slotsL n slot n) (fun x hx => (hz x hx).1)
  rw [slotsL_len] at hsec
  have hR : cread n c.b zs slot = if (recGo [] (secs zs (slotsL n slot n))).2 = true then wholeC c.b (cdecode (recGo [] (secs zs (slotsL n slot n))).1) else (b0, 3) := by unfold cread; rw [if_neg (fun h => h hs), if_neg h5]
  generalize recGo [] (secs zs (slotsL n slot n)) = G at hrec hpay hR
  obtain ⟨l, ok⟩ := G
  dsimp only at hrec hpay hR
  have hn100 : n * 1000 ≤ 100000 := Nat.le_trans (Nat.mul_le_mul_right 1000 hn2) (by decide)
  have hll : l.length ≤ 100000 := by have := hpay.2; simp at this; omega
  have hdec := cdecF l (by omega) (fun r hr => by have := hpay.1 r hr; omega)
  have hdl := cdecode_len l
  generalize cdecode l = D at hdec hdl hR
  generalize hRR : cread n c.b zs slot = RR at hR ⊢
  clear hRR hz
  have hlt : ∀ i : Nat, i < n → ¬ (slot * n + (i : Int) ≥ zs.length) := fun i hi => by omega
  generalize slotsL n slot n = Z at hsl hget hwl hrec
  generalize slot * (n : Int) = B at hget hs0 h5 hlt
  obtain ⟨cz, cs, cb, cq, cd, ch⟩ := c
  dsimp only at hR
  refine fun_of_vc tabOk mixOk Try.func41 rfl (by rfl) (rs := [.cell 6 24, .tmp 7]) rfl rfl 95 ?_; rw [Try.ntmps41]
  (conv => whnf); repeat ((first | refine And.intro DrawOk.go ?_ | refine And.intro rfl ?_ | refine And.intro (fun _ => ?_) (fun h => Bool.noConfusion h) | refine And.intro (fun h => Bool.noConfusion h) (fun _ => ?_)); conv => whnf)
  repeat' (first | ((refine And.intro (fun h => ?_) (fun h => ?_)) <;> (try simp at h) <;> ((conv => whnf); repeat ((first | refine And.intro DrawOk.go ?_ | refine And.intro rfl ?_ | refine And.intro (fun _ => ?_) (fun h => Bool.noConfusion h) | refine And.intro (fun h => Bool.noConfusion h) (fun _ => ?_)); conv => whnf))) | (refine ⟨_, _, hck, ?_⟩; ((conv => whnf); repeat ((first | refine And.intro DrawOk.go ?_ | refine And.intro rfl ?_ | refine And.intro (fun _ => ?_) (fun h => Bool.noConfusion h) | refine And.intro (fun h => Bool.noConfusion h) (fun _ => ?_)); conv => whnf))) | (refine ⟨_, _, hsl, ?_⟩; ((conv => whnf); repeat ((first | refine And.intro DrawOk.go ?_ | refine And.intro rfl ?_ | refine And.intro (fun _ => ?_) (fun h => Bool.noConfusion h) | refine And.intro (fun h => Bool.noConfusion h) (fun _ => ?_)); conv => whnf))) | fail)
  all_goals first
    | (exfalso; omega)
    | skip
  all_goals
    refine vc_loop [3, 4, 6, 9, 32, 33] [3, 4, 6] (X := Nat) (fun i gs => [(34, ATint i)]) (fun i gs => []) (fun i => i ≤ n) (fun i => n - i) _ (Ghost.refl _) 0 (Nat.zero_le _) ?_ ?_
    · ((refine And.intro rfl (And.intro rfl ?_)); (repeat' (first | exact trivial | exact rfl | apply And.intro | (refine congrArg (Value.int .i64) (w64_nat ?_); omega))))
    rintro gs i hi
    ((conv => whnf); repeat ((first | refine And.intro DrawOk.go ?_ | refine And.intro rfl ?_ | refine And.intro (fun _ => ?_) (fun h => Bool.noConfusion h) | refine And.intro (fun h => Bool.noConfusion h) (fun _ => ?_)); conv => whnf))
    refine And.intro (fun h => ?_) (fun h => ?_)
    · have hin : i < n := by have := of_decide_eq_true h; omega
      have hit := hget i hin
      ((conv => whnf); repeat ((first | refine And.intro DrawOk.go ?_ | refine And.intro rfl ?_ | refine And.intro (fun _ => ?_) (fun h => Bool.noConfusion h) | refine And.intro (fun h => Bool.noConfusion h) (fun _ => ?_)); conv => whnf))
      refine ⟨by omega, _, hit, rfl, ?_⟩
      ((conv => whnf); repeat ((first | refine And.intro DrawOk.go ?_ | refine And.intro rfl ?_ | refine And.intro (fun _ => ?_) (fun h => Bool.noConfusion h) | refine And.intro (fun h => Bool.noConfusion h) (fun _ => ?_)); conv => whnf))
      refine And.intro (fun h2 => absurd (by have := of_decide_eq_true h2; omega) (hlt i hin)) (fun h2 => ?_)
      ((conv => whnf); repeat ((first | refine And.intro DrawOk.go ?_ | refine And.intro rfl ?_ | refine And.intro (fun _ => ?_) (fun h => Bool.noConfusion h) | refine And.intro (fun h => Bool.noConfusion h) (fun _ => ?_)); conv => whnf))
      refine again (i + 1) hin (by omega) ?_
      ((refine And.intro rfl (And.intro rfl ?_)); (repeat' (first | exact trivial | exact rfl | apply And.intro | (refine congrArg (Value.int .i64) (w64_nat ?_); omega))))
    cases ok with
    | false =>
      rw [if_neg (by decide)] at hR
      subst hR
      ((conv => whnf); repeat ((first | refine And.intro DrawOk.go ?_ | refine And.intro rfl ?_ | refine And.intro (fun _ => ?_) (fun h => Bool.noConfusion h) | refine And.intro (fun h => Bool.noConfusion h) (fun _ => ?_)); conv => whnf))
      refine ⟨_, _, hrec, ?_⟩
      ((conv => whnf); repeat ((first | refine And.intro DrawOk.go ?_ | refine And.intro rfl ?_ | refine And.intro (fun _ => ?_) (fun h => Bool.noConfusion h) | refine And.intro (fun h => Bool.noConfusion h) (fun _ => ?_)); conv => whnf))
      refine Exists.intro [] (And.intro List.nodup_nil ?_); ((conv => whnf); repeat ((first | refine And.intro DrawOk.go ?_ | refine And.intro rfl ?_ | refine And.intro (fun _ => ?_) (fun h => Bool.noConfusion h) | refine And.intro (fun h => Bool.noConfusion h) (fun _ => ?_)); conv => whnf))
      rfl
    | true =>
      rw [if_pos rfl] at hR
      obtain ⟨⟨ds, dn, dc, des⟩, e⟩ := D
      dsimp only at hdec hdl
      by_cases g : e = 0 ∧ (des.length : Int) ≤ cb ∧ lastB des cb = false
      · rw [wholeC, if_pos g] at hR
        subst hR
        obtain ⟨g1, g2, g3⟩ := g
        subst g1
        have hel := eLen des
        rcases (show des = [] ∨ ∃ pre x, des = pre ++ [x] by rcases List.eq_nil_or_concat des with h | ⟨pre, x, h⟩; exact Or.inl h; exact Or.inr ⟨pre, x, by rw [h, List.concat_eq_append]⟩) with rfl | ⟨pre, x, rfl⟩
        · ((conv => whnf); repeat ((first | refine And.intro DrawOk.go ?_ | refine And.intro rfl ?_ | refine And.intro (fun _ => ?_) (fun h => Bool.noConfusion h) | refine And.intro (fun h => Bool.noConfusion h) (fun _ => ?_)); conv => whnf))
          repeat' (first | ((refine And.intro (fun h => ?_) (fun h => ?_)) <;> (try simp at h) <;> ((conv => whnf); repeat ((first | refine And.intro DrawOk.go ?_ | refine And.intro rfl ?_ | refine And.intro (fun _ => ?_) (fun h => Bool.noConfusion h) | refine And.intro (fun h => Bool.noConfusion h) (fun _ => ?_)); conv => whnf))) | (refine ⟨_, _, hrec, ?_⟩; ((conv => whnf); repeat ((first | refine And.intro DrawOk.go ?_ | refine And.intro rfl ?_ | refine And.intro (fun _ => ?_) (fun h => Bool.noConfusion h) | refine And.intro (fun h => Bool.noConfusion h) (fun _ => ?_)); conv => whnf))) | (refine ⟨_, _, hdec, ?_⟩; ((conv => whnf); repeat ((first | refine And.intro DrawOk.go ?_ | refine And.intro rfl ?_ | refine And.intro (fun _ => ?_) (fun h => Bool.noConfusion h) | refine And.intro (fun h => Bool.noConfusion h) (fun _ => ?_)); conv => whnf))) | fail)
          all_goals first
            | (exfalso; simp only [eLen] at *; simp at *; omega)
            | (refine Exists.intro [] (And.intro List.nodup_nil ?_); ((conv => whnf); repeat ((first | refine And.intro DrawOk.go ?_ | refine And.intro rfl ?_ | refine And.intro (fun _ => ?_) (fun h => Bool.noConfusion h) | refine And.intro (fun h => Bool.noConfusion h) (fun _ => ?_)); conv => whnf))
               rfl)
        · rw [lastB_snoc] at g3
          have hx : (eR (pre ++ [x]))[(iwrap .i64 (((eR (pre ++ [x])).length : Int) - 1)).toNat]? = some (eRow x) := by
            rw [eLen, List.length_append, List.length_singleton, show iwrap .i64 (((pre.length + 1 : Nat) : Int) - 1) = (pre.length : Int) from (w64_in (by simp at hdl; omega)).trans (by omega)]
            simp [eR]
          have hx0 : 0 ≤ iwrap .i64 (((eR (pre ++ [x])).length : Int) - 1) := by
            rw [eLen, List.length_append, List.length_singleton, show iwrap .i64 (((pre.length + 1 : Nat) : Int) - 1) = (pre.length : Int) from (w64_in (by simp at hdl; omega)).trans (by omega)]
            omega
          have g3' := of_decide_eq_false g3
          ((conv => whnf); repeat ((first | refine And.intro DrawOk.go ?_ | refine And.intro rfl ?_ | refine And.intro (fun _ => ?_) (fun h => Bool.noConfusion h) | refine And.intro (fun h => Bool.noConfusion h) (fun _ => ?_)); conv => whnf))
          repeat' (first | ((refine And.intro (fun h => ?_) (fun h => ?_)) <;> (try simp at h) <;> ((conv => whnf); repeat ((first | refine And.intro DrawOk.go ?_ | refine And.intro rfl ?_ | refine And.intro (fun _ => ?_) (fun h => Bool.noConfusion h) | refine And.intro (fun h => Bool.noConfusion h) (fun _ => ?_)); conv => whnf))) | (refine ⟨_, _, hrec, ?_⟩; ((conv => whnf); repeat ((first | refine And.intro DrawOk.go ?_ | refine And.intro rfl ?_ | refine And.intro (fun _ => ?_) (fun h => Bool.noConfusion h) | refine And.intro (fun h => Bool.noConfusion h) (fun _ => ?_)); conv => whnf))) | (refine ⟨_, _, hdec, ?_⟩; ((conv => whnf); repeat ((first | refine And.intro DrawOk.go ?_ | refine And.intro rfl ?_ | refine And.intro (fun _ => ?_) (fun h => Bool.noConfusion h) | refine And.intro (fun h => Bool.noConfusion h) (fun _ => ?_)); conv => whnf))) | (refine ⟨hx0, _, hx, rfl, ?_⟩; ((conv => whnf); repeat ((first | refine And.intro DrawOk.go ?_ | refine And.intro rfl ?_ | refine And.intro (fun _ => ?_) (fun h => Bool.noConfusion h) | refine And.intro (fun h => Bool.noConfusion h) (fun _ => ?_)); conv => whnf))) | fail)
          all_goals first
            | (exfalso; omega)
            | (refine Exists.intro [] (And.intro List.nodup_nil ?_); ((conv => whnf); repeat ((first | refine And.intro DrawOk.go ?_ | refine And.intro rfl ?_ | refine And.intro (fun _ => ?_) (fun h => Bool.noConfusion h) | refine And.intro (fun h => Bool.noConfusion h) (fun _ => ?_)); conv => whnf))
               rfl)
      · rw [wholeC, if_neg g] at hR
        subst hR
        have hel := eLen des
        rcases (show des = [] ∨ ∃ pre x, des = pre ++ [x] by rcases List.eq_nil_or_concat des with h | ⟨pre, x, h⟩; exact Or.inl h; exact Or.inr ⟨pre, x, by rw [h, List.concat_eq_append]⟩) with rfl | ⟨pre, x, rfl⟩
        · rw [lastB_nil] at g
          ((conv => whnf); repeat ((first | refine And.intro DrawOk.go ?_ | refine And.intro rfl ?_ | refine And.intro (fun _ => ?_) (fun h => Bool.noConfusion h) | refine And.intro (fun h => Bool.noConfusion h) (fun _ => ?_)); conv => whnf))
          repeat' (first | ((refine And.intro (fun h => ?_) (fun h => ?_)) <;> (try simp at h) <;> ((conv => whnf); repeat ((first | refine And.intro DrawOk.go ?_ | refine And.intro rfl ?_ | refine And.intro (fun _ => ?_) (fun h => Bool.noConfusion h) | refine And.intro (fun h => Bool.noConfusion h) (fun _ => ?_)); conv => whnf))) | (refine ⟨_, _, hrec, ?_⟩; ((conv => whnf); repeat ((first | refine And.intro DrawOk.go ?_ | refine And.intro rfl ?_ | refine And.intro (fun _ => ?_) (fun h => Bool.noConfusion h) | refine And.intro (fun h => Bool.noConfusion h) (fun _ => ?_)); conv => whnf))) | (refine ⟨_, _, hdec, ?_⟩; ((conv => whnf); repeat ((first | refine And.intro DrawOk.go ?_ | refine And.intro rfl ?_ | refine And.intro (fun _ => ?_) (fun h => Bool.noConfusion h) | refine And.intro (fun h => Bool.noConfusion h) (fun _ => ?_)); conv => whnf))) | fail)
          all_goals first
            | (exfalso; simp only [eLen] at *; simp at *; omega)
            | (refine Exists.intro [] (And.intro List.nodup_nil ?_); ((conv => whnf); repeat ((first | refine And.intro DrawOk.go ?_ | refine And.intro rfl ?_ | refine And.intro (fun _ => ?_) (fun h => Bool.noConfusion h) | refine And.intro (fun h => Bool.noConfusion h) (fun _ => ?_)); conv => whnf))
               rfl)
        · rw [lastB_snoc] at g
          have hx : (eR (pre ++ [x]))[(iwrap .i64 (((eR (pre ++ [x])).length : Int) - 1)).toNat]? = some (eRow x) := by
            rw [eLen, List.length_append, List.length_singleton, show iwrap .i64 (((pre.length + 1 : Nat) : Int) - 1) = (pre.length : Int) from (w64_in (by simp at hdl; omega)).trans (by omega)]
            simp [eR]
          have hx0 : 0 ≤ iwrap .i64 (((eR (pre ++ [x])).length : Int) - 1) := by
            rw [eLen, List.length_append, List.length_singleton, show iwrap .i64 (((pre.length + 1 : Nat) : Int) - 1) = (pre.length : Int) from (w64_in (by simp at hdl; omega)).trans (by omega)]
            omega
          rw [decide_eq_false_iff_not] at g
          have hne : ¬ eR (pre ++ [x]) = [] := by simp [eR]
          ((conv => whnf); repeat ((first | refine And.intro DrawOk.go ?_ | refine And.intro rfl ?_ | refine And.intro (fun _ => ?_) (fun h => Bool.noConfusion h) | refine And.intro (fun h => Bool.noConfusion h) (fun _ => ?_)); conv => whnf))
          repeat' (first | ((refine And.intro (fun h => ?_) (fun h => ?_)) <;> (try simp at h) <;> ((conv => whnf); repeat ((first | refine And.intro DrawOk.go ?_ | refine And.intro rfl ?_ | refine And.intro (fun _ => ?_) (fun h => Bool.noConfusion h) | refine And.intro (fun h => Bool.noConfusion h) (fun _ => ?_)); conv => whnf))) | (refine ⟨_, _, hrec, ?_⟩; ((conv => whnf); repeat ((first | refine And.intro DrawOk.go ?_ | refine And.intro rfl ?_ | refine And.intro (fun _ => ?_) (fun h => Bool.noConfusion h) | refine And.intro (fun h => Bool.noConfusion h) (fun _ => ?_)); conv => whnf))) | (refine ⟨_, _, hdec, ?_⟩; ((conv => whnf); repeat ((first | refine And.intro DrawOk.go ?_ | refine And.intro rfl ?_ | refine And.intro (fun _ => ?_) (fun h => Bool.noConfusion h) | refine And.intro (fun h => Bool.noConfusion h) (fun _ => ?_)); conv => whnf))) | (refine ⟨hx0, _, hx, rfl, ?_⟩; ((conv => whnf); repeat ((first | refine And.intro DrawOk.go ?_ | refine And.intro rfl ?_ | refine And.intro (fun _ => ?_) (fun h => Bool.noConfusion h) | refine And.intro (fun h => Bool.noConfusion h) (fun _ => ?_)); conv => whnf))) | fail)
          all_goals first
            | contradiction
            | (exfalso; omega)
            | (refine Exists.intro [] (And.intro List.nodup_nil ?_); ((conv => whnf); repeat ((first | refine And.intro DrawOk.go ?_ | refine And.intro rfl ?_ | refine And.intro (fun _ => ?_) (fun h => Bool.noConfusion h) | refine And.intro (fun h => Bool.noConfusion h) (fun _ => ?_)); conv => whnf))
               rfl)
end Go.Proofs.Ytkpicojhnnkibaa.Ab
