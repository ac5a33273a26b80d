/- Shards: two installs change places, and an install and a relocation. -/
import Derived.Test.YtgjcljjgifnjdaaSh
import Derived.Test.YtgjcljjgifnjdaaSq
namespace Go.Proofs.Ytgjcljjgifnjdaa.Ab
set_option linter.unusedVariables false
set_option linter.unusedSimpArgs false
open Go.RowKit

abbrev InstP (s : List Ety) (e : Ety) (x : List Ety) : Prop := ∃ (o : Ety) (t : Bool), Fun Try.prog 17 [slV (eR s), eA e.b e.k e.v e.m e.z e.o] [] (.tup [slV (eR x), eV o, bV t])
theorem instP (s : List Ety) (e : Ety) (hl : s.length ≤ 1000000) : InstP s e (sinst s e).1 := ⟨_, _, sinstE s e hl⟩
theorem commFacts (s : List Ety) (a b : Ety) (hv : svalid s = true) (hl : s.length ≤ 1000) (ha : rightE a = true) (hb : rightE b = true) (hne : ¬ (a.b = b.b ∧ a.v = b.v)) :
    ∃ X1 X Y1 : List Ety, InstP s a X1 ∧ InstP X1 b X ∧ InstP s b Y1 ∧ InstP Y1 a X ∧ X.length ≤ 1000000 ∧ ¬ ((X.length : Int) = 0) := by
  have l1 := sinst_len s a
  have l2 := sinst_len s b
  have l3 := sinst_len (sinst s a).1 b
  have v1 := svalid_inst (e := a) hv
  have v2 := svalid_inst (e := b) hv
  have e : (sinst (sinst s b).1 a).1 = (sinst (sinst s a).1 b).1 := by
    refine lk_ext (svalid_inst v2) (svalid_inst v1) fun c => ?_
    rw [lk_inst v2 ha, lk_inst hv hb, lk_inst v1 hb, lk_inst hv ha]
    by_cases h1 : c = a.b <;> by_cases h2 : c = b.b <;> simp only [h1, h2, if_true, if_false]
    · subst h1
      rw [if_pos h2, newer_comm _ _ _ (fun h => hne ⟨h2, h⟩)]
      first | done | rfl | (rw [if_pos h2])
    · have q : ¬ a.b = b.b := fun h => h2 (by omega)
      simp only [q, if_false]
    · have q : ¬ b.b = a.b := fun h => h1 (by omega)
      simp only [q, if_false]
  have p4 := instP (sinst s b).1 a (by omega)
  rw [e] at p4
  refine ⟨_, _, _, instP s a (by omega), instP _ b (by omega), instP s b (by omega), p4, by omega, fun h => ?_⟩
  have h0 : (sinst (sinst s a).1 b).1 = [] := List.eq_nil_of_length_eq_zero (by omega)
  have := lk_inst v1 hb b.b
  rw [h0, if_pos rfl] at this
  cases this
theorem sfind_lk {s : List Ety} {b : Int} (hv : svalid s = true) (h : (sfind s b).2 = true) : lk s b = some (sfind s b).1 := by
  rw [sfind_yes hv] at h ⊢
  dsimp only at h ⊢
  rw [shere_lk hv] at h
  rw [sold_lk hv]
  cases hl : lk s b with
  | none => rw [hl] at h; cases h
  | some o => rfl
abbrev RelP (s : List Ety) (b : Int) (o : Ety) (x : List Ety) : Prop := Fun Try.prog 19 [slV (eR s), i64V b, i64V o.v, plV o.z o.o, plV 9 9, i64V 1] [] (.tup [slV (eR x), bV true])
theorem relFacts (s : List Ety) (a b o : Ety) (hv : svalid s = true) (hl : s.length ≤ 1000) (hb : rightE b = true) (hne : ¬ a.b = b.b) (hlk : lk s a.b = some o) :
    ∃ P0 P Q0 : List Ety, RelP s a.b o P0 ∧ InstP P0 b P ∧ InstP s b Q0 ∧ RelP Q0 a.b o P ∧ P.length ≤ 1000000 := by
  obtain ⟨t1, w1, k1⟩ := srel_lk (tz := 9) (to := 9) (m := 1) hv hlk (by decide)
  have v2 := svalid_inst (e := b) hv
  have l2 := sinst_len s b
  have l1 := srel_len s a.b o.v o.z o.o 9 9 1
  have hlk2 : lk (sinst s b).1 a.b = some o := by rw [lk_inst hv hb, if_neg hne, hlk]
  obtain ⟨t2, w2, k2⟩ := srel_lk (tz := 9) (to := 9) (m := 1) v2 hlk2 (by decide)
  have l3 := sinst_len (srel s a.b o.v o.z o.o 9 9 1).1 b
  have e : (srel (sinst s b).1 a.b o.v o.z o.o 9 9 1).1 = (sinst (srel s a.b o.v o.z o.o 9 9 1).1 b).1 := by
    refine lk_ext w2 (svalid_inst w1) fun c => ?_
    rw [k2, lk_inst hv hb, lk_inst w1 hb, k1]
    by_cases h1 : c = a.b <;> by_cases h2 : c = b.b <;> simp only [h1, h2, if_true, if_false]
    · exact absurd (h1.symm.trans h2) hne
    · rw [if_neg hne]
    · rw [if_neg (fun h => hne h.symm), if_neg (fun h => hne h.symm)]
  have r1 := srelF s a.b o.v o.z o.o 9 9 1 (by omega)
  rw [t1] at r1
  have r2 := srelF (sinst s b).1 a.b o.v o.z o.o 9 9 1 (by omega)
  rw [t2, e] at r2
  exact ⟨_, _, _, r1, instP _ b (by omega), instP s b (by omega), r2, by omega⟩

set_option maxRecDepth 100000 in
set_option maxHeartbeats 32000000 in
theorem shardCommutesF (L : List Int) (hL : L.length ≤ 140737488355328) : Fun Try.prog 4 [slV (wV L)] [] (ATbool true) := by
  have lt := lightF L hL
  by_cases hl3 : L.length ≤ 300
  · rw [decide_eq_true hl3] at lt
    have hl : L.length ≤ 1000000 := by omega
    refine fun_of_vc tabOk mixOk Try.func4 rfl (by rfl) (rs := [.tmp 2]) rfl rfl 165 ?_; rw [Try.ntmps4]
    (conv => whnf); repeat (first | (refine And.intro rfl ?_; conv => whnf) | (refine And.intro (fun _ => ?_) (fun h => Bool.noConfusion h); conv => whnf) | (refine And.intro (fun h => Bool.noConfusion h) (fun _ => ?_); conv => whnf))
    refine ⟨_, _, lt, ?_⟩
    (conv => whnf); repeat (first | (refine And.intro rfl ?_; conv => whnf) | (refine And.intro (fun _ => ?_) (fun h => Bool.noConfusion h); conv => whnf) | (refine And.intro (fun h => Bool.noConfusion h) (fun _ => ?_); conv => whnf))
    refine ⟨_, _, rollF L hl, ?_⟩
    (conv => whnf); repeat (first | (refine And.intro rfl ?_; conv => whnf) | (refine And.intro (fun _ => ?_) (fun h => Bool.noConfusion h); conv => whnf) | (refine And.intro (fun h => Bool.noConfusion h) (fun _ => ?_); conv => whnf))
    refine vc_loop [2, 3] [] (X := Nat × Nat × List Ety) (fun x gs => [(5, ATint x.1), (4, .v (slV (eR x.2.2)))]) (fun x gs => [(27, .var 1 (dcs L x.2.1))]) (fun x => x.1 ≤ 8 ∧ x.2.1 ≤ L.length ∧ x.2.2.length ≤ x.1 ∧ svalid x.2.2 = true) (fun x => 8 - x.1) _ (Ghost.refl _) (0, 0, []) ⟨by omega, Nat.zero_le _, by simp, rfl⟩ ?_ ?_
    · (refine And.intro rfl (And.intro rfl ?_)); (repeat' (first | exact trivial | exact rfl | apply And.intro | (refine congrArg (Value.int .i64) (w64_nat ?_); omega)))
    rintro gs ⟨i, k, s⟩ ⟨hi, hk, hs, hv⟩
    dsimp only at hi hk hs hv ⊢
    (conv => whnf); repeat (first | (refine And.intro rfl ?_; conv => whnf) | (refine And.intro (fun _ => ?_) (fun h => Bool.noConfusion h); conv => whnf) | (refine And.intro (fun h => Bool.noConfusion h) (fun _ => ?_); conv => whnf))
    refine And.intro (fun h => ?_) (fun h => ?_)
    · have hlt : i < 8 := by have := of_decide_eq_true h; omega
      (conv => whnf); repeat (first | (refine And.intro rfl ?_; conv => whnf) | (refine And.intro (fun _ => ?_) (fun h => Bool.noConfusion h); conv => whnf) | (refine And.intro (fun h => Bool.noConfusion h) (fun _ => ?_); conv => whnf))
      refine ⟨_, _, shEntryF L k hl, ?_⟩
      (conv => whnf); repeat (first | (refine And.intro rfl ?_; conv => whnf) | (refine And.intro (fun _ => ?_) (fun h => Bool.noConfusion h); conv => whnf) | (refine And.intro (fun h => Bool.noConfusion h) (fun _ => ?_); conv => whnf))
      refine ⟨_, _, sinstE' s (dE L k) (by omega), ?_⟩
      (conv => whnf); repeat (first | (refine And.intro rfl ?_; conv => whnf) | (refine And.intro (fun _ => ?_) (fun h => Bool.noConfusion h); conv => whnf) | (refine And.intro (fun h => Bool.noConfusion h) (fun _ => ?_); conv => whnf))
      refine again (i + 1, dEk L k, (sinst s (dE L k)).1) ⟨hlt, dEk_le hk, by have := sinst_len s (dE L k); dsimp only; omega, svalid_inst hv⟩ (by dsimp only; omega) ?_
      (refine And.intro rfl (And.intro rfl ?_)); (repeat' (first | exact trivial | exact rfl | apply And.intro | (refine congrArg (Value.int .i64) (w64_nat ?_); omega)))
    · obtain ⟨a, ha⟩ : ∃ a, dE L k = a := ⟨_, rfl⟩
      obtain ⟨b, hb0⟩ : ∃ b, dE L (dEk L k) = b := ⟨_, rfl⟩
      have ra : rightE a = true := ha ▸ (dE_right L k).1
      have rb : rightE b = true := hb0 ▸ (dE_right L (dEk L k)).1
      have ea := shEntryF L k hl
      have eb := shEntryF L (dEk L k) hl
      rw [ha] at ea
      rw [hb0] at eb
      have hs' : s.length ≤ 1000 := by omega
      have sf := sfindF s a.b (by omega)
      clear ha hb0 hs
      (conv => whnf); repeat (first | (refine And.intro rfl ?_; conv => whnf) | (refine And.intro (fun _ => ?_) (fun h => Bool.noConfusion h); conv => whnf) | (refine And.intro (fun h => Bool.noConfusion h) (fun _ => ?_); conv => whnf))
      refine ⟨_, _, ea, ?_⟩
      (conv => whnf); repeat (first | (refine And.intro rfl ?_; conv => whnf) | (refine And.intro (fun _ => ?_) (fun h => Bool.noConfusion h); conv => whnf) | (refine And.intro (fun h => Bool.noConfusion h) (fun _ => ?_); conv => whnf))
      refine ⟨_, _, eb, ?_⟩
      (conv => whnf); repeat (first | (refine And.intro rfl ?_; conv => whnf) | (refine And.intro (fun _ => ?_) (fun h => Bool.noConfusion h); conv => whnf) | (refine And.intro (fun h => Bool.noConfusion h) (fun _ => ?_); conv => whnf))
      refine And.intro (fun h1 => ?_) (fun h1 => ?_)
      · have hb : a.b = b.b := by simpa using h1
        (conv => whnf); repeat (first | (refine And.intro rfl ?_; conv => whnf) | (refine And.intro (fun _ => ?_) (fun h => Bool.noConfusion h); conv => whnf) | (refine And.intro (fun h => Bool.noConfusion h) (fun _ => ?_); conv => whnf))
        refine And.intro (fun h2 => ?_) (fun h2 => ?_)
        · (conv => whnf); repeat (first | (refine And.intro rfl ?_; conv => whnf) | (refine And.intro (fun _ => ?_) (fun h => Bool.noConfusion h); conv => whnf) | (refine And.intro (fun h => Bool.noConfusion h) (fun _ => ?_); conv => whnf))
          refine ⟨_, _, shAwake, ?_⟩
          (conv => whnf); repeat (first | (refine And.intro rfl ?_; conv => whnf) | (refine And.intro (fun _ => ?_) (fun h => Bool.noConfusion h); conv => whnf) | (refine And.intro (fun h => Bool.noConfusion h) (fun _ => ?_); conv => whnf))
          refine Exists.intro [] (And.intro List.nodup_nil ?_); ((conv => whnf); repeat (first | (refine And.intro rfl ?_; conv => whnf) | (refine And.intro (fun _ => ?_) (fun h => Bool.noConfusion h); conv => whnf) | (refine And.intro (fun h => Bool.noConfusion h) (fun _ => ?_); conv => whnf)))
          rfl
        · have h2' : ¬ a.v = b.v := by simpa using h2
          have hne : ¬ (a.b = b.b ∧ a.v = b.v) := fun h => h2' h.2
          obtain ⟨X1, X, Y1, ⟨o1, t1, p1⟩, ⟨o2, t2, p2⟩, ⟨o3, t3, p3⟩, ⟨o4, t4, p4⟩, lx, nx⟩ := commFacts s a b hv hs' ra rb hne
          (conv => whnf); repeat (first | (refine And.intro rfl ?_; conv => whnf) | (refine And.intro (fun _ => ?_) (fun h => Bool.noConfusion h); conv => whnf) | (refine And.intro (fun h => Bool.noConfusion h) (fun _ => ?_); conv => whnf))
          refine ⟨_, _, p1, ?_⟩
          (conv => whnf); repeat (first | (refine And.intro rfl ?_; conv => whnf) | (refine And.intro (fun _ => ?_) (fun h => Bool.noConfusion h); conv => whnf) | (refine And.intro (fun h => Bool.noConfusion h) (fun _ => ?_); conv => whnf))
          refine ⟨_, _, p2, ?_⟩
          (conv => whnf); repeat (first | (refine And.intro rfl ?_; conv => whnf) | (refine And.intro (fun _ => ?_) (fun h => Bool.noConfusion h); conv => whnf) | (refine And.intro (fun h => Bool.noConfusion h) (fun _ => ?_); conv => whnf))
          refine ⟨_, _, p3, ?_⟩
          (conv => whnf); repeat (first | (refine And.intro rfl ?_; conv => whnf) | (refine And.intro (fun _ => ?_) (fun h => Bool.noConfusion h); conv => whnf) | (refine And.intro (fun h => Bool.noConfusion h) (fun _ => ?_); conv => whnf))
          refine ⟨_, _, p4, ?_⟩
          (conv => whnf); repeat (first | (refine And.intro rfl ?_; conv => whnf) | (refine And.intro (fun _ => ?_) (fun h => Bool.noConfusion h); conv => whnf) | (refine And.intro (fun h => Bool.noConfusion h) (fun _ => ?_); conv => whnf))
          refine ⟨_, _, ssameF X lx, ?_⟩
          (conv => whnf); repeat (first | (refine And.intro rfl ?_; conv => whnf) | (refine And.intro (fun _ => ?_) (fun h => Bool.noConfusion h); conv => whnf) | (refine And.intro (fun h => Bool.noConfusion h) (fun _ => ?_); conv => whnf))
          refine And.intro (fun h9 => ?_) (fun _ => ?_)
          · simp only [eLen, beq_iff_eq] at h9; exact absurd h9 nx
          (conv => whnf); repeat (first | (refine And.intro rfl ?_; conv => whnf) | (refine And.intro (fun _ => ?_) (fun h => Bool.noConfusion h); conv => whnf) | (refine And.intro (fun h => Bool.noConfusion h) (fun _ => ?_); conv => whnf))
          cases hok : (sfind s a.b).2 with
          | false =>
            rw [hok] at sf
            refine ⟨_, _, sf, ?_⟩
            (conv => whnf); repeat (first | (refine And.intro rfl ?_; conv => whnf) | (refine And.intro (fun _ => ?_) (fun h => Bool.noConfusion h); conv => whnf) | (refine And.intro (fun h => Bool.noConfusion h) (fun _ => ?_); conv => whnf))
            refine ⟨_, _, shAwake, ?_⟩
            (conv => whnf); repeat (first | (refine And.intro rfl ?_; conv => whnf) | (refine And.intro (fun _ => ?_) (fun h => Bool.noConfusion h); conv => whnf) | (refine And.intro (fun h => Bool.noConfusion h) (fun _ => ?_); conv => whnf))
            refine Exists.intro [] (And.intro List.nodup_nil ?_); ((conv => whnf); repeat (first | (refine And.intro rfl ?_; conv => whnf) | (refine And.intro (fun _ => ?_) (fun h => Bool.noConfusion h); conv => whnf) | (refine And.intro (fun h => Bool.noConfusion h) (fun _ => ?_); conv => whnf)))
            rfl
          | true =>
            have hlk := sfind_lk hv hok
            rw [hok] at sf
            refine ⟨_, _, sf, ?_⟩
            (conv => whnf); repeat (first | (refine And.intro rfl ?_; conv => whnf) | (refine And.intro (fun _ => ?_) (fun h => Bool.noConfusion h); conv => whnf) | (refine And.intro (fun h => Bool.noConfusion h) (fun _ => ?_); conv => whnf))
            refine And.intro (fun _ => ?_) (fun h => by simp [hb] at h)
            (conv => whnf); repeat (first | (refine And.intro rfl ?_; conv => whnf) | (refine And.intro (fun _ => ?_) (fun h => Bool.noConfusion h); conv => whnf) | (refine And.intro (fun h => Bool.noConfusion h) (fun _ => ?_); conv => whnf))
            refine ⟨_, _, shAwake, ?_⟩
            (conv => whnf); repeat (first | (refine And.intro rfl ?_; conv => whnf) | (refine And.intro (fun _ => ?_) (fun h => Bool.noConfusion h); conv => whnf) | (refine And.intro (fun h => Bool.noConfusion h) (fun _ => ?_); conv => whnf))
            refine Exists.intro [] (And.intro List.nodup_nil ?_); ((conv => whnf); repeat (first | (refine And.intro rfl ?_; conv => whnf) | (refine And.intro (fun _ => ?_) (fun h => Bool.noConfusion h); conv => whnf) | (refine And.intro (fun h => Bool.noConfusion h) (fun _ => ?_); conv => whnf)))
            rfl
      · have hb : ¬ a.b = b.b := by simpa using h1
        have hne : ¬ (a.b = b.b ∧ a.v = b.v) := fun h => hb h.1
        obtain ⟨X1, X, Y1, ⟨o1, t1, p1⟩, ⟨o2, t2, p2⟩, ⟨o3, t3, p3⟩, ⟨o4, t4, p4⟩, lx, nx⟩ := commFacts s a b hv hs' ra rb hne
        (conv => whnf); repeat (first | (refine And.intro rfl ?_; conv => whnf) | (refine And.intro (fun _ => ?_) (fun h => Bool.noConfusion h); conv => whnf) | (refine And.intro (fun h => Bool.noConfusion h) (fun _ => ?_); conv => whnf))
        refine ⟨_, _, p1, ?_⟩
        (conv => whnf); repeat (first | (refine And.intro rfl ?_; conv => whnf) | (refine And.intro (fun _ => ?_) (fun h => Bool.noConfusion h); conv => whnf) | (refine And.intro (fun h => Bool.noConfusion h) (fun _ => ?_); conv => whnf))
        refine ⟨_, _, p2, ?_⟩
        (conv => whnf); repeat (first | (refine And.intro rfl ?_; conv => whnf) | (refine And.intro (fun _ => ?_) (fun h => Bool.noConfusion h); conv => whnf) | (refine And.intro (fun h => Bool.noConfusion h) (fun _ => ?_); conv => whnf))
        refine ⟨_, _, p3, ?_⟩
        (conv => whnf); repeat (first | (refine And.intro rfl ?_; conv => whnf) | (refine And.intro (fun _ => ?_) (fun h => Bool.noConfusion h); conv => whnf) | (refine And.intro (fun h => Bool.noConfusion h) (fun _ => ?_); conv => whnf))
        refine ⟨_, _, p4, ?_⟩
        (conv => whnf); repeat (first | (refine And.intro rfl ?_; conv => whnf) | (refine And.intro (fun _ => ?_) (fun h => Bool.noConfusion h); conv => whnf) | (refine And.intro (fun h => Bool.noConfusion h) (fun _ => ?_); conv => whnf))
        refine ⟨_, _, ssameF X lx, ?_⟩
        (conv => whnf); repeat (first | (refine And.intro rfl ?_; conv => whnf) | (refine And.intro (fun _ => ?_) (fun h => Bool.noConfusion h); conv => whnf) | (refine And.intro (fun h => Bool.noConfusion h) (fun _ => ?_); conv => whnf))
        refine And.intro (fun h9 => ?_) (fun _ => ?_)
        · simp only [eLen, beq_iff_eq] at h9; exact absurd h9 nx
        (conv => whnf); repeat (first | (refine And.intro rfl ?_; conv => whnf) | (refine And.intro (fun _ => ?_) (fun h => Bool.noConfusion h); conv => whnf) | (refine And.intro (fun h => Bool.noConfusion h) (fun _ => ?_); conv => whnf))
        cases hok : (sfind s a.b).2 with
        | false =>
          rw [hok] at sf
          refine ⟨_, _, sf, ?_⟩
          (conv => whnf); repeat (first | (refine And.intro rfl ?_; conv => whnf) | (refine And.intro (fun _ => ?_) (fun h => Bool.noConfusion h); conv => whnf) | (refine And.intro (fun h => Bool.noConfusion h) (fun _ => ?_); conv => whnf))
          refine ⟨_, _, shAwake, ?_⟩
          (conv => whnf); repeat (first | (refine And.intro rfl ?_; conv => whnf) | (refine And.intro (fun _ => ?_) (fun h => Bool.noConfusion h); conv => whnf) | (refine And.intro (fun h => Bool.noConfusion h) (fun _ => ?_); conv => whnf))
          refine Exists.intro [] (And.intro List.nodup_nil ?_); ((conv => whnf); repeat (first | (refine And.intro rfl ?_; conv => whnf) | (refine And.intro (fun _ => ?_) (fun h => Bool.noConfusion h); conv => whnf) | (refine And.intro (fun h => Bool.noConfusion h) (fun _ => ?_); conv => whnf)))
          rfl
        | true =>
          have hlk := sfind_lk hv hok
          obtain ⟨P0, P, Q0, r1, ⟨o5, t5, r2⟩, ⟨o6, t6, r3⟩, r4, lp⟩ := relFacts s a b (sfind s a.b).1 hv hs' rb hb hlk
          rw [hok] at sf
          refine ⟨_, _, sf, ?_⟩
          (conv => whnf); repeat (first | (refine And.intro rfl ?_; conv => whnf) | (refine And.intro (fun _ => ?_) (fun h => Bool.noConfusion h); conv => whnf) | (refine And.intro (fun h => Bool.noConfusion h) (fun _ => ?_); conv => whnf))
          refine And.intro (fun h => by simp at h; exact absurd h hb) (fun _ => ?_)
          (conv => whnf); repeat (first | (refine And.intro rfl ?_; conv => whnf) | (refine And.intro (fun _ => ?_) (fun h => Bool.noConfusion h); conv => whnf) | (refine And.intro (fun h => Bool.noConfusion h) (fun _ => ?_); conv => whnf))
          refine ⟨_, _, r1, ?_⟩
          (conv => whnf); repeat (first | (refine And.intro rfl ?_; conv => whnf) | (refine And.intro (fun _ => ?_) (fun h => Bool.noConfusion h); conv => whnf) | (refine And.intro (fun h => Bool.noConfusion h) (fun _ => ?_); conv => whnf))
          refine ⟨_, _, r2, ?_⟩
          (conv => whnf); repeat (first | (refine And.intro rfl ?_; conv => whnf) | (refine And.intro (fun _ => ?_) (fun h => Bool.noConfusion h); conv => whnf) | (refine And.intro (fun h => Bool.noConfusion h) (fun _ => ?_); conv => whnf))
          refine ⟨_, _, r3, ?_⟩
          (conv => whnf); repeat (first | (refine And.intro rfl ?_; conv => whnf) | (refine And.intro (fun _ => ?_) (fun h => Bool.noConfusion h); conv => whnf) | (refine And.intro (fun h => Bool.noConfusion h) (fun _ => ?_); conv => whnf))
          refine ⟨_, _, r4, ?_⟩
          (conv => whnf); repeat (first | (refine And.intro rfl ?_; conv => whnf) | (refine And.intro (fun _ => ?_) (fun h => Bool.noConfusion h); conv => whnf) | (refine And.intro (fun h => Bool.noConfusion h) (fun _ => ?_); conv => whnf))
          refine ⟨_, _, ssameF P lp, ?_⟩
          (conv => whnf); repeat (first | (refine And.intro rfl ?_; conv => whnf) | (refine And.intro (fun _ => ?_) (fun h => Bool.noConfusion h); conv => whnf) | (refine And.intro (fun h => Bool.noConfusion h) (fun _ => ?_); conv => whnf))
          refine ⟨_, _, shAwake, ?_⟩
          (conv => whnf); repeat (first | (refine And.intro rfl ?_; conv => whnf) | (refine And.intro (fun _ => ?_) (fun h => Bool.noConfusion h); conv => whnf) | (refine And.intro (fun h => Bool.noConfusion h) (fun _ => ?_); conv => whnf))
          refine Exists.intro [] (And.intro List.nodup_nil ?_); ((conv => whnf); repeat (first | (refine And.intro rfl ?_; conv => whnf) | (refine And.intro (fun _ => ?_) (fun h => Bool.noConfusion h); conv => whnf) | (refine And.intro (fun h => Bool.noConfusion h) (fun _ => ?_); conv => whnf)))
          rfl
  · rw [decide_eq_false hl3] at lt
    refine fun_of_vc tabOk mixOk Try.func4 rfl (by rfl) (rs := [.tmp 2]) rfl rfl 165 ?_; rw [Try.ntmps4]
    (conv => whnf); repeat (first | (refine And.intro rfl ?_; conv => whnf) | (refine And.intro (fun _ => ?_) (fun h => Bool.noConfusion h); conv => whnf) | (refine And.intro (fun h => Bool.noConfusion h) (fun _ => ?_); conv => whnf))
    refine ⟨_, _, lt, ?_⟩
    (conv => whnf); repeat (first | (refine And.intro rfl ?_; conv => whnf) | (refine And.intro (fun _ => ?_) (fun h => Bool.noConfusion h); conv => whnf) | (refine And.intro (fun h => Bool.noConfusion h) (fun _ => ?_); conv => whnf))
    refine ⟨_, _, shAwake, ?_⟩
    (conv => whnf); repeat (first | (refine And.intro rfl ?_; conv => whnf) | (refine And.intro (fun _ => ?_) (fun h => Bool.noConfusion h); conv => whnf) | (refine And.intro (fun h => Bool.noConfusion h) (fun _ => ?_); conv => whnf))
    refine Exists.intro [] (And.intro List.nodup_nil ?_); ((conv => whnf); repeat (first | (refine And.intro rfl ?_; conv => whnf) | (refine And.intro (fun _ => ?_) (fun h => Bool.noConfusion h); conv => whnf) | (refine And.intro (fun h => Bool.noConfusion h) (fun _ => ?_); conv => whnf)))
    rfl
end Go.Proofs.Ytgjcljjgifnjdaa.Ab
namespace Go.Proofs.Ytgjcljjgifnjdaa
set_option linter.unusedVariables false
set_option linter.unusedSimpArgs false
open Ab
set_option maxRecDepth 100000 in
theorem shardCommutes.walk {H : Type} {enc : TypeId × Value → H} {W : World} {base : Nat} (v : Value) (d : DataW H) (p : List MemPlace) (hv : Value.okWide Try.prog W .any base 22 v)
    (h : DataW.Trod enc Try.prog W 0 (fun _ => true) true 22 v d p) (hw : ∀ n ∈ d.weights Try.prog 22, n ≤ 140737488351232)
    (W' : World) (hW : W' = W := by rfl) : Calls Try.prog 4 #[v] W' (True1 W') := by
  subst hW
  obtain ⟨es, _, q1, q2⟩ := open_sl tabOk 3 (t := 22) (by decide +kernel) rfl hv h
  obtain ⟨xs, rfl⟩ := ints_of (d := 2) es (fun r hr => (q1 r hr).2)
  have b3 := slice_bound tabOk (e := 3) rfl h hw (q2 (fun _ _ => undef) (fun _ => 0))
  rw [bytesOf_eq tabOk (fun h => TK.noConfusion h)] at b3
  have b3' : (wV xs).length * 8 ≤ 140737488351232 := b3
  exact law_of_fun (shardCommutesF xs (by simp [wV] at b3'; omega)) rfl (reps_get (vs := [_]) ⟨q2 _ _, trivial⟩)
end Go.Proofs.Ytgjcljjgifnjdaa
