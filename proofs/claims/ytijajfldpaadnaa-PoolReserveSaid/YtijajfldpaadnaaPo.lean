/- The pool: its reserve. -/
import Derived.Test.YtijajfldpaadnaaPn
namespace Go.Proofs.Ytijajfldpaadnaa.Ab
set_option linter.unusedVariables false
set_option linter.unusedSimpArgs false
open Go.RowKit

theorem cnt4 {q : Po} {o : Nat} {D : Int} (h : pcnt q + (o : Int) = D) : (q.h ≠ -1 → q.c ≠ -1 → (q.f.length : Int) + (o : Int) + 1 + 1 = D) ∧ (q.h ≠ -1 → q.c = -1 → (q.f.length : Int) + (o : Int) + 1 = D) ∧ (q.h = -1 → q.c ≠ -1 → (q.f.length : Int) + (o : Int) + 1 = D) ∧ (q.h = -1 → q.c = -1 → (q.f.length : Int) + (o : Int) = D) := by
  unfold pcnt at h
  refine ⟨fun a b => ?_, fun a b => ?_, fun a b => ?_, fun a b => ?_⟩
  · rw [if_neg a, if_neg b] at h; omega
  · rw [if_neg a, if_pos b] at h; omega
  · rw [if_pos a, if_neg b] at h; omega
  · rw [if_pos a, if_pos b] at h; omega
theorem pcnt_len (p : Po) : (p.f.length : Int) ≤ pcnt p := by unfold pcnt; split <;> split <;> omega
theorem cnt3 {q : Po} {o : Nat} {D : Int} (h : pcnt q + (o : Int) = D) (hD : D ≤ 8) : ∃ s1 : Int, (q.h ≠ -1 → iwrap .i64 (iwrap .i64 (((wV q.f).length : Int) + ((o : Nat) : Int)) + 1) = s1) ∧ (q.h = -1 → iwrap .i64 (((wV q.f).length : Int) + ((o : Nat) : Int)) = s1) ∧ (q.c ≠ -1 → iwrap .i64 (s1 + 1) = D) ∧ (q.c = -1 → s1 = D) := by
  obtain ⟨d1, d2, d3, d4⟩ := cnt4 h
  have hl := pcnt_len q
  have w1 : iwrap .i64 (((wV q.f).length : Int) + ((o : Nat) : Int)) = (q.f.length : Int) + (o : Int) := (w64_in (by rw [pwLen]; omega)).trans (by rw [pwLen])
  have w2 : iwrap .i64 ((q.f.length : Int) + ((o : Nat) : Int) + 1) = (q.f.length : Int) + (o : Int) + 1 := w64_in (by omega)
  rw [w1, w2]
  have w3 : ∀ s : Int, 0 ≤ s → s ≤ 100 → iwrap .i64 (s + 1) = s + 1 := fun s h1 h2 => w64_in (by omega)
  by_cases a : q.h = -1 <;> by_cases b : q.c = -1
  · exact ⟨(q.f.length : Int) + (o : Int), fun h => absurd a h, fun _ => rfl, fun h => absurd b h, fun _ => d4 a b⟩
  · exact ⟨(q.f.length : Int) + (o : Int), fun h => absurd a h, fun _ => rfl, fun _ => (w3 _ (by omega) (by omega)).trans (d3 a b), fun h => absurd h b⟩
  · exact ⟨(q.f.length : Int) + (o : Int) + 1, fun _ => rfl, fun h => absurd h a, fun h => absurd b h, fun _ => d2 a b⟩
  · exact ⟨(q.f.length : Int) + (o : Int) + 1, fun _ => rfl, fun h => absurd h a, fun _ => (w3 _ (by omega) (by omega)).trans (d1 a b), fun h => absurd h b⟩
theorem cnt_le {q : Po} {o : Nat} {D : Int} (h : pcnt q + (o : Int) = D) (hD : D ≤ 8) : q.f.length ≤ 1000000 := by
  have hl := pcnt_len q
  omega
set_option maxRecDepth 100000 in
set_option maxHeartbeats 16000000 in
theorem pReserve0 (L : List Int) (hL : L.length ≤ 300) (hlight : Fun Try.prog 15 [slV (wV L)] [] (ATbool true)) :
    Fun Try.prog 14 [slV (wV L)] [] (ATbool true) := by
  have hl : L.length ≤ 1000000 := by omega
  have aw := pawakeF
  obtain ⟨c, k0, hsm, hsp, _, hk0⟩ := smallF L 0 hl
  have hk0 := hk0 (Nat.zero_le _)
  obtain ⟨hc, hF0, hF1, hD0, hD1, hz⟩ := small_facts hsp
  have hof := lyOfF' c
  rw [hc, show lyOf c = lyV c by unfold lyOf; rw [if_pos hc]] at hof
  unfold lyV at hof
  have hput := fun (k : Nat) (hk : (k : Int) < lyData c) => put_fl hc hF0 hz hk
  have hfv := fun (k : Nat) (hk : (k : Int) ≤ lyData c) => fl_valid hc hz hk
  have hhost := fun (p : Po) (hv : pvalid p c = true) => host_step hc hF0 hv
  have hclean := fun (p : Po) (hv : pvalid p c = true) => clean_step hc hF0 hv
  have hleave := fun (p : Po) (hv : pvalid p c = true) (b : Bool) => leave_step hc hv b
  generalize lySlot c = S0 at hof
  generalize lyCap c = S3 at hof
  generalize lyFirst c = F at hof hput hfv hF0 hF1 hz hhost hclean
  generalize lyData c = D at hof hput hfv hD0 hD1 hz
  refine fun_of_vc (tabXOk [5000004, 4000143, 4000148]) mixOk Try.func14 rfl (by rfl) (rs := [.tmp 2]) rfl rfl 166 ?_; rw [Try.ntmps14]
  (conv => whnf); repeat (first | (refine And.intro (DrawOk.mk (by first | (simp only [List.map_cons, List.map_nil, List.nil_append, List.cons_append, List.append_nil, updsL, List.length_cons, List.length_nil]; decide +kernel) | exact rfl)) ?_; conv => whnf) | (refine And.intro rfl ?_; conv => whnf) | (refine And.intro (fun _ => ?_) (fun h => Bool.noConfusion h); conv => whnf) | (refine And.intro (fun h => Bool.noConfusion h) (fun _ => ?_); conv => whnf))
  refine ⟨_, _, hlight, ?_⟩
  (conv => whnf); repeat (first | (refine And.intro (DrawOk.mk (by first | (simp only [List.map_cons, List.map_nil, List.nil_append, List.cons_append, List.append_nil, updsL, List.length_cons, List.length_nil]; decide +kernel) | exact rfl)) ?_; conv => whnf) | (refine And.intro rfl ?_; conv => whnf) | (refine And.intro (fun _ => ?_) (fun h => Bool.noConfusion h); conv => whnf) | (refine And.intro (fun h => Bool.noConfusion h) (fun _ => ?_); conv => whnf))
  refine ⟨_, _, rollF L hl, ?_⟩
  (conv => whnf); repeat (first | (refine And.intro (DrawOk.mk (by first | (simp only [List.map_cons, List.map_nil, List.nil_append, List.cons_append, List.append_nil, updsL, List.length_cons, List.length_nil]; decide +kernel) | exact rfl)) ?_; conv => whnf) | (refine And.intro rfl ?_; conv => whnf) | (refine And.intro (fun _ => ?_) (fun h => Bool.noConfusion h); conv => whnf) | (refine And.intro (fun h => Bool.noConfusion h) (fun _ => ?_); conv => whnf))
  refine ⟨_, _, hsm, ?_⟩
  (conv => whnf); repeat (first | (refine And.intro (DrawOk.mk (by first | (simp only [List.map_cons, List.map_nil, List.nil_append, List.cons_append, List.append_nil, updsL, List.length_cons, List.length_nil]; decide +kernel) | exact rfl)) ?_; conv => whnf) | (refine And.intro rfl ?_; conv => whnf) | (refine And.intro (fun _ => ?_) (fun h => Bool.noConfusion h); conv => whnf) | (refine And.intro (fun h => Bool.noConfusion h) (fun _ => ?_); conv => whnf))
  refine ⟨_, _, hof, ?_⟩
  (conv => whnf); repeat (first | (refine And.intro (DrawOk.mk (by first | (simp only [List.map_cons, List.map_nil, List.nil_append, List.cons_append, List.append_nil, updsL, List.length_cons, List.length_nil]; decide +kernel) | exact rfl)) ?_; conv => whnf) | (refine And.intro rfl ?_; conv => whnf) | (refine And.intro (fun _ => ?_) (fun h => Bool.noConfusion h); conv => whnf) | (refine And.intro (fun h => Bool.noConfusion h) (fun _ => ?_); conv => whnf))
  refine vc_loop [3, 4, 5, 7, 8] [4, 5] (X := Nat) (fun k gs => [(9, .v (i64V (F + (k : Int))))]) (fun k gs => [(7, .var 1 (poCs (fl F k) (-1) (-1))), (27, .var 1 (dcs L k0))]) (fun k => (k : Int) ≤ D) (fun k => (D - (k : Int)).toNat) _ (Ghost.refl _) 0 (by omega) ?_ ?_
  · (refine And.intro rfl (And.intro rfl ?_)); (repeat' (first | exact trivial | exact rfl | apply And.intro | (refine congrArg (Value.int .i64) (w64_nat ?_); omega)))
    all_goals first
      | rfl
      | exact congrArg (Value.int .i64) (by omega)
  rintro gs k hk
  by_cases hlt : (k : Int) < D
  · have a1 := pputF ⟨fl F k, -1, -1⟩ c (F + (k : Int)) (by dsimp only; rw [fl_len]; omega)
    rw [hput k hlt] at a1
    have hw : iwrap .i64 (F + (k : Int) + 1) = F + ((k + 1 : Nat) : Int) := (w64_in (by omega)).trans (by omega)
    clear hput hfv hhost hclean hleave
    (conv => whnf); repeat (first | (refine And.intro (DrawOk.mk (by first | (simp only [List.map_cons, List.map_nil, List.nil_append, List.cons_append, List.append_nil, updsL, List.length_cons, List.length_nil]; decide +kernel) | exact rfl)) ?_; conv => whnf) | (refine And.intro rfl ?_; conv => whnf) | (refine And.intro (fun _ => ?_) (fun h => Bool.noConfusion h); conv => whnf) | (refine And.intro (fun h => Bool.noConfusion h) (fun _ => ?_); conv => whnf))
    refine And.intro (fun _ => ?_) (fun h => by have := of_decide_eq_false h; omega)
    (conv => whnf); repeat (first | (refine And.intro (DrawOk.mk (by first | (simp only [List.map_cons, List.map_nil, List.nil_append, List.cons_append, List.append_nil, updsL, List.length_cons, List.length_nil]; decide +kernel) | exact rfl)) ?_; conv => whnf) | (refine And.intro rfl ?_; conv => whnf) | (refine And.intro (fun _ => ?_) (fun h => Bool.noConfusion h); conv => whnf) | (refine And.intro (fun h => Bool.noConfusion h) (fun _ => ?_); conv => whnf))
    refine ⟨_, _, a1, ?_⟩
    (conv => whnf); repeat (first | (refine And.intro (DrawOk.mk (by first | (simp only [List.map_cons, List.map_nil, List.nil_append, List.cons_append, List.append_nil, updsL, List.length_cons, List.length_nil]; decide +kernel) | exact rfl)) ?_; conv => whnf) | (refine And.intro rfl ?_; conv => whnf) | (refine And.intro (fun _ => ?_) (fun h => Bool.noConfusion h); conv => whnf) | (refine And.intro (fun h => Bool.noConfusion h) (fun _ => ?_); conv => whnf))
    refine again (k + 1) (by omega) (by omega) ?_
    (refine And.intro rfl (And.intro rfl ?_)); (repeat' (first | exact trivial | exact rfl | apply And.intro | (refine congrArg (Value.int .i64) (w64_nat ?_); omega)))
    all_goals first
      | rfl
      | exact congrArg (Value.int .i64) hw
  have hkD : (k : Int) = D := by omega
  have hv0 := hfv k hk
  have hn0 := fl_cnt F k
  clear hput hfv
  generalize fl F k = f0 at hv0 hn0 ⊢
  (conv => whnf); repeat (first | (refine And.intro (DrawOk.mk (by first | (simp only [List.map_cons, List.map_nil, List.nil_append, List.cons_append, List.append_nil, updsL, List.length_cons, List.length_nil]; decide +kernel) | exact rfl)) ?_; conv => whnf) | (refine And.intro rfl ?_; conv => whnf) | (refine And.intro (fun _ => ?_) (fun h => Bool.noConfusion h); conv => whnf) | (refine And.intro (fun h => Bool.noConfusion h) (fun _ => ?_); conv => whnf))
  refine And.intro (fun h => by have := of_decide_eq_true h; omega) (fun _ => ?_)
  (conv => whnf); repeat (first | (refine And.intro (DrawOk.mk (by first | (simp only [List.map_cons, List.map_nil, List.nil_append, List.cons_append, List.append_nil, updsL, List.length_cons, List.length_nil]; decide +kernel) | exact rfl)) ?_; conv => whnf) | (refine And.intro rfl ?_; conv => whnf) | (refine And.intro (fun _ => ?_) (fun h => Bool.noConfusion h); conv => whnf) | (refine And.intro (fun h => Bool.noConfusion h) (fun _ => ?_); conv => whnf))
  refine vc_loop [3, 4, 5, 7] [4, 5] (X := Nat × Nat × Po × Nat) (fun x gs => [(12, ATint x.1), (8, ATint x.2.2.2)]) (fun x gs => [(7, .var 1 (poCs x.2.2.1.f x.2.2.1.h x.2.2.1.c)), (27, .var 1 (dcs L x.2.1))]) (fun x => x.1 ≤ 60 ∧ x.2.1 ≤ L.length ∧ pvalid x.2.2.1 c = true ∧ pcnt x.2.2.1 + (x.2.2.2 : Int) = D ∧ x.2.2.2 ≤ x.1) (fun x => 60 - x.1) _ (Ghost.refl _) (0, k0, ⟨f0, -1, -1⟩, 0) ⟨by omega, hk0, hv0, by dsimp only; omega, Nat.le_refl _⟩ ?_ ?_
  · (refine And.intro rfl (And.intro rfl ?_)); (repeat' (first | exact trivial | exact rfl | apply And.intro | (refine congrArg (Value.int .i64) (w64_nat ?_); omega)))
  clear hv0 hn0
  rintro gs2 ⟨i, k, p, o⟩ ⟨hi, hk, hv, hn, ho⟩
  dsimp only at hi hk hv hn ho ⊢
  (conv => whnf); repeat (first | (refine And.intro (DrawOk.mk (by first | (simp only [List.map_cons, List.map_nil, List.nil_append, List.cons_append, List.append_nil, updsL, List.length_cons, List.length_nil]; decide +kernel) | exact rfl)) ?_; conv => whnf) | (refine And.intro rfl ?_; conv => whnf) | (refine And.intro (fun _ => ?_) (fun h => Bool.noConfusion h); conv => whnf) | (refine And.intro (fun h => Bool.noConfusion h) (fun _ => ?_); conv => whnf))
  refine And.intro (fun h => ?_) (fun h => ?_)
  · have hlt : i < 60 := by have := of_decide_eq_true h; omega
    (conv => whnf); repeat (first | (refine And.intro (DrawOk.mk (by first | (simp only [List.map_cons, List.map_nil, List.nil_append, List.cons_append, List.append_nil, updsL, List.length_cons, List.length_nil]; decide +kernel) | exact rfl)) ?_; conv => whnf) | (refine And.intro rfl ?_; conv => whnf) | (refine And.intro (fun _ => ?_) (fun h => Bool.noConfusion h); conv => whnf) | (refine And.intro (fun h => Bool.noConfusion h) (fun _ => ?_); conv => whnf))
    refine ⟨_, _, restF L k hl hk, ?_⟩
    (conv => whnf); repeat (first | (refine And.intro (DrawOk.mk (by first | (simp only [List.map_cons, List.map_nil, List.nil_append, List.cons_append, List.append_nil, updsL, List.length_cons, List.length_nil]; decide +kernel) | exact rfl)) ?_; conv => whnf) | (refine And.intro rfl ?_; conv => whnf) | (refine And.intro (fun _ => ?_) (fun h => Bool.noConfusion h); conv => whnf) | (refine And.intro (fun h => Bool.noConfusion h) (fun _ => ?_); conv => whnf))
    refine And.intro (fun h2 => ?_) (fun h2 => ?_)
    · have k1 := dnx_le hk
      have x1 := nextF L k 4 hl
      have r1 := dval_in L k (n := 4) (by omega) (by omega)
      generalize dval L k 4 = v1 at x1 r1
      generalize dnx L k = m1 at x1 k1
      have hlen := pcnt_len p
      (conv => whnf); repeat (first | (refine And.intro (DrawOk.mk (by first | (simp only [List.map_cons, List.map_nil, List.nil_append, List.cons_append, List.append_nil, updsL, List.length_cons, List.length_nil]; decide +kernel) | exact rfl)) ?_; conv => whnf) | (refine And.intro rfl ?_; conv => whnf) | (refine And.intro (fun _ => ?_) (fun h => Bool.noConfusion h); conv => whnf) | (refine And.intro (fun h => Bool.noConfusion h) (fun _ => ?_); conv => whnf))
      refine ⟨_, _, x1, ?_⟩
      (conv => whnf); repeat (first | (refine And.intro (DrawOk.mk (by first | (simp only [List.map_cons, List.map_nil, List.nil_append, List.cons_append, List.append_nil, updsL, List.length_cons, List.length_nil]; decide +kernel) | exact rfl)) ?_; conv => whnf) | (refine And.intro rfl ?_; conv => whnf) | (refine And.intro (fun _ => ?_) (fun h => Bool.noConfusion h); conv => whnf) | (refine And.intro (fun h => Bool.noConfusion h) (fun _ => ?_); conv => whnf))
      refine vc_join [3, 4, 5, 7, 12] [4, 5] (X := Po × Nat) (fun x gs => [(8, ATint x.2)]) (fun x gs => [(7, .var 1 (poCs x.1.f x.1.h x.1.c)), (27, .var 1 (dcs L m1))]) (fun x => pvalid x.1 c = true ∧ pcnt x.1 + (x.2 : Int) = D ∧ x.2 ≤ i + 1) ?_ ?_
      · have hvc : v1 = 0 ∨ v1 = 1 ∨ v1 = 2 ∨ v1 = 3 := by omega
        rcases hvc with rfl | rfl | rfl | rfl
        · have y1 := phostF p c (by omega)
          have y2 := hhost p hv
          generalize phost p c = R1 at y1 y2
          obtain ⟨q, ok⟩ := R1
          obtain ⟨y2, y3, y4⟩ := y2
          dsimp only at y1 y2 y3 y4
          clear hhost hclean hleave
          have hn' : pcnt q + (o : Int) = D := by omega
          by_cases e1 : p.h = -1
          · by_cases e2 : (p.f.length : Int) > 2
            · rw [decide_eq_true e1, decide_eq_true e2] at y4
              subst y4
              (conv => whnf); repeat (first | (refine And.intro (DrawOk.mk (by first | (simp only [List.map_cons, List.map_nil, List.nil_append, List.cons_append, List.append_nil, updsL, List.length_cons, List.length_nil]; decide +kernel) | exact rfl)) ?_; conv => whnf) | (refine And.intro rfl ?_; conv => whnf) | (refine And.intro (fun _ => ?_) (fun h => Bool.noConfusion h); conv => whnf) | (refine And.intro (fun h => Bool.noConfusion h) (fun _ => ?_); conv => whnf))
              refine ⟨_, _, y1, ?_⟩
              (conv => whnf); repeat (first | (refine And.intro (DrawOk.mk (by first | (simp only [List.map_cons, List.map_nil, List.nil_append, List.cons_append, List.append_nil, updsL, List.length_cons, List.length_nil]; decide +kernel) | exact rfl)) ?_; conv => whnf) | (refine And.intro rfl ?_; conv => whnf) | (refine And.intro (fun _ => ?_) (fun h => Bool.noConfusion h); conv => whnf) | (refine And.intro (fun h => Bool.noConfusion h) (fun _ => ?_); conv => whnf))
              refine And.intro (fun _ => ?_) (fun h => absurd h (by simp [e1]))
              (conv => whnf); repeat (first | (refine And.intro (DrawOk.mk (by first | (simp only [List.map_cons, List.map_nil, List.nil_append, List.cons_append, List.append_nil, updsL, List.length_cons, List.length_nil]; decide +kernel) | exact rfl)) ?_; conv => whnf) | (refine And.intro rfl ?_; conv => whnf) | (refine And.intro (fun _ => ?_) (fun h => Bool.noConfusion h); conv => whnf) | (refine And.intro (fun h => Bool.noConfusion h) (fun _ => ?_); conv => whnf))
              refine And.intro (fun h => by rw [pwLen, decide_eq_true e2] at h; exact absurd h (by decide)) (fun _ => ?_)
              (conv => whnf); repeat (first | (refine And.intro (DrawOk.mk (by first | (simp only [List.map_cons, List.map_nil, List.nil_append, List.cons_append, List.append_nil, updsL, List.length_cons, List.length_nil]; decide +kernel) | exact rfl)) ?_; conv => whnf) | (refine And.intro rfl ?_; conv => whnf) | (refine And.intro (fun _ => ?_) (fun h => Bool.noConfusion h); conv => whnf) | (refine And.intro (fun h => Bool.noConfusion h) (fun _ => ?_); conv => whnf))
              refine joined (q, o) ⟨y2, hn', by dsimp only; omega⟩ ?_
              (refine And.intro rfl (And.intro rfl ?_)); (repeat' (first | exact trivial | exact rfl | apply And.intro | (refine congrArg (Value.int .i64) (w64_nat ?_); omega)))
            · rw [decide_eq_true e1, decide_eq_false e2] at y4
              subst y4
              (conv => whnf); repeat (first | (refine And.intro (DrawOk.mk (by first | (simp only [List.map_cons, List.map_nil, List.nil_append, List.cons_append, List.append_nil, updsL, List.length_cons, List.length_nil]; decide +kernel) | exact rfl)) ?_; conv => whnf) | (refine And.intro rfl ?_; conv => whnf) | (refine And.intro (fun _ => ?_) (fun h => Bool.noConfusion h); conv => whnf) | (refine And.intro (fun h => Bool.noConfusion h) (fun _ => ?_); conv => whnf))
              refine ⟨_, _, y1, ?_⟩
              (conv => whnf); repeat (first | (refine And.intro (DrawOk.mk (by first | (simp only [List.map_cons, List.map_nil, List.nil_append, List.cons_append, List.append_nil, updsL, List.length_cons, List.length_nil]; decide +kernel) | exact rfl)) ?_; conv => whnf) | (refine And.intro rfl ?_; conv => whnf) | (refine And.intro (fun _ => ?_) (fun h => Bool.noConfusion h); conv => whnf) | (refine And.intro (fun h => Bool.noConfusion h) (fun _ => ?_); conv => whnf))
              refine And.intro (fun _ => ?_) (fun h => absurd h (by simp [e1]))
              (conv => whnf); repeat (first | (refine And.intro (DrawOk.mk (by first | (simp only [List.map_cons, List.map_nil, List.nil_append, List.cons_append, List.append_nil, updsL, List.length_cons, List.length_nil]; decide +kernel) | exact rfl)) ?_; conv => whnf) | (refine And.intro rfl ?_; conv => whnf) | (refine And.intro (fun _ => ?_) (fun h => Bool.noConfusion h); conv => whnf) | (refine And.intro (fun h => Bool.noConfusion h) (fun _ => ?_); conv => whnf))
              refine And.intro (fun h => by rw [pwLen, decide_eq_false e2] at h; exact absurd h (by decide)) (fun _ => ?_)
              (conv => whnf); repeat (first | (refine And.intro (DrawOk.mk (by first | (simp only [List.map_cons, List.map_nil, List.nil_append, List.cons_append, List.append_nil, updsL, List.length_cons, List.length_nil]; decide +kernel) | exact rfl)) ?_; conv => whnf) | (refine And.intro rfl ?_; conv => whnf) | (refine And.intro (fun _ => ?_) (fun h => Bool.noConfusion h); conv => whnf) | (refine And.intro (fun h => Bool.noConfusion h) (fun _ => ?_); conv => whnf))
              refine joined (q, o) ⟨y2, hn', by dsimp only; omega⟩ ?_
              (refine And.intro rfl (And.intro rfl ?_)); (repeat' (first | exact trivial | exact rfl | apply And.intro | (refine congrArg (Value.int .i64) (w64_nat ?_); omega)))
          · rw [decide_eq_false e1] at y4
            have y4 : ok = false := y4
            subst y4
            (conv => whnf); repeat (first | (refine And.intro (DrawOk.mk (by first | (simp only [List.map_cons, List.map_nil, List.nil_append, List.cons_append, List.append_nil, updsL, List.length_cons, List.length_nil]; decide +kernel) | exact rfl)) ?_; conv => whnf) | (refine And.intro rfl ?_; conv => whnf) | (refine And.intro (fun _ => ?_) (fun h => Bool.noConfusion h); conv => whnf) | (refine And.intro (fun h => Bool.noConfusion h) (fun _ => ?_); conv => whnf))
            refine ⟨_, _, y1, ?_⟩
            (conv => whnf); repeat (first | (refine And.intro (DrawOk.mk (by first | (simp only [List.map_cons, List.map_nil, List.nil_append, List.cons_append, List.append_nil, updsL, List.length_cons, List.length_nil]; decide +kernel) | exact rfl)) ?_; conv => whnf) | (refine And.intro rfl ?_; conv => whnf) | (refine And.intro (fun _ => ?_) (fun h => Bool.noConfusion h); conv => whnf) | (refine And.intro (fun h => Bool.noConfusion h) (fun _ => ?_); conv => whnf))
            refine And.intro (fun h => absurd h (by simp [e1])) (fun _ => ?_)
            (conv => whnf); repeat (first | (refine And.intro (DrawOk.mk (by first | (simp only [List.map_cons, List.map_nil, List.nil_append, List.cons_append, List.append_nil, updsL, List.length_cons, List.length_nil]; decide +kernel) | exact rfl)) ?_; conv => whnf) | (refine And.intro rfl ?_; conv => whnf) | (refine And.intro (fun _ => ?_) (fun h => Bool.noConfusion h); conv => whnf) | (refine And.intro (fun h => Bool.noConfusion h) (fun _ => ?_); conv => whnf))
            refine joined (q, o) ⟨y2, hn', by dsimp only; omega⟩ ?_
            (refine And.intro rfl (And.intro rfl ?_)); (repeat' (first | exact trivial | exact rfl | apply And.intro | (refine congrArg (Value.int .i64) (w64_nat ?_); omega)))
        · have y1 := pcleanF p c (by omega)
          have y2 := hclean p hv
          generalize pclean p c = R1 at y1 y2
          obtain ⟨q, ok⟩ := R1
          obtain ⟨y2, y3, y4⟩ := y2
          dsimp only at y1 y2 y3 y4
          clear hhost hclean hleave
          have hn' : pcnt q + (o : Int) = D := by omega
          by_cases e1 : p.c = -1
          · by_cases e2 : (p.f.length : Int) > 0
            · rw [decide_eq_true e1, decide_eq_true e2] at y4
              subst y4
              (conv => whnf); repeat (first | (refine And.intro (DrawOk.mk (by first | (simp only [List.map_cons, List.map_nil, List.nil_append, List.cons_append, List.append_nil, updsL, List.length_cons, List.length_nil]; decide +kernel) | exact rfl)) ?_; conv => whnf) | (refine And.intro rfl ?_; conv => whnf) | (refine And.intro (fun _ => ?_) (fun h => Bool.noConfusion h); conv => whnf) | (refine And.intro (fun h => Bool.noConfusion h) (fun _ => ?_); conv => whnf))
              refine ⟨_, _, y1, ?_⟩
              (conv => whnf); repeat (first | (refine And.intro (DrawOk.mk (by first | (simp only [List.map_cons, List.map_nil, List.nil_append, List.cons_append, List.append_nil, updsL, List.length_cons, List.length_nil]; decide +kernel) | exact rfl)) ?_; conv => whnf) | (refine And.intro rfl ?_; conv => whnf) | (refine And.intro (fun _ => ?_) (fun h => Bool.noConfusion h); conv => whnf) | (refine And.intro (fun h => Bool.noConfusion h) (fun _ => ?_); conv => whnf))
              refine And.intro (fun _ => ?_) (fun h => absurd h (by simp [e1]))
              (conv => whnf); repeat (first | (refine And.intro (DrawOk.mk (by first | (simp only [List.map_cons, List.map_nil, List.nil_append, List.cons_append, List.append_nil, updsL, List.length_cons, List.length_nil]; decide +kernel) | exact rfl)) ?_; conv => whnf) | (refine And.intro rfl ?_; conv => whnf) | (refine And.intro (fun _ => ?_) (fun h => Bool.noConfusion h); conv => whnf) | (refine And.intro (fun h => Bool.noConfusion h) (fun _ => ?_); conv => whnf))
              refine And.intro (fun h => by rw [pwLen, decide_eq_true e2] at h; exact absurd h (by decide)) (fun _ => ?_)
              (conv => whnf); repeat (first | (refine And.intro (DrawOk.mk (by first | (simp only [List.map_cons, List.map_nil, List.nil_append, List.cons_append, List.append_nil, updsL, List.length_cons, List.length_nil]; decide +kernel) | exact rfl)) ?_; conv => whnf) | (refine And.intro rfl ?_; conv => whnf) | (refine And.intro (fun _ => ?_) (fun h => Bool.noConfusion h); conv => whnf) | (refine And.intro (fun h => Bool.noConfusion h) (fun _ => ?_); conv => whnf))
              refine joined (q, o) ⟨y2, hn', by dsimp only; omega⟩ ?_
              (refine And.intro rfl (And.intro rfl ?_)); (repeat' (first | exact trivial | exact rfl | apply And.intro | (refine congrArg (Value.int .i64) (w64_nat ?_); omega)))
            · rw [decide_eq_true e1, decide_eq_false e2] at y4
              subst y4
              (conv => whnf); repeat (first | (refine And.intro (DrawOk.mk (by first | (simp only [List.map_cons, List.map_nil, List.nil_append, List.cons_append, List.append_nil, updsL, List.length_cons, List.length_nil]; decide +kernel) | exact rfl)) ?_; conv => whnf) | (refine And.intro rfl ?_; conv => whnf) | (refine And.intro (fun _ => ?_) (fun h => Bool.noConfusion h); conv => whnf) | (refine And.intro (fun h => Bool.noConfusion h) (fun _ => ?_); conv => whnf))
              refine ⟨_, _, y1, ?_⟩
              (conv => whnf); repeat (first | (refine And.intro (DrawOk.mk (by first | (simp only [List.map_cons, List.map_nil, List.nil_append, List.cons_append, List.append_nil, updsL, List.length_cons, List.length_nil]; decide +kernel) | exact rfl)) ?_; conv => whnf) | (refine And.intro rfl ?_; conv => whnf) | (refine And.intro (fun _ => ?_) (fun h => Bool.noConfusion h); conv => whnf) | (refine And.intro (fun h => Bool.noConfusion h) (fun _ => ?_); conv => whnf))
              refine And.intro (fun _ => ?_) (fun h => absurd h (by simp [e1]))
              (conv => whnf); repeat (first | (refine And.intro (DrawOk.mk (by first | (simp only [List.map_cons, List.map_nil, List.nil_append, List.cons_append, List.append_nil, updsL, List.length_cons, List.length_nil]; decide +kernel) | exact rfl)) ?_; conv => whnf) | (refine And.intro rfl ?_; conv => whnf) | (refine And.intro (fun _ => ?_) (fun h => Bool.noConfusion h); conv => whnf) | (refine And.intro (fun h => Bool.noConfusion h) (fun _ => ?_); conv => whnf))
              refine And.intro (fun h => by rw [pwLen, decide_eq_false e2] at h; exact absurd h (by decide)) (fun _ => ?_)
              (conv => whnf); repeat (first | (refine And.intro (DrawOk.mk (by first | (simp only [List.map_cons, List.map_nil, List.nil_append, List.cons_append, List.append_nil, updsL, List.length_cons, List.length_nil]; decide +kernel) | exact rfl)) ?_; conv => whnf) | (refine And.intro rfl ?_; conv => whnf) | (refine And.intro (fun _ => ?_) (fun h => Bool.noConfusion h); conv => whnf) | (refine And.intro (fun h => Bool.noConfusion h) (fun _ => ?_); conv => whnf))
              refine joined (q, o) ⟨y2, hn', by dsimp only; omega⟩ ?_
              (refine And.intro rfl (And.intro rfl ?_)); (repeat' (first | exact trivial | exact rfl | apply And.intro | (refine congrArg (Value.int .i64) (w64_nat ?_); omega)))
          · rw [decide_eq_false e1] at y4
            have y4 : ok = false := y4
            subst y4
            (conv => whnf); repeat (first | (refine And.intro (DrawOk.mk (by first | (simp only [List.map_cons, List.map_nil, List.nil_append, List.cons_append, List.append_nil, updsL, List.length_cons, List.length_nil]; decide +kernel) | exact rfl)) ?_; conv => whnf) | (refine And.intro rfl ?_; conv => whnf) | (refine And.intro (fun _ => ?_) (fun h => Bool.noConfusion h); conv => whnf) | (refine And.intro (fun h => Bool.noConfusion h) (fun _ => ?_); conv => whnf))
            refine ⟨_, _, y1, ?_⟩
            (conv => whnf); repeat (first | (refine And.intro (DrawOk.mk (by first | (simp only [List.map_cons, List.map_nil, List.nil_append, List.cons_append, List.append_nil, updsL, List.length_cons, List.length_nil]; decide +kernel) | exact rfl)) ?_; conv => whnf) | (refine And.intro rfl ?_; conv => whnf) | (refine And.intro (fun _ => ?_) (fun h => Bool.noConfusion h); conv => whnf) | (refine And.intro (fun h => Bool.noConfusion h) (fun _ => ?_); conv => whnf))
            refine And.intro (fun h => absurd h (by simp [e1])) (fun _ => ?_)
            (conv => whnf); repeat (first | (refine And.intro (DrawOk.mk (by first | (simp only [List.map_cons, List.map_nil, List.nil_append, List.cons_append, List.append_nil, updsL, List.length_cons, List.length_nil]; decide +kernel) | exact rfl)) ?_; conv => whnf) | (refine And.intro rfl ?_; conv => whnf) | (refine And.intro (fun _ => ?_) (fun h => Bool.noConfusion h); conv => whnf) | (refine And.intro (fun h => Bool.noConfusion h) (fun _ => ?_); conv => whnf))
            refine joined (q, o) ⟨y2, hn', by dsimp only; omega⟩ ?_
            (refine And.intro rfl (And.intro rfl ?_)); (repeat' (first | exact trivial | exact rfl | apply And.intro | (refine congrArg (Value.int .i64) (w64_nat ?_); omega)))
        · have y1 := pleaveF p c true (by omega)
          have y2 := hleave p hv true
          generalize pleave p c true = R1 at y1 y2
          obtain ⟨q, ok⟩ := R1
          obtain ⟨y2, y3, y4⟩ := y2
          dsimp only at y1 y2 y3 y4
          clear hhost hclean hleave
          by_cases e1 : p.h = -1
          · rw [decide_eq_false (fun h => h e1)] at y4
            subst y4
            have hn' : pcnt q + (o : Int) = D := by simp at y3; omega
            (conv => whnf); repeat (first | (refine And.intro (DrawOk.mk (by first | (simp only [List.map_cons, List.map_nil, List.nil_append, List.cons_append, List.append_nil, updsL, List.length_cons, List.length_nil]; decide +kernel) | exact rfl)) ?_; conv => whnf) | (refine And.intro rfl ?_; conv => whnf) | (refine And.intro (fun _ => ?_) (fun h => Bool.noConfusion h); conv => whnf) | (refine And.intro (fun h => Bool.noConfusion h) (fun _ => ?_); conv => whnf))
            refine ⟨_, _, y1, ?_⟩
            (conv => whnf); repeat (first | (refine And.intro (DrawOk.mk (by first | (simp only [List.map_cons, List.map_nil, List.nil_append, List.cons_append, List.append_nil, updsL, List.length_cons, List.length_nil]; decide +kernel) | exact rfl)) ?_; conv => whnf) | (refine And.intro rfl ?_; conv => whnf) | (refine And.intro (fun _ => ?_) (fun h => Bool.noConfusion h); conv => whnf) | (refine And.intro (fun h => Bool.noConfusion h) (fun _ => ?_); conv => whnf))
            refine And.intro (fun h => absurd h (by simp [e1])) (fun _ => ?_)
            (conv => whnf); repeat (first | (refine And.intro (DrawOk.mk (by first | (simp only [List.map_cons, List.map_nil, List.nil_append, List.cons_append, List.append_nil, updsL, List.length_cons, List.length_nil]; decide +kernel) | exact rfl)) ?_; conv => whnf) | (refine And.intro rfl ?_; conv => whnf) | (refine And.intro (fun _ => ?_) (fun h => Bool.noConfusion h); conv => whnf) | (refine And.intro (fun h => Bool.noConfusion h) (fun _ => ?_); conv => whnf))
            refine joined (q, o) ⟨y2, hn', by dsimp only; omega⟩ ?_
            (refine And.intro rfl (And.intro rfl ?_)); (repeat' (first | exact trivial | exact rfl | apply And.intro | (refine congrArg (Value.int .i64) (w64_nat ?_); omega)))
          · rw [decide_eq_true e1] at y4
            subst y4
            have hn' : pcnt q + ((o + 1 : Nat) : Int) = D := by simp at y3; omega
            (conv => whnf); repeat (first | (refine And.intro (DrawOk.mk (by first | (simp only [List.map_cons, List.map_nil, List.nil_append, List.cons_append, List.append_nil, updsL, List.length_cons, List.length_nil]; decide +kernel) | exact rfl)) ?_; conv => whnf) | (refine And.intro rfl ?_; conv => whnf) | (refine And.intro (fun _ => ?_) (fun h => Bool.noConfusion h); conv => whnf) | (refine And.intro (fun h => Bool.noConfusion h) (fun _ => ?_); conv => whnf))
            refine ⟨_, _, y1, ?_⟩
            (conv => whnf); repeat (first | (refine And.intro (DrawOk.mk (by first | (simp only [List.map_cons, List.map_nil, List.nil_append, List.cons_append, List.append_nil, updsL, List.length_cons, List.length_nil]; decide +kernel) | exact rfl)) ?_; conv => whnf) | (refine And.intro rfl ?_; conv => whnf) | (refine And.intro (fun _ => ?_) (fun h => Bool.noConfusion h); conv => whnf) | (refine And.intro (fun h => Bool.noConfusion h) (fun _ => ?_); conv => whnf))
            refine And.intro (fun _ => ?_) (fun h => absurd h (by simp [e1]))
            (conv => whnf); repeat (first | (refine And.intro (DrawOk.mk (by first | (simp only [List.map_cons, List.map_nil, List.nil_append, List.cons_append, List.append_nil, updsL, List.length_cons, List.length_nil]; decide +kernel) | exact rfl)) ?_; conv => whnf) | (refine And.intro rfl ?_; conv => whnf) | (refine And.intro (fun _ => ?_) (fun h => Bool.noConfusion h); conv => whnf) | (refine And.intro (fun h => Bool.noConfusion h) (fun _ => ?_); conv => whnf))
            refine joined (q, o + 1) ⟨y2, hn', by dsimp only; omega⟩ ?_
            (refine And.intro rfl (And.intro rfl ?_)); (repeat' (first | exact trivial | exact rfl | apply And.intro | (refine congrArg (Value.int .i64) (w64_nat ?_); omega)))
        · have y1 := pleaveF p c false (by omega)
          have y2 := hleave p hv false
          generalize pleave p c false = R1 at y1 y2
          obtain ⟨q, ok⟩ := R1
          obtain ⟨y2, y3, y4⟩ := y2
          dsimp only at y1 y2 y3 y4
          clear hhost hclean hleave
          by_cases e1 : p.c = -1
          · rw [decide_eq_false (fun h => h e1)] at y4
            subst y4
            have hn' : pcnt q + (o : Int) = D := by simp at y3; omega
            (conv => whnf); repeat (first | (refine And.intro (DrawOk.mk (by first | (simp only [List.map_cons, List.map_nil, List.nil_append, List.cons_append, List.append_nil, updsL, List.length_cons, List.length_nil]; decide +kernel) | exact rfl)) ?_; conv => whnf) | (refine And.intro rfl ?_; conv => whnf) | (refine And.intro (fun _ => ?_) (fun h => Bool.noConfusion h); conv => whnf) | (refine And.intro (fun h => Bool.noConfusion h) (fun _ => ?_); conv => whnf))
            refine ⟨_, _, y1, ?_⟩
            (conv => whnf); repeat (first | (refine And.intro (DrawOk.mk (by first | (simp only [List.map_cons, List.map_nil, List.nil_append, List.cons_append, List.append_nil, updsL, List.length_cons, List.length_nil]; decide +kernel) | exact rfl)) ?_; conv => whnf) | (refine And.intro rfl ?_; conv => whnf) | (refine And.intro (fun _ => ?_) (fun h => Bool.noConfusion h); conv => whnf) | (refine And.intro (fun h => Bool.noConfusion h) (fun _ => ?_); conv => whnf))
            refine And.intro (fun h => absurd h (by simp [e1])) (fun _ => ?_)
            (conv => whnf); repeat (first | (refine And.intro (DrawOk.mk (by first | (simp only [List.map_cons, List.map_nil, List.nil_append, List.cons_append, List.append_nil, updsL, List.length_cons, List.length_nil]; decide +kernel) | exact rfl)) ?_; conv => whnf) | (refine And.intro rfl ?_; conv => whnf) | (refine And.intro (fun _ => ?_) (fun h => Bool.noConfusion h); conv => whnf) | (refine And.intro (fun h => Bool.noConfusion h) (fun _ => ?_); conv => whnf))
            refine joined (q, o) ⟨y2, hn', by dsimp only; omega⟩ ?_
            (refine And.intro rfl (And.intro rfl ?_)); (repeat' (first | exact trivial | exact rfl | apply And.intro | (refine congrArg (Value.int .i64) (w64_nat ?_); omega)))
          · rw [decide_eq_true e1] at y4
            subst y4
            have hn' : pcnt q + ((o + 1 : Nat) : Int) = D := by simp at y3; omega
            (conv => whnf); repeat (first | (refine And.intro (DrawOk.mk (by first | (simp only [List.map_cons, List.map_nil, List.nil_append, List.cons_append, List.append_nil, updsL, List.length_cons, List.length_nil]; decide +kernel) | exact rfl)) ?_; conv => whnf) | (refine And.intro rfl ?_; conv => whnf) | (refine And.intro (fun _ => ?_) (fun h => Bool.noConfusion h); conv => whnf) | (refine And.intro (fun h => Bool.noConfusion h) (fun _ => ?_); conv => whnf))
            refine ⟨_, _, y1, ?_⟩
            (conv => whnf); repeat (first | (refine And.intro (DrawOk.mk (by first | (simp only [List.map_cons, List.map_nil, List.nil_append, List.cons_append, List.append_nil, updsL, List.length_cons, List.length_nil]; decide +kernel) | exact rfl)) ?_; conv => whnf) | (refine And.intro rfl ?_; conv => whnf) | (refine And.intro (fun _ => ?_) (fun h => Bool.noConfusion h); conv => whnf) | (refine And.intro (fun h => Bool.noConfusion h) (fun _ => ?_); conv => whnf))
            refine And.intro (fun h => absurd h (by simp [e1])) (fun _ => ?_)
            (conv => whnf); repeat (first | (refine And.intro (DrawOk.mk (by first | (simp only [List.map_cons, List.map_nil, List.nil_append, List.cons_append, List.append_nil, updsL, List.length_cons, List.length_nil]; decide +kernel) | exact rfl)) ?_; conv => whnf) | (refine And.intro rfl ?_; conv => whnf) | (refine And.intro (fun _ => ?_) (fun h => Bool.noConfusion h); conv => whnf) | (refine And.intro (fun h => Bool.noConfusion h) (fun _ => ?_); conv => whnf))
            refine joined (q, o + 1) ⟨y2, hn', by dsimp only; omega⟩ ?_
            (refine And.intro rfl (And.intro rfl ?_)); (repeat' (first | exact trivial | exact rfl | apply And.intro | (refine congrArg (Value.int .i64) (w64_nat ?_); omega)))
      intro gs3 x hx
      have hv' : pvalid x.1 c = true := hx.1
      have hn' : pcnt x.1 + (x.2 : Int) = D := hx.2.1
      have ho' : x.2 ≤ i + 1 := hx.2.2
      clear hx
      obtain ⟨q, o'⟩ := x
      dsimp only at hv' hn' ho'
      have hn0' := hn'
      clear hhost hclean hleave x1
      have yv := pvalidF q c (cnt_le hn' hD1)
      rw [hv'] at yv
      obtain ⟨s1, c1, c2, c3, c4⟩ := cnt3 hn' hD1
      (conv => whnf); repeat (first | (refine And.intro (DrawOk.mk (by first | (simp only [List.map_cons, List.map_nil, List.nil_append, List.cons_append, List.append_nil, updsL, List.length_cons, List.length_nil]; decide +kernel) | exact rfl)) ?_; conv => whnf) | (refine And.intro rfl ?_; conv => whnf) | (refine And.intro (fun _ => ?_) (fun h => Bool.noConfusion h); conv => whnf) | (refine And.intro (fun h => Bool.noConfusion h) (fun _ => ?_); conv => whnf))
      refine vc_join [3, 4, 5, 7, 8, 12] [4, 5] (X := Unit) (fun _ gs => [(21, .v (i64V s1))]) (fun _ gs => [(27, .var 1 (dcs L m1)), (7, .var 1 (poCs q.f q.h q.c))]) (fun _ => True) ?_ ?_
      · (conv => whnf); repeat (first | (refine And.intro (DrawOk.mk (by first | (simp only [List.map_cons, List.map_nil, List.nil_append, List.cons_append, List.append_nil, updsL, List.length_cons, List.length_nil]; decide +kernel) | exact rfl)) ?_; conv => whnf) | (refine And.intro rfl ?_; conv => whnf) | (refine And.intro (fun _ => ?_) (fun h => Bool.noConfusion h); conv => whnf) | (refine And.intro (fun h => Bool.noConfusion h) (fun _ => ?_); conv => whnf))
        refine And.intro (fun h => ?_) (fun h => ?_)
        · have h' : q.h ≠ -1 := by simpa using h
          (conv => whnf); repeat (first | (refine And.intro (DrawOk.mk (by first | (simp only [List.map_cons, List.map_nil, List.nil_append, List.cons_append, List.append_nil, updsL, List.length_cons, List.length_nil]; decide +kernel) | exact rfl)) ?_; conv => whnf) | (refine And.intro rfl ?_; conv => whnf) | (refine And.intro (fun _ => ?_) (fun h => Bool.noConfusion h); conv => whnf) | (refine And.intro (fun h => Bool.noConfusion h) (fun _ => ?_); conv => whnf))
          refine joined () trivial ?_
          (refine And.intro rfl (And.intro rfl ?_)); (repeat' (first | exact trivial | exact rfl | apply And.intro | (refine congrArg (Value.int .i64) (w64_nat ?_); omega)))
          all_goals exact congrArg (Value.int .i64) (c1 h')
        · have h' : q.h = -1 := by simpa using h
          (conv => whnf); repeat (first | (refine And.intro (DrawOk.mk (by first | (simp only [List.map_cons, List.map_nil, List.nil_append, List.cons_append, List.append_nil, updsL, List.length_cons, List.length_nil]; decide +kernel) | exact rfl)) ?_; conv => whnf) | (refine And.intro rfl ?_; conv => whnf) | (refine And.intro (fun _ => ?_) (fun h => Bool.noConfusion h); conv => whnf) | (refine And.intro (fun h => Bool.noConfusion h) (fun _ => ?_); conv => whnf))
          refine joined () trivial ?_
          (refine And.intro rfl (And.intro rfl ?_)); (repeat' (first | exact trivial | exact rfl | apply And.intro | (refine congrArg (Value.int .i64) (w64_nat ?_); omega)))
          all_goals exact congrArg (Value.int .i64) (c2 h')
      intro gs4 _ _
      (conv => whnf); repeat (first | (refine And.intro (DrawOk.mk (by first | (simp only [List.map_cons, List.map_nil, List.nil_append, List.cons_append, List.append_nil, updsL, List.length_cons, List.length_nil]; decide +kernel) | exact rfl)) ?_; conv => whnf) | (refine And.intro rfl ?_; conv => whnf) | (refine And.intro (fun _ => ?_) (fun h => Bool.noConfusion h); conv => whnf) | (refine And.intro (fun h => Bool.noConfusion h) (fun _ => ?_); conv => whnf))
      refine vc_join [3, 4, 5, 7, 8, 12] [4, 5] (X := Unit) (fun _ gs => [(21, .v (i64V D))]) (fun _ gs => [(27, .var 1 (dcs L m1)), (7, .var 1 (poCs q.f q.h q.c))]) (fun _ => True) ?_ ?_
      · (conv => whnf); repeat (first | (refine And.intro (DrawOk.mk (by first | (simp only [List.map_cons, List.map_nil, List.nil_append, List.cons_append, List.append_nil, updsL, List.length_cons, List.length_nil]; decide +kernel) | exact rfl)) ?_; conv => whnf) | (refine And.intro rfl ?_; conv => whnf) | (refine And.intro (fun _ => ?_) (fun h => Bool.noConfusion h); conv => whnf) | (refine And.intro (fun h => Bool.noConfusion h) (fun _ => ?_); conv => whnf))
        refine And.intro (fun h => ?_) (fun h => ?_)
        · have h' : q.c ≠ -1 := by simpa using h
          (conv => whnf); repeat (first | (refine And.intro (DrawOk.mk (by first | (simp only [List.map_cons, List.map_nil, List.nil_append, List.cons_append, List.append_nil, updsL, List.length_cons, List.length_nil]; decide +kernel) | exact rfl)) ?_; conv => whnf) | (refine And.intro rfl ?_; conv => whnf) | (refine And.intro (fun _ => ?_) (fun h => Bool.noConfusion h); conv => whnf) | (refine And.intro (fun h => Bool.noConfusion h) (fun _ => ?_); conv => whnf))
          refine joined () trivial ?_
          (refine And.intro rfl (And.intro rfl ?_)); (repeat' (first | exact trivial | exact rfl | apply And.intro | (refine congrArg (Value.int .i64) (w64_nat ?_); omega)))
          all_goals exact congrArg (Value.int .i64) (c3 h')
        · have h' : q.c = -1 := by simpa using h
          (conv => whnf); repeat (first | (refine And.intro (DrawOk.mk (by first | (simp only [List.map_cons, List.map_nil, List.nil_append, List.cons_append, List.append_nil, updsL, List.length_cons, List.length_nil]; decide +kernel) | exact rfl)) ?_; conv => whnf) | (refine And.intro rfl ?_; conv => whnf) | (refine And.intro (fun _ => ?_) (fun h => Bool.noConfusion h); conv => whnf) | (refine And.intro (fun h => Bool.noConfusion h) (fun _ => ?_); conv => whnf))
          refine joined () trivial ?_
          (refine And.intro rfl (And.intro rfl ?_)); (repeat' (first | exact trivial | exact rfl | apply And.intro | (refine congrArg (Value.int .i64) (w64_nat ?_); omega)))
          all_goals exact congrArg (Value.int .i64) (c4 h')
      intro gs5 _ _
      (conv => whnf); repeat (first | (refine And.intro (DrawOk.mk (by first | (simp only [List.map_cons, List.map_nil, List.nil_append, List.cons_append, List.append_nil, updsL, List.length_cons, List.length_nil]; decide +kernel) | exact rfl)) ?_; conv => whnf) | (refine And.intro rfl ?_; conv => whnf) | (refine And.intro (fun _ => ?_) (fun h => Bool.noConfusion h); conv => whnf) | (refine And.intro (fun h => Bool.noConfusion h) (fun _ => ?_); conv => whnf))
      refine And.intro (fun h => absurd h (by simp)) (fun _ => ?_)
      (conv => whnf); repeat (first | (refine And.intro (DrawOk.mk (by first | (simp only [List.map_cons, List.map_nil, List.nil_append, List.cons_append, List.append_nil, updsL, List.length_cons, List.length_nil]; decide +kernel) | exact rfl)) ?_; conv => whnf) | (refine And.intro rfl ?_; conv => whnf) | (refine And.intro (fun _ => ?_) (fun h => Bool.noConfusion h); conv => whnf) | (refine And.intro (fun h => Bool.noConfusion h) (fun _ => ?_); conv => whnf))
      refine ⟨_, _, yv, ?_⟩
      (conv => whnf); repeat (first | (refine And.intro (DrawOk.mk (by first | (simp only [List.map_cons, List.map_nil, List.nil_append, List.cons_append, List.append_nil, updsL, List.length_cons, List.length_nil]; decide +kernel) | exact rfl)) ?_; conv => whnf) | (refine And.intro rfl ?_; conv => whnf) | (refine And.intro (fun _ => ?_) (fun h => Bool.noConfusion h); conv => whnf) | (refine And.intro (fun h => Bool.noConfusion h) (fun _ => ?_); conv => whnf))
      refine again (i + 1, m1, q, o') ⟨hlt, k1, hv', hn0', by dsimp only; omega⟩ (by dsimp only; omega) ?_
      (refine And.intro rfl (And.intro rfl ?_)); (repeat' (first | exact trivial | exact rfl | apply And.intro | (refine congrArg (Value.int .i64) (w64_nat ?_); omega)))
    · (conv => whnf); repeat (first | (refine And.intro (DrawOk.mk (by first | (simp only [List.map_cons, List.map_nil, List.nil_append, List.cons_append, List.append_nil, updsL, List.length_cons, List.length_nil]; decide +kernel) | exact rfl)) ?_; conv => whnf) | (refine And.intro rfl ?_; conv => whnf) | (refine And.intro (fun _ => ?_) (fun h => Bool.noConfusion h); conv => whnf) | (refine And.intro (fun h => Bool.noConfusion h) (fun _ => ?_); conv => whnf))
      refine ⟨_, _, aw, ?_⟩
      (conv => whnf); repeat (first | (refine And.intro (DrawOk.mk (by first | (simp only [List.map_cons, List.map_nil, List.nil_append, List.cons_append, List.append_nil, updsL, List.length_cons, List.length_nil]; decide +kernel) | exact rfl)) ?_; conv => whnf) | (refine And.intro rfl ?_; conv => whnf) | (refine And.intro (fun _ => ?_) (fun h => Bool.noConfusion h); conv => whnf) | (refine And.intro (fun h => Bool.noConfusion h) (fun _ => ?_); conv => whnf))
      refine Exists.intro [] (And.intro List.nodup_nil ?_); ((conv => whnf); repeat (first | (refine And.intro (DrawOk.mk (by first | (simp only [List.map_cons, List.map_nil, List.nil_append, List.cons_append, List.append_nil, updsL, List.length_cons, List.length_nil]; decide +kernel) | exact rfl)) ?_; conv => whnf) | (refine And.intro rfl ?_; conv => whnf) | (refine And.intro (fun _ => ?_) (fun h => Bool.noConfusion h); conv => whnf) | (refine And.intro (fun h => Bool.noConfusion h) (fun _ => ?_); conv => whnf)))
      rfl
  · (conv => whnf); repeat (first | (refine And.intro (DrawOk.mk (by first | (simp only [List.map_cons, List.map_nil, List.nil_append, List.cons_append, List.append_nil, updsL, List.length_cons, List.length_nil]; decide +kernel) | exact rfl)) ?_; conv => whnf) | (refine And.intro rfl ?_; conv => whnf) | (refine And.intro (fun _ => ?_) (fun h => Bool.noConfusion h); conv => whnf) | (refine And.intro (fun h => Bool.noConfusion h) (fun _ => ?_); conv => whnf))
    refine ⟨_, _, aw, ?_⟩
    (conv => whnf); repeat (first | (refine And.intro (DrawOk.mk (by first | (simp only [List.map_cons, List.map_nil, List.nil_append, List.cons_append, List.append_nil, updsL, List.length_cons, List.length_nil]; decide +kernel) | exact rfl)) ?_; conv => whnf) | (refine And.intro rfl ?_; conv => whnf) | (refine And.intro (fun _ => ?_) (fun h => Bool.noConfusion h); conv => whnf) | (refine And.intro (fun h => Bool.noConfusion h) (fun _ => ?_); conv => whnf))
    refine Exists.intro [] (And.intro List.nodup_nil ?_); ((conv => whnf); repeat (first | (refine And.intro (DrawOk.mk (by first | (simp only [List.map_cons, List.map_nil, List.nil_append, List.cons_append, List.append_nil, updsL, List.length_cons, List.length_nil]; decide +kernel) | exact rfl)) ?_; conv => whnf) | (refine And.intro rfl ?_; conv => whnf) | (refine And.intro (fun _ => ?_) (fun h => Bool.noConfusion h); conv => whnf) | (refine And.intro (fun h => Bool.noConfusion h) (fun _ => ?_); conv => whnf)))
    rfl
set_option maxRecDepth 100000 in
theorem pReserveF (L : List Int) (hl : L.length ≤ 140737488351232) : Fun Try.prog 14 [slV (wV L)] [] (ATbool true) := by
  have hlight := lightF L (by omega)
  by_cases hL : L.length ≤ 300
  · rw [decide_eq_true hL] at hlight
    exact pReserve0 L hL hlight
  · rw [decide_eq_false hL] at hlight
    refine fun_of_vc tabOk mixOk Try.func14 rfl (by rfl) (rs := [.tmp 2]) rfl rfl 166 ?_; rw [Try.ntmps14]
    (conv => whnf); repeat (first | (refine And.intro (DrawOk.mk (by first | (simp only [List.map_cons, List.map_nil, List.nil_append, List.cons_append, List.append_nil, updsL, List.length_cons, List.length_nil]; decide +kernel) | exact rfl)) ?_; conv => whnf) | (refine And.intro rfl ?_; conv => whnf) | (refine And.intro (fun _ => ?_) (fun h => Bool.noConfusion h); conv => whnf) | (refine And.intro (fun h => Bool.noConfusion h) (fun _ => ?_); conv => whnf))
    refine ⟨_, _, hlight, ?_⟩
    (conv => whnf); repeat (first | (refine And.intro (DrawOk.mk (by first | (simp only [List.map_cons, List.map_nil, List.nil_append, List.cons_append, List.append_nil, updsL, List.length_cons, List.length_nil]; decide +kernel) | exact rfl)) ?_; conv => whnf) | (refine And.intro rfl ?_; conv => whnf) | (refine And.intro (fun _ => ?_) (fun h => Bool.noConfusion h); conv => whnf) | (refine And.intro (fun h => Bool.noConfusion h) (fun _ => ?_); conv => whnf))
    refine ⟨_, _, pawakeF, ?_⟩
    (conv => whnf); repeat (first | (refine And.intro (DrawOk.mk (by first | (simp only [List.map_cons, List.map_nil, List.nil_append, List.cons_append, List.append_nil, updsL, List.length_cons, List.length_nil]; decide +kernel) | exact rfl)) ?_; conv => whnf) | (refine And.intro rfl ?_; conv => whnf) | (refine And.intro (fun _ => ?_) (fun h => Bool.noConfusion h); conv => whnf) | (refine And.intro (fun h => Bool.noConfusion h) (fun _ => ?_); conv => whnf))
    refine Exists.intro [] (And.intro List.nodup_nil ?_); ((conv => whnf); repeat (first | (refine And.intro (DrawOk.mk (by first | (simp only [List.map_cons, List.map_nil, List.nil_append, List.cons_append, List.append_nil, updsL, List.length_cons, List.length_nil]; decide +kernel) | exact rfl)) ?_; conv => whnf) | (refine And.intro rfl ?_; conv => whnf) | (refine And.intro (fun _ => ?_) (fun h => Bool.noConfusion h); conv => whnf) | (refine And.intro (fun h => Bool.noConfusion h) (fun _ => ?_); conv => whnf)))
    rfl
end Go.Proofs.Ytijajfldpaadnaa.Ab
namespace Go.Proofs.Ytijajfldpaadnaa
set_option linter.unusedVariables false
set_option linter.unusedSimpArgs false
open Ab
set_option maxRecDepth 100000 in
theorem poolReserve.walk {H : Type} {enc : TypeId × Value → H} {W : World} {base : Nat} (v : Value) (d : DataW H) (p : List MemPlace) (hv : Value.okWide Try.prog W .any base 22 v)
    (h : DataW.Trod enc Try.prog W 0 (fun _ => true) true 22 v d p) (hw : ∀ n ∈ d.weights Try.prog 22, n ≤ 140737488351232)
    (W' : World) (hW : W' = W := by rfl) : Calls Try.prog 14 #[v] W' (True1 W') := by
  subst hW
  obtain ⟨es, _, q1, q2⟩ := open_sl tabOk 3 (t := 22) (by decide +kernel) rfl hv h
  obtain ⟨xs, rfl⟩ := ints_of (d := 2) es (fun r hr => (q1 r hr).2)
  have b3 := slice_bound tabOk (e := 3) rfl h hw (q2 (fun _ _ => undef) (fun _ => 0))
  rw [bytesOf_eq tabOk (fun h => TK.noConfusion h)] at b3
  have b3' : (wV xs).length * 8 ≤ 140737488351232 := b3
  exact law_of_fun (pReserveF xs (by simp [wV] at b3'; omega)) rfl (reps_get (vs := [_]) ⟨q2 _ _, trivial⟩)
end Go.Proofs.Ytijajfldpaadnaa
