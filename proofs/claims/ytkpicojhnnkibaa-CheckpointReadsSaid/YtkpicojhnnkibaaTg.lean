/- Slots of checkpoints: the specification's Read and Newest. No condition. -/
import Derived.Test.YtkpicojhnnkibaaTw
namespace Go.Proofs.Ytkpicojhnnkibaa.Ab
set_option linter.unusedVariables false
set_option linter.unusedSimpArgs false
open Go.RowKit

theorem cread_seq {n : Nat} {cb : Int} {zs : List Zn} {slot : Int} (h : (cread n cb zs slot).2 = 0) : 1 ≤ (cread n cb zs slot).1.s := by
  unfold cread at h ⊢
  split at h
  · cases h
  rename_i h1
  rw [if_neg h1]
  split at h
  · cases h
  rename_i h2
  rw [if_neg h2]
  split at h
  · rename_i h3
    rw [if_pos h3]
    generalize (recGo [] (secs zs (slotsL n slot n))).1 = l at h ⊢
    unfold wholeC at h ⊢
    split at h
    · rename_i h4
      rw [if_pos h4]
      dsimp only
      unfold cdecode at h4 ⊢
      split at h4
      · rename_i hd t
        split at h4
        · rename_i h5
          rw [if_pos h5]
          have := badB_no (cchk_ok h5.2.1).1
          exact this.1
        · cases h4.1
      · cases h4.1
    · cases h
  · cases h
def newR (a b : Bse × Int) : Bse × Int := if a.2 = 0 ∧ (b.2 ≠ 0 ∨ a.1.s ≥ b.1.s) then (a.1, 0) else if b.2 = 0 then (b.1, 1) else (b0, -1)
theorem nst_new (n : Nat) (cb : Int) (zs : List Zn) : nst n cb zs 2 = newR (cread n cb zs 0) (cread n cb zs 1) := by
  have h0 := cread_seq (n := n) (cb := cb) (zs := zs) (slot := 0)
  have h1 := cread_seq (n := n) (cb := cb) (zs := zs) (slot := 1)
  show nstep (cread n cb zs ((1 : Nat) : Int)) _ (nstep (cread n cb zs ((0 : Nat) : Int)) _ (b0, -1)) = _
  rw [show ((0 : Nat) : Int) = 0 from rfl, show ((1 : Nat) : Int) = 1 from rfl]
  generalize cread n cb zs 0 = A at h0 ⊢
  generalize cread n cb zs 1 = B at h1 ⊢
  unfold newR
  by_cases ha : A.2 = 0
  · have ha' := h0 ha
    have e0 : nstep A 0 (b0, -1) = (A.1, 0) := by unfold nstep; rw [if_pos ⟨ha, by show A.1.s > 0; omega⟩]
    rw [e0]
    by_cases hb : B.2 = 0
    · by_cases hs : B.1.s > A.1.s
      · rw [if_neg (fun h => h.2.elim (fun g => g hb) (fun g => by omega)), if_pos hb]
        unfold nstep
        rw [if_pos ⟨hb, hs⟩]
      · rw [if_pos ⟨ha, Or.inr (by omega)⟩]
        unfold nstep
        rw [if_neg (fun h => hs h.2)]
    · rw [if_pos ⟨ha, Or.inl hb⟩]
      unfold nstep
      rw [if_neg (fun h => hb h.1)]
  · have e0 : nstep A 0 (b0, -1) = (b0, -1) := by unfold nstep; rw [if_neg (fun h => ha h.1)]
    rw [e0, if_neg (fun h => ha h.1)]
    by_cases hb : B.2 = 0
    · have hb' := h1 hb
      rw [if_pos hb]
      unfold nstep
      rw [if_pos ⟨hb, by show B.1.s > 0; omega⟩]
    · rw [if_neg hb]
      unfold nstep
      rw [if_neg (fun h => hb h.1)]
set_option maxRecDepth 100000 in
set_option maxHeartbeats 16000000 in
theorem wholeF' (c : Cf) (l : List Rec) (hl : l.length ≤ 2000000) (hp : ∀ r ∈ l, r.p.size ≤ 9223372036854775807) : Fun Try.prog 75 [cfV c, slV (rR l)] [] (.tup [bseV (wholeC c.b (cdecode l)).1, i64V (wholeC c.b (cdecode l)).2]) := by
  have hdec := cdecF' l (by omega) hp
  have hdl := cdecode_len l
  generalize cdecode l = D at hdec hdl ⊢
  obtain ⟨⟨ds, dn, dc, des⟩, e⟩ := D
  dsimp only at hdec hdl
  have hel := eLen des
  obtain ⟨cz, cs, cb, cq, cd, ch⟩ := c
  have hR : ∀ R, R = wholeC cb (⟨ds, dn, dc, des⟩, e) → R = wholeC cb (⟨ds, dn, dc, des⟩, e) := fun _ h => h
  rcases (show des = [] ∨ ∃ pre x, des = pre ++ [x] by rcases List.eq_nil_or_concat des with h | ⟨pre, x, h⟩; exact Or.inl h; exact Or.inr ⟨pre, x, by rw [h, List.concat_eq_append]⟩) with rfl | ⟨pre, x, rfl⟩
  · by_cases g : e = 0 ∧ (([] : List Ety).length : Int) ≤ cb
    · have hw : wholeC cb (⟨ds, dn, dc, []⟩, e) = (⟨ds, dn, dc, []⟩, 0) := by unfold wholeC; rw [if_pos ⟨g.1, g.2, rfl⟩]
      dsimp only
      rw [hw]
      obtain ⟨g1, g2⟩ := g
      subst g1
      simp only [List.length_nil] at g2
      refine fun_of_vc tabOk mixOk Try.func75 rfl (by rfl) (rs := [.cell 4 24, .tmp 5]) rfl rfl 49 ?_; rw [Try.ntmps75]
      (conv => whnf); repeat ((first | refine And.intro DrawOk.go ?_ | refine And.intro rfl ?_ | refine And.intro (fun _ => ?_) (fun h => Bool.noConfusion h) | refine And.intro (fun h => Bool.noConfusion h) (fun _ => ?_)); conv => whnf)
      repeat' (first | ((refine And.intro (fun h => ?_) (fun h => ?_)) <;> (try simp at h) <;> ((conv => whnf); repeat ((first | refine And.intro DrawOk.go ?_ | refine And.intro rfl ?_ | refine And.intro (fun _ => ?_) (fun h => Bool.noConfusion h) | refine And.intro (fun h => Bool.noConfusion h) (fun _ => ?_)); conv => whnf))) | (refine ⟨_, _, hdec, ?_⟩; ((conv => whnf); repeat ((first | refine And.intro DrawOk.go ?_ | refine And.intro rfl ?_ | refine And.intro (fun _ => ?_) (fun h => Bool.noConfusion h) | refine And.intro (fun h => Bool.noConfusion h) (fun _ => ?_)); conv => whnf))) | fail)
      all_goals first
        | (exfalso; simp only [eLen, List.length_nil] at *; omega)
        | (exfalso; simp only [eLen] at *; simp at *; omega)
        | (refine Exists.intro [] (And.intro List.nodup_nil ?_); ((conv => whnf); repeat ((first | refine And.intro DrawOk.go ?_ | refine And.intro rfl ?_ | refine And.intro (fun _ => ?_) (fun h => Bool.noConfusion h) | refine And.intro (fun h => Bool.noConfusion h) (fun _ => ?_)); conv => whnf))
           rfl)
    · have hw : wholeC cb (⟨ds, dn, dc, []⟩, e) = (b0, 3) := by unfold wholeC; rw [if_neg (fun h => g ⟨h.1, h.2.1⟩)]
      dsimp only
      rw [hw]
      simp only [List.length_nil] at g
      refine fun_of_vc tabOk mixOk Try.func75 rfl (by rfl) (rs := [.cell 4 24, .tmp 5]) rfl rfl 49 ?_; rw [Try.ntmps75]
      (conv => whnf); repeat ((first | refine And.intro DrawOk.go ?_ | refine And.intro rfl ?_ | refine And.intro (fun _ => ?_) (fun h => Bool.noConfusion h) | refine And.intro (fun h => Bool.noConfusion h) (fun _ => ?_)); conv => whnf)
      repeat' (first | ((refine And.intro (fun h => ?_) (fun h => ?_)) <;> (try simp at h) <;> ((conv => whnf); repeat ((first | refine And.intro DrawOk.go ?_ | refine And.intro rfl ?_ | refine And.intro (fun _ => ?_) (fun h => Bool.noConfusion h) | refine And.intro (fun h => Bool.noConfusion h) (fun _ => ?_)); conv => whnf))) | (refine ⟨_, _, hdec, ?_⟩; ((conv => whnf); repeat ((first | refine And.intro DrawOk.go ?_ | refine And.intro rfl ?_ | refine And.intro (fun _ => ?_) (fun h => Bool.noConfusion h) | refine And.intro (fun h => Bool.noConfusion h) (fun _ => ?_)); conv => whnf))) | fail)
      all_goals first
        | (exfalso; simp only [eLen] at *; simp at *; omega)
        | (refine Exists.intro [] (And.intro List.nodup_nil ?_); ((conv => whnf); repeat ((first | refine And.intro DrawOk.go ?_ | refine And.intro rfl ?_ | refine And.intro (fun _ => ?_) (fun h => Bool.noConfusion h) | refine And.intro (fun h => Bool.noConfusion h) (fun _ => ?_)); conv => whnf))
           rfl)
  · have hx : (eR (pre ++ [x]))[(iwrap .i64 (((eR (pre ++ [x])).length : Int) - 1)).toNat]? = some (eRow x) := by
      rw [eLen, List.length_append, List.length_singleton, show iwrap .i64 (((pre.length + 1 : Nat) : Int) - 1) = (pre.length : Int) from (w64_in (by simp at hdl; omega)).trans (by omega)]
      simp [eR]
    have hx0 : 0 ≤ iwrap .i64 (((eR (pre ++ [x])).length : Int) - 1) := by
      rw [eLen, List.length_append, List.length_singleton, show iwrap .i64 (((pre.length + 1 : Nat) : Int) - 1) = (pre.length : Int) from (w64_in (by simp at hdl; omega)).trans (by omega)]
      omega
    have hlb := lastB_snoc pre x cb
    have hpl : 0 < (eR (pre ++ [x])).length := by rw [eLen]; simp
    by_cases g : e = 0 ∧ ((pre ++ [x]).length : Int) ≤ cb ∧ x.b < cb
    · have hw : wholeC cb (⟨ds, dn, dc, pre ++ [x]⟩, e) = (⟨ds, dn, dc, pre ++ [x]⟩, 0) := by unfold wholeC; rw [if_pos ⟨g.1, g.2.1, by dsimp only; rw [hlb]; exact decide_eq_false (by omega)⟩]
      dsimp only
      rw [hw]
      obtain ⟨g1, g2, g3⟩ := g
      subst g1
      generalize pre ++ [x] = ES at *
      refine fun_of_vc tabOk mixOk Try.func75 rfl (by rfl) (rs := [.cell 4 24, .tmp 5]) rfl rfl 49 ?_; rw [Try.ntmps75]
      (conv => whnf); repeat ((first | refine And.intro DrawOk.go ?_ | refine And.intro rfl ?_ | refine And.intro (fun _ => ?_) (fun h => Bool.noConfusion h) | refine And.intro (fun h => Bool.noConfusion h) (fun _ => ?_)); conv => whnf)
      repeat' (first | ((refine And.intro (fun h => ?_) (fun h => ?_)) <;> (try simp at h) <;> ((conv => whnf); repeat ((first | refine And.intro DrawOk.go ?_ | refine And.intro rfl ?_ | refine And.intro (fun _ => ?_) (fun h => Bool.noConfusion h) | refine And.intro (fun h => Bool.noConfusion h) (fun _ => ?_)); conv => whnf))) | (refine ⟨_, _, hdec, ?_⟩; ((conv => whnf); repeat ((first | refine And.intro DrawOk.go ?_ | refine And.intro rfl ?_ | refine And.intro (fun _ => ?_) (fun h => Bool.noConfusion h) | refine And.intro (fun h => Bool.noConfusion h) (fun _ => ?_)); conv => whnf))) | (refine ⟨hx0, _, hx, rfl, ?_⟩; ((conv => whnf); repeat ((first | refine And.intro DrawOk.go ?_ | refine And.intro rfl ?_ | refine And.intro (fun _ => ?_) (fun h => Bool.noConfusion h) | refine And.intro (fun h => Bool.noConfusion h) (fun _ => ?_)); conv => whnf))) | fail)
      all_goals first
        | (exfalso; omega)
        | (refine Exists.intro [] (And.intro List.nodup_nil ?_); ((conv => whnf); repeat ((first | refine And.intro DrawOk.go ?_ | refine And.intro rfl ?_ | refine And.intro (fun _ => ?_) (fun h => Bool.noConfusion h) | refine And.intro (fun h => Bool.noConfusion h) (fun _ => ?_)); conv => whnf))
           rfl)
        | contradiction
    · have hw : wholeC cb (⟨ds, dn, dc, pre ++ [x]⟩, e) = (b0, 3) := by
        unfold wholeC
        rw [if_neg]
        rintro ⟨h1, h2, h3⟩
        dsimp only at h3
        rw [hlb] at h3
        have := of_decide_eq_false h3
        exact g ⟨h1, h2, by omega⟩
      dsimp only
      rw [hw]
      have hne : ¬ eR (pre ++ [x]) = [] := by simp [eR]
      generalize pre ++ [x] = ES at *
      refine fun_of_vc tabOk mixOk Try.func75 rfl (by rfl) (rs := [.cell 4 24, .tmp 5]) rfl rfl 49 ?_; rw [Try.ntmps75]
      (conv => whnf); repeat ((first | refine And.intro DrawOk.go ?_ | refine And.intro rfl ?_ | refine And.intro (fun _ => ?_) (fun h => Bool.noConfusion h) | refine And.intro (fun h => Bool.noConfusion h) (fun _ => ?_)); conv => whnf)
      repeat' (first | ((refine And.intro (fun h => ?_) (fun h => ?_)) <;> (try simp at h) <;> ((conv => whnf); repeat ((first | refine And.intro DrawOk.go ?_ | refine And.intro rfl ?_ | refine And.intro (fun _ => ?_) (fun h => Bool.noConfusion h) | refine And.intro (fun h => Bool.noConfusion h) (fun _ => ?_)); conv => whnf))) | (refine ⟨_, _, hdec, ?_⟩; ((conv => whnf); repeat ((first | refine And.intro DrawOk.go ?_ | refine And.intro rfl ?_ | refine And.intro (fun _ => ?_) (fun h => Bool.noConfusion h) | refine And.intro (fun h => Bool.noConfusion h) (fun _ => ?_)); conv => whnf))) | (refine ⟨hx0, _, hx, rfl, ?_⟩; ((conv => whnf); repeat ((first | refine And.intro DrawOk.go ?_ | refine And.intro rfl ?_ | refine And.intro (fun _ => ?_) (fun h => Bool.noConfusion h) | refine And.intro (fun h => Bool.noConfusion h) (fun _ => ?_)); conv => whnf))) | fail)
      all_goals first
        | contradiction
        | (exfalso; omega)
        | (refine Exists.intro [] (And.intro List.nodup_nil ?_); ((conv => whnf); repeat ((first | refine And.intro DrawOk.go ?_ | refine And.intro rfl ?_ | refine And.intro (fun _ => ?_) (fun h => Bool.noConfusion h) | refine And.intro (fun h => Bool.noConfusion h) (fun _ => ?_)); conv => whnf))
           rfl)
end Go.Proofs.Ytkpicojhnnkibaa.Ab
namespace Go.Proofs.Ytkpicojhnnkibaa.Ab
set_option linter.unusedVariables false
set_option linter.unusedSimpArgs false
open Go.RowKit

set_option maxRecDepth 100000 in
set_option maxHeartbeats 32000000 in
theorem creadF' (c : Cf) (s mo ma : Int) (zs : List Zn) (slot : Int) (n : Nat) (hc : cfChk c = 0) (hn : lySlot c = n) (hn1 : 1 ≤ n) (hn2 : n ≤ 100) (hl : zs.length ≤ 1000) (hz : ∀ x ∈ zs, x.ss.length ≤ 1000 ∧ ∀ y ∈ x.ss, y.size ≤ 1000000) :
    Fun Try.prog 42 [cfV c, dvA s mo ma zs, i64V slot] [] (.tup [bseV (cread n c.b zs slot).1, i64V (cread n c.b zs slot).2]) := by
  have hck := cfChkF' c
  rw [hc] at hck
  have hzl := zLen zs
  by_cases hs : slot = 0 ∨ slot = 1
  rotate_left
  · have hR : cread n c.b zs slot = (b0, 1) := by unfold cread; rw [if_pos hs]
    rw [hR]
    obtain ⟨cz, cs, cb, cq, cd, ch⟩ := c
    refine fun_of_vc tabOk mixOk Try.func42 rfl (by rfl) (rs := [.cell 6 24, .tmp 7]) rfl rfl 92 ?_; rw [Try.ntmps42]
    (conv => whnf); repeat ((first | refine And.intro DrawOk.go ?_ | refine And.intro rfl ?_ | refine And.intro (fun _ => ?_) (fun h => Bool.noConfusion h) | refine And.intro (fun h => Bool.noConfusion h) (fun _ => ?_)); conv => whnf)
    repeat' (first | ((refine And.intro (fun h => ?_) (fun h => ?_)) <;> (try simp at h) <;> ((conv => whnf); repeat ((first | refine And.intro DrawOk.go ?_ | refine And.intro rfl ?_ | refine And.intro (fun _ => ?_) (fun h => Bool.noConfusion h) | refine And.intro (fun h => Bool.noConfusion h) (fun _ => ?_)); conv => whnf))) | (refine ⟨_, _, hck, ?_⟩; ((conv => whnf); repeat ((first | refine And.intro DrawOk.go ?_ | refine And.intro rfl ?_ | refine And.intro (fun _ => ?_) (fun h => Bool.noConfusion h) | refine And.intro (fun h => Bool.noConfusion h) (fun _ => ?_)); conv => whnf))) | fail)
    all_goals first
      | (exfalso; omega)
      | (refine Exists.intro [] (And.intro List.nodup_nil ?_); ((conv => whnf); repeat ((first | refine And.intro DrawOk.go ?_ | refine And.intro rfl ?_ | refine And.intro (fun _ => ?_) (fun h => Bool.noConfusion h) | refine And.intro (fun h => Bool.noConfusion h) (fun _ => ?_)); conv => whnf))
         rfl)
  have hsl := slotsF' c slot n hc hn hn2 hs
  have hget : ∀ i (h : i < n), (wV (slotsL n slot n))[((i : Int)).toNat]? = some [IV.sc (.int .i64 (slot * n + (i : Int)))] := by
    intro i h
    rw [wItem (by rw [slotsL_len]; exact h), slots_get h]
  have hwl : (wV (slotsL n slot n)).length = n := by rw [wLen', slotsL_len]
  have hs0 : 0 ≤ slot * n ∧ slot * n ≤ n := by rcases hs with rfl | rfl <;> omega
  have hlast : iwrap .i64 (((wV (slotsL n slot n)).length : Int) - 1) = ((n - 1 : Nat) : Int) := by rw [hwl]; exact (w64_in (by omega)).trans (by omega)
  have hgl := hget (n - 1) (by omega)
  rw [← hlast] at hgl
  have hgl0 : 0 ≤ iwrap .i64 (((wV (slotsL n slot n)).length : Int) - 1) := by rw [hlast]; omega
  by_cases h5 : slot * n + n > zs.length
  · have hR : cread n c.b zs slot = (b0, 5) := by unfold cread; rw [if_neg (fun h => h hs), if_pos h5]
    rw [hR]
    clear hget
    generalize slotsL n slot n = Z at hsl hgl hwl hlast hgl0
    generalize slot * (n : Int) = B at hgl hs0 h5
    obtain ⟨cz, cs, cb, cq, cd, ch⟩ := c
    refine fun_of_vc tabOk mixOk Try.func42 rfl (by rfl) (rs := [.cell 6 24, .tmp 7]) rfl rfl 92 ?_; rw [Try.ntmps42]
    (conv => whnf); repeat ((first | refine And.intro DrawOk.go ?_ | refine And.intro rfl ?_ | refine And.intro (fun _ => ?_) (fun h => Bool.noConfusion h) | refine And.intro (fun h => Bool.noConfusion h) (fun _ => ?_)); conv => whnf)
    repeat' (first | ((refine And.intro (fun h => ?_) (fun h => ?_)) <;> (try simp at h) <;> ((conv => whnf); repeat ((first | refine And.intro DrawOk.go ?_ | refine And.intro rfl ?_ | refine And.intro (fun _ => ?_) (fun h => Bool.noConfusion h) | refine And.intro (fun h => Bool.noConfusion h) (fun _ => ?_)); conv => whnf))) | (refine ⟨_, _, hck, ?_⟩; ((conv => whnf); repeat ((first | refine And.intro DrawOk.go ?_ | refine And.intro rfl ?_ | refine And.intro (fun _ => ?_) (fun h => Bool.noConfusion h) | refine And.intro (fun h => Bool.noConfusion h) (fun _ => ?_)); conv => whnf))) | (refine ⟨_, _, hsl, ?_⟩; ((conv => whnf); repeat ((first | refine And.intro DrawOk.go ?_ | refine And.intro rfl ?_ | refine And.intro (fun _ => ?_) (fun h => Bool.noConfusion h) | refine And.intro (fun h => Bool.noConfusion h) (fun _ => ?_)); conv => whnf))) | (refine ⟨hgl0, _, hgl, rfl, ?_⟩; ((conv => whnf); repeat ((first | refine And.intro DrawOk.go ?_ | refine And.intro rfl ?_ | refine And.intro (fun _ => ?_) (fun h => Bool.noConfusion h) | refine And.intro (fun h => Bool.noConfusion h) (fun _ => ?_)); conv => whnf))) | fail)
    all_goals first
      | (exfalso; omega)
      | (refine Exists.intro [] (And.intro List.nodup_nil ?_); ((conv => whnf); repeat ((first | refine And.intro DrawOk.go ?_ | refine And.intro rfl ?_ | refine And.intro (fun _ => ?_) (fun h => Bool.noConfusion h) | refine And.intro (fun h => Bool.noConfusion h) (fun _ => ?_)); conv => whnf))
         rfl)
  have hR : cread n c.b zs slot = if (recGo [] (secs zs (slotsL n slot n))).2 = true then wholeC c.b (cdecode (recGo [] (secs zs (slotsL n slot n))).1) else (b0, 3) := by unfold cread; rw [if_neg (fun h => h hs), if_neg h5]
  have hwh := fun (l : List Rec) (hll : l.length ≤ 2000000) (hp : ∀ r ∈ l, r.p.size ≤ 9223372036854775807) => wholeF' c l hll hp
  have hZ : ∀ z ∈ slotsL n slot n, 0 ≤ z ∧ z < zs.length := fun z hz => by
    obtain ⟨i, hi, rfl⟩ := List.mem_map.1 hz
    have := List.mem_range.1 hi
    omega
  have hZl : (slotsL n slot n).length = n := slotsL_len _ _ _
  generalize slotsL n slot n = Z at hsl hget hwl hlast hgl hgl0 hR hZ hZl
  generalize cread n c.b zs slot = RR at hR ⊢
  generalize hG : recGo [] (secs zs Z) = G at hR
  have hlt : ∀ i : Nat, i < n → ¬ (slot * n + (i : Int) ≥ zs.length) := fun i hi => by omega
  have hlt1 := hlt (n - 1) (by omega)
  clear hget
  generalize slot * (n : Int) = B at hgl hs0 h5 hlt hlt1
  clear hlt
  obtain ⟨cz, cs, cb, cq, cd, ch⟩ := c
  dsimp only at hR hwh
  refine fun_of_vc tabOk mixOk Try.func42 rfl (by rfl) (rs := [.cell 6 24, .tmp 7]) rfl rfl 92 ?_; rw [Try.ntmps42]
  (conv => whnf); repeat ((first | refine And.intro DrawOk.go ?_ | refine And.intro rfl ?_ | refine And.intro (fun _ => ?_) (fun h => Bool.noConfusion h) | refine And.intro (fun h => Bool.noConfusion h) (fun _ => ?_)); conv => whnf)
  repeat' (first | ((refine And.intro (fun h => ?_) (fun h => ?_)) <;> (try simp at h) <;> ((conv => whnf); repeat ((first | refine And.intro DrawOk.go ?_ | refine And.intro rfl ?_ | refine And.intro (fun _ => ?_) (fun h => Bool.noConfusion h) | refine And.intro (fun h => Bool.noConfusion h) (fun _ => ?_)); conv => whnf))) | (refine ⟨_, _, hck, ?_⟩; ((conv => whnf); repeat ((first | refine And.intro DrawOk.go ?_ | refine And.intro rfl ?_ | refine And.intro (fun _ => ?_) (fun h => Bool.noConfusion h) | refine And.intro (fun h => Bool.noConfusion h) (fun _ => ?_)); conv => whnf))) | (refine ⟨_, _, hsl, ?_⟩; ((conv => whnf); repeat ((first | refine And.intro DrawOk.go ?_ | refine And.intro rfl ?_ | refine And.intro (fun _ => ?_) (fun h => Bool.noConfusion h) | refine And.intro (fun h => Bool.noConfusion h) (fun _ => ?_)); conv => whnf))) | (refine ⟨hgl0, _, hgl, rfl, ?_⟩; ((conv => whnf); repeat ((first | refine And.intro DrawOk.go ?_ | refine And.intro rfl ?_ | refine And.intro (fun _ => ?_) (fun h => Bool.noConfusion h) | refine And.intro (fun h => Bool.noConfusion h) (fun _ => ?_)); conv => whnf))) | fail)
  all_goals first
    | (exfalso; omega)
    | skip
  all_goals
    clear hck hsl hgl hgl0 hlast
    refine vc_loop [3, 4, 6, 9] [3, 4, 6] (X := Nat × List Rec) (fun x gs => [(11, ATint x.1), (10, .v (.c (.own 78 (gs 78))))]) (fun x gs => [(78, .row (gs 78) 27 5 (rR x.2))]) (fun x => x.1 ≤ Z.length ∧ G = recGo x.2 (secs zs (Z.drop x.1)) ∧ x.2.length ≤ x.1 * 1000 ∧ ∀ r ∈ x.2, r.p.size ≤ 20) (fun x => Z.length - x.1) _ (Ghost.ownNil 10 78 27 5 rfl (Nat.le_of_ble_eq_true rfl)) (0, []) ⟨Nat.zero_le _, hG.symm, Nat.zero_le _, fun r hr => by cases hr⟩ ?_ ?_
    · ((refine And.intro rfl (And.intro rfl ?_)); (repeat' (first | exact trivial | exact rfl | apply And.intro | (refine congrArg (Value.int .i64) (w64_nat ?_); omega))))
    rintro gs ⟨i, acc⟩ ⟨hi, he, hal, hap⟩
    dsimp only at hi he hal hap ⊢
    clear hG
    ((conv => whnf); repeat ((first | refine And.intro DrawOk.go ?_ | refine And.intro rfl ?_ | refine And.intro (fun _ => ?_) (fun h => Bool.noConfusion h) | refine And.intro (fun h => Bool.noConfusion h) (fun _ => ?_)); conv => whnf))
    refine And.intro (fun h => ?_) (fun h => ?_)
    · have hlt : i < Z.length := by have := of_decide_eq_true h; omega
      obtain ⟨hz0, hz1⟩ := hZ _ (List.getElem_mem hlt)
      obtain ⟨k, hk⟩ : ∃ k : Nat, Z[i] = k := ⟨Z[i].toNat, by omega⟩
      have hkl : k < zs.length := by omega
      rw [List.drop_eq_getElem_cons hlt, secs_cons hk hkl] at he
      have hit := wItem hlt
      rw [hk] at hit
      have hit2 := zItem hkl
      obtain ⟨hs1, hs2⟩ := hz _ (List.getElem_mem hkl)
      generalize hre : secs zs (Z.drop (i + 1)) = rest at he
      generalize zs[k] = x at he hit2 hs1 hs2
      obtain ⟨st, du, ss⟩ := x
      dsimp only at he hs1 hs2
      replace hit2 : (zR zs)[((k : Int)).toNat]? = some [IV.sc (.int .i64 st), IV.sc (.int .i64 du), IV.sl (sV ss)] := hit2
      ((conv => whnf); repeat ((first | refine And.intro DrawOk.go ?_ | refine And.intro rfl ?_ | refine And.intro (fun _ => ?_) (fun h => Bool.noConfusion h) | refine And.intro (fun h => Bool.noConfusion h) (fun _ => ?_)); conv => whnf))
      refine ⟨by omega, _, hit, rfl, ?_⟩
      ((conv => whnf); repeat ((first | refine And.intro DrawOk.go ?_ | refine And.intro rfl ?_ | refine And.intro (fun _ => ?_) (fun h => Bool.noConfusion h) | refine And.intro (fun h => Bool.noConfusion h) (fun _ => ?_)); conv => whnf))
      refine ⟨by omega, _, hit2, rfl, ?_⟩
      ((conv => whnf); repeat ((first | refine And.intro DrawOk.go ?_ | refine And.intro rfl ?_ | refine And.intro (fun _ => ?_) (fun h => Bool.noConfusion h) | refine And.intro (fun h => Bool.noConfusion h) (fun _ => ?_)); conv => whnf))
      obtain ⟨M0, hM0⟩ : ∃ M0, M0 = i * 1000 := ⟨_, rfl⟩
      rw [← hM0] at hal
      refine loop_abs (fun Q' hQ' => ?_)
      refine vc_loop [3, 4, 6, 9, 11, 12] [3, 4, 6] (X := Nat × List Rec) (fun x gs => [(13, ATint x.1), (10, .v (.c (.own 78 (gs 78))))]) (fun x gs => [(78, .row (gs 78) 27 5 (rR x.2))]) (fun x => x.1 ≤ ss.length ∧ G = recGo x.2 (ss.drop x.1 ++ rest) ∧ x.2.length ≤ M0 + x.1 ∧ ∀ r ∈ x.2, r.p.size ≤ 20) (fun x => ss.length - x.1) _ (Ghost.refl _) (0, acc) ⟨Nat.zero_le _, by rw [List.drop_zero]; exact he, by dsimp only; omega, hap⟩ ?_ ?_
      · ((refine And.intro rfl (And.intro rfl ?_)); (repeat' (first | exact trivial | exact rfl | apply And.intro | (refine congrArg (Value.int .i64) (w64_nat ?_); omega))))
      intro gs2 x hx
      have hj : x.1 ≤ ss.length := hx.1
      have he2 : G = recGo x.2 (ss.drop x.1 ++ rest) := hx.2.1
      have ha2 : x.2.length ≤ M0 + x.1 := hx.2.2.1
      have hp2 : ∀ r ∈ x.2, r.p.size ≤ 20 := hx.2.2.2
      clear hx
      obtain ⟨j, a2⟩ := x
      dsimp only at hj he2 ha2 hp2
      have hi100 : M0 ≤ 100000 := hM0 ▸ Nat.le_trans (Nat.mul_le_mul_right 1000 (show i ≤ 100 by omega)) (by decide)
      ((conv => whnf); repeat ((first | refine And.intro DrawOk.go ?_ | refine And.intro rfl ?_ | refine And.intro (fun _ => ?_) (fun h => Bool.noConfusion h) | refine And.intro (fun h => Bool.noConfusion h) (fun _ => ?_)); conv => whnf))
      refine And.intro (fun h2 => ?_) (fun h2 => ?_)
      · have hlj : j < ss.length := by have := of_decide_eq_true h2; rw [sLen] at this; omega
        rw [List.drop_eq_getElem_cons hlj, List.cons_append, recGo] at he2
        have hd := rdecF' ss[j] (hs2 _ (List.getElem_mem hlj))
        have hpd := rdec_pay (s := ss[j])
        have hit3 := sItem hlj
        generalize rdec ss[j] = D at he2 hd hpd
        obtain ⟨⟨rk, rb, rv, rm, rp⟩, e⟩ := D
        dsimp only at he2 hd hpd
        ((conv => whnf); repeat ((first | refine And.intro DrawOk.go ?_ | refine And.intro rfl ?_ | refine And.intro (fun _ => ?_) (fun h => Bool.noConfusion h) | refine And.intro (fun h => Bool.noConfusion h) (fun _ => ?_)); conv => whnf))
        refine ⟨by omega, _, hit3, rfl, ?_⟩
        ((conv => whnf); repeat ((first | refine And.intro DrawOk.go ?_ | refine And.intro rfl ?_ | refine And.intro (fun _ => ?_) (fun h => Bool.noConfusion h) | refine And.intro (fun h => Bool.noConfusion h) (fun _ => ?_)); conv => whnf))
        refine ⟨_, _, hd, ?_⟩
        by_cases g : e = 0
        rotate_left
        · rw [if_pos g] at he2
          subst he2
          rw [if_neg (by decide)] at hR
          subst hR
          ((conv => whnf); repeat ((first | refine And.intro DrawOk.go ?_ | refine And.intro rfl ?_ | refine And.intro (fun _ => ?_) (fun h => Bool.noConfusion h) | refine And.intro (fun h => Bool.noConfusion h) (fun _ => ?_)); conv => whnf))
          refine And.intro (fun h => ?_) (fun h => absurd h (by simp [g]))
          ((conv => whnf); repeat ((first | refine And.intro DrawOk.go ?_ | refine And.intro rfl ?_ | refine And.intro (fun _ => ?_) (fun h => Bool.noConfusion h) | refine And.intro (fun h => Bool.noConfusion h) (fun _ => ?_)); conv => whnf))
          rw [hQ']
          ((conv => whnf); repeat ((first | refine And.intro DrawOk.go ?_ | refine And.intro rfl ?_ | refine And.intro (fun _ => ?_) (fun h => Bool.noConfusion h) | refine And.intro (fun h => Bool.noConfusion h) (fun _ => ?_)); conv => whnf))
          refine Exists.intro [] (And.intro List.nodup_nil ?_); ((conv => whnf); repeat ((first | refine And.intro DrawOk.go ?_ | refine And.intro rfl ?_ | refine And.intro (fun _ => ?_) (fun h => Bool.noConfusion h) | refine And.intro (fun h => Bool.noConfusion h) (fun _ => ?_)); conv => whnf))
          rfl
        rw [if_neg (fun h => h g)] at he2
        have hpd2 := hpd g
        subst g
        have hpA : ∀ r ∈ a2 ++ [⟨rk, rb, rv, rm, rp⟩], r.p.size ≤ 20 := fun r hr => by
          rcases List.mem_append.1 hr with hr | hr
          · exact hp2 r hr
          · rw [List.mem_singleton] at hr; rw [hr]; exact hpd2
        ((conv => whnf); repeat ((first | refine And.intro DrawOk.go ?_ | refine And.intro rfl ?_ | refine And.intro (fun _ => ?_) (fun h => Bool.noConfusion h) | refine And.intro (fun h => Bool.noConfusion h) (fun _ => ?_)); conv => whnf))
        refine ⟨rSz [⟨rk, rb, rv, rm, rp⟩], ?_⟩
        ((conv => whnf); repeat ((first | refine And.intro DrawOk.go ?_ | refine And.intro rfl ?_ | refine And.intro (fun _ => ?_) (fun h => Bool.noConfusion h) | refine And.intro (fun h => Bool.noConfusion h) (fun _ => ?_)); conv => whnf))
        refine ⟨bytes_le (by decide) (by rw [rLen]; simp; omega), ?_⟩
        ((conv => whnf); repeat ((first | refine And.intro DrawOk.go ?_ | refine And.intro rfl ?_ | refine And.intro (fun _ => ?_) (fun h => Bool.noConfusion h) | refine And.intro (fun h => Bool.noConfusion h) (fun _ => ?_)); conv => whnf))
        by_cases g6 : rk = 6
        · rw [if_pos g6] at he2
          subst he2
          rw [if_pos rfl] at hR
          have hw := hwh (a2 ++ [⟨rk, rb, rv, rm, rp⟩]) (by simp; omega) (fun r hr => by have := hpA r hr; omega)
          dsimp only at hR
          rw [← hR, ← rSnoc] at hw
          refine And.intro (fun _ => ?_) (fun h => absurd h (by simp [g6]))
          ((conv => whnf); repeat ((first | refine And.intro DrawOk.go ?_ | refine And.intro rfl ?_ | refine And.intro (fun _ => ?_) (fun h => Bool.noConfusion h) | refine And.intro (fun h => Bool.noConfusion h) (fun _ => ?_)); conv => whnf))
          refine ⟨_, _, hw, ?_⟩
          ((conv => whnf); repeat ((first | refine And.intro DrawOk.go ?_ | refine And.intro rfl ?_ | refine And.intro (fun _ => ?_) (fun h => Bool.noConfusion h) | refine And.intro (fun h => Bool.noConfusion h) (fun _ => ?_)); conv => whnf))
          rw [hQ']
          ((conv => whnf); repeat ((first | refine And.intro DrawOk.go ?_ | refine And.intro rfl ?_ | refine And.intro (fun _ => ?_) (fun h => Bool.noConfusion h) | refine And.intro (fun h => Bool.noConfusion h) (fun _ => ?_)); conv => whnf))
          refine Exists.intro [] (And.intro List.nodup_nil ?_); ((conv => whnf); repeat ((first | refine And.intro DrawOk.go ?_ | refine And.intro rfl ?_ | refine And.intro (fun _ => ?_) (fun h => Bool.noConfusion h) | refine And.intro (fun h => Bool.noConfusion h) (fun _ => ?_)); conv => whnf))
          rfl
        · rw [if_neg g6] at he2
          refine And.intro (fun h => absurd (by simpa using h) g6) (fun _ => ?_)
          ((conv => whnf); repeat ((first | refine And.intro DrawOk.go ?_ | refine And.intro rfl ?_ | refine And.intro (fun _ => ?_) (fun h => Bool.noConfusion h) | refine And.intro (fun h => Bool.noConfusion h) (fun _ => ?_)); conv => whnf))
          refine again (j + 1, a2 ++ [⟨rk, rb, rv, rm, rp⟩]) ⟨hlj, he2, by dsimp only; simp; omega, hpA⟩ (by dsimp only; omega) ?_
          ((refine And.intro rfl (And.intro rfl ?_)); (repeat' (first | exact trivial | exact rfl | apply And.intro | (refine congrArg (Value.int .i64) (w64_nat ?_); omega))))
          all_goals exact congrArg (Blk.row _ _ _) (rSnoc a2 ⟨rk, rb, rv, rm, rp⟩)
      · obtain rfl : j = ss.length := by have := of_decide_eq_false h2; rw [sLen] at this; omega
        rw [List.drop_length, List.nil_append] at he2
        ((conv => whnf); repeat ((first | refine And.intro DrawOk.go ?_ | refine And.intro rfl ?_ | refine And.intro (fun _ => ?_) (fun h => Bool.noConfusion h) | refine And.intro (fun h => Bool.noConfusion h) (fun _ => ?_)); conv => whnf))
        rw [hQ']
        ((conv => whnf); repeat ((first | refine And.intro DrawOk.go ?_ | refine And.intro rfl ?_ | refine And.intro (fun _ => ?_) (fun h => Bool.noConfusion h) | refine And.intro (fun h => Bool.noConfusion h) (fun _ => ?_)); conv => whnf))
        refine again (i + 1, a2) ⟨hlt, by rw [hre]; exact he2, by dsimp only; omega, hp2⟩ (by dsimp only; omega) ?_
        ((refine And.intro rfl (And.intro rfl ?_)); (repeat' (first | exact trivial | exact rfl | apply And.intro | (refine congrArg (Value.int .i64) (w64_nat ?_); omega))))
    · obtain rfl : i = Z.length := by have := of_decide_eq_false h; omega
      rw [List.drop_length] at he
      have he' : G = ([], false) := he
      subst he'
      rw [if_neg (by decide)] at hR
      subst hR
      ((conv => whnf); repeat ((first | refine And.intro DrawOk.go ?_ | refine And.intro rfl ?_ | refine And.intro (fun _ => ?_) (fun h => Bool.noConfusion h) | refine And.intro (fun h => Bool.noConfusion h) (fun _ => ?_)); conv => whnf))
      refine Exists.intro [] (And.intro List.nodup_nil ?_); ((conv => whnf); repeat ((first | refine And.intro DrawOk.go ?_ | refine And.intro rfl ?_ | refine And.intro (fun _ => ?_) (fun h => Bool.noConfusion h) | refine And.intro (fun h => Bool.noConfusion h) (fun _ => ?_)); conv => whnf))
      rfl
set_option maxRecDepth 100000 in
set_option maxHeartbeats 16000000 in
theorem cnewF' (c : Cf) (s mo ma : Int) (zs : List Zn) (n : Nat) (hc : cfChk c = 0) (hn : lySlot c = n) (hn1 : 1 ≤ n) (hn2 : n ≤ 100) (hl : zs.length ≤ 1000) (hz : ∀ x ∈ zs, x.ss.length ≤ 1000 ∧ ∀ y ∈ x.ss, y.size ≤ 1000000) :
    Fun Try.prog 44 [cfV c, dvA s mo ma zs] [] (.tup [bseV (nst n c.b zs 2).1, i64V (nst n c.b zs 2).2]) := by
  have r0 := creadF' c s mo ma zs 0 n hc hn hn1 hn2 hl hz
  have r1 := creadF' c s mo ma zs 1 n hc hn hn1 hn2 hl hz
  rw [nst_new]
  generalize cread n c.b zs 0 = A at r0 ⊢
  generalize cread n c.b zs 1 = B at r1 ⊢
  obtain ⟨⟨sa, na, ca, ea⟩, ae⟩ := A
  obtain ⟨⟨sb, nb, cb', eb⟩, be⟩ := B
  have hN : ∀ N, N = newR (⟨sa, na, ca, ea⟩, ae) (⟨sb, nb, cb', eb⟩, be) → Fun Try.prog 44 [cfV c, dvA s mo ma zs] [] (.tup [bseV N.1, i64V N.2]) := by
    intro N hN
    unfold newR at hN
    dsimp only at hN
    obtain ⟨cz, cs, cb, cq, cd, ch⟩ := c
    by_cases g1 : ae = 0 ∧ (be ≠ 0 ∨ sa ≥ sb)
    · rw [if_pos g1] at hN
      subst hN
      refine fun_of_vc tabOk mixOk Try.func44 rfl (by rfl) (rs := [.cell 4 24, .tmp 5]) rfl rfl 46 ?_; rw [Try.ntmps44]
      (conv => whnf); repeat ((first | refine And.intro DrawOk.go ?_ | refine And.intro rfl ?_ | refine And.intro (fun _ => ?_) (fun h => Bool.noConfusion h) | refine And.intro (fun h => Bool.noConfusion h) (fun _ => ?_)); conv => whnf)
      repeat' (first | ((refine And.intro (fun h => ?_) (fun h => ?_)) <;> (try simp at h) <;> ((conv => whnf); repeat ((first | refine And.intro DrawOk.go ?_ | refine And.intro rfl ?_ | refine And.intro (fun _ => ?_) (fun h => Bool.noConfusion h) | refine And.intro (fun h => Bool.noConfusion h) (fun _ => ?_)); conv => whnf))) | (refine ⟨_, _, r0, ?_⟩; ((conv => whnf); repeat ((first | refine And.intro DrawOk.go ?_ | refine And.intro rfl ?_ | refine And.intro (fun _ => ?_) (fun h => Bool.noConfusion h) | refine And.intro (fun h => Bool.noConfusion h) (fun _ => ?_)); conv => whnf))) | (refine ⟨_, _, r1, ?_⟩; ((conv => whnf); repeat ((first | refine And.intro DrawOk.go ?_ | refine And.intro rfl ?_ | refine And.intro (fun _ => ?_) (fun h => Bool.noConfusion h) | refine And.intro (fun h => Bool.noConfusion h) (fun _ => ?_)); conv => whnf))) | fail)
      all_goals first
        | (exfalso; omega)
        | (refine Exists.intro [] (And.intro List.nodup_nil ?_); ((conv => whnf); repeat ((first | refine And.intro DrawOk.go ?_ | refine And.intro rfl ?_ | refine And.intro (fun _ => ?_) (fun h => Bool.noConfusion h) | refine And.intro (fun h => Bool.noConfusion h) (fun _ => ?_)); conv => whnf))
           rfl)
    · rw [if_neg g1] at hN
      by_cases g2 : be = 0
      · rw [if_pos g2] at hN
        subst hN
        refine fun_of_vc tabOk mixOk Try.func44 rfl (by rfl) (rs := [.cell 4 24, .tmp 5]) rfl rfl 46 ?_; rw [Try.ntmps44]
        (conv => whnf); repeat ((first | refine And.intro DrawOk.go ?_ | refine And.intro rfl ?_ | refine And.intro (fun _ => ?_) (fun h => Bool.noConfusion h) | refine And.intro (fun h => Bool.noConfusion h) (fun _ => ?_)); conv => whnf)
        repeat' (first | ((refine And.intro (fun h => ?_) (fun h => ?_)) <;> (try simp at h) <;> ((conv => whnf); repeat ((first | refine And.intro DrawOk.go ?_ | refine And.intro rfl ?_ | refine And.intro (fun _ => ?_) (fun h => Bool.noConfusion h) | refine And.intro (fun h => Bool.noConfusion h) (fun _ => ?_)); conv => whnf))) | (refine ⟨_, _, r0, ?_⟩; ((conv => whnf); repeat ((first | refine And.intro DrawOk.go ?_ | refine And.intro rfl ?_ | refine And.intro (fun _ => ?_) (fun h => Bool.noConfusion h) | refine And.intro (fun h => Bool.noConfusion h) (fun _ => ?_)); conv => whnf))) | (refine ⟨_, _, r1, ?_⟩; ((conv => whnf); repeat ((first | refine And.intro DrawOk.go ?_ | refine And.intro rfl ?_ | refine And.intro (fun _ => ?_) (fun h => Bool.noConfusion h) | refine And.intro (fun h => Bool.noConfusion h) (fun _ => ?_)); conv => whnf))) | fail)
        all_goals first
          | (exfalso; omega)
          | (refine Exists.intro [] (And.intro List.nodup_nil ?_); ((conv => whnf); repeat ((first | refine And.intro DrawOk.go ?_ | refine And.intro rfl ?_ | refine And.intro (fun _ => ?_) (fun h => Bool.noConfusion h) | refine And.intro (fun h => Bool.noConfusion h) (fun _ => ?_)); conv => whnf))
             rfl)
      · rw [if_neg g2] at hN
        subst hN
        refine fun_of_vc tabOk mixOk Try.func44 rfl (by rfl) (rs := [.cell 4 24, .tmp 5]) rfl rfl 46 ?_; rw [Try.ntmps44]
        (conv => whnf); repeat ((first | refine And.intro DrawOk.go ?_ | refine And.intro rfl ?_ | refine And.intro (fun _ => ?_) (fun h => Bool.noConfusion h) | refine And.intro (fun h => Bool.noConfusion h) (fun _ => ?_)); conv => whnf)
        repeat' (first | ((refine And.intro (fun h => ?_) (fun h => ?_)) <;> (try simp at h) <;> ((conv => whnf); repeat ((first | refine And.intro DrawOk.go ?_ | refine And.intro rfl ?_ | refine And.intro (fun _ => ?_) (fun h => Bool.noConfusion h) | refine And.intro (fun h => Bool.noConfusion h) (fun _ => ?_)); conv => whnf))) | (refine ⟨_, _, r0, ?_⟩; ((conv => whnf); repeat ((first | refine And.intro DrawOk.go ?_ | refine And.intro rfl ?_ | refine And.intro (fun _ => ?_) (fun h => Bool.noConfusion h) | refine And.intro (fun h => Bool.noConfusion h) (fun _ => ?_)); conv => whnf))) | (refine ⟨_, _, r1, ?_⟩; ((conv => whnf); repeat ((first | refine And.intro DrawOk.go ?_ | refine And.intro rfl ?_ | refine And.intro (fun _ => ?_) (fun h => Bool.noConfusion h) | refine And.intro (fun h => Bool.noConfusion h) (fun _ => ?_)); conv => whnf))) | fail)
        all_goals first
          | (exfalso; omega)
          | (refine Exists.intro [] (And.intro List.nodup_nil ?_); ((conv => whnf); repeat ((first | refine And.intro DrawOk.go ?_ | refine And.intro rfl ?_ | refine And.intro (fun _ => ?_) (fun h => Bool.noConfusion h) | refine And.intro (fun h => Bool.noConfusion h) (fun _ => ?_)); conv => whnf))
             rfl)
  exact hN _ rfl
end Go.Proofs.Ytkpicojhnnkibaa.Ab
