/- Slots of checkpoints: CheckpointFits. No condition. -/
import Derived.Test.YtkpicojhnnkibaaTb
import Derived.Test.YtkpicojhnnkibaaKe
namespace Go.Proofs.Ytkpicojhnnkibaa.Ab
set_option linter.unusedVariables false
set_option linter.unusedSimpArgs false
open Go.RowKit

/-- The sectors of a zone of the slot, behind n appends. -/
def part (C : Nat) (R : List ByteArray) (n q : Nat) : List ByteArray := ((R.take n).drop (q * C)).take C
def pZone (C : Nat) (p : List ByteArray) : Zn := if p.length = C then ⟨4, C, p⟩ else if p.length = 0 then z0 else ⟨1, 0, p⟩
def slotZ (C S : Nat) (R : List ByteArray) (n j : Nat) : Zn := if j < S then z0 else pZone C (part C R n (j - S))
def slotD (C S Z : Nat) (R : List ByteArray) (n : Nat) : Dv := ⟨C, 3, 3, (List.range Z).map (slotZ C S R n)⟩
theorem part_len {C : Nat} {R : List ByteArray} {n q : Nat} (hn : n ≤ R.length) : (part C R n q).length = min C (n - q * C) := by
  unfold part
  rw [List.length_take, List.length_drop, List.length_take, Nat.min_eq_left hn]
theorem part_other {C : Nat} {R : List ByteArray} {n q : Nat} (hn : n < R.length) (hq : q ≠ n / C) (hC : 0 < C) : part C R (n + 1) q = part C R n q := by
  unfold part
  rw [List.take_succ_eq_append_getElem hn]
  rcases Nat.lt_or_gt_of_ne hq with h | h
  · have h1 : (q + 1) * C ≤ n := Nat.le_trans (Nat.mul_le_mul_right C h) (Nat.div_mul_le_self n C)
    rw [Nat.succ_mul] at h1
    rw [List.drop_append_of_le_length (by rw [List.length_take]; omega), List.take_append_of_le_length (by rw [List.length_drop, List.length_take]; omega)]
  · have h1 : n < q * C := Nat.lt_mul_of_div_lt h hC
    rw [List.drop_of_length_le (by rw [List.length_append, List.length_take, List.length_singleton]; omega), List.drop_of_length_le (by rw [List.length_take]; omega)]
theorem part_next {C : Nat} {R : List ByteArray} {n q : Nat} (hn : n < R.length) (h1 : q * C ≤ n) (h2 : n < q * C + C) : part C R (n + 1) q = part C R n q ++ [R[n]] := by
  unfold part
  have hl : ((R.take n).drop (q * C)).length = n - q * C := by rw [List.length_drop, List.length_take, Nat.min_eq_left (by omega)]
  rw [List.take_succ_eq_append_getElem hn, List.drop_append_of_le_length (by rw [List.length_take]; omega)]
  generalize (R.take n).drop (q * C) = D at hl ⊢
  rw [List.take_of_length_le (l := D ++ [R[n]]) (by rw [List.length_append, List.length_singleton]; omega), List.take_of_length_le (l := D) (by omega)]
theorem pZone_ss {C : Nat} {p : List ByteArray} : (pZone C p).ss = p := by
  unfold pZone
  split
  · rfl
  · split
    · rename_i h
      exact (List.length_eq_zero_iff.1 h).symm
    · rfl
theorem slotZ_ok {C S : Nat} {R : List ByteArray} {n j : Nat} (hC : 3 ≤ C) (hR : ∀ s ∈ R, s.size = 40) (hn : n ≤ R.length) : rightP (slotZ C S R n j) C := by
  unfold slotZ
  split
  · exact rightP0 (by omega)
  · have hl := part_len (C := C) (q := j - S) hn
    have hs : ∀ s ∈ part C R n (j - S), s.size = 40 := fun s hs => hR s (List.mem_of_mem_take (List.mem_of_mem_drop (List.mem_of_mem_take hs)))
    generalize part C R n (j - S) = p at hl hs
    unfold pZone
    split
    · rename_i h
      exact ⟨⟨by dsimp only; omega, by dsimp only; omega, by dsimp only; omega, by dsimp only; omega, by dsimp only; omega⟩, hs, Or.inr (Or.inl ⟨rfl, by dsimp only; omega⟩)⟩
    · split
      · exact rightP0 (by omega)
      · refine ⟨⟨by dsimp only; omega, by dsimp only; omega, by dsimp only; omega, by dsimp only; omega, by dsimp only; omega⟩, hs, Or.inr (Or.inr ⟨by dsimp only; omega, by dsimp only; omega⟩)⟩
theorem act_le {f : Int → Bool} (hf : f 0 = false ∧ f 4 = false) {C S Z : Nat} {R : List ByteArray} {n : Nat} (hn : n ≤ R.length) (hC : 0 < C) :
    ((List.range Z).map (slotZ C S R n)).filter (fun z => f z.st) = (((List.range Z).filter (fun j => decide (j = S + n / C))).map (slotZ C S R n)).filter (fun z => f z.st) := by
  have key : ∀ j, f (slotZ C S R n j).st = true → j = S + n / C := by
    intro j hj
    unfold slotZ at hj
    split at hj
    · rw [show z0.st = 0 from rfl, hf.1] at hj
      cases hj
    · rename_i hjS
      have hl := part_len (C := C) (q := j - S) hn
      generalize part C R n (j - S) = p at hl hj
      unfold pZone at hj
      split at hj
      · rw [hf.2] at hj
        cases hj
      · split at hj
        · rw [show z0.st = 0 from rfl, hf.1] at hj
          cases hj
        · have h1 : (j - S) * C < n := by omega
          have h2 : n < (j - S) * C + C := by omega
          have h3 : n / C = j - S := by
            refine Nat.div_eq_of_lt_le (by omega) ?_
            rw [Nat.succ_mul]
            exact h2
          omega
  rw [List.filter_map, List.filter_map]
  congr 1
  rw [List.filter_filter]
  refine List.filter_congr (fun j _ => ?_)
  by_cases h : f (slotZ C S R n j).st = true
  · simp [h, key j h]
  · simp [h]
theorem range_one (Z k : Nat) : ((List.range Z).filter (fun j => decide (j = k))).length ≤ 1 := by
  induction Z with
  | zero => simp
  | succ Z ih =>
    rw [List.range_succ, List.filter_append, List.length_append]
    by_cases h : Z = k
    · subst h
      have : (List.range Z).filter (fun j => decide (j = Z)) = [] := by
        refine List.filter_eq_nil_iff.2 (fun j hj => ?_)
        have := List.mem_range.1 hj
        simp
        omega
      rw [this]
      simp
    · simp [h]
      exact ih
theorem slot_cnt {C S Z : Nat} {R : List ByteArray} {n : Nat} (hn : n ≤ R.length) (hC : 0 < C) : cntO (slotD C S Z R n).zs ≤ 1 ∧ cntA (slotD C S Z R n).zs ≤ 1 := by
  constructor
  · unfold cntO slotD
    dsimp only
    rw [act_le (f := openB) ⟨by decide, by decide⟩ hn hC]
    exact Nat.le_trans (List.length_filter_le _ _) (by rw [List.length_map]; exact range_one _ _)
  · unfold cntA slotD
    dsimp only
    rw [act_le (f := actB) ⟨by decide, by decide⟩ hn hC]
    exact Nat.le_trans (List.length_filter_le _ _) (by rw [List.length_map]; exact range_one _ _)
theorem slot_chk {C S Z : Nat} {R : List ByteArray} {n : Nat} (hn : n ≤ R.length) (hC : 3 ≤ C ∧ C ≤ 64) (hZ : 3 ≤ Z ∧ Z ≤ 32) (hR : ∀ s ∈ R, s.size = 40) : dchk (slotD C S Z R n) = 0 := by
  have h := slot_cnt (S := S) (Z := Z) hn (show 0 < C by omega)
  refine dchk_yes ?_ (fun z hz => ?_) (by show (cntO _ : Int) ≤ 3; omega) (by show (cntA _ : Int) ≤ 3; omega)
  · unfold cfgBad slotD
    dsimp only
    rw [List.length_map, List.length_range]
    omega
  · obtain ⟨j, _, rfl⟩ := List.mem_map.1 hz
    exact slotZ_ok hC.1 hR hn
theorem slot_get {C S Z : Nat} {R : List ByteArray} {n j : Nat} (hj : j < Z) : (slotD C S Z R n).zs[j]? = some (slotZ C S R n j) := by
  unfold slotD
  dsimp only
  rw [List.getElem?_map, List.getElem?_range hj]
  rfl
/-- One more sector. -/
theorem slot_app {C S Z : Nat} {R : List ByteArray} {n q : Nat} (hq : n / C = q) (hn : n < R.length) (hC : 3 ≤ C ∧ C ≤ 64) (hZ : 3 ≤ Z ∧ Z ≤ 32) (hR : ∀ s ∈ R, s.size = 40) (hk : S + q < Z) :
    (dappend (slotD C S Z R n) ((S + q : Nat) : Int) R[n]).1 = slotD C S Z R (n + 1) := by
  have h1 := Nat.div_mul_le_self n C
  have h2 := Nat.lt_div_mul_add (a := n) (b := C) (show 0 < C by omega)
  rw [hq] at h1 h2
  have hck := slot_chk (S := S) (Z := Z) (Nat.le_of_lt hn) hC hZ hR
  have hcn := slot_cnt (S := S) (Z := Z) (Nat.le_of_lt hn) (show 0 < C by omega)
  have hkz : S + q < (slotD C S Z R n).zs.length := by unfold slotD; dsimp only; rw [List.length_map, List.length_range]; exact hk
  have hg := slot_get (C := C) (S := S) (R := R) (n := n) hk
  rw [List.getElem?_eq_getElem hkz] at hg
  injection hg with hg
  have hp : slotZ C S R n (S + q) = pZone C (part C R n (q)) := by unfold slotZ; rw [if_neg (by omega), Nat.add_sub_cancel_left]
  have hl := part_len (C := C) (q := q) (Nat.le_of_lt hn)
  have hlt : (part C R n (q)).length < C := by omega
  have hst : (slotZ C S R n (S + q)).st ≠ 5 ∧ (slotZ C S R n (S + q)).st ≠ 4 ∧ (slotZ C S R n (S + q)).ss = part C R n (q) ∧ (slotZ C S R n (S + q)).du = 0 ∧ (openB (slotZ C S R n (S + q)).st = true → (slotZ C S R n (S + q)).st = 1) ∧ (openB (slotZ C S R n (S + q)).st = false → actB (slotZ C S R n (S + q)).st = false) := by
    rw [hp]
    refine ⟨?_, ?_, pZone_ss, ?_, ?_, ?_⟩
    all_goals
      unfold pZone
      rw [if_neg (by omega)]
      split
      · first | (show (0 : Int) ≠ _; decide) | rfl | (intro h; exact absurd (show openB 0 = true from h) (by decide)) | (intro _; rfl)
      · first | (show (1 : Int) ≠ _; decide) | rfl | (intro h; exact rfl) | (intro h; exact absurd (show openB 1 = false from h) (by decide))
  rw [dappend_4 hck hkz (hR _ (List.getElem_mem hn)), hg, if_neg hst.1, if_neg hst.2.1]
  have key : (dappGo (slotD C S Z R n) (S + q) R[n] (slotD C S Z R n, 0)).1 = slotD C S Z R (n + 1) := by
    rw [dappGo_ok hkz, hg]
    dsimp only
    have hz : (if ((slotZ C S R n (S + q)).ss.length : Int) + 1 = (slotD C S Z R n).s then (⟨4, (slotD C S Z R n).s, (slotZ C S R n (S + q)).ss ++ [R[n]]⟩ : Zn) else ⟨if openB (slotZ C S R n (S + q)).st then (slotZ C S R n (S + q)).st else 1, (slotZ C S R n (S + q)).du, (slotZ C S R n (S + q)).ss ++ [R[n]]⟩) = slotZ C S R (n + 1) (S + q) := by
      have hp' : slotZ C S R (n + 1) (S + q) = pZone C (part C R n (q) ++ [R[n]]) := by unfold slotZ; rw [if_neg (by omega), Nat.add_sub_cancel_left, part_next hn h1 h2]
      rw [hp', hst.2.2.1, hst.2.2.2.1, show (slotD C S Z R n).s = (C : Int) from rfl]
      have hob : (if openB (slotZ C S R n (S + q)).st = true then (slotZ C S R n (S + q)).st else 1) = 1 := by
        split
        · rename_i ho
          exact hst.2.2.2.2.1 ho
        · rfl
      rw [hob]
      unfold pZone
      rw [List.length_append, List.length_singleton]
      by_cases hfull : (part C R n (q)).length + 1 = C
      · rw [if_pos (by omega), if_pos hfull]
      · rw [if_neg (by omega), if_neg hfull, if_neg (by omega)]
    unfold dput
    rw [hz]
    unfold dwith slotD
    dsimp only
    congr 1
    apply List.ext_getElem?
    intro j
    by_cases hj : S + q = j
    · subst hj
      rw [List.getElem?_set_self (by rw [List.length_map, List.length_range]; exact hk), List.getElem?_map, List.getElem?_range hk]
      rfl
    · rw [List.getElem?_set_ne hj, List.getElem?_map, List.getElem?_map]
      by_cases hjZ : j < Z
      · rw [List.getElem?_range hjZ, Option.map_some, Option.map_some]
        congr 1
        unfold slotZ
        split
        · rfl
        · rw [part_other hn (by omega) (by omega)]
      · rw [List.getElem?_eq_none (by rw [List.length_range]; omega)]
        rfl
  split
  · exact key
  · rename_i ho
    have hroom : droom (slotD C S Z R n) (actB (slotZ C S R n (S + q)).st) = (slotD C S Z R n, 0) := by
      unfold droom
      rw [droomX_no (by show ¬ (cntO (slotD C S Z R n).zs : Int) ≥ 3; omega)]
      dsimp only
      rw [if_neg (fun h => absurd h.2 (by show ¬ (cntA (slotD C S Z R n).zs : Int) ≥ 3; omega))]
    rw [hroom]
    exact key
theorem slot_zero (C S Z : Nat) (R : List ByteArray) (hC : 0 < C) : slotD C S Z R 0 = ⟨C, 3, 3, List.replicate Z z0⟩ := by
  unfold slotD
  congr 1
  apply List.ext_getElem?
  intro j
  rw [List.getElem?_map, List.getElem?_replicate]
  by_cases hj : j < Z
  · rw [List.getElem?_range hj, if_pos hj, Option.map_some]
    congr 1
    unfold slotZ
    split
    · rfl
    · have : part C R 0 (j - S) = [] := by simp [part]
      rw [this]
      unfold pZone
      rw [if_neg (by simp; omega), if_pos (show ([] : List ByteArray).length = 0 from rfl)]
  · rw [List.getElem?_eq_none (by rw [List.length_range]; omega), if_neg hj]
    rfl
/-- What lies in the slot. -/
theorem slot_secs {C S Z : Nat} {R : List ByteArray} {n : Nat} (hn : n ≤ R.length) (hS : 2 * S ≤ Z) (m : Nat) (hm : m ≤ S) : secs (slotD C S Z R n).zs (slotsL S 1 m) = (R.take n).take (m * C) := by
  induction m with
  | zero => simp [slotsL, secs]
  | succ m ih =>
    rw [slotsL_succ]
    have e : secs (slotD C S Z R n).zs (slotsL S 1 m ++ [1 * (S : Int) + (m : Int)]) = secs (slotD C S Z R n).zs (slotsL S 1 m) ++ secs (slotD C S Z R n).zs [1 * (S : Int) + (m : Int)] := by unfold secs; rw [List.map_append, List.flatten_append]
    rw [e, ih (by omega)]
    have hg := slot_get (C := C) (S := S) (R := R) (n := n) (show S + m < Z by omega)
    have e2 : secs (slotD C S Z R n).zs [1 * (S : Int) + (m : Int)] = part C R n m := by
      unfold secs
      rw [List.map_singleton, show (1 * (S : Int) + (m : Int)).toNat = S + m by omega, hg]
      dsimp only
      rw [List.flatten_singleton]
      unfold slotZ
      rw [if_neg (by omega), Nat.add_sub_cancel_left, pZone_ss]
    rw [e2, part, Nat.succ_mul, List.take_add]
theorem slot_secs0 {C S Z : Nat} {R : List ByteArray} {n : Nat} (hS : 2 * S ≤ Z) (m : Nat) (hm : m ≤ S) : secs (slotD C S Z R n).zs (slotsL S 0 m) = [] := by
  induction m with
  | zero => simp [slotsL, secs]
  | succ m ih =>
    rw [slotsL_succ]
    have e : secs (slotD C S Z R n).zs (slotsL S 0 m ++ [0 * (S : Int) + (m : Int)]) = secs (slotD C S Z R n).zs (slotsL S 0 m) ++ secs (slotD C S Z R n).zs [0 * (S : Int) + (m : Int)] := by unfold secs; rw [List.map_append, List.flatten_append]
    rw [e, ih (by omega), List.nil_append]
    have hg := slot_get (C := C) (S := S) (R := R) (n := n) (show m < Z by omega)
    unfold secs
    rw [List.map_singleton, show (0 * (S : Int) + (m : Int)).toNat = m by omega, hg]
    dsimp only
    rw [List.flatten_singleton]
    unfold slotZ
    rw [if_pos (by omega)]
    rfl
end Go.Proofs.Ytkpicojhnnkibaa.Ab
namespace Go.Proofs.Ytkpicojhnnkibaa.Ab
set_option linter.unusedVariables false
set_option linter.unusedSimpArgs false
open Go.RowKit

def encR (l : List Rec) : List ByteArray := l.map fun r => sS (encL r)
theorem recGo_none (l : List Rec) : ∀ acc, (∀ r ∈ l, rchk r = 0 ∧ r.k ≠ 6) → recGo acc (encR l) = ([], false) := by
  induction l with
  | nil => intro acc _; rfl
  | cons r l ih =>
    intro acc h
    have h1 := h r List.mem_cons_self
    show recGo acc (sS (encL r) :: encR l) = _
    rw [recGo, dec_enc h1.1, if_neg (fun h => h rfl), if_neg h1.2]
    exact ih _ (fun x hx => h x (List.mem_cons_of_mem _ hx))
theorem recGo_all (f : Rec) (hf : rchk f = 0 ∧ f.k = 6) (l : List Rec) : ∀ acc, (∀ r ∈ l, rchk r = 0 ∧ r.k ≠ 6) → recGo acc (encR (l ++ [f])) = (acc ++ l ++ [f], true) := by
  induction l with
  | nil =>
    intro acc _
    show recGo acc (sS (encL f) :: []) = _
    rw [recGo, dec_enc hf.1, if_neg (fun h => h rfl), if_pos hf.2]
    simp
  | cons r l ih =>
    intro acc h
    have h1 := h r List.mem_cons_self
    show recGo acc (sS (encL r) :: encR (l ++ [f])) = _
    rw [recGo, dec_enc h1.1, if_neg (fun h => h rfl), if_neg h1.2]
    dsimp only
    rw [ih _ (fun x hx => h x (List.mem_cons_of_mem _ hx))]
    simp
theorem rchk_of {k b v m : Int} {p : ByteArray} (h1 : 3 ≤ k ∧ k ≤ 6) (h2 : 0 ≤ b ∧ b ≤ 4294967295) (h3 : 0 ≤ v ∧ v ≤ 1099511627776) (h4 : 0 ≤ m ∧ m ≤ 255) (h5 : p.size ≤ 20) : rchk ⟨k, b, v, m, p⟩ = 0 := by
  unfold rchk
  dsimp only
  rw [if_neg (by omega), if_neg (by omega), if_neg (by omega)]
theorem body_ok {B : Bse} (h : cchk B = 0) : ∀ r ∈ bodyR B, rchk r = 0 ∧ r.k ≠ 6 := by
  obtain ⟨h1, h2, h3⟩ := cchk_ok h
  have hb := badB_no h1
  intro r hr
  rcases List.mem_cons.1 hr with rfl | hr
  · exact ⟨rchk_of (by decide) (by omega) (by omega) (by decide) (by have := head_size h1; unfold headR at this; dsimp only at this; omega), by show (4 : Int) ≠ 6; decide⟩
  · obtain ⟨e, he, rfl⟩ := List.mem_map.1 hr
    have hc := h3.mem e he
    have hh := chkE_no hc
    have hz := ent_size hc
    unfold entR at hz
    dsimp only at hz
    exact ⟨rchk_of (by decide) (by omega) (by omega) (by omega) (by omega), by show (5 : Int) ≠ 6; decide⟩
theorem foot_ok {B : Bse} (h : cchk B = 0) : rchk (footR B) = 0 ∧ (footR B).k = 6 := by
  obtain ⟨h1, h2, h3⟩ := cchk_ok h
  have hb := badB_no h1
  refine ⟨rchk_of (by decide) (by omega) (by omega) (by decide) ?_, rfl⟩
  show (sS (putB _ 4)).size ≤ 20
  rw [sS_size, putB_len]
  decide
theorem recGo_cenc {B : Bse} (h : cchk B = 0) {n : Nat} (hn : n ≤ (cenc B).length) : recGo [] ((encR (cenc B)).take n) = if n < (cenc B).length then ([], false) else (cenc B, true) := by
  rw [show (encR (cenc B)).take n = encR ((cenc B).take n) by unfold encR; rw [List.map_take]]
  split
  · rename_i hlt
    rw [cenc, List.length_append, List.length_singleton] at hlt
    rw [cenc, List.take_append_of_le_length (by omega)]
    exact recGo_none _ _ (fun r hr => body_ok h r (List.mem_of_mem_take hr))
  · rw [List.take_of_length_le (by omega), cenc]
    have := recGo_all (footR B) (foot_ok h) (bodyR B) [] (body_ok h)
    rw [this]
    simp
theorem enc40 {B : Bse} (h : cchk B = 0) : ∀ s ∈ encR (cenc B), s.size = 40 := by
  intro s hs
  obtain ⟨r, hr, rfl⟩ := List.mem_map.1 hs
  have hok : rchk r = 0 := by
    rcases List.mem_append.1 hr with hr | hr
    · exact (body_ok h r hr).1
    · rw [List.mem_singleton] at hr
      rw [hr]
      exact (foot_ok h).1
  rw [sS_size, enc_len (rchk_ok hok).2.2.2.2.1]
theorem cenc_ok {B : Bse} (h : cchk B = 0) : ∀ r ∈ cenc B, rchk r = 0 := by
  intro r hr
  rcases List.mem_append.1 hr with hr | hr
  · exact (body_ok h r hr).1
  · rw [List.mem_singleton] at hr
    rw [hr]
    exact (foot_ok h).1
/-! ### The newest -/
def nstep (R : Bse × Int) (k : Int) (p : Bse × Int) : Bse × Int := if R.2 = 0 ∧ R.1.s > p.1.s then (R.1, k) else p
def nst (n : Nat) (cb : Int) (zs : List Zn) : Nat → Bse × Int
  | 0 => (b0, -1)
  | k + 1 => nstep (cread n cb zs k) k (nst n cb zs k)
set_option maxRecDepth 100000 in
set_option maxHeartbeats 16000000 in
theorem cnewF (c : Cf) (s mo ma : Int) (zs : List Zn) (n : Nat) (hc : cfChk c = 0) (hn : lySlot c = n) (hn1 : 1 ≤ n) (hn2 : n ≤ 100) (hl : zs.length ≤ 1000) (hz : ∀ x ∈ zs, x.ss.length ≤ 1000 ∧ ∀ y ∈ x.ss, y.size ≤ 1000000) :
    Fun Try.prog 43 [cfV c, dvA s mo ma zs] [] (.tup [bseV (nst n c.b zs 2).1, i64V (nst n c.b zs 2).2]) := by
  have hr := fun slot => creadF c s mo ma zs slot n hc hn hn1 hn2 hl hz
  have h0 : nst n c.b zs 0 = (b0, -1) := rfl
  have hsu : ∀ k : Nat, nst n c.b zs (k + 1) = nstep (cread n c.b zs k) k (nst n c.b zs k) := fun k => rfl
  generalize nst n c.b zs = N at h0 hsu ⊢
  obtain ⟨cz, cs, cb, cq, cd, ch⟩ := c
  dsimp only at hr hsu
  refine fun_of_vc tabOk mixOk Try.func43 rfl (by rfl) (rs := [.cell 4 24, .tmp 5]) rfl rfl 40 ?_; rw [Try.ntmps43]
  (conv => whnf); repeat ((first | refine And.intro DrawOk.go ?_ | refine And.intro rfl ?_ | refine And.intro (fun _ => ?_) (fun h => Bool.noConfusion h) | refine And.intro (fun h => Bool.noConfusion h) (fun _ => ?_)); conv => whnf)
  refine vc_loop [2, 3, 4, 5, 6] [2, 3, 4] (X := Nat × Bse × Int) (fun x gs => [(12, ATint x.1), (7, .v (i64V x.2.2))]) (fun x gs => [(6, .var 1 [.i (.sc (.int .i64 x.2.1.s)), .i (.sc (.int .i64 x.2.1.n)), .i (.sc (.int .i64 x.2.1.c)), .i (.sl (eR x.2.1.es))])]) (fun x => x.1 ≤ 2 ∧ N x.1 = x.2) (fun x => 2 - x.1) _ (Ghost.refl _) (0, b0, -1) ⟨Nat.zero_le _, h0⟩ ?_ ?_
  · (refine And.intro rfl (And.intro rfl ?_)); (repeat' (first | exact trivial | exact rfl | apply And.intro | (refine congrArg (Value.int .i64) (w64_nat ?_); omega)))
  rintro gs ⟨k, P, a⟩ ⟨hk, hP⟩
  dsimp only at hk hP ⊢
  have hs := hsu k
  rw [hP] at hs
  (conv => whnf); repeat ((first | refine And.intro DrawOk.go ?_ | refine And.intro rfl ?_ | refine And.intro (fun _ => ?_) (fun h => Bool.noConfusion h) | refine And.intro (fun h => Bool.noConfusion h) (fun _ => ?_)); conv => whnf)
  refine And.intro (fun h => ?_) (fun h => ?_)
  · have hlt : k < 2 := by have := of_decide_eq_true h; omega
    have hrk := hr (k : Int)
    unfold nstep at hs
    generalize cread n cb zs (k : Int) = R at hrk hs
    obtain ⟨⟨rs, rn, rc, res⟩, e⟩ := R
    obtain ⟨ps, pn, pc, pes⟩ := P
    dsimp only at hs hrk ⊢
    (conv => whnf); repeat ((first | refine And.intro DrawOk.go ?_ | refine And.intro rfl ?_ | refine And.intro (fun _ => ?_) (fun h => Bool.noConfusion h) | refine And.intro (fun h => Bool.noConfusion h) (fun _ => ?_)); conv => whnf)
    refine ⟨_, _, hrk, ?_⟩
    by_cases g : e = 0 ∧ rs > ps
    · rw [if_pos g] at hs
      (conv => whnf); repeat ((first | refine And.intro DrawOk.go ?_ | refine And.intro rfl ?_ | refine And.intro (fun _ => ?_) (fun h => Bool.noConfusion h) | refine And.intro (fun h => Bool.noConfusion h) (fun _ => ?_)); conv => whnf)
      repeat' (first | ((refine And.intro (fun h => ?_) (fun h => ?_)) <;> (try simp at h) <;> ((conv => whnf); repeat ((first | refine And.intro DrawOk.go ?_ | refine And.intro rfl ?_ | refine And.intro (fun _ => ?_) (fun h => Bool.noConfusion h) | refine And.intro (fun h => Bool.noConfusion h) (fun _ => ?_)); conv => whnf))) | fail)
      all_goals first
        | (exfalso; omega)
        | (refine again (k + 1, ⟨rs, rn, rc, res⟩, (k : Int)) ⟨hlt, hs⟩ (by dsimp only; omega) ?_
           (refine And.intro rfl (And.intro rfl ?_)); (repeat' (first | exact trivial | exact rfl | apply And.intro | (refine congrArg (Value.int .i64) (w64_nat ?_); omega))))
    · rw [if_neg g] at hs
      (conv => whnf); repeat ((first | refine And.intro DrawOk.go ?_ | refine And.intro rfl ?_ | refine And.intro (fun _ => ?_) (fun h => Bool.noConfusion h) | refine And.intro (fun h => Bool.noConfusion h) (fun _ => ?_)); conv => whnf)
      repeat' (first | ((refine And.intro (fun h => ?_) (fun h => ?_)) <;> (try simp at h) <;> ((conv => whnf); repeat ((first | refine And.intro DrawOk.go ?_ | refine And.intro rfl ?_ | refine And.intro (fun _ => ?_) (fun h => Bool.noConfusion h) | refine And.intro (fun h => Bool.noConfusion h) (fun _ => ?_)); conv => whnf))) | fail)
      all_goals first
        | (exfalso; omega)
        | (refine again (k + 1, ⟨ps, pn, pc, pes⟩, a) ⟨hlt, hs⟩ (by dsimp only; omega) ?_
           (refine And.intro rfl (And.intro rfl ?_)); (repeat' (first | exact trivial | exact rfl | apply And.intro | (refine congrArg (Value.int .i64) (w64_nat ?_); omega))))
  · obtain rfl : k = 2 := by have := of_decide_eq_false h; omega
    rw [hP]
    (conv => whnf); repeat ((first | refine And.intro DrawOk.go ?_ | refine And.intro rfl ?_ | refine And.intro (fun _ => ?_) (fun h => Bool.noConfusion h) | refine And.intro (fun h => Bool.noConfusion h) (fun _ => ?_)); conv => whnf)
    refine Exists.intro [] (And.intro List.nodup_nil ?_); ((conv => whnf); repeat ((first | refine And.intro DrawOk.go ?_ | refine And.intro rfl ?_ | refine And.intro (fun _ => ?_) (fun h => Bool.noConfusion h) | refine And.intro (fun h => Bool.noConfusion h) (fun _ => ?_)); conv => whnf))
    rfl
/-! ### A checkpoint with an entry for each block -/
def fE (L : List Int) (k : Nat) (i : Nat) : Ety := ⟨i, 1, 1 + dval L k 90, 0, dval L (dnx L k) 9, dval L (dnx L (dnx L k)) 3⟩
def fRun (L : List Int) (k : Nat) : Nat → Nat × List Ety
  | 0 => (k, [])
  | i + 1 => (dnx L (dnx L (dnx L (fRun L k i).1)), (fRun L k i).2 ++ [fE L (fRun L k i).1 i])
theorem ok_snoc {next : Int} {e : Ety} {l : List Ety} : ∀ {last : Int}, EsOk next last l → chkE next e = 0 → last < e.b → (∀ x ∈ l, x.b < e.b) → EsOk next last (l ++ [e]) := by
  induction l with
  | nil => intro last _ h1 h2 _; exact .cons h1 h2 (.nil _)
  | cons x l ih =>
    intro last h h1 h2 h3
    cases h with
    | cons g1 g2 g3 => exact .cons g1 g2 (ih g3 h1 (h3 x List.mem_cons_self) (fun y hy => h3 y (List.mem_cons_of_mem _ hy)))
theorem fRun_inv (L : List Int) (k : Nat) (hk : k ≤ L.length) (i : Nat) (hi : i ≤ 100) : (fRun L k i).1 ≤ L.length ∧ (fRun L k i).2.length = i ∧ EsOk 99 (-1) (fRun L k i).2 ∧ (∀ e ∈ (fRun L k i).2, e.b < i) := by
  induction i with
  | zero => exact ⟨hk, rfl, .nil _, fun e he => by cases he⟩
  | succ i ih =>
    obtain ⟨h1, h2, h3, h4⟩ := ih (by omega)
    have v1 := dval_in L (fRun L k i).1 (n := 90) (by omega) (by omega)
    have v2 := dval_in L (dnx L (fRun L k i).1) (n := 9) (by omega) (by omega)
    have v3 := dval_in L (dnx L (dnx L (fRun L k i).1)) (n := 3) (by omega) (by omega)
    refine ⟨dnx_le (dnx_le (dnx_le h1)), by rw [fRun, List.length_append, List.length_singleton, h2], ok_snoc h3 ?_ (by show (-1 : Int) < (i : Int); omega) (fun x hx => h4 x hx), fun e he => ?_⟩
    · refine chkE_0 rfl ?_
      unfold fE
      dsimp only
      omega
    · rcases List.mem_append.1 he with he | he
      · have := h4 e he; omega
      · rw [List.mem_singleton] at he
        subst he
        show (i : Int) < _
        omega
/-- What is read from a slot that was written in part, or whole. -/
theorem fit_read {B : Bse} (h : cchk B = 0) {C S Z n : Nat} (hn : n ≤ (cenc B).length) (hfit : (cenc B).length ≤ S * C) (hS : 2 * S ≤ Z) (hS1 : 1 ≤ S) {cb : Int} (hcb : (B.es.length : Int) ≤ cb) (hlast : ∀ e ∈ B.es, e.b < cb) :
    cread S cb (slotD C S Z (encR (cenc B)) n).zs 1 = (if n < (cenc B).length then (b0, 3) else (B, 0)) ∧ cread S cb (slotD C S Z (encR (cenc B)) n).zs 0 = (b0, 3) := by
  have hzl : (slotD C S Z (encR (cenc B)) n).zs.length = Z := by unfold slotD; dsimp only; rw [List.length_map, List.length_range]
  have hRl : (encR (cenc B)).length = (cenc B).length := by unfold encR; rw [List.length_map]
  constructor
  · unfold cread
    rw [if_neg (fun h => h (Or.inr rfl)), if_neg (by rw [hzl]; omega), slot_secs (by omega) hS S (Nat.le_refl _), List.take_of_length_le (l := (encR (cenc B)).take n) (by rw [List.length_take]; omega), recGo_cenc h hn]
    split
    · rfl
    · dsimp only
      rw [if_pos rfl, cdec_enc h]
      unfold wholeC
      dsimp only
      rw [if_pos]
      refine ⟨rfl, hcb, ?_⟩
      unfold lastB
      split
      · rename_i e he
        have := hlast e (List.mem_of_getLast? he)
        exact decide_eq_false (by omega)
      · rfl
  · unfold cread
    rw [if_neg (fun h => h (Or.inl rfl)), if_neg (by rw [hzl]; omega), slot_secs0 hS S (Nat.le_refl _)]
    rfl
theorem fit_new {B : Bse} (h : cchk B = 0) {C S Z n : Nat} (hn : n ≤ (cenc B).length) (hfit : (cenc B).length ≤ S * C) (hS : 2 * S ≤ Z) (hS1 : 1 ≤ S) {cb : Int} (hcb : (B.es.length : Int) ≤ cb) (hlast : ∀ e ∈ B.es, e.b < cb) :
    nst S cb (slotD C S Z (encR (cenc B)) n).zs 2 = if n < (cenc B).length then (b0, -1) else (B, 1) := by
  obtain ⟨r1, r0⟩ := fit_read h hn hfit hS hS1 hcb hlast
  have hb := badB_no (cchk_ok h).1
  have e0 : nst S cb (slotD C S Z (encR (cenc B)) n).zs 1 = (b0, -1) := by
    show nstep (cread S cb _ ((0 : Nat) : Int)) _ (b0, -1) = _
    rw [show ((0 : Nat) : Int) = 0 from rfl, r0]
    unfold nstep
    rw [if_neg (fun h => absurd h.1 (by decide))]
  show nstep (cread S cb _ ((1 : Nat) : Int)) _ (nst S cb _ 1) = _
  rw [e0, show ((1 : Nat) : Int) = 1 from rfl, r1]
  unfold nstep
  split
  · rw [if_neg (fun h => absurd h.1 (by decide))]
  · rw [if_pos ⟨rfl, by show B.s > b0.s; show B.s > 0; omega⟩]
end Go.Proofs.Ytkpicojhnnkibaa.Ab
namespace Go.Proofs.Ytkpicojhnnkibaa.Ab
set_option linter.unusedVariables false
set_option linter.unusedSimpArgs false
open Go.RowKit

set_option maxRecDepth 100000 in
set_option maxHeartbeats 8000000 in
theorem secF (k b v m : Int) (p : ByteArray) : Fun Try.prog 36 [recV k b v m p] [] (.v (strV (renc ⟨k, b, v, m, p⟩).1)) := by
  have h := rencF' k b v m p
  generalize renc ⟨k, b, v, m, p⟩ = R at h ⊢
  obtain ⟨s, e⟩ := R
  refine fun_of_vc tabOk mixOk Try.func36 rfl (by rfl) (rs := [.tmp 2]) rfl rfl 15 ?_; rw [Try.ntmps36]
  (conv => whnf); repeat ((first | refine And.intro DrawOk.go ?_ | refine And.intro rfl ?_ | refine And.intro (fun _ => ?_) (fun h => Bool.noConfusion h) | refine And.intro (fun h => Bool.noConfusion h) (fun _ => ?_)); conv => whnf)
  refine ⟨_, _, h, ?_⟩
  (conv => whnf); repeat ((first | refine And.intro DrawOk.go ?_ | refine And.intro rfl ?_ | refine And.intro (fun _ => ?_) (fun h => Bool.noConfusion h) | refine And.intro (fun h => Bool.noConfusion h) (fun _ => ?_)); conv => whnf)
  refine Exists.intro [] (And.intro List.nodup_nil ?_); ((conv => whnf); repeat ((first | refine And.intro DrawOk.go ?_ | refine And.intro rfl ?_ | refine And.intro (fun _ => ?_) (fun h => Bool.noConfusion h) | refine And.intro (fun h => Bool.noConfusion h) (fun _ => ?_)); conv => whnf))
  rfl
/-- The zones of a device whose second slot was written in part. -/
def DZ (C S Z : Nat) (B : Bse) (n : Nat) : List Zn := (slotD C S Z (encR (cenc B)) n).zs
theorem encR_len (l : List Rec) : (encR l).length = l.length := by unfold encR; rw [List.length_map]
theorem DZ_D (C S Z : Nat) (B : Bse) (n : Nat) : slotD C S Z (encR (cenc B)) n = ⟨C, 3, 3, DZ C S Z B n⟩ := rfl
theorem DZ_zero (C S Z : Nat) (B : Bse) (hC : 3 ≤ C) : DZ C S Z B 0 = List.replicate Z z0 := by
  unfold DZ
  rw [slot_zero C S Z _ (by omega)]
theorem DZ_in {C S Z n : Nat} {B : Bse} (hok : cchk B = 0) (hn : n ≤ (cenc B).length) (hC : 3 ≤ C ∧ C ≤ 6) (hZ : 3 ≤ Z ∧ Z ≤ 28) : (DZ C S Z B n).length = Z ∧ ∀ x ∈ DZ C S Z B n, x.ss.length ≤ 6 ∧ ∀ y ∈ x.ss, y.size = 40 := by
  have hck := slot_chk (S := S) (Z := Z) (n := n) (C := C) (R := encR (cenc B)) (by rw [encR_len]; exact hn) (by omega) (by omega) (enc40 hok)
  refine ⟨by unfold DZ slotD; dsimp only; rw [List.length_map, List.length_range], fun x hx => ?_⟩
  have hr := (dchk_ok hck).2.1 x hx
  have h2 : (x.ss.length : Int) ≤ (C : Int) := hr.1.2.2.1
  exact ⟨by omega, hr.2.1⟩
theorem DZ_app {C S Z n : Nat} {B : Bse} (hok : cchk B = 0) (hn : n < (cenc B).length) (hC : 3 ≤ C ∧ C ≤ 6) (hZ : 3 ≤ Z ∧ Z ≤ 28) (hk : S + n / C < Z) :
    ∃ a b, Fun Try.prog 35 [dvA C 3 3 (DZ C S Z B n), i64V ((S + n / C : Nat) : Int), strV (sS (encL (cenc B)[n]))] [] (.tup [dvA C 3 3 (DZ C S Z B (n + 1)), i64V a, i64V b]) := by
  obtain ⟨h1, h2⟩ := DZ_in (S := S) hok (Nat.le_of_lt hn) hC hZ
  have h := appF C 3 3 (DZ C S Z B n) ((S + n / C : Nat) : Int) (sS (encL (cenc B)[n])) (by rw [h1]; omega) (fun z hz => by have := (h2 z hz).1; omega)
  have hg : (encR (cenc B))[n]'(by rw [encR_len]; exact hn) = sS (encL (cenc B)[n]) := by unfold encR; rw [List.getElem_map]
  have ha := slot_app (C := C) (S := S) (Z := Z) (R := encR (cenc B)) (n := n) rfl (by rw [encR_len]; exact hn) (by omega) (by omega) (enc40 hok) hk
  rw [hg, DZ_D] at ha
  rw [ha] at h
  exact ⟨_, _, h⟩
theorem DZ_read {C S Z n : Nat} {B : Bse} {c : Cf} (hok : cchk B = 0) (hn : n ≤ (cenc B).length) (hC : 3 ≤ C ∧ C ≤ 6) (hZ : 3 ≤ Z ∧ Z ≤ 28) (hc : cfChk c = 0) (hS : lySlot c = S) (hS1 : 1 ≤ S ∧ S ≤ 3) (hSZ : 2 * S ≤ Z) (hfit : (cenc B).length ≤ S * C)
    (hcb : (B.es.length : Int) ≤ c.b) (hlast : ∀ e ∈ B.es, e.b < c.b) :
    Fun Try.prog 41 [cfV c, dvA C 3 3 (DZ C S Z B n), i64V 1] [] (.tup [bseV (if n < (cenc B).length then b0 else B), i64V (if n < (cenc B).length then 3 else 0)]) := by
  obtain ⟨h1, h2⟩ := DZ_in (S := S) hok hn hC hZ
  have h := creadF c C 3 3 (DZ C S Z B n) 1 S hc hS hS1.1 (by omega) (by rw [h1]; omega) (fun x hx => ⟨by have := (h2 x hx).1; omega, fun y hy => by have := (h2 x hx).2 y hy; omega⟩)
  have hr := (fit_read (Z := Z) hok hn hfit hSZ hS1.1 hcb hlast).1
  rw [DZ_D] at hr
  dsimp only at hr
  rw [hr] at h
  split
  · rename_i hlt
    rw [if_pos hlt] at h
    exact h
  · rename_i hlt
    rw [if_neg hlt] at h
    exact h
theorem DZ_new {C S Z n : Nat} {B : Bse} {c : Cf} (hok : cchk B = 0) (hn : n ≤ (cenc B).length) (hC : 3 ≤ C ∧ C ≤ 6) (hZ : 3 ≤ Z ∧ Z ≤ 28) (hc : cfChk c = 0) (hS : lySlot c = S) (hS1 : 1 ≤ S ∧ S ≤ 3) (hSZ : 2 * S ≤ Z) (hfit : (cenc B).length ≤ S * C)
    (hcb : (B.es.length : Int) ≤ c.b) (hlast : ∀ e ∈ B.es, e.b < c.b) :
    Fun Try.prog 43 [cfV c, dvA C 3 3 (DZ C S Z B n)] [] (.tup [bseV (if n < (cenc B).length then b0 else B), i64V (if n < (cenc B).length then -1 else 1)]) := by
  obtain ⟨h1, h2⟩ := DZ_in (S := S) hok hn hC hZ
  have h := cnewF c C 3 3 (DZ C S Z B n) S hc hS hS1.1 (by omega) (by rw [h1]; omega) (fun x hx => ⟨by have := (h2 x hx).1; omega, fun y hy => by have := (h2 x hx).2 y hy; omega⟩)
  have hr := fit_new (Z := Z) hok hn hfit hSZ hS1.1 hcb hlast
  rw [DZ_D] at hr
  dsimp only at hr
  rw [hr] at h
  split
  · rename_i hlt
    rw [if_pos hlt] at h
    exact h
  · rename_i hlt
    rw [if_neg hlt] at h
    exact h
theorem fit_nums {c : Cf} (hsp : smallP c) : ∃ (S C Z nb : Nat) (q d h : Int), c = ⟨Z, C, nb, q, d, h⟩ ∧ lySlot c = S ∧ cfChk c = 0 ∧ (1 ≤ nb ∧ nb ≤ 6) ∧ (3 ≤ C ∧ C ≤ 6) ∧ (1 ≤ S ∧ S ≤ 3) ∧ (2 * S ≤ Z ∧ 3 ≤ Z ∧ Z ≤ 28) ∧ nb + 2 ≤ S * C := by
  obtain ⟨hc, hF0, hF1, hD0, hD1, hcz⟩ := small_facts hsp
  obtain ⟨hs1, hs2, hs3, hs4⟩ := slot_facts hsp
  have hsS := hsp.1
  have hsB := hsp.2.1
  obtain ⟨z, s, b, q, d, h⟩ := c
  dsimp only at *
  refine ⟨(lySlot ⟨z, s, b, q, d, h⟩).toNat, s.toNat, z.toNat, b.toNat, q, d, h, ?_, by omega, hc, by omega, by omega, by omega, by omega, ?_⟩
  · congr 1 <;> omega
  · obtain ⟨S, hS⟩ : ∃ S : Nat, lySlot ⟨z, s, b, q, d, h⟩ = S := ⟨(lySlot ⟨z, s, b, q, d, h⟩).toNat, by omega⟩
    obtain ⟨C, rfl⟩ : ∃ C : Nat, s = C := ⟨s.toNat, by omega⟩
    rw [hS] at hs4 ⊢
    rw [← Int.natCast_mul] at hs4
    simp only [Int.toNat_natCast]
    omega
theorem fit_arith {S C nb : Nat} (hb : 1 ≤ nb ∧ nb ≤ 6) (hC : 3 ≤ C ∧ C ≤ 6) (hS : 1 ≤ S ∧ S ≤ 3) (hf : nb + 2 ≤ S * C) :
    iwrap .i64 ((nb : Int) + 2) = nb + 2 ∧ (nb : Int) + 3 ≠ 0 ∧ ¬ (((nb : Int) + 2) > ((S * C : Nat) : Int)) ∧ iwrap .i64 ((S : Int) * (C : Int)) = ((S * C : Nat) : Int) ∧ iwrap .i64 ((nb : Int) + 2 + 1) = nb + 3 ∧
    (∀ y : Int, 0 ≤ y → y ≤ 255 → iwrap .i64 y = y ∧ ∃ n : Nat, Int.tmod y ((nb : Int) + 3) = n ∧ n ≤ nb + 2) ∧ (∀ i : Nat, i < nb + 2 → iwrap .i64 (Int.tdiv (i : Int) (C : Int)) = ((i / C : Nat) : Int) ∧ i / C < S) := by
  have hSC : S * C ≤ 18 := Nat.mul_le_mul hS.2 hC.2
  refine ⟨w64_in (by omega), by omega, by omega, ?_, w64_in (by omega), fun y h0 h1 => ⟨w64_in (by omega), (Int.tmod y ((nb : Int) + 3)).toNat, ?_, ?_⟩, fun i hi => ⟨?_, ?_⟩⟩
  · rw [← Int.natCast_mul]
    exact w64_in (by omega)
  · have := Int.tmod_nonneg ((nb : Int) + 3) h0
    omega
  · have h2 := Int.tmod_lt_of_pos y (b := (nb : Int) + 3) (by omega)
    have := Int.tmod_nonneg ((nb : Int) + 3) h0
    omega
  · have e : Int.tdiv (i : Int) (C : Int) = ((i / C : Nat) : Int) := by
      rw [Int.tdiv_eq_ediv_of_nonneg (by omega)]
      rfl
    rw [e]
    have h1 := Nat.div_le_self i C
    generalize i / C = j at h1 ⊢
    exact w64_in (by omega)
  · exact Nat.div_lt_of_lt_mul (by rw [Nat.mul_comm]; omega)
theorem rM_len {M : List Rec} {nb : Nat} (h : M.length = nb + 2) : ((rR M).length : Int) = nb + 2 := by rw [rLen, h]; rfl
theorem fE_step (L : List Int) (k1 i : Nat) (hl : L.length ≤ 1000000) (hk : k1 ≤ L.length) (hi : i ≤ 100) : (fRun L k1 i).2.length = i ∧ ∃ m1 m2 m3 y1 y2 y3, FunP Try.prog 46 (dcs L (fRun L k1 i).1) [i64V 90] (dcs L m1) (.v (i64V y1)) ∧ FunP Try.prog 46 (dcs L m1) [i64V 9] (dcs L m2) (.v (i64V y2)) ∧
    FunP Try.prog 46 (dcs L m2) [i64V 3] (dcs L m3) (.v (i64V y3)) ∧ iwrap .i64 (1 + y1) = 1 + y1 ∧ fRun L k1 (i + 1) = (m3, (fRun L k1 i).2 ++ [⟨i, 1, 1 + y1, 0, y2, y3⟩]) := by
  refine ⟨(fRun_inv L k1 hk i hi).2.1, _, _, _, _, _, _, nextF L (fRun L k1 i).1 90 hl, nextF L _ 9 hl, nextF L _ 3 hl, ?_, rfl⟩
  have := dval_in L (fRun L k1 i).1 (n := 90) (by decide) (by decide)
  exact w64_in (by omega)
theorem secF_of {r : Rec} (h : rchk r = 0) : Fun Try.prog 36 [recV r.k r.b r.v r.m r.p] [] (.v (strV (sS (encL r)))) := by
  obtain ⟨k, b, v, m, p⟩ := r
  have e : renc ⟨k, b, v, m, p⟩ = (sS (encL ⟨k, b, v, m, p⟩), 0) := by
    unfold renc
    rw [if_pos h]
  have := secF k b v m p
  rw [e] at this
  exact this
theorem nat_ne {C : Nat} (h : 3 ≤ C ∧ C ≤ 6) : (C : Int) ≠ 0 := by omega
theorem slot_item {S j : Nat} (h : j < S) : (wV (slotsL S 1 S))[((j : Int)).toNat]? = some [IV.sc (.int .i64 ((S + j : Nat) : Int))] := by
  rw [wItem (by rw [slotsL_len]; exact h), slots_get h]
  congr 4
  omega
set_option maxHeartbeats 2000000 in
theorem fitsEnv (L : List Int) (hL : L.length ≤ 300) : ∃ (S C Z nb k0 k1 : Nat) (q d h x0 : Int) (run : Nat → Nat × List Ety) (M : List Rec) (ZL : List Int) (D : Nat → List Zn),
    FunP Try.prog 45 (dcs L 0) [] (dcs L k0) (.v (cfV ⟨Z, C, nb, q, d, h⟩)) ∧ FunP Try.prog 46 (dcs L k0) [i64V 9] (dcs L k1) (.v (i64V x0)) ∧ iwrap .i64 (1 + x0) = 1 + x0 ∧ run 0 = (k1, []) ∧
    (∀ i, i < nb → (run i).2.length = i ∧ ∃ m1 m2 m3 y1 y2 y3, FunP Try.prog 46 (dcs L (run i).1) [i64V 90] (dcs L m1) (.v (i64V y1)) ∧ FunP Try.prog 46 (dcs L m1) [i64V 9] (dcs L m2) (.v (i64V y2)) ∧
      FunP Try.prog 46 (dcs L m2) [i64V 3] (dcs L m3) (.v (i64V y3)) ∧ iwrap .i64 (1 + y1) = 1 + y1 ∧ run (i + 1) = (m3, (run i).2 ++ [⟨i, 1, 1 + y1, 0, y2, y3⟩])) ∧
    Fun Try.prog 10 [bseA (1 + x0) 99 90 (run nb).2] [] (.tup [slV (rR M), i64V 0]) ∧ Fun Try.prog 47 [cfV ⟨Z, C, nb, q, d, h⟩, i64V 1] [] (.v (slV (wV ZL))) ∧
    (∀ _ : Unit, nb ≤ 6 ∧ ((rR M).length : Int) = nb + 2 ∧ iwrap .i64 ((nb : Int) + 2) = nb + 2 ∧ ¬ ((nb : Int) + 2 > iwrap .i64 (((wV ZL).length : Int) * (C : Int))) ∧ (nb : Int) + 3 ≠ 0 ∧ (C : Int) ≠ 0 ∧ iwrap .i64 ((nb : Int) + 2 + 1) = nb + 3) ∧
    Fun Try.prog 48 [i64V Z, i64V C, i64V 3, i64V 3] [] (.tup [dvA C 3 3 (D 0), i64V 0]) ∧
    (∀ y : Int, 0 ≤ y → y ≤ 255 → iwrap .i64 y = y ∧ ∃ n : Nat, Int.tmod y ((nb : Int) + 3) = n ∧ n ≤ nb + 2) ∧
    (∀ i : Nat, i < nb + 2 → ∃ (j zz : Nat) (r : Rec) (sec : ByteArray) (a b : Int), iwrap .i64 (Int.tdiv (i : Int) (C : Int)) = (j : Int) ∧ (wV ZL)[((j : Int)).toNat]? = some [.sc (.int .i64 (zz : Int))] ∧ (rR M)[((i : Int)).toNat]? = some (rRow r) ∧
      Fun Try.prog 36 [recV r.k r.b r.v r.m r.p] [] (.v (strV sec)) ∧ Fun Try.prog 35 [dvA C 3 3 (D i), i64V (zz : Int), strV sec] [] (.tup [dvA C 3 3 (D (i + 1)), i64V a, i64V b])) ∧
    (∀ n : Nat, n < nb + 2 → Fun Try.prog 41 [cfV ⟨Z, C, nb, q, d, h⟩, dvA C 3 3 (D n), i64V 1] [] (.tup [bseV b0, i64V 3]) ∧ Fun Try.prog 43 [cfV ⟨Z, C, nb, q, d, h⟩, dvA C 3 3 (D n)] [] (.tup [bseV b0, i64V (-1)])) ∧
    Fun Try.prog 41 [cfV ⟨Z, C, nb, q, d, h⟩, dvA C 3 3 (D (nb + 2)), i64V 1] [] (.tup [bseA (1 + x0) 99 90 (run nb).2, i64V 0]) ∧ Fun Try.prog 43 [cfV ⟨Z, C, nb, q, d, h⟩, dvA C 3 3 (D (nb + 2))] [] (.tup [bseA (1 + x0) 99 90 (run nb).2, i64V 1]) ∧
    Fun Try.prog 17 [bseA (1 + x0) 99 90 (run nb).2, bseA (1 + x0) 99 90 (run nb).2] [] (ATbool true) := by
  have hl : L.length ≤ 1000000 := by omega
  obtain ⟨c, k0, hsm, hsp, _, hk0⟩ := smallF L 0 hl
  have hk0 := hk0 (Nat.zero_le _)
  obtain ⟨S, C, Z, nb, q, d, h, rfl, hS, hc, hnb, hC, hS1, hZ, hfit⟩ := fit_nums hsp
  have hrun := fun i (hi : i ≤ 100) => fRun_inv L (dnx L k0) (dnx_le hk0) i hi
  obtain ⟨B, hB⟩ : ∃ B : Bse, B = ⟨1 + dval L k0 9, 99, 90, (fRun L (dnx L k0) nb).2⟩ := ⟨_, rfl⟩
  have hel := (hrun nb (by omega)).2.1
  have v0 := dval_in L k0 (n := 9) (by decide) (by decide)
  have heb : ∀ e ∈ B.es, e.b < (⟨(Z : Int), (C : Int), (nb : Int), q, d, h⟩ : Cf).b := by rw [hB]; exact (hrun nb (by omega)).2.2.2
  have hok : cchk B = 0 := by
    rw [hB, cchk_go (by unfold badB; dsimp only; omega) (by dsimp only; omega)]
    exact chkL_iff.2 (hrun nb (by omega)).2.2.1
  have henc := cencF (1 + dval L k0 9) 99 90 (fRun L (dnx L k0) nb).2
  rw [← hB, cencode_yes hok] at henc
  have hMl : (cenc B).length = nb + 2 := by rw [cenc_len, hB]; dsimp only; omega
  have hfitM : (cenc B).length ≤ S * C := by omega
  have hcb : (B.es.length : Int) ≤ (⟨(Z : Int), (C : Int), (nb : Int), q, d, h⟩ : Cf).b := by rw [hB]; dsimp only; omega
  have hsame := csameF (1 + dval L k0 9) 99 90 (fRun L (dnx L k0) nb).2 (1 + dval L k0 9) 99 90 (fRun L (dnx L k0) nb).2 (by omega) (by omega)
  rw [← hB, bsame_iff.2 rfl] at hsame
  have hread := fun (n : Nat) (hn : n ≤ (cenc B).length) => DZ_read (n := n) hok hn hC hZ.2 hc hS hS1 hZ.1 hfitM hcb heb
  have hnewest := fun (n : Nat) (hn : n ≤ (cenc B).length) => DZ_new (n := n) hok hn hC hZ.2 hc hS hS1 hZ.1 hfitM hcb heb
  have hnew := dnewF (Z : Int) (C : Int) 3 3
  rw [dnew_ok (by omega) (by omega), Int.toNat_natCast] at hnew
  have hz0 := DZ_zero C S Z B hC.1
  rw [← hz0] at hnew
  obtain ⟨w2, hn3, hSC0, w3, w4, wy, wi⟩ := fit_arith hnb hC hS1 hfit
  have hwl : (wV (slotsL S 1 S)).length = S := by rw [wLen', slotsL_len]
  have hBs : bseV B = bseA (1 + dval L k0 9) 99 90 (fRun L (dnx L k0) nb).2 := by rw [hB]; rfl
  have hw1 : iwrap .i64 (1 + dval L k0 9) = 1 + dval L k0 9 := w64_in (by omega)
  have hn0 := nextF L k0 9 hl
  have hst : fRun L (dnx L k0) 0 = (dnx L k0, []) := rfl
  have hstep := fun (i : Nat) (hi : i ≤ 100) => fE_step L (dnx L k0) i hl (dnx_le hk0) hi
  have hslot := slotsF' ⟨(Z : Int), (C : Int), (nb : Int), q, d, h⟩ 1 S hc hS (by omega) (Or.inr rfl)
  have happ : ∀ i : Nat, i < nb + 2 → ∃ (j zz : Nat) (r : Rec) (sec : ByteArray) (a b : Int), iwrap .i64 (Int.tdiv (i : Int) (C : Int)) = (j : Int) ∧ (wV (slotsL S 1 S))[((j : Int)).toNat]? = some [.sc (.int .i64 (zz : Int))] ∧ (rR (cenc B))[((i : Int)).toNat]? = some (rRow r) ∧
      Fun Try.prog 36 [recV r.k r.b r.v r.m r.p] [] (.v (strV sec)) ∧ Fun Try.prog 35 [dvA C 3 3 (DZ C S Z B i), i64V (zz : Int), strV sec] [] (.tup [dvA C 3 3 (DZ C S Z B (i + 1)), i64V a, i64V b]) := by
    intro i hi
    obtain ⟨e1, e2⟩ := wi i hi
    have hi' : i < (cenc B).length := by rw [hMl]; exact hi
    have hk : S + i / C < Z := Nat.lt_of_lt_of_le (Nat.add_lt_add_left e2 S) (by rw [← Nat.two_mul]; exact hZ.1)
    obtain ⟨a, b, ha⟩ := DZ_app (S := S) hok hi' hC hZ.2 hk
    have hr := rItem hi'
    have hs := secF_of (cenc_ok hok _ (List.getElem_mem hi'))
    have hi3 := slot_item e2
    generalize (cenc B)[i] = r at hr ha hs
    generalize sS (encL r) = sec at ha hs
    generalize i / C = j at *
    generalize S + j = zz at *
    exact ⟨j, zz, r, sec, a, b, e1, hi3, hr, hs, ha⟩
  generalize DZ C S Z B = D at hread hnewest hnew happ
  generalize slotsL S 1 S = ZL at hwl hslot happ
  generalize cenc B = M at henc hMl hfitM hread hnewest happ
  generalize fRun L (dnx L k0) = run at henc hsame hBs hst hstep
  generalize dnx L k0 = k1 at hn0 hst
  generalize dval L k0 9 = x0 at henc hsame hBs hw1 hn0
  have har : nb ≤ 6 ∧ ((rR M).length : Int) = nb + 2 ∧ iwrap .i64 ((nb : Int) + 2) = nb + 2 ∧ ¬ ((nb : Int) + 2 > iwrap .i64 (((wV ZL).length : Int) * (C : Int))) ∧ (nb : Int) + 3 ≠ 0 ∧ (C : Int) ≠ 0 ∧ iwrap .i64 ((nb : Int) + 2 + 1) = nb + 3 := by
    rw [hwl, w3]
    exact ⟨hnb.2, rM_len hMl, w2, hSC0, hn3, nat_ne hC, w4⟩
  have hlow : ∀ n : Nat, n < nb + 2 → Fun Try.prog 41 [cfV ⟨Z, C, nb, q, d, h⟩, dvA C 3 3 (D n), i64V 1] [] (.tup [bseV b0, i64V 3]) ∧ Fun Try.prog 43 [cfV ⟨Z, C, nb, q, d, h⟩, dvA C 3 3 (D n)] [] (.tup [bseV b0, i64V (-1)]) := by
    intro n hn
    have hn1 : n < M.length := by rw [hMl]; exact hn
    have h1 := hread n (Nat.le_of_lt hn1)
    have h2 := hnewest n (Nat.le_of_lt hn1)
    rw [if_pos hn1, if_pos hn1] at h1 h2
    exact ⟨h1, h2⟩
  have hn1 : ¬ (nb + 2 < M.length) := by rw [hMl]; exact Nat.lt_irrefl _
  have hr := hread (nb + 2) (Nat.le_of_eq hMl.symm)
  have hn := hnewest (nb + 2) (Nat.le_of_eq hMl.symm)
  rw [if_neg hn1, if_neg hn1, hBs] at hr hn
  exact ⟨S, C, Z, nb, k0, k1, q, d, h, x0, run, M, ZL, D, hsm, hn0, hw1, hst, fun i hi => hstep i (Nat.le_trans (Nat.le_of_lt hi) (Nat.le_trans hnb.2 (by decide))), henc, hslot, fun _ => har, hnew, wy, happ, hlow, hr, hn, hsame⟩
end Go.Proofs.Ytkpicojhnnkibaa.Ab
namespace Go.Proofs.Ytkpicojhnnkibaa.Ab
set_option linter.unusedVariables false
set_option linter.unusedSimpArgs false
open Go.RowKit

theorem low_no {p nb : Nat} {x : Int} (hx : x = nb + 2) (hlt : p < nb + 2) (h : decide ((p : Int) < x) = false) : False := by have := of_decide_eq_false h; omega
theorem high_no {nb : Nat} {x : Int} (hx : x = nb + 2) (h : decide (((nb + 2 : Nat) : Int) < x) = true) : False := by have := of_decide_eq_true h; omega
theorem dec_lt {a b : Nat} (h : decide ((a : Int) < (b : Int)) = true) : a < b := by have := of_decide_eq_true h; omega
theorem dec_ge {a b : Nat} (h : decide ((a : Int) < (b : Int)) = false) (hle : a ≤ b) : a = b := by have := of_decide_eq_false h; omega
set_option maxRecDepth 100000 in
set_option maxHeartbeats 32000000 in
theorem fitsF (L : List Int) (y : Int) (hb : L.length ≤ 140737488355328) (hy : 0 ≤ y ∧ y ≤ 255) : Fun Try.prog 8 [slV (wV L), .c (.i (.sc (.int .u8 y)))] [] (ATbool true) := by
  have hlight := lightF L hb
  have aw := ckAwake
  by_cases hL : L.length ≤ 300
  rotate_left
  · rw [decide_eq_false hL] at hlight
    refine fun_of_vc tabOk mixOk Try.func8 rfl (by rfl) (rs := [.tmp 4]) rfl rfl 165 ?_; rw [Try.ntmps8]
    (conv => whnf); repeat ((first | refine And.intro DrawOk.go ?_ | refine And.intro rfl ?_ | refine And.intro (fun _ => ?_) (fun h => Bool.noConfusion h) | refine And.intro (fun h => Bool.noConfusion h) (fun _ => ?_)); conv => whnf)
    refine ⟨_, _, hlight, ?_⟩
    (conv => whnf); repeat ((first | refine And.intro DrawOk.go ?_ | refine And.intro rfl ?_ | refine And.intro (fun _ => ?_) (fun h => Bool.noConfusion h) | refine And.intro (fun h => Bool.noConfusion h) (fun _ => ?_)); conv => whnf)
    refine ⟨_, _, aw, ?_⟩
    (conv => whnf); repeat ((first | refine And.intro DrawOk.go ?_ | refine And.intro rfl ?_ | refine And.intro (fun _ => ?_) (fun h => Bool.noConfusion h) | refine And.intro (fun h => Bool.noConfusion h) (fun _ => ?_)); conv => whnf)
    refine Exists.intro [] (And.intro List.nodup_nil ?_); ((conv => whnf); repeat ((first | refine And.intro DrawOk.go ?_ | refine And.intro rfl ?_ | refine And.intro (fun _ => ?_) (fun h => Bool.noConfusion h) | refine And.intro (fun h => Bool.noConfusion h) (fun _ => ?_)); conv => whnf))
    rfl
  rw [decide_eq_true hL] at hlight
  have hroll := rollF L (by omega)
  obtain ⟨S, C, Z, nb, k0, k1, cq, cd, ch, x0, run, M, ZL, D, hsm, a0, w1, hst, hsu, henc, hslot, har, hnew, wy, happ, hlow, hread, hnewest, hsame⟩ := fitsEnv L hL
  obtain ⟨wy1, n, hn, hnM⟩ := wy y hy.1 hy.2
  clear wy hb hy hL
  unfold cfV at hsm hslot hlow hread hnewest
  dsimp only at hsm hslot hlow hread hnewest
  refine fun_of_vc tabOk mixOk Try.func8 rfl (by rfl) (rs := [.tmp 4]) rfl rfl 165 ?_; rw [Try.ntmps8]
  (conv => whnf); repeat ((first | refine And.intro DrawOk.go ?_ | refine And.intro rfl ?_ | refine And.intro (fun _ => ?_) (fun h => Bool.noConfusion h) | refine And.intro (fun h => Bool.noConfusion h) (fun _ => ?_)); conv => whnf)
  refine ⟨_, _, hlight, ?_⟩
  (conv => whnf); repeat ((first | refine And.intro DrawOk.go ?_ | refine And.intro rfl ?_ | refine And.intro (fun _ => ?_) (fun h => Bool.noConfusion h) | refine And.intro (fun h => Bool.noConfusion h) (fun _ => ?_)); conv => whnf)
  refine ⟨_, _, hroll, ?_⟩
  (conv => whnf); repeat ((first | refine And.intro DrawOk.go ?_ | refine And.intro rfl ?_ | refine And.intro (fun _ => ?_) (fun h => Bool.noConfusion h) | refine And.intro (fun h => Bool.noConfusion h) (fun _ => ?_)); conv => whnf)
  refine ⟨_, _, hsm, ?_⟩
  (conv => whnf); repeat ((first | refine And.intro DrawOk.go ?_ | refine And.intro rfl ?_ | refine And.intro (fun _ => ?_) (fun h => Bool.noConfusion h) | refine And.intro (fun h => Bool.noConfusion h) (fun _ => ?_)); conv => whnf)
  refine ⟨_, _, a0, ?_⟩
  (conv => whnf); repeat ((first | refine And.intro DrawOk.go ?_ | refine And.intro rfl ?_ | refine And.intro (fun _ => ?_) (fun h => Bool.noConfusion h) | refine And.intro (fun h => Bool.noConfusion h) (fun _ => ?_)); conv => whnf)
  rw [w1]
  refine vc_loop [1, 5, 6, 7] [6] (X := Nat × Nat × List Ety) (fun x gs => [(8, ATint x.1)]) (fun x gs => [(25, .var 1 (dcs L x.2.1)), (7, .var 1 [.i (.sc (.int .i64 (1 + x0))), .i (.sc (.int .i64 99)), .i (.sc (.int .i64 90)), .own 51 (gs 51)]), (51, .row (gs 51) 84 6 (eR x.2.2))]) (fun x => x.1 ≤ nb ∧ run x.1 = x.2) (fun x => nb - x.1) _ (Ghost.ownNilV 7 3 51 84 6 1 _ rfl rfl (Nat.le_of_ble_eq_true rfl) (by decide)) (0, k1, []) ⟨Nat.zero_le _, hst⟩ ?_ ?_
  · (refine And.intro rfl (And.intro rfl ?_)); (repeat' (first | exact trivial | exact rfl | apply And.intro | (refine congrArg (Value.int .i64) (w64_nat ?_); omega)))
  intro gs x hx
  obtain ⟨i, k, es⟩ := x
  have hi : i ≤ nb := hx.1
  have he : run i = (k, es) := hx.2
  clear hx
  (conv => whnf); repeat ((first | refine And.intro DrawOk.go ?_ | refine And.intro rfl ?_ | refine And.intro (fun _ => ?_) (fun h => Bool.noConfusion h) | refine And.intro (fun h => Bool.noConfusion h) (fun _ => ?_)); conv => whnf)
  refine And.intro (fun h => ?_) (fun h => ?_)
  · have hlt : i < nb := dec_lt h
    obtain ⟨hli, m1, m2, m3, y1, y2, y3, b1, b2, b3, z1, hs⟩ := hsu i hlt
    rw [he] at b1 hs hli
    dsimp only at b1 hs hli
    have hnb6 := (har ()).1
    (conv => whnf); repeat ((first | refine And.intro DrawOk.go ?_ | refine And.intro rfl ?_ | refine And.intro (fun _ => ?_) (fun h => Bool.noConfusion h) | refine And.intro (fun h => Bool.noConfusion h) (fun _ => ?_)); conv => whnf)
    refine ⟨_, _, b1, ?_⟩
    (conv => whnf); repeat ((first | refine And.intro DrawOk.go ?_ | refine And.intro rfl ?_ | refine And.intro (fun _ => ?_) (fun h => Bool.noConfusion h) | refine And.intro (fun h => Bool.noConfusion h) (fun _ => ?_)); conv => whnf)
    rw [z1]
    refine ⟨_, _, b2, ?_⟩
    (conv => whnf); repeat ((first | refine And.intro DrawOk.go ?_ | refine And.intro rfl ?_ | refine And.intro (fun _ => ?_) (fun h => Bool.noConfusion h) | refine And.intro (fun h => Bool.noConfusion h) (fun _ => ?_)); conv => whnf)
    refine ⟨_, _, b3, ?_⟩
    (conv => whnf); repeat ((first | refine And.intro DrawOk.go ?_ | refine And.intro rfl ?_ | refine And.intro (fun _ => ?_) (fun h => Bool.noConfusion h) | refine And.intro (fun h => Bool.noConfusion h) (fun _ => ?_)); conv => whnf)
    refine ⟨eSz [⟨i, 1, 1 + y1, 0, y2, y3⟩], ?_⟩
    (conv => whnf); repeat ((first | refine And.intro DrawOk.go ?_ | refine And.intro rfl ?_ | refine And.intro (fun _ => ?_) (fun h => Bool.noConfusion h) | refine And.intro (fun h => Bool.noConfusion h) (fun _ => ?_)); conv => whnf)
    refine ⟨bytes_le (by decide) (by rw [eLen]; simp; omega), ?_⟩
    (conv => whnf); repeat ((first | refine And.intro DrawOk.go ?_ | refine And.intro rfl ?_ | refine And.intro (fun _ => ?_) (fun h => Bool.noConfusion h) | refine And.intro (fun h => Bool.noConfusion h) (fun _ => ?_)); conv => whnf)
    refine again (i + 1, m3, es ++ [⟨i, 1, 1 + y1, 0, y2, y3⟩]) ⟨hlt, hs⟩ (by dsimp only; omega) ?_
    (refine And.intro rfl (And.intro rfl ?_)); (repeat' (first | exact trivial | exact rfl | apply And.intro | (refine congrArg (Value.int .i64) (w64_nat ?_); omega)))
    all_goals exact congrArg (Blk.row _ _ _) (eSnoc' es ⟨i, 1, 1 + y1, 0, y2, y3⟩)
  obtain rfl : i = nb := dec_ge h hi
  rw [he] at henc hsame hread hnewest
  clear hsu hst hi
  dsimp only at henc hsame hread hnewest
  (conv => whnf); repeat ((first | refine And.intro DrawOk.go ?_ | refine And.intro rfl ?_ | refine And.intro (fun _ => ?_) (fun h => Bool.noConfusion h) | refine And.intro (fun h => Bool.noConfusion h) (fun _ => ?_)); conv => whnf)
  refine ⟨_, _, henc, ?_⟩
  (conv => whnf); repeat ((first | refine And.intro DrawOk.go ?_ | refine And.intro rfl ?_ | refine And.intro (fun _ => ?_) (fun h => Bool.noConfusion h) | refine And.intro (fun h => Bool.noConfusion h) (fun _ => ?_)); conv => whnf)
  refine ⟨_, _, hslot, ?_⟩
  (conv => whnf); repeat ((first | refine And.intro DrawOk.go ?_ | refine And.intro rfl ?_ | refine And.intro (fun _ => ?_) (fun h => Bool.noConfusion h) | refine And.intro (fun h => Bool.noConfusion h) (fun _ => ?_)); conv => whnf)
  refine And.intro (fun h => ?_) (fun h => ?_)
  · exact absurd h (by rw [(har ()).2.1, (har ()).2.2.1]; simp)
  (conv => whnf); repeat ((first | refine And.intro DrawOk.go ?_ | refine And.intro rfl ?_ | refine And.intro (fun _ => ?_) (fun h => Bool.noConfusion h) | refine And.intro (fun h => Bool.noConfusion h) (fun _ => ?_)); conv => whnf)
  refine And.intro (fun h => ?_) (fun h => ?_)
  · rw [(har ()).2.1] at h
    exact absurd (of_decide_eq_true h) (har ()).2.2.2.1
  (conv => whnf); repeat ((first | refine And.intro DrawOk.go ?_ | refine And.intro rfl ?_ | refine And.intro (fun _ => ?_) (fun h => Bool.noConfusion h) | refine And.intro (fun h => Bool.noConfusion h) (fun _ => ?_)); conv => whnf)
  refine ⟨_, _, hnew, ?_⟩
  (conv => whnf); repeat ((first | refine And.intro DrawOk.go ?_ | refine And.intro rfl ?_ | refine And.intro (fun _ => ?_) (fun h => Bool.noConfusion h) | refine And.intro (fun h => Bool.noConfusion h) (fun _ => ?_)); conv => whnf)
  rw [(har ()).2.1, (har ()).2.2.2.2.2.2, wy1]
  refine ⟨(har ()).2.2.2.2.1, ?_⟩
  (conv => whnf); repeat ((first | refine And.intro DrawOk.go ?_ | refine And.intro rfl ?_ | refine And.intro (fun _ => ?_) (fun h => Bool.noConfusion h) | refine And.intro (fun h => Bool.noConfusion h) (fun _ => ?_)); conv => whnf)
  rw [hn]
  refine vc_loop [6, 7, 9, 11, 12, 14] [6] (X := Nat) (fun i gs => [(15, ATint i)]) (fun i gs' => [(12, .var (gs 12 + 1) [.i (.sc (.int .i64 C)), .i (.sc (.int .i64 3)), .i (.sc (.int .i64 3)), .i (.sl (zR (D i)))]), (7, .var 1 [.i (.sc (.int .i64 (1 + x0))), .i (.sc (.int .i64 99)), .i (.sc (.int .i64 90)), .i (.sl (eR es))])]) (fun i => i ≤ n) (fun i => n - i) _ (Ghost.refl _) 0 (Nat.zero_le _) ?_ ?_
  · (refine And.intro rfl (And.intro rfl ?_)); (repeat' (first | exact trivial | exact rfl | apply And.intro | (refine congrArg (Value.int .i64) (w64_nat ?_); omega)))
  intro gs2 p hp
  (conv => whnf); repeat ((first | refine And.intro DrawOk.go ?_ | refine And.intro rfl ?_ | refine And.intro (fun _ => ?_) (fun h => Bool.noConfusion h) | refine And.intro (fun h => Bool.noConfusion h) (fun _ => ?_)); conv => whnf)
  refine And.intro (fun h => ?_) (fun h => ?_)
  · have hlt : p < n := dec_lt h
    obtain ⟨j, zz, r, sec, a, b, e1, hzi, hri, hs, ha⟩ := happ p (Nat.lt_of_lt_of_le hlt hnM)
    (conv => whnf); repeat ((first | refine And.intro DrawOk.go ?_ | refine And.intro rfl ?_ | refine And.intro (fun _ => ?_) (fun h => Bool.noConfusion h) | refine And.intro (fun h => Bool.noConfusion h) (fun _ => ?_)); conv => whnf)
    refine ⟨(har ()).2.2.2.2.2.1, ?_⟩
    (conv => whnf); repeat ((first | refine And.intro DrawOk.go ?_ | refine And.intro rfl ?_ | refine And.intro (fun _ => ?_) (fun h => Bool.noConfusion h) | refine And.intro (fun h => Bool.noConfusion h) (fun _ => ?_)); conv => whnf)
    rw [e1]
    refine ⟨Int.natCast_nonneg _, _, hzi, rfl, ?_⟩
    (conv => whnf); repeat ((first | refine And.intro DrawOk.go ?_ | refine And.intro rfl ?_ | refine And.intro (fun _ => ?_) (fun h => Bool.noConfusion h) | refine And.intro (fun h => Bool.noConfusion h) (fun _ => ?_)); conv => whnf)
    refine ⟨Int.natCast_nonneg _, _, hri, rfl, ?_⟩
    (conv => whnf); repeat ((first | refine And.intro DrawOk.go ?_ | refine And.intro rfl ?_ | refine And.intro (fun _ => ?_) (fun h => Bool.noConfusion h) | refine And.intro (fun h => Bool.noConfusion h) (fun _ => ?_)); conv => whnf)
    refine ⟨_, _, hs, ?_⟩
    (conv => whnf); repeat ((first | refine And.intro DrawOk.go ?_ | refine And.intro rfl ?_ | refine And.intro (fun _ => ?_) (fun h => Bool.noConfusion h) | refine And.intro (fun h => Bool.noConfusion h) (fun _ => ?_)); conv => whnf)
    refine ⟨_, _, ha, ?_⟩
    (conv => whnf); repeat ((first | refine And.intro DrawOk.go ?_ | refine And.intro rfl ?_ | refine And.intro (fun _ => ?_) (fun h => Bool.noConfusion h) | refine And.intro (fun h => Bool.noConfusion h) (fun _ => ?_)); conv => whnf)
    have hnb6 := (har ()).1
    refine again (p + 1) hlt (Nat.sub_lt_sub_left hlt (Nat.lt_succ_self p)) ?_
    (refine And.intro rfl (And.intro rfl ?_)); (repeat' (first | exact trivial | exact rfl | apply And.intro | (refine congrArg (Value.int .i64) (w64_nat ?_); omega)))
  obtain rfl : p = n := dec_ge h hp
  by_cases hlt : p < i + 2
  · obtain ⟨h1, h2⟩ := hlow p hlt
    (conv => whnf); repeat ((first | refine And.intro DrawOk.go ?_ | refine And.intro rfl ?_ | refine And.intro (fun _ => ?_) (fun h => Bool.noConfusion h) | refine And.intro (fun h => Bool.noConfusion h) (fun _ => ?_)); conv => whnf)
    refine ⟨_, _, h1, ?_⟩
    (conv => whnf); repeat ((first | refine And.intro DrawOk.go ?_ | refine And.intro rfl ?_ | refine And.intro (fun _ => ?_) (fun h => Bool.noConfusion h) | refine And.intro (fun h => Bool.noConfusion h) (fun _ => ?_)); conv => whnf)
    refine ⟨_, _, h2, ?_⟩
    (conv => whnf); repeat ((first | refine And.intro DrawOk.go ?_ | refine And.intro rfl ?_ | refine And.intro (fun _ => ?_) (fun h => Bool.noConfusion h) | refine And.intro (fun h => Bool.noConfusion h) (fun _ => ?_)); conv => whnf)
    refine And.intro (fun _ => ?_) (fun h => (low_no (har ()).2.1 hlt h).elim)
    (conv => whnf); repeat ((first | refine And.intro DrawOk.go ?_ | refine And.intro rfl ?_ | refine And.intro (fun _ => ?_) (fun h => Bool.noConfusion h) | refine And.intro (fun h => Bool.noConfusion h) (fun _ => ?_)); conv => whnf)
    repeat' (first | ((refine And.intro (fun h => ?_) (fun h => ?_)) <;> (try simp at h) <;> ((conv => whnf); repeat ((first | refine And.intro DrawOk.go ?_ | refine And.intro rfl ?_ | refine And.intro (fun _ => ?_) (fun h => Bool.noConfusion h) | refine And.intro (fun h => Bool.noConfusion h) (fun _ => ?_)); conv => whnf))) | (refine ⟨_, _, aw, ?_⟩; ((conv => whnf); repeat ((first | refine And.intro DrawOk.go ?_ | refine And.intro rfl ?_ | refine And.intro (fun _ => ?_) (fun h => Bool.noConfusion h) | refine And.intro (fun h => Bool.noConfusion h) (fun _ => ?_)); conv => whnf))) | fail)
    all_goals first
      | contradiction
      | (refine Exists.intro [] (And.intro List.nodup_nil ?_); ((conv => whnf); repeat ((first | refine And.intro DrawOk.go ?_ | refine And.intro rfl ?_ | refine And.intro (fun _ => ?_) (fun h => Bool.noConfusion h) | refine And.intro (fun h => Bool.noConfusion h) (fun _ => ?_)); conv => whnf))
         rfl)
  · obtain rfl : p = i + 2 := Nat.le_antisymm hnM (Nat.le_of_not_lt hlt)
    (conv => whnf); repeat ((first | refine And.intro DrawOk.go ?_ | refine And.intro rfl ?_ | refine And.intro (fun _ => ?_) (fun h => Bool.noConfusion h) | refine And.intro (fun h => Bool.noConfusion h) (fun _ => ?_)); conv => whnf)
    refine ⟨_, _, hread, ?_⟩
    (conv => whnf); repeat ((first | refine And.intro DrawOk.go ?_ | refine And.intro rfl ?_ | refine And.intro (fun _ => ?_) (fun h => Bool.noConfusion h) | refine And.intro (fun h => Bool.noConfusion h) (fun _ => ?_)); conv => whnf)
    refine ⟨_, _, hnewest, ?_⟩
    (conv => whnf); repeat ((first | refine And.intro DrawOk.go ?_ | refine And.intro rfl ?_ | refine And.intro (fun _ => ?_) (fun h => Bool.noConfusion h) | refine And.intro (fun h => Bool.noConfusion h) (fun _ => ?_)); conv => whnf)
    refine And.intro (fun h => (high_no (har ()).2.1 h).elim) (fun _ => ?_)
    (conv => whnf); repeat ((first | refine And.intro DrawOk.go ?_ | refine And.intro rfl ?_ | refine And.intro (fun _ => ?_) (fun h => Bool.noConfusion h) | refine And.intro (fun h => Bool.noConfusion h) (fun _ => ?_)); conv => whnf)
    repeat' (first | ((refine And.intro (fun h => ?_) (fun h => ?_)) <;> (try simp at h) <;> ((conv => whnf); repeat ((first | refine And.intro DrawOk.go ?_ | refine And.intro rfl ?_ | refine And.intro (fun _ => ?_) (fun h => Bool.noConfusion h) | refine And.intro (fun h => Bool.noConfusion h) (fun _ => ?_)); conv => whnf))) | (refine ⟨_, _, aw, ?_⟩; ((conv => whnf); repeat ((first | refine And.intro DrawOk.go ?_ | refine And.intro rfl ?_ | refine And.intro (fun _ => ?_) (fun h => Bool.noConfusion h) | refine And.intro (fun h => Bool.noConfusion h) (fun _ => ?_)); conv => whnf))) | (refine ⟨_, _, hsame, ?_⟩; ((conv => whnf); repeat ((first | refine And.intro DrawOk.go ?_ | refine And.intro rfl ?_ | refine And.intro (fun _ => ?_) (fun h => Bool.noConfusion h) | refine And.intro (fun h => Bool.noConfusion h) (fun _ => ?_)); conv => whnf))) | fail)
    all_goals first
      | contradiction
      | (refine Exists.intro [] (And.intro List.nodup_nil ?_); ((conv => whnf); repeat ((first | refine And.intro DrawOk.go ?_ | refine And.intro rfl ?_ | refine And.intro (fun _ => ?_) (fun h => Bool.noConfusion h) | refine And.intro (fun h => Bool.noConfusion h) (fun _ => ?_)); conv => whnf))
         rfl)
end Go.Proofs.Ytkpicojhnnkibaa.Ab
namespace Go.Proofs.Ytkpicojhnnkibaa
set_option linter.unusedVariables false
set_option linter.unusedSimpArgs false
open Ab
theorem u8_in {n : Int} (h : (Lit.int .u8 n).wf = true) : 0 ≤ n ∧ n ≤ 255 := by
  simpa [Lit.wf, IntKind.min, IntKind.max, IntKind.signed, IntKind.bits] using h
set_option maxRecDepth 100000 in
theorem checkpointFits.walk {H : Type} {enc : TypeId × Value → H} {W : World} {base : Nat} (v : Value) (d : DataW H) (p : List MemPlace) (hv : Value.okWide Try.prog W .any base 38 v)
    (h : DataW.Trod enc Try.prog W 0 (fun _ => true) true 38 v d p) (hw : ∀ n ∈ d.weights Try.prog 38, n ≤ 140737488351232)
    (a1 : Int) (_w1 : (Lit.int .u8 a1).wf = true)
    (W' : World) (hW : W' = W := by rfl) : Calls Try.prog 8 #[v, .int .u8 a1] W' (True1 W') := by
  subst hW
  obtain ⟨es, _, q1, q2⟩ := open_sl tabOk 3 (t := 38) (by decide +kernel) rfl hv h
  obtain ⟨xs, rfl⟩ := ints_of (d := 2) es (fun r hr => (q1 r hr).2)
  have b3 := slice_bound tabOk (e := 3) rfl h hw (q2 (fun _ _ => undef) (fun _ => 0))
  rw [bytesOf_eq tabOk (fun h => TK.noConfusion h)] at b3
  have b3' : (wV xs).length * 8 ≤ 140737488351232 := b3
  exact law_of_fun (fitsF xs a1 (by simp [wV] at b3'; omega) (u8_in _w1)) rfl (reps_get (vs := [_, _]) ⟨q2 _ _, .sc _ rfl, trivial⟩)
end Go.Proofs.Ytkpicojhnnkibaa
