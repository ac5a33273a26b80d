/- Epochs: Ready, by the iterator's contract. -/
import Derived.Test.YtijajfldpaadnaaEr
namespace Go.Proofs.Ytijajfldpaadnaa.Ab
set_option linter.unusedVariables false
set_option linter.unusedSimpArgs false
open Go.RowKit Go.Shelf

attribute [local go_sem] Oper.semAt_some

/-- The cells of the retired zones. -/
theorem zcells {w : World} {ok : Nat → Prop} {z : List (Int × Int)} {zv : Value} (h : RepI w ok (.sl (zR z)) zv) : (z = [] ∧ ∃ A c, zv = .slice A 0 c) ∨ ∃ ad c, zv = .slice (some ad) z.length c ∧ ok ad.block ∧
    ∀ j x, z[j]? = some x → w.cell? (ad.add (j * 2)) = some (.int .i64 x.1) ∧ w.cell? ((ad.add (j * 2)).add 1) = some (.int .i64 x.2) := by
  generalize hx : IV.sl (zR z) = X at h
  cases h with
  | sc v h => cases hx
  | nil A c hm =>
    left
    injection hx with hx
    exact ⟨by simpa [zR] using hx, A, c, rfl⟩
  | sl es sz ad c f hok hc hm hlen hcell hr =>
    right
    injection hx with hx
    subst hx
    refine ⟨ad, c, by rw [zLen], hok, fun j x hj => ?_⟩
    have hjl := (List.getElem?_eq_some_iff.1 hj).1
    have hrow : (zR z)[j]? = some (zRow x) := by simp [zR, hj]
    have hsz : sz = 2 := by
      have := hlen (zRow x) (List.mem_of_getElem? hrow)
      simpa [zRow] using this.symm
    subst hsz
    have a0 := hcell (j * 2) (by rw [zLen]; omega)
    have a1 := hcell (j * 2 + 1) (by rw [zLen]; omega)
    rw [show f (j * 2) = .int .i64 x.1 from RepI_sc (hr j _ 0 _ hrow rfl)] at a0
    rw [show f (j * 2 + 1) = .int .i64 x.2 from RepI_sc (hr j _ 1 _ hrow rfl)] at a1
    exact ⟨a0, by rw [add_add']; exact a1⟩
set_option maxRecDepth 100000 in
set_option maxHeartbeats 1000000 in
theorem retired0_in (n : Nat) (l B1 B2 c : Nat) (A : Option Addr) (J : List Int → World → Prop) (W : World) (hB2 : W.cell? ⟨B1, 2, none⟩ = some (.slice A 0 c)) (h0 : J [] W) :
    CallsIn Fence.wide n Try.prog 126 #[.func (.yield l) #[] #[], .pointer (some ⟨B1, 0, none⟩), .pointer (some ⟨B2, 0, none⟩)] W fun e W' => (∃ v, e = .returned v) ∧ J [] W' := by
  refine callsIn_of_wp Try.func126 rfl trivial ?_ rfl
  simp only [Try.ntmps126, List.size_toArray, List.length_cons, List.length_nil, Nat.reduceAdd, Nat.reduceSub, Array.replicate_succ, Array.replicate_zero, List.push_toArray, List.append_toArray, List.nil_append, List.cons_append]
  gi_wp2
  gi_loopw [9] (fun i wr => i = .int .i64 0 ∧ J [] wr) (fun _ _ => 0)
  case atStart => exact ⟨rfl, h0⟩
  case round =>
    obtain ⟨rfl, hJs⟩ := hrel
    gi_wp2
    go_end0
    exact ⟨⟨_, rfl⟩, hJs⟩
theorem retired_stops (n : Nat) (hn : 1 ≤ n) (B1 B2 : Nat) (g most : Int) (pv zv : Value) (z : List (Int × Int)) (hz : z.length ≤ 1000000) (ok : Nat → Prop) (w : World) (hok : ∀ k, ok k → k < w.heap.size) (h1 : B1 < w.heap.size) (h2 : B2 < w.heap.size)
    (hr : RepI w ok (.sl (zR z)) zv) (c0 : w.cell? ⟨B1, 0, none⟩ = some (.int .i64 g)) (c1 : w.cell? ⟨B1, 1, none⟩ = some pv) (c2 : w.cell? ⟨B1, 2, none⟩ = some zv) (c3 : w.cell? ⟨B2, 0, none⟩ = some (.int .i64 most)) :
    SeqStopsK Fence.wide n Try.prog 126 #[.pointer (some ⟨B1, 0, none⟩), .pointer (some ⟨B2, 0, none⟩)] (fun x : Int => #[Value.int .i64 x]) (Below w.heap.size) (fun ys => ys = comes most z z.length) (fun pre => pre <+: comes most z z.length) (z.length + 1) w := fun l J Jx W hW hJ hJx hY h0 => by
  have d0 := (hW.cell (p := ⟨B1, 0, none⟩) h1).trans c0
  have d1 := (hW.cell (p := ⟨B1, 1, none⟩) h1).trans c1
  have d2 := (hW.cell (p := ⟨B1, 2, none⟩) h1).trans c2
  have d3 := (hW.cell (p := ⟨B2, 0, none⟩) h2).trans c3
  rcases zcells hr with ⟨rfl, A, c, rfl⟩ | ⟨ad, c, rfl, hb, hc⟩
  · refine (retired0_in n l B1 B2 c A J W d2 h0).mono ?_
    rintro e W' ⟨he, hj⟩
    exact ⟨he, .inl ⟨[], rfl, hj⟩⟩
  · refine retired1_in n hn l B1 B2 w.heap.size c ad g most pv z hz (hok _ hb) h1 h2 J Jx hY W hJ hW.size d0 d1 d2 d3 (fun j x hj => ?_) h0
    obtain ⟨q1, q2⟩ := hc j x hj
    exact ⟨(hW.cell (p := ad.add (j * 2)) (by rw [add_block]; exact hok _ hb)).trans q1, (hW.cell (p := (ad.add (j * 2)).add 1) (by rw [add_block, add_block]; exact hok _ hb)).trans q2⟩

theorem cell_of_box_l {W : World} {B : Nat} {v : Value} {t : TypeId} (h : W.heap[B]? = some (.cells #[v] t (0, 0))) : W.cell? ⟨B, 0, none⟩ = some v ∧ W.frozen? ⟨B, 0, none⟩ = false := by
  constructor <;> simp [World.cell?, World.frozen?, h]
theorem cell_new_l (W : World) (v : Value) (t : TypeId) : (W.alloc (.cells #[v] t)).cell? ⟨W.heap.size, 0, none⟩ = some v ∧ (W.alloc (.cells #[v] t)).frozen? ⟨W.heap.size, 0, none⟩ = false :=
  cell_of_box_l (World.alloc_heap_new W _)
theorem cell_alloc_l {W : World} {a : Addr} {v : Value} (o : Obj) (h : W.cell? a = some v) : (W.alloc o).cell? a = some v := cell_kept h (World.grownBy_alloc W o none) (fun r e => by cases e)
theorem frozen_alloc_l {W : World} {a : Addr} {v : Value} (o : Obj) (h : W.cell? a = some v) (hf : W.frozen? a = false) : (W.alloc o).frozen? a = false := (frozen_kept h (World.grownBy_alloc W o none) (fun r e => by cases e)).trans hf
theorem cell_new3_l (W : World) (a b c : Value) (t : TypeId) : (W.alloc (.cells #[a, b, c] t)).cell? ⟨W.heap.size, 0, none⟩ = some a ∧ (W.alloc (.cells #[a, b, c] t)).cell? ⟨W.heap.size, 1, none⟩ = some b ∧ (W.alloc (.cells #[a, b, c] t)).cell? ⟨W.heap.size, 2, none⟩ = some c := by
  have := World.alloc_heap_new W (.cells #[a, b, c] t)
  refine ⟨?_, ?_, ?_⟩ <;> (unfold World.cell?; dsimp only; rw [this]; rfl)
theorem comes_nil {m : Int} {z : List (Int × Int)} (h : comes m z z.length = []) : z.find? (rdy m) = none := by
  unfold comes at h
  rw [List.take_length, List.map_eq_nil_iff, List.filter_eq_nil_iff] at h
  rw [List.find?_eq_none]
  exact h
theorem comes_head {m x : Int} {z : List (Int × Int)} (h : [x] <+: comes m z z.length) : ∃ y, z.find? (rdy m) = some y ∧ y.1 = x := by
  unfold comes at h
  rw [List.take_length] at h
  obtain ⟨t, ht⟩ := h
  have h0 : (z.filter (rdy m)).head? = z.find? (rdy m) := List.head?_filter ..
  cases hf : z.filter (rdy m) with
  | nil => rw [hf] at ht; simp at ht
  | cons y ys =>
    rw [hf] at ht h0
    simp at ht
    exact ⟨y, by rw [← h0]; rfl, ht.1.symm⟩
/-- The valid check as a call in the fence. -/
theorem valid_in (n : Nat) (g : Int) (p : List Int) (z : List (Int × Int)) (hz : z.length ≤ 1000000) (hv : evalid g p z = true) (w : World) (ok : Nat → Prop) (hok : ∀ k, ok k → k < w.heap.size) (pv zv : Value) (hp : RepI w ok (.sl (wV p)) pv) (hzr : RepI w ok (.sl (zR z)) zv) (W : World) (hW : Below w.heap.size w W) :
    CallsIn Fence.wide n Try.prog 51 #[.agg #[.int .i64 g, pv, zv]] W fun e W' => e = .returned (.bool true) ∧ Below W.heap.size W W' := by
  have hb : ∀ k, ok k → W.heap[k]? = w.heap[k]? := fun k hk => hW.block k (hok k hk)
  refine (callsIn_wide.2 ((evalidF g p z hz).2 W ok #[.agg #[.int .i64 g, pv, zv]] (fun k hk => Nat.lt_of_lt_of_le (hok k hk) hW.size) rfl ?_)).mono ?_
  · intro j v x hj hx
    match j with
    | 0 =>
      simp at hj hx
      subst hj hx
      refine ⟨_, rfl, rfl, fun i u y hu hy => ?_⟩
      match i with
      | 0 => simp at hu hy; subst hu hy; exact ⟨RepI.sc _ rfl, rfl⟩
      | 1 => simp at hu hy; subst hu hy; exact ⟨RepI.mono (fun _ h => h) hb hp, oneCell_of_RepI hp⟩
      | 2 => simp at hu hy; subst hu hy; exact ⟨RepI.mono (fun _ h => h) hb hzr, oneCell_of_RepI hzr⟩
      | i + 3 => simp at hu
    | j + 1 => simp at hj
  · rintro e W' ⟨v, ok', σ, rfl, hB, _, _, hr, _⟩
    have hr' : v = .bool (evalid g p z) := RepI_sc hr
    rw [hv] at hr'
    exact ⟨by rw [hr'], hB⟩
set_option maxRecDepth 100000 in
set_option maxHeartbeats 4000000 in
theorem ready_in (n : Nat) (hn : 3 ≤ n) (g : Int) (p : List Int) (z : List (Int × Int)) (hz : z.length ≤ 1000000) (hv : evalid g p z = true) (w : World) (ok : Nat → Prop) (hok : ∀ k, ok k → k < w.heap.size) (pv zv : Value) (hp : RepI w ok (.sl (wV p)) pv) (hzr : RepI w ok (.sl (zR z)) zv) :
    CallsIn Fence.wide n Try.prog 49 #[.agg #[.int .i64 g, pv, zv]] w fun e W' => e = .returned (.tuple #[.int .i64 (erdy g p z).1, .bool (erdy g p z).2]) ∧ Below w.heap.size w W' := by
  have h1 : 1 ≤ n := by omega
  have hval := valid_in (n - 1) g p z hz hv w ok hok pv zv hp hzr
  refine callsIn_of_wp_marks Try.func49 rfl trivial ?_ rfl
  simp only [Try.ntmps49, List.size_toArray, List.length_cons, List.length_nil, Nat.reduceAdd, Nat.reduceSub, Array.replicate_succ, Array.replicate_zero, List.push_toArray, List.append_toArray, List.nil_append, List.cons_append]
  obtain ⟨W3, hW3⟩ : ∃ W3, ((w.alloc (.cells #[.int .i64 g, pv, zv] 39)).alloc (.cells #[.int .i64 0] 3)).alloc (.cells #[.bool false] 4) = W3 := ⟨_, rfl⟩
  have hB3 : Below w.heap.size w W3 := by rw [← hW3]; exact (((Below.refl _ w).alloc (Nat.le_refl _) _).alloc (by simp) _).alloc (by simp; omega) _
  have hs3 : W3.heap.size = w.heap.size + 1 + 1 + 1 := by rw [← hW3]; simp
  have hc0 : W3.cell? ⟨w.heap.size, 0, none⟩ = some (.int .i64 g) := by rw [← hW3]; exact cell_alloc_l _ (cell_alloc_l _ (cell_new3_l _ _ _ _ _).1)
  have hc1 : W3.cell? ⟨w.heap.size, 1, none⟩ = some pv := by rw [← hW3]; exact cell_alloc_l _ (cell_alloc_l _ (cell_new3_l _ _ _ _ _).2.1)
  have hc2 : W3.cell? ⟨w.heap.size, 2, none⟩ = some zv := by rw [← hW3]; exact cell_alloc_l _ (cell_alloc_l _ (cell_new3_l _ _ _ _ _).2.2)
  have hr2 : W3.cell? ⟨w.heap.size + 1, 0, none⟩ = some (.int .i64 0) ∧ W3.frozen? ⟨w.heap.size + 1, 0, none⟩ = false := by
    have := cell_new_l (w.alloc (.cells #[.int .i64 g, pv, zv] 39)) (.int .i64 0) 3
    rw [World.size_alloc] at this
    rw [← hW3]
    exact ⟨cell_alloc_l _ this.1, frozen_alloc_l _ this.1 this.2⟩
  have hr3 : W3.cell? ⟨w.heap.size + 1 + 1, 0, none⟩ = some (.bool false) ∧ W3.frozen? ⟨w.heap.size + 1 + 1, 0, none⟩ = false := by
    have := cell_new_l ((w.alloc (.cells #[.int .i64 g, pv, zv] 39)).alloc (.cells #[.int .i64 0] 3)) (.bool false) 4
    simp only [World.size_alloc] at this
    rw [← hW3]
    exact this
  have hval3 := hval W3 hB3
  have hwg : wrap64 (g - 2) = g - 2 := by have := evalid_g hv; unfold wrap64; omega
  gi_wp2_with (first
    | (refine ⟨trivial, ?_⟩; gi_at_call 51; refine hval3.mono ?_; rintro e W4 ⟨rfl, hB4⟩; have hk0 := (hB4.cell (p := ⟨w.heap.size, 0, none⟩) (by rw [hs3]; dsimp only; omega)).trans hc0; have hk1 := (hB4.cell (p := ⟨w.heap.size, 1, none⟩) (by rw [hs3]; dsimp only; omega)).trans hc1; have hk2 := (hB4.cell (p := ⟨w.heap.size, 2, none⟩) (by rw [hs3]; dsimp only; omega)).trans hc2)
    | (refine ⟨trivial, ?_⟩; gi_at_call 97; refine (retired_in (n - 1) g pv zv (g - 2) _).mono ?_; rintro e w' ⟨rfl, rfl⟩))
  have hs4 : w.heap.size + 1 + 1 + 1 ≤ W4.heap.size := by rw [← hs3]; exact hB4.size
  have hB04 : Below w.heap.size w W4 := hB3.trans (hB4.mono (by omega))
  have hr24 : W4.cell? ⟨w.heap.size + 1, 0, none⟩ = some (.int .i64 0) ∧ W4.frozen? ⟨w.heap.size + 1, 0, none⟩ = false := ⟨(hB4.cell (p := ⟨w.heap.size + 1, 0, none⟩) (by rw [hs3]; dsimp only; omega)).trans hr2.1, (hB4.frozen (p := ⟨w.heap.size + 1, 0, none⟩) (by rw [hs3]; dsimp only; omega)).trans hr2.2⟩
  have hr34 : W4.cell? ⟨w.heap.size + 1 + 1, 0, none⟩ = some (.bool false) ∧ W4.frozen? ⟨w.heap.size + 1 + 1, 0, none⟩ = false := ⟨(hB4.cell (p := ⟨w.heap.size + 1 + 1, 0, none⟩) (by rw [hs3]; dsimp only; omega)).trans hr3.1, (hB4.frozen (p := ⟨w.heap.size + 1 + 1, 0, none⟩) (by rw [hs3]; dsimp only; omega)).trans hr3.2⟩
  obtain ⟨W5, hW5⟩ : ∃ W5, (W4.alloc (.cells #[.int .i64 g, pv, zv] 39)).alloc (.cells #[.int .i64 (g - 2)] 3) = W5 := ⟨_, rfl⟩
  have hs5 : W5.heap.size = W4.heap.size + 1 + 1 := by rw [← hW5]; simp
  have d0 : W5.cell? ⟨W4.heap.size, 0, none⟩ = some (.int .i64 g) := by rw [← hW5]; exact cell_alloc_l _ (cell_new3_l _ _ _ _ _).1
  have d1 : W5.cell? ⟨W4.heap.size, 1, none⟩ = some pv := by rw [← hW5]; exact cell_alloc_l _ (cell_new3_l _ _ _ _ _).2.1
  have d2 : W5.cell? ⟨W4.heap.size, 2, none⟩ = some zv := by rw [← hW5]; exact cell_alloc_l _ (cell_new3_l _ _ _ _ _).2.2
  have d3 : W5.cell? ⟨W4.heap.size + 1, 0, none⟩ = some (.int .i64 (g - 2)) := by
    have := cell_new_l (W4.alloc (.cells #[.int .i64 g, pv, zv] 39)) (.int .i64 (g - 2)) 3
    rw [World.size_alloc] at this
    rw [← hW5]
    exact this.1
  have hB5 : Below w.heap.size w W5 := by rw [← hW5]; exact (hB04.alloc (by omega) _).alloc (by simp; omega) _
  have hr25 : W5.cell? ⟨w.heap.size + 1, 0, none⟩ = some (.int .i64 0) ∧ W5.frozen? ⟨w.heap.size + 1, 0, none⟩ = false := by
    rw [← hW5]; exact ⟨cell_alloc_l _ (cell_alloc_l _ hr24.1), frozen_alloc_l _ (cell_alloc_l _ hr24.1) (frozen_alloc_l _ hr24.1 hr24.2)⟩
  have hr35 : W5.cell? ⟨w.heap.size + 1 + 1, 0, none⟩ = some (.bool false) ∧ W5.frozen? ⟨w.heap.size + 1 + 1, 0, none⟩ = false := by
    rw [← hW5]; exact ⟨cell_alloc_l _ (cell_alloc_l _ hr34.1), frozen_alloc_l _ (cell_alloc_l _ hr34.1) (frozen_alloc_l _ hr34.1 hr34.2)⟩
  have hst := retired_stops (n - 1) (by omega) W4.heap.size (W4.heap.size + 1) g (g - 2) pv zv z hz ok W5 (fun k hk => by have := hok k hk; omega) (by omega) (by omega) (RepI.mono (fun _ h => h) (fun k hk => hB5.block k (hok k hk)) hzr) d0 d1 d2 d3
  rw [hW5]
  refine wpIn_rangeFunc_ownF rfl h1 (gf := 126) (lb := #[.pointer (some ⟨W4.heap.size, 0, none⟩), .pointer (some ⟨W4.heap.size + 1, 0, none⟩)]) rfl trivial (enters_of Try.func126 (by kernel_rfl) rfl)
    hst belowK_t (belowK_b (Nat.le_refl _)) (Below.refl _ _) (fun _ => rfl)
    (fun pre W => (pre = [] ∧ W.cell? ⟨w.heap.size + 1, 0, none⟩ = some (.int .i64 0) ∧ W.frozen? ⟨w.heap.size + 1, 0, none⟩ = false ∧ W.cell? ⟨w.heap.size + 1 + 1, 0, none⟩ = some (.bool false) ∧ W.frozen? ⟨w.heap.size + 1 + 1, 0, none⟩ = false) ∧ Below w.heap.size w W)
    (fun c pre W => (c = .ret ∧ ∃ x, pre = [x] ∧ W.cell? ⟨w.heap.size + 1, 0, none⟩ = some (.int .i64 x) ∧ W.cell? ⟨w.heap.size + 1 + 1, 0, none⟩ = some (.bool true)) ∧ Below w.heap.size w W)
    (OwnFrom.and (Own.from (fun s A B row hs hg hr => ⟨hs.1, cell_kept hs.2.1 hg hr, (frozen_kept hs.2.1 hg hr).trans hs.2.2.1, cell_kept hs.2.2.2.1 hg hr, (frozen_kept hs.2.2.2.1 hg hr).trans hs.2.2.2.2⟩) _) (ownFrom_below (Nat.le_refl _) hB5.size))
    (fun c => OwnFrom.and (Own.from (fun s A B row hs hg hr => ⟨hs.1, hs.2.choose, hs.2.choose_spec.1, cell_kept hs.2.choose_spec.2.1 hg hr, cell_kept hs.2.choose_spec.2.2 hg hr⟩) _) (ownFrom_below (Nat.le_refl _) hB5.size))
    ⟨⟨rfl, hr25.1, hr25.2, hr35.1, hr35.2⟩, hB5⟩
    (fun x => { tmps := #[.agg #[.int .i64 g, pv, zv], .pointer (some ⟨w.heap.size, 0, none⟩), .pointer (some ⟨w.heap.size + 1, 0, none⟩), .pointer (some ⟨w.heap.size + 1 + 1, 0, none⟩), .int .i64 x, .agg #[.int .i64 g, pv, zv], .bool true, .bool false, .agg #[.int .i64 g, pv, zv], .pointer (some ⟨w.heap.size, 0, none⟩), .int .i64 g, .int .i64 (g - 2), .func (.func 126) #[] #[.pointer (some ⟨W4.heap.size, 0, none⟩), .pointer (some ⟨W4.heap.size + 1, 0, none⟩)], .int .i64 x, undef], defers := [] }) ?assign ?body ?done ?stop
  case assign =>
    intro l x W K hK
    gi_wp2
    exact hK
  case body =>
    rintro l pre x W ⟨⟨rfl, q1, q2, q3, q4⟩, hB⟩ _
    gi_wp2
    refine ⟨(KeepsOthers.setCell _ _ _).trans (KeepsOthers.setCell _ _ _), ⟨rfl, x, rfl, ?_, ?_⟩, (hB.setCell (p := ⟨w.heap.size + 1, 0, none⟩) (by dsimp only; omega) _).setCell (p := ⟨w.heap.size + 1 + 1, 0, none⟩) (by dsimp only; omega) _⟩
    · rw [World.cell?_setCell_other _ _ _ _ (by simp)]
      exact World.cell?_setCell_same' _ _ _ (by rw [q1]; rfl)
    · exact World.cell?_setCell_same' _ _ _ (by rw [World.cell?_setCell_other _ _ _ _ (by simp), q3]; rfl)
  case done =>
    rintro D ys W hD rfl ⟨⟨hne, q1, q2, q3, q4⟩, hB⟩ hK
    gi_wp2
    have hD' : w.heap.size ≤ D := Nat.le_trans hB5.size hD
    have hK' := ((KeepsOthers.setCell W ⟨w.heap.size + 1, 0, none⟩ (.int .i64 0)).trans (KeepsOthers.setCell _ ⟨w.heap.size + 1 + 1, 0, none⟩ (.bool false))).same D _ hK rfl
    refine ⟨by simp, .inl ⟨_, _, rfl, run_takeDeferred hK', ?_⟩⟩
    have r1 : ((W.setCell ⟨w.heap.size + 1, 0, none⟩ (.int .i64 0)).setCell ⟨w.heap.size + 1 + 1, 0, none⟩ (.bool false)).cell? ⟨w.heap.size + 1, 0, none⟩ = some (.int .i64 0) := by
      rw [World.cell?_setCell_other _ _ _ _ (by simp)]
      exact World.cell?_setCell_same' _ _ _ (by rw [q1]; rfl)
    have r2 : ((W.setCell ⟨w.heap.size + 1, 0, none⟩ (.int .i64 0)).setCell ⟨w.heap.size + 1 + 1, 0, none⟩ (.bool false)).cell? ⟨w.heap.size + 1 + 1, 0, none⟩ = some (.bool false) :=
      World.cell?_setCell_same' _ _ _ (by rw [World.cell?_setCell_other _ _ _ _ (by simp), q3]; rfl)
    have s1 := cell_kept r1 (grownBy_putObj' _ D (.deferred none)) (fun r e => by cases e; exact ⟨_, hK', rfl⟩)
    have s2 := cell_kept r2 (grownBy_putObj' _ D (.deferred none)) (fun r e => by cases e; exact ⟨_, hK', rfl⟩)
    rw [erdy_none hv (comes_nil hne)]
    refine ⟨.tuple #[.int .i64 0, .bool false], ?_, rfl, ((hB.setCell (p := ⟨w.heap.size + 1, 0, none⟩) (by dsimp only; omega) _).setCell (p := ⟨w.heap.size + 1 + 1, 0, none⟩) (by dsimp only; omega) _).trans (belowK_b (w := w) (Nat.le_refl _) _ D _ _ hD' hK' rfl rfl)⟩
    simp [results, Try.f49, go_sem, s1, s2]
  case stop =>
    rintro D c pre W hD hpre ⟨⟨rfl, x, rfl, q1, q2⟩, hB⟩ hK
    gi_wp2
    have hD' : w.heap.size ≤ D := Nat.le_trans hB5.size hD
    refine ⟨by simp, .inl ⟨_, _, rfl, run_takeDeferred hK, ?_⟩⟩
    have s1 := cell_kept q1 (grownBy_putObj' _ D (.deferred none)) (fun r e => by cases e; exact ⟨_, hK, rfl⟩)
    have s2 := cell_kept q2 (grownBy_putObj' _ D (.deferred none)) (fun r e => by cases e; exact ⟨_, hK, rfl⟩)
    obtain ⟨y, hy, rfl⟩ := comes_head hpre
    rw [erdy_some hv hy]
    refine ⟨.tuple #[.int .i64 y.1, .bool true], ?_, rfl, hB.trans (belowK_b (w := w) (Nat.le_refl _) W D _ _ hD' hK rfl rfl)⟩
    simp [results, Try.f49, go_sem, s1, s2]
/-- Ready, for the abstract walk. -/
theorem erdyF (g : Int) (p : List Int) (z : List (Int × Int)) (hz : z.length ≤ 1000000) : Fun Try.prog 49 [epA g p z] [] (.tup [i64V (erdy g p z).1, bV (erdy g p z).2]) := by
  cases hv : evalid g p z
  · have hvf := evalidF g p z hz
    rw [hv] at hvf
    rw [erdy_no hv]
    refine fun_of_vc tabOk mixOk Try.func49 rfl (by rfl) (rs := [.cell 2 3, .cell 3 4]) rfl rfl 19 ?_; rw [Try.ntmps49]
    (conv => whnf); repeat (first | (refine And.intro (DrawOk.mk (by first | (simp only [List.map_cons, List.map_nil, List.nil_append, List.cons_append, List.append_nil, updsL, List.length_cons, List.length_nil]; decide +kernel) | exact rfl)) ?_; conv => whnf) | (refine And.intro rfl ?_; conv => whnf) | (refine And.intro (fun _ => ?_) (fun h => Bool.noConfusion h); conv => whnf) | (refine And.intro (fun h => Bool.noConfusion h) (fun _ => ?_); conv => whnf))
    refine ⟨_, _, hvf, ?_⟩
    (conv => whnf); repeat (first | (refine And.intro (DrawOk.mk (by first | (simp only [List.map_cons, List.map_nil, List.nil_append, List.cons_append, List.append_nil, updsL, List.length_cons, List.length_nil]; decide +kernel) | exact rfl)) ?_; conv => whnf) | (refine And.intro rfl ?_; conv => whnf) | (refine And.intro (fun _ => ?_) (fun h => Bool.noConfusion h); conv => whnf) | (refine And.intro (fun h => Bool.noConfusion h) (fun _ => ?_); conv => whnf))
    refine Exists.intro [] (And.intro List.nodup_nil ?_); ((conv => whnf); repeat (first | (refine And.intro (DrawOk.mk (by first | (simp only [List.map_cons, List.map_nil, List.nil_append, List.cons_append, List.append_nil, updsL, List.length_cons, List.length_nil]; decide +kernel) | exact rfl)) ?_; conv => whnf) | (refine And.intro rfl ?_; conv => whnf) | (refine And.intro (fun _ => ?_) (fun h => Bool.noConfusion h); conv => whnf) | (refine And.intro (fun h => Bool.noConfusion h) (fun _ => ?_); conv => whnf)))
    rfl
  · refine ⟨⟨Try.f49, Try.func49, rfl, rfl⟩, fun w ok argv hok hsz hrep => ?_⟩
    have hs1 : argv.size = 1 := hsz
    obtain ⟨v0, rfl⟩ : ∃ v0, argv = #[v0] := ⟨argv[0], by
      ext i h1 h2
      · exact hs1
      · have : i = 0 := by omega
        subst this
        rfl⟩
    obtain ⟨arr, rfl, hasz, hcells⟩ := hrep 0 v0 _ rfl rfl
    have ha3 : arr.size = 3 := hasz
    have c0 := (hcells 0 _ _ (Array.getElem?_eq_getElem (by omega)) rfl).1
    have c1 := (hcells 1 _ _ (Array.getElem?_eq_getElem (by omega)) rfl).1
    have c2 := (hcells 2 _ _ (Array.getElem?_eq_getElem (by omega)) rfl).1
    have e0 : arr[0] = .int .i64 g := RepI_sc c0
    have earr : arr = #[.int .i64 g, arr[1], arr[2]] := by
      ext i h1 h2
      · exact ha3
      · match i with
        | 0 => exact e0
        | 1 => rfl
        | 2 => rfl
        | i + 3 => omega
    have hr := ready_in 3 (by omega) g p z hz hv w ok hok arr[1] arr[2] c1 c2
    rw [← earr] at hr
    refine (callsIn_wide.1 hr).mono ?_
    rintro e W' ⟨rfl, hB⟩
    exact ⟨_, ok, fun _ _ => undef, rfl, hB, fun _ h => h, fun _ h => Or.inl h, ⟨_, rfl, rfl, fun j u x hu hx => by
      match j with
      | 0 => simp at hu hx; subst hu hx; exact RepI.sc _ rfl
      | 1 => simp at hu hx; subst hu hx; exact RepI.sc _ rfl
      | j + 2 => simp at hu⟩, fun b B hb => by simp at hb, fun b b' B B' hb => by simp at hb⟩
end Go.Proofs.Ytijajfldpaadnaa.Ab
