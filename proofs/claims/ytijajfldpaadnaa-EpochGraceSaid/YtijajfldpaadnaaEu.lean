/- Epochs: Retire of a zone that is not retired yet. -/
import Derived.Test.YtijajfldpaadnaaEt
namespace Go.Proofs.Ytijajfldpaadnaa.Ab
set_option linter.unusedVariables false
set_option linter.unusedSimpArgs false
open Go.RowKit Go.Shelf

attribute [local go_sem] Oper.semAt_some

theorem infoRet : (Try.prog.info? 104).map (fun i => (i.zero, i.size, i.bytes)) = some (some (.agg #[.int .i64 0, .int .i64 0]), 2, 16) := by kernel_rfl
theorem orow_slice {w : World} {base E sz n : Nat} {v : Value} {xs : List Value} (h : w.ownsRow base E sz v n xs) : ∃ A n c, v = .slice A n c := by
  rcases h.2 with ⟨h, _⟩ | ⟨g, cap, cur, h, _⟩ <;> exact ⟨_, _, _, h⟩
theorem frozen_new3_l (W : World) (a b c : Value) (t : TypeId) : (W.alloc (.cells #[a, b, c] t)).frozen? ⟨W.heap.size, 2, none⟩ = false := by
  have := World.alloc_heap_new W (.cells #[a, b, c] t)
  unfold World.frozen?
  dsimp only
  rw [this]
  rfl
theorem own_below {W4 W : World} {B E sz n : Nat} {v : Value} {xs : List Value} (h : W4.ownsRow B E sz v n xs) (hb : Below W4.heap.size W4 W) : W.ownsRow B E sz v n xs := by
  refine ⟨h.1, ?_⟩
  rcases h.2 with h | ⟨m, cap, cur, e1, e2, e3, e4⟩
  · exact Or.inl h
  · exact Or.inr ⟨m, cap, cur, e1, e2, by rw [hb.block m (Array.getElem?_eq_some_iff.1 e3).1]; exact e3, e4⟩
theorem own_bounds {W4 : World} {B E sz n : Nat} {v : Value} {xs : List Value} (h : W4.ownsRow B E sz v n xs) (m : Nat) (hm : Value.ownBlock v = some m) : B ≤ m ∧ m < W4.heap.size := by
  rcases h.2 with ⟨h, _⟩ | ⟨m', cap, cur, e1, e2, e3, e4⟩
  · rw [h] at hm; cases hm
  · rw [e1] at hm
    injection hm with hm
    subst hm
    exact ⟨e2, (Array.getElem?_eq_some_iff.1 e3).1⟩
theorem two_cells (W : World) (x y : Value) (t : TypeId) : ∀ (j : Nat) u, [x, y][j]? = some u → (W.alloc (.cells #[x, y] t)).cell? ((⟨W.heap.size, 0, none⟩ : Addr).add j) = some u := by
  intro j u hj
  have := World.alloc_heap_new W (.cells #[x, y] t)
  match j with
  | 0 => simp at hj; subst hj; unfold World.cell?; dsimp only [Addr.add]; simp only [if_true]; rw [this]; rfl
  | 1 =>
    simp at hj; subst hj
    show (W.alloc (.cells #[x, y] t)).cell? ⟨W.heap.size, 1, none⟩ = some y
    unfold World.cell?; dsimp only; rw [this]; rfl
  | j + 2 => simp at hj
theorem keep_after {W w1 : World} {o : Obj} {row : Option Nat} (hg : (W.alloc o).grownBy w1 row) : ∀ k, k < W.heap.size → row ≠ some k → w1.heap[k]? = W.heap[k]? := fun k hk hr => by
  rw [hg.block k (by first | (simp; done) | (simp; omega)) (fun e => hr e.symm)]
  exact Below.heap_alloc W o k hk
theorem frozen_of_block {W W' : World} {a : Addr} (h : W'.heap[a.block]? = W.heap[a.block]?) : W'.frozen? a = W.frozen? a := by unfold World.frozen?; rw [h]
theorem app_facts {w W w1 W9 : World} {g zone : Int} {pv zv r0 r1 r2 p' z' v' zv2 : Value} {rb : Bool} {b3 b4 : Nat} (hR : RW w W g zone pv zv r0 r1 r2 rb) (q0 : W.cell? ⟨b4, 0, none⟩ = some (.int .i64 g)) (q1 : W.cell? ⟨b4, 1, none⟩ = some p') (q2 : W.cell? ⟨b4, 2, none⟩ = some z') (q3 : W.frozen? ⟨b4, 2, none⟩ = false)
    (hk : ∀ k, k < W.heap.size → Value.ownBlock zv2 ≠ some k → w1.heap[k]? = W.heap[k]?) (hzb : ∀ m, Value.ownBlock zv2 = some m → b3 ≤ m ∧ m < b4) (h3 : w.heap.size + 1 + 1 + 1 < b3) (h4 : b4 < W.heap.size) (h5 : w.heap.size + 1 + 1 + 1 < b4) (h6 : w.heap.size + 1 + 1 + 1 < W.heap.size) (hW9 : w1.setCell ⟨b4, 2, none⟩ v' = W9) :
    (w1.cell? ⟨b4, 2, none⟩ = some z' ∧ w1.frozen? ⟨b4, 2, none⟩ = false) ∧ W9.cell? ⟨b4, 0, none⟩ = some (.int .i64 g) ∧ W9.cell? ⟨b4, 1, none⟩ = some p' ∧ W9.cell? ⟨b4, 2, none⟩ = some v' ∧ RW w W9 g zone pv zv r0 r1 r2 rb := by
  have e4 : w1.heap[b4]? = W.heap[b4]? := hk b4 h4 (fun e => by have := hzb _ e; omega)
  have e : ∀ b, b ≤ w.heap.size + 1 + 1 + 1 → w1.heap[b]? = W.heap[b]? := fun b hb => hk b (by omega) (fun e => by have := hzb _ e; omega)
  have c : ∀ (b j : Nat), b ≤ w.heap.size + 1 + 1 + 1 → W9.cell? ⟨b, j, none⟩ = W.cell? ⟨b, j, none⟩ := fun b j hb => by
    rw [← hW9, World.cell?_setCell_other _ _ _ _ (by first | (simp; done) | (simp; omega) | (intro h; injection h; omega))]
    exact World.cell?_of_block (e b hb)
  have f : ∀ (b j : Nat), b ≤ w.heap.size + 1 + 1 + 1 → W9.frozen? ⟨b, j, none⟩ = W.frozen? ⟨b, j, none⟩ := fun b j hb => by
    rw [← hW9, World.frozen?_setCell]
    exact frozen_of_block (e b hb)
  have d0 : w1.cell? ⟨b4, 0, none⟩ = some (.int .i64 g) := (World.cell?_of_block (a := ⟨b4, 0, none⟩) e4).trans q0
  have d1 : w1.cell? ⟨b4, 1, none⟩ = some p' := (World.cell?_of_block (a := ⟨b4, 1, none⟩) e4).trans q1
  have d2 : w1.cell? ⟨b4, 2, none⟩ = some z' := (World.cell?_of_block (a := ⟨b4, 2, none⟩) e4).trans q2
  refine ⟨⟨d2, (frozen_of_block (a := ⟨b4, 2, none⟩) e4).trans q3⟩, ?_, ?_, ?_, ?_⟩
  · rw [← hW9, World.cell?_setCell_other _ _ _ _ (by simp)]; exact d0
  · rw [← hW9, World.cell?_setCell_other _ _ _ _ (by simp)]; exact d1
  · rw [← hW9]; exact World.cell?_setCell_same' _ _ _ (by rw [d2]; rfl)
  · exact ⟨(c _ _ (by omega)).trans hR.a0, (c _ _ (by omega)).trans hR.a1, (c _ _ (by omega)).trans hR.a2, (c _ _ (by omega)).trans hR.b, (c _ _ (by omega)).trans hR.c0, (c _ _ (by omega)).trans hR.c1, (c _ _ (by omega)).trans hR.c2,
      (f _ _ (by omega)).trans hR.f0, (f _ _ (by omega)).trans hR.f1, (f _ _ (by omega)).trans hR.f2, (c _ _ (by omega)).trans hR.d, (f _ _ (by omega)).trans hR.fd⟩
theorem clone_in3 (n : Nat) (g : Int) (p : List Int) (z : List (Int × Int)) (hpl : p.length ≤ 1000000) (hz : z.length ≤ 1000000) (w : World) (ok : Nat → Prop) (hok : ∀ k, ok k → k < w.heap.size) (pv zv : Value) (hp : RepI w ok (.sl (wV p)) pv) (hzr : RepI w ok (.sl (zR z)) zv) (W : World) (hW : Below w.heap.size w W) :
    CallsIn Fence.wide n Try.prog 95 #[.agg #[.int .i64 g, pv, zv]] W fun e W' => ∃ pv' zv' ok' xs, e = .returned (.agg #[.int .i64 g, pv', zv']) ∧ Below W.heap.size W W' ∧ (∀ k, ok k → ok' k) ∧ (∀ k, ok' k → ok k ∨ (W.heap.size ≤ k ∧ k < W'.heap.size)) ∧
    RepI W' ok' (.sl (wV p)) pv' ∧ W'.ownsRow W.heap.size 104 2 zv' z.length xs ∧ (∀ m, Value.ownBlock zv' = some m → ¬ ok' m) ∧ (∀ (k : Nat) x, z[k]? = some x → xs[k * 2]? = some (.int .i64 x.1) ∧ xs[k * 2 + 1]? = some (.int .i64 x.2)) := by
  refine (clone_in2 n g p z hpl hz w ok hok pv zv hp hzr W hW).mono ?_
  rintro e W' ⟨pv', zv', ok', rfl, hB, h1, h2, r1, r3, r4, xs, q1, q2, q3, q4⟩
  rw [zLen] at q1
  refine ⟨pv', zv', ok', xs, rfl, hB, h1, h2, r1, ?_, q3.nok, fun k x hk => ?_⟩
  · have o := q1.to (by decide)
    refine ⟨o.1, ?_⟩
    rcases o.2 with h | ⟨m, cap, cur, e1, e2, e3⟩
    · exact Or.inl h
    · refine Or.inr ⟨m, cap, cur, e1, ?_, e3⟩
      rcases q3.has m (by rw [e1]; rfl) with h | h
      · exact h
      · cases h
  · have hrow : (zR z)[k]? = some (zRow x) := by simp [zR, hk]
    obtain ⟨u, a1, a2, _⟩ := q4 k _ 0 _ hrow rfl
    obtain ⟨u', b1, b2, _⟩ := q4 k _ 1 _ hrow rfl
    rw [show u = _ from RepI_sc a2] at a1
    rw [show u' = _ from RepI_sc b2] at b1
    exact ⟨a1, b1⟩
set_option maxRecDepth 100000 in
set_option maxHeartbeats 4000000 in
theorem retire_new (n : Nat) (hn : 3 ≤ n) (g : Int) (p : List Int) (z : List (Int × Int)) (hpl : p.length ≤ 1000000) (hz : z.length ≤ 1000000) (hv : evalid g p z = true) (zone : Int) (hzn : 0 ≤ zone) (hany : z.any (znB zone) = false) (w : World) (ok : Nat → Prop) (hok : ∀ k, ok k → k < w.heap.size) (pv zv : Value) (hp : RepI w ok (.sl (wV p)) pv) (hzr : RepI w ok (.sl (zR z)) zv) :
    CallsIn Fence.wide n Try.prog 47 #[.agg #[.int .i64 g, pv, zv], .int .i64 zone] w fun e W' => ∃ pv' zv' ok', e = .returned (.tuple #[.agg #[.int .i64 g, pv', zv'], .bool true]) ∧ Below w.heap.size w W' ∧ (∀ k, ok k → ok' k) ∧ (∀ k, ok' k → ok k ∨ (w.heap.size ≤ k ∧ k < W'.heap.size)) ∧
      RepI W' ok' (.sl (wV p)) pv' ∧ RepI W' ok' (.sl (zR (z ++ [(zone, g)]))) zv' := by
  have h1 : 1 ≤ n := by omega
  have hval := valid_in (n - 1) g p z hz hv w ok hok pv zv hp hzr
  have hcln := clone_in3 (n - 1) g p z hpl hz w ok hok pv zv hp hzr
  refine callsIn_of_wp_marks Try.func47 rfl trivial ?_ rfl
  simp only [Try.ntmps47, List.size_toArray, List.length_cons, List.length_nil, Nat.reduceAdd, Nat.reduceSub, Array.replicate_succ, Array.replicate_zero, List.push_toArray, List.append_toArray, List.nil_append, List.cons_append]
  have hRW3 := RW.new w g zone pv zv
  obtain ⟨W3, hW3⟩ : ∃ W3, (((w.alloc (.cells #[.int .i64 g, pv, zv] 39)).alloc (.cells #[.int .i64 zone] 3)).alloc (.cells #[.int .i64 0, .slice none 0 0, .slice none 0 0] 39)).alloc (.cells #[.bool false] 4) = W3 := ⟨_, rfl⟩
  rw [hW3] at hRW3
  have hB3 : Below w.heap.size w W3 := by rw [← hW3]; exact ((((Below.refl _ w).alloc (Nat.le_refl _) _).alloc (by simp) _).alloc (by simp; omega) _).alloc (by simp; omega) _
  have hs3 : W3.heap.size = w.heap.size + 1 + 1 + 1 + 1 := by rw [← hW3]; simp
  have a0 := hRW3.a0
  have a1 := hRW3.a1
  have a2 := hRW3.a2
  have hz0 : ¬ zone < 0 := by omega
  gi_wp2_with (first
    | (refine ⟨trivial, ?_⟩; gi_at_call 95; refine (hcln W3 hB3).mono ?_; rintro e W4 ⟨pv2, zv2, ok2, xs, rfl, hB4, hk1, hk2, hp2, hz2, hnok, hxs⟩; obtain ⟨pA, pn, pc, rfl⟩ := sl_slice hp2; obtain ⟨zA, zn, zc, rfl⟩ := orow_slice hz2; obtain ⟨W5, hW5⟩ : ∃ W5, W4.alloc (.cells #[.int .i64 g, .slice pA pn pc, .slice zA zn zc] 39) = W5 := ⟨_, rfl⟩; have hRW5 : RW w W5 g zone pv zv (.int .i64 0) (.slice none 0 0) (.slice none 0 0) false := (by rw [← hW5]; exact (hRW3.below (by omega) hB4).alloc _); have hB5s : W5.heap.size = W4.heap.size + 1 := (by rw [← hW5]; simp); have hB4s := hB4.size; have b0 := hRW5.a0; have b1 := hRW5.a1; have b2 := hRW5.a2; have hB5 : Below w.heap.size w W5 := (by rw [← hW5]; exact (hB3.trans (hB4.mono (by omega))).alloc (Nat.le_trans hB3.size hB4.size) _))
    | (refine ⟨trivial, ?_⟩; gi_at_call 51; refine (hval W5 hB5).mono ?_; rintro e W6 ⟨rfl, hB6⟩; have hRW6 := hRW5.below (by omega) hB6; have d0 := hRW6.a0; have d1 := hRW6.a1; have d2 := hRW6.a2; have d3 := hRW6.b)
    | (refine ⟨trivial, ?_⟩; gi_at_call 97; refine (retired_in (n - 1) g pv zv g _).mono ?_; rintro e w' ⟨rfl, rfl⟩))
  rw [decide_eq_false (show ¬ zone < 0 by omega)]
  have hs6 : W4.heap.size + 1 ≤ W6.heap.size := by rw [← hB5s]; exact hB6.size
  have hB6' : Below w.heap.size w W6 := hB5.trans (hB6.mono hB5.size)
  have e5 := cell_new3_l W4 (.int .i64 g) (.slice pA pn pc) (.slice zA zn zc) 39
  rw [hW5] at e5
  have e60 := (hB6.cell (p := ⟨W4.heap.size, 0, none⟩) (by dsimp only; omega)).trans e5.1
  have e61 := (hB6.cell (p := ⟨W4.heap.size, 1, none⟩) (by dsimp only; omega)).trans e5.2.1
  have e62 := (hB6.cell (p := ⟨W4.heap.size, 2, none⟩) (by dsimp only; omega)).trans e5.2.2
  have hRW7 := (hRW6.alloc (.cells #[.int .i64 g, pv, zv] 39)).alloc (.cells #[.int .i64 g] 3)
  have e70 := cell_alloc_l (.cells #[.int .i64 g] 3) (cell_alloc_l (.cells #[.int .i64 g, pv, zv] 39) e60)
  have e71 := cell_alloc_l (.cells #[.int .i64 g] 3) (cell_alloc_l (.cells #[.int .i64 g, pv, zv] 39) e61)
  have e72 := cell_alloc_l (.cells #[.int .i64 g] 3) (cell_alloc_l (.cells #[.int .i64 g, pv, zv] 39) e62)
  have f5 := frozen_new3_l W4 (.int .i64 g) (.slice pA pn pc) (.slice zA zn zc) 39
  rw [hW5] at f5
  have f60 := (hB6.frozen (p := ⟨W4.heap.size, 2, none⟩) (by dsimp only; omega)).trans f5
  have f70 := frozen_alloc_l (.cells #[.int .i64 g] 3) (cell_alloc_l (.cells #[.int .i64 g, pv, zv] 39) e62) (frozen_alloc_l (.cells #[.int .i64 g, pv, zv] 39) e62 f60)
  have j0 := cell_new3_l W6 (.int .i64 g) pv zv 39
  have j3 := cell_new_l (W6.alloc (.cells #[.int .i64 g, pv, zv] 39)) (.int .i64 g) 3
  rw [World.size_alloc] at j3
  have j00 := cell_alloc_l (.cells #[.int .i64 g] 3) j0.1
  have j01 := cell_alloc_l (.cells #[.int .i64 g] 3) j0.2.1
  have j02 := cell_alloc_l (.cells #[.int .i64 g] 3) j0.2.2
  have hB7 : Below w.heap.size w ((W6.alloc (.cells #[.int .i64 g, pv, zv] 39)).alloc (.cells #[.int .i64 g] 3)) := (hB6'.alloc hB6'.size _).alloc (by have := hB6'.size; simp; omega) _
  have hB47 : Below W4.heap.size W4 ((W6.alloc (.cells #[.int .i64 g, pv, zv] 39)).alloc (.cells #[.int .i64 g] 3)) := ((((by rw [← hW5]; exact (Below.refl _ W4).alloc (Nat.le_refl _) _ : Below W4.heap.size W4 W5).trans (hB6.mono (by omega))).alloc (by omega) _).alloc (by simp; omega) _)
  obtain ⟨W7, hW7⟩ : ∃ W7, (W6.alloc (.cells #[.int .i64 g, pv, zv] 39)).alloc (.cells #[.int .i64 g] 3) = W7 := ⟨_, rfl⟩
  have hs7 : W7.heap.size = W6.heap.size + 1 + 1 := by rw [← hW7]; simp
  rw [hW7] at hRW7 e70 e71 e72 f70 j3 j00 j01 j02 hB7 hB47
  rw [hW7]
  have hws : w.heap.size + 1 + 1 + 1 + 1 ≤ W4.heap.size := by omega
  have hst := retired_stops (n - 1) (by omega) W6.heap.size (W6.heap.size + 1) g g pv zv z hz ok W7 (fun k hk => by have := hok k hk; omega) (by omega) (by omega) (RepI.mono (fun _ h => h) (fun k hk => hB7.block k (hok k hk)) hzr) j00 j01 j02 j3.1
  refine wpIn_rangeFunc_ownF rfl h1 (gf := 126) (lb := #[.pointer (some ⟨W6.heap.size, 0, none⟩), .pointer (some ⟨W6.heap.size + 1, 0, none⟩)]) rfl trivial (enters_of Try.func126 (by kernel_rfl) rfl)
    hst belowK_t (belowK_b (Nat.le_refl _)) (Below.refl _ _) (fun _ => rfl)
    (fun pre W => ((zone ∉ pre) ∧ RW w W g zone pv zv (.int .i64 0) (.slice none 0 0) (.slice none 0 0) false ∧ W.cell? ⟨W4.heap.size, 0, none⟩ = some (.int .i64 g) ∧ W.cell? ⟨W4.heap.size, 1, none⟩ = some (.slice pA pn pc) ∧ W.cell? ⟨W4.heap.size, 2, none⟩ = some (.slice zA zn zc)) ∧ Below W7.heap.size W7 W)
    (fun c pre W => c = .ret ∧ zone ∈ pre)
    (OwnFrom.and (Own.from (fun s A B row hs hg hr => ⟨hs.1, hs.2.1.kept hg hr, cell_kept hs.2.2.1 hg hr, cell_kept hs.2.2.2.1 hg hr, cell_kept hs.2.2.2.2 hg hr⟩) _) (ownFrom_below (Nat.le_refl _) (Nat.le_refl _)))
    (fun c s A B row hs hg hr => hs)
    ⟨⟨by simp, hRW7, e70, e71, e72⟩, Below.refl _ _⟩
    (fun x => { tmps := #[.agg #[.int .i64 g, pv, zv], .int .i64 zone, .pointer (some ⟨w.heap.size, 0, none⟩), .pointer (some ⟨w.heap.size + 1, 0, none⟩), .pointer (some ⟨w.heap.size + 1 + 1, 0, none⟩), .pointer (some ⟨w.heap.size + 1 + 1 + 1, 0, none⟩), .pointer (some ⟨W4.heap.size, 0, none⟩), .int .i64 x, .agg #[.int .i64 g, pv, zv], .agg #[.int .i64 g, .slice pA pn pc, .slice zA zn zc], .agg #[.int .i64 g, pv, zv], .bool true, .bool false, .bool false, .int .i64 zone, .bool false, .bool false, undef, .agg #[.int .i64 g, pv, zv], .pointer (some ⟨w.heap.size, 0, none⟩), .int .i64 g, .func (.func 126) #[] #[.pointer (some ⟨W6.heap.size, 0, none⟩), .pointer (some ⟨W6.heap.size + 1, 0, none⟩)], .int .i64 x, undef, undef, undef, undef, undef, undef, undef, undef, undef, undef, undef, undef, undef, undef], defers := [] }) ?assign ?body ?done ?stop
  case assign =>
    intro l x W K hK
    gi_wp2
    exact hK
  case body =>
    rintro l pre x W ⟨⟨hne, hR, q0, q1, q2⟩, hB⟩ _
    have r1 := hR.b
    have r2 := hR.c0
    have r3 := hR.c1
    have r4 := hR.c2
    have r5 := hR.f0
    have r6 := hR.f1
    have r7 := hR.f2
    have r8 := hR.d
    have r9 := hR.fd
    gi_wp2
    · rename_i hx
      obtain rfl : x = zone := eq_of_beq hx
      exact ⟨(((KeepsOthers.setCell _ _ _).trans (KeepsOthers.setCell _ _ _)).trans (KeepsOthers.setCell _ _ _)).trans (KeepsOthers.setCell _ _ _), rfl, by simp⟩
    · rename_i hx
      have hx' : ¬ zone = x := fun e => by subst e; simp at hx
      exact ⟨KeepsOthers.refl _, Below.refl _ _, ⟨by simp [hne, hx'], hR, q0, q1, q2⟩, hB⟩
  case done =>
    rintro D ys W hD rfl ⟨⟨hne, hR, q0, q1, q2⟩, hB⟩ hK
    have r1 := hR.a0
    have r2 := hR.b
    have q3 : W.frozen? ⟨W4.heap.size, 2, none⟩ = false := (hB.frozen (p := ⟨W4.heap.size, 2, none⟩) (by have := hB47.size; dsimp only; omega)).trans f70
    have hB4W : Below W4.heap.size W4 W := hB47.trans (hB.mono hB47.size)
    have hrow := own_below hz2 hB4W
    have hDl : D < W.heap.size := (Array.getElem?_eq_some_iff.1 hK).1
    have hWs : W7.heap.size ≤ W.heap.size := hB.size
    have h74 := hB47.size
    have hzb : ∀ m, Value.ownBlock (.slice zA zn zc) = some m → W3.heap.size ≤ m ∧ m < W4.heap.size := fun m hm => own_bounds hz2 m hm
    obtain ⟨i0, hi, hz0', hz1, hz2'⟩ := info_parts infoRet
    have hml : z.length + 1 ≤ maxLen := Nat.le_trans (show z.length + 1 ≤ 2000000 by omega) (by decide)
    gi_wp2_with (gi_at_builtin; refine wpListIn_append_own _ rfl _ _ 37 rfl W3.heap.size 104 i0 _ 2 16 (by kernel_rfl) hi hz0' hz1 hz2' rfl (by decide) _ z.length xs rfl (hrow.alloc _) ⟨W.heap.size, 0, none⟩ 1 1 [.int .i64 zone, .int .i64 g] rfl rfl (two_cells W _ _ _) (by simp [Value.oneCell']) hml (by omega) (by simp; omega) ?_; intro v' w1 hown' hgrow _; obtain ⟨g', cap', rfl⟩ := ownsRow_succ hown'; obtain ⟨W9, hW9⟩ : ∃ W9, w1.setCell ⟨W4.heap.size, 2, none⟩ (.slice (some ⟨g', 0, none⟩) (z.length + 1) cap') = W9 := ⟨_, rfl⟩; have hkeep := keep_after hgrow; obtain ⟨k0, k1, k2, k3, k4⟩ := app_facts hR q0 q1 q2 q3 hkeep (fun m hm => hzb m hm) (by omega) (by omega) (by omega) (by omega) hW9; have k5 := k4.c0; have k6 := k4.c1; have k7 := k4.c2; have k8 := k4.f0; have k9 := k4.f1; have k10 := k4.f2; have k11 := k4.d; have k12 := k4.fd)
    have hRW10 := k4.store (.int .i64 g) (.slice pA pn pc) (.slice (some ⟨g', 0, none⟩) (z.length + 1) cap') true
    have hgb := own_bounds hown' g' rfl
    have hzD : Value.ownBlock (.slice zA zn zc) ≠ some D := fun e => by have := hzb _ e; omega
    have hz4 : Value.ownBlock (.slice zA zn zc) ≠ some W4.heap.size := fun e => by have := hzb _ e; omega
    have hD1 : w1.heap[D]? = some (.deferred (some [])) := (hkeep D hDl hzD).trans hK
    have hDn : W7.heap.size ≤ D := hD
    obtain ⟨W10, hW10⟩ : ∃ W10, (((W9.setCell ⟨w.heap.size + 1 + 1, 0, none⟩ (.int .i64 g)).setCell ⟨w.heap.size + 1 + 1, 1, none⟩ (.slice pA pn pc)).setCell ⟨w.heap.size + 1 + 1, 2, none⟩ (.slice (some ⟨g', 0, none⟩) (z.length + 1) cap')).setCell ⟨w.heap.size + 1 + 1 + 1, 0, none⟩ (.bool true) = W10 := ⟨_, rfl⟩
    rw [hW10] at hRW10
    rw [hW10]
    have h10 : ∀ k, k ≠ w.heap.size + 1 + 1 → k ≠ w.heap.size + 1 + 1 + 1 → k ≠ W4.heap.size → W10.heap[k]? = w1.heap[k]? := fun k n1 n2 n3 => by
      rw [← hW10, Below.heap_setCell _ _ _ k n2, Below.heap_setCell _ _ _ k n1, Below.heap_setCell _ _ _ k n1, Below.heap_setCell _ _ _ k n1, ← hW9, Below.heap_setCell _ _ _ k n3]
    have hD10 : W10.heap[D]? = some (.deferred (some [])) := (h10 D (by omega) (by omega) (by omega)).trans hD1
    have hs10 : W10.heap.size = w1.heap.size := by rw [← hW10, ← hW9]; simp
    have hbox : w1.heap[W4.heap.size]? = some (.cells #[.int .i64 g, .slice pA pn pc, .slice zA zn zc] 39 (0, 0)) := by
      have e1 : W5.heap[W4.heap.size]? = some (.cells #[.int .i64 g, .slice pA pn pc, .slice zA zn zc] 39 (0, 0)) := by rw [← hW5]; exact World.alloc_heap_new W4 _
      have e2 : W6.heap[W4.heap.size]? = W5.heap[W4.heap.size]? := hB6.block _ (by omega)
      have e3 : W7.heap[W4.heap.size]? = W6.heap[W4.heap.size]? := by rw [← hW7, Below.heap_alloc _ _ _ (by simp; omega), Below.heap_alloc _ _ _ (by omega)]
      have e4 : W.heap[W4.heap.size]? = W7.heap[W4.heap.size]? := hB.block _ (by omega)
      rw [hkeep _ (by omega) hz4, e4, e3, e2, e1]
    obtain ⟨cur, hcur, hcapl⟩ : ∃ cur, w1.heap[g']? = some (.cells cur 104 (0, 0)) ∧ True := by
      rcases hown'.2 with ⟨h, _⟩ | ⟨m, cap, cur, e1, e2, e3, e4⟩
      · cases h
      · injection e1 with e1; injection e1 with e1; injection e1 with e1; subst e1
        exact ⟨cur, e3, trivial⟩
    have hg4 : g' ≠ W4.heap.size := fun e => by rw [e, hbox] at hcur; injection hcur with hcur; injection hcur with _ hcur; cases hcur
    have hgD : g' ≠ D := fun e => by rw [e, hD1] at hcur; cases hcur
    have hwW : Below w.heap.size w W := hB7.trans (hB.mono hB7.size)
    have hw1 : Below w.heap.size w w1 := (hwW.alloc hwW.size _).grown hgrow (by have := hwW.size; simp; omega) (fun k e => by have := hzb _ e; omega)
    have hw10 : Below w.heap.size w W10 := by
      rw [← hW10, ← hW9]
      exact ((((hw1.setCell (p := ⟨W4.heap.size, 2, none⟩) (by dsimp only; omega) _).setCell (p := ⟨w.heap.size + 1 + 1, 0, none⟩) (by dsimp only; omega) _).setCell (p := ⟨w.heap.size + 1 + 1, 1, none⟩) (by dsimp only; omega) _).setCell (p := ⟨w.heap.size + 1 + 1, 2, none⟩) (by dsimp only; omega) _).setCell (p := ⟨w.heap.size + 1 + 1 + 1, 0, none⟩) (by dsimp only; omega) _
    have hwF : Below w.heap.size w (W10.putObj D (.deferred none)) := hw10.trans (belowK_b (w := w) (Nat.le_refl _) W10 D _ _ (by omega) hD10 rfl rfl)
    have hRD := hRW10.kept (grownBy_putObj' W10 D (.deferred none)) (fun r e => by cases e; exact ⟨_, hD10, rfl⟩)
    have q1 := hRD.c0
    have q2 := hRD.c1
    have q3 := hRD.c2
    have q4 := hRD.d
    have hF : ∀ k, k ≠ w.heap.size + 1 + 1 → k ≠ w.heap.size + 1 + 1 + 1 → k ≠ W4.heap.size → k ≠ D → (W10.putObj D (.deferred none)).heap[k]? = w1.heap[k]? := fun k n1 n2 n3 n4 => by
      rw [World.putObj_heap_other n4]
      exact h10 k n1 n2 n3
    refine ⟨by simp, .inl ⟨_, _, rfl, run_takeDeferred hD10, ?_⟩⟩
    refine ⟨.tuple #[.agg #[.int .i64 g, .slice pA pn pc, .slice (some ⟨g', 0, none⟩) (z.length + 1) cap'], .bool true], ?_, .slice pA pn pc, .slice (some ⟨g', 0, none⟩) (z.length + 1) cap', fun k => ok2 k ∨ k = g', rfl, hwF, fun k hk => Or.inl (hk1 k hk), fun k hk' => ?_, ?_, ?_⟩
    · simp [results, Try.f47, go_sem, q1, q2, q3, q4]
    · have hsF : (W10.putObj D (.deferred none)).heap.size = W10.heap.size := by simp
      have hs1 : W.heap.size < w1.heap.size := by have := hgrow.size; simp at this; omega
      rcases hk' with hk' | rfl
      · rcases hk2 k hk' with h | h
        · exact Or.inl h
        · exact Or.inr ⟨by omega, by rw [hsF, hs10]; omega⟩
      · exact Or.inr ⟨by omega, by rw [hsF, hs10]; exact hgb.2⟩
    · refine RepI.mono (fun k hk => Or.inl hk) (fun k hk => ?_) hp2
      have hk4 := ok2_lt hok hB3 hk2 hB4 k hk
      have hne2 : k ≠ w.heap.size + 1 + 1 ∧ k ≠ w.heap.size + 1 + 1 + 1 := by
        rcases hk2 k hk with h | h
        · have := hok k h; omega
        · omega
      rw [hF k hne2.1 hne2.2 (by omega) (by omega), hkeep k (by omega) (fun e => hnok k e hk)]
      exact hB4W.block k hk4
    · have hlen : (zR (z ++ [(zone, g)])).length = z.length + 1 := by simp [zR]
      have hownF : (W10.putObj D (.deferred none)).ownsRow 0 104 2 (.slice (some ⟨g', 0, none⟩) (z.length + 1) cap') (z.length + 1) (xs ++ [.int .i64 zone, .int .i64 g]) := by
        refine ⟨hown'.1, ?_⟩
        rcases hown'.2 with ⟨h, _⟩ | ⟨m, cap, cur, e1, e2, e3, e4⟩
        · cases h
        · have : m = g' := by injection e1 with e1; injection e1 with e1; injection e1 with e1; exact e1.symm
          subst this
          exact Or.inr ⟨m, cap, cur, e1, Nat.zero_le _, by rw [hF m (by omega) (by omega) hg4 hgD]; exact e3, e4⟩
      have hxl : xs.length = z.length * 2 := hz2.1
      have hB : RepB ((0 : Nat) : Bs) (W10.putObj D (.deferred none)) (fun _ => False) (fun _ _ => .slice (some ⟨g', 0, none⟩) (z.length + 1) cap') (fun _ => 0) 0 (.row 0 104 2 (zR (z ++ [(zone, g)]))) := by
        refine ⟨xs ++ [.int .i64 zone, .int .i64 g], by rw [hlen]; exact OwnR.of hownF, fun e he => zSz _ e he, ⟨fun m _ h => h, fun m _ => Or.inl (Nat.zero_le _), fun h => absurd h (by decide)⟩, fun k e j x hke hj => ?_⟩
        obtain ⟨y, hy, rfl⟩ : ∃ y, (z ++ [(zone, g)])[k]? = some y ∧ zRow y = e := by unfold zR at hke; rw [List.getElem?_map] at hke; exact Option.map_eq_some_iff.1 hke
        have hxy : xs ++ [.int .i64 zone, .int .i64 g] = xs ++ [.int .i64 zone, .int .i64 g] := rfl
        have hget : (xs ++ [.int .i64 zone, .int .i64 g])[k * 2]? = some (.int .i64 y.1) ∧ (xs ++ [.int .i64 zone, .int .i64 g])[k * 2 + 1]? = some (.int .i64 y.2) := by
          by_cases hkz : k < z.length
          · rw [List.getElem?_append_left hkz] at hy
            rw [List.getElem?_append_left (by omega), List.getElem?_append_left (by omega)]
            exact hxs k y hy
          · rw [List.getElem?_append_right (by omega)] at hy
            have hk0 : k - z.length = 0 := by
              have := (List.getElem?_eq_some_iff.1 hy).1
              simp at this
              omega
            rw [hk0] at hy
            injection hy with hy
            subst hy
            rw [List.getElem?_append_right (by omega), List.getElem?_append_right (by omega), show k * 2 - xs.length = 0 by omega, show k * 2 + 1 - xs.length = 1 by omega]
            exact ⟨rfl, rfl⟩
        match j with
        | 0 => simp [zRow] at hj; subst hj; exact ⟨_, hget.1, RepI.sc _ rfl, rfl⟩
        | 1 => simp [zRow] at hj; subst hj; exact ⟨_, hget.2, RepI.sc _ rfl, rfl⟩
        | j + 2 => simp [zRow] at hj
      exact row_RepI (G := fun _ => 0) hB (fun k h => h.elim) (fun m hm => Or.inr (by injection hm with hm; exact hm.symm))
  case stop =>
    rintro D c pre W hD hpre ⟨rfl, hin⟩ hK
    have := hpre.subset hin
    rw [comes_eq hv] at this
    rw [any_mem.2 this] at hany
    cases hany
theorem ep_tup {W : World} {ok : Nat → Prop} {σ : Nat → Nat → Value} {g : Int} {pl zl : List (List IV)} {pv zv : Value} {b : Bool} (hp : RepI W ok (.sl pl) pv) (hzr : RepI W ok (.sl zl) zv) : RepT W ok σ (fun _ => 0) (epT g pl zl b) (.tuple #[.agg #[.int .i64 g, pv, zv], .bool b]) := by
  refine ⟨_, rfl, rfl, fun j u x hu hx => ?_⟩
  match j with
  | 0 =>
    simp at hu hx
    subst hu hx
    refine ⟨_, rfl, rfl, fun i u y hu hy => ?_⟩
    match i with
    | 0 => simp at hu hy; subst hu hy; exact ⟨RepI.sc _ rfl, rfl⟩
    | 1 => simp at hu hy; subst hu hy; exact ⟨hp, oneCell_of_RepI hp⟩
    | 2 => simp at hu hy; subst hu hy; exact ⟨hzr, oneCell_of_RepI hzr⟩
    | i + 3 => simp at hu
  | 1 => simp at hu hx; subst hu hx; exact RepI.sc _ rfl
  | j + 2 => simp at hu
set_option maxRecDepth 100000 in
set_option maxHeartbeats 16000000 in
/-- Retire, for the abstract walk. -/
theorem eretF (g : Int) (p : List Int) (z : List (Int × Int)) (hpl : p.length ≤ 1000000) (hz : z.length ≤ 1000000) (n : Int) : Fun Try.prog 47 [epA g p z, i64V n] [] (epT g (wV p) (zR (eret g p z n).1) (eret g p z n).2) := by
  by_cases hvn : evalid g p z = true ∧ 0 ≤ n
  rotate_left
  · have hvf := evalidF g p z hz
    have e : eret g p z n = (z, false) := by unfold eret; rw [if_neg (fun h => hvn ⟨h.1, h.2.1⟩)]
    rw [e]
    cases hv : evalid g p z
    all_goals
      rw [hv] at hvf
      refine fun_of_vc tabOk mixOk Try.func47 rfl (by rfl) (rs := [.cell 4 39, .cell 5 4]) rfl rfl 41 ?_; rw [Try.ntmps47]
      (conv => whnf); repeat (first | (refine And.intro (DrawOk.mk (by first | (simp only [List.map_cons, List.map_nil, List.nil_append, List.cons_append, List.append_nil, updsL, List.length_cons, List.length_nil]; decide +kernel) | exact rfl)) ?_; conv => whnf) | (refine And.intro rfl ?_; conv => whnf) | (refine And.intro (fun _ => ?_) (fun h => Bool.noConfusion h); conv => whnf) | (refine And.intro (fun h => Bool.noConfusion h) (fun _ => ?_); conv => whnf))
      refine ⟨_, _, eclF g p z hpl hz, ?_⟩
      (conv => whnf); repeat (first | (refine And.intro (DrawOk.mk (by first | (simp only [List.map_cons, List.map_nil, List.nil_append, List.cons_append, List.append_nil, updsL, List.length_cons, List.length_nil]; decide +kernel) | exact rfl)) ?_; conv => whnf) | (refine And.intro rfl ?_; conv => whnf) | (refine And.intro (fun _ => ?_) (fun h => Bool.noConfusion h); conv => whnf) | (refine And.intro (fun h => Bool.noConfusion h) (fun _ => ?_); conv => whnf))
      repeat' (first | ((refine And.intro (fun h => ?_) (fun h => ?_)) <;> (try simp at h) <;> ((conv => whnf); repeat (first | (refine And.intro (DrawOk.mk (by first | (simp only [List.map_cons, List.map_nil, List.nil_append, List.cons_append, List.append_nil, updsL, List.length_cons, List.length_nil]; decide +kernel) | exact rfl)) ?_; conv => whnf) | (refine And.intro rfl ?_; conv => whnf) | (refine And.intro (fun _ => ?_) (fun h => Bool.noConfusion h); conv => whnf) | (refine And.intro (fun h => Bool.noConfusion h) (fun _ => ?_); conv => whnf)))) | (refine ⟨_, _, hvf, ?_⟩; ((conv => whnf); repeat (first | (refine And.intro (DrawOk.mk (by first | (simp only [List.map_cons, List.map_nil, List.nil_append, List.cons_append, List.append_nil, updsL, List.length_cons, List.length_nil]; decide +kernel) | exact rfl)) ?_; conv => whnf) | (refine And.intro rfl ?_; conv => whnf) | (refine And.intro (fun _ => ?_) (fun h => Bool.noConfusion h); conv => whnf) | (refine And.intro (fun h => Bool.noConfusion h) (fun _ => ?_); conv => whnf)))) | fail)
    all_goals first
      | (refine Exists.intro [] (And.intro List.nodup_nil ?_); ((conv => whnf); repeat (first | (refine And.intro (DrawOk.mk (by first | (simp only [List.map_cons, List.map_nil, List.nil_append, List.cons_append, List.append_nil, updsL, List.length_cons, List.length_nil]; decide +kernel) | exact rfl)) ?_; conv => whnf) | (refine And.intro rfl ?_; conv => whnf) | (refine And.intro (fun _ => ?_) (fun h => Bool.noConfusion h); conv => whnf) | (refine And.intro (fun h => Bool.noConfusion h) (fun _ => ?_); conv => whnf)))
         rfl)
      | (exfalso; exact hvn ⟨hv, by omega⟩)
  obtain ⟨hv, hn0⟩ := hvn
  refine ⟨⟨Try.f47, Try.func47, rfl, rfl⟩, fun w ok argv hok hsz hrep => ?_⟩
  have hs2 : argv.size = 2 := hsz
  obtain ⟨v0, v1, rfl⟩ : ∃ v0 v1, argv = #[v0, v1] := ⟨argv[0], argv[1], by
    ext i h1 h2
    · exact hs2
    · match i with
      | 0 => rfl
      | 1 => rfl
      | i + 2 => omega⟩
  have e1 : v1 = .int .i64 n := RepI_sc (hrep 1 v1 _ rfl rfl)
  subst e1
  obtain ⟨pv, zv, rfl, r1, r2, _⟩ := ep_open (hrep 0 v0 _ rfl rfl)
  cases hany : z.any (znB n) with
  | true =>
    have e : eret g p z n = (z, false) := by unfold eret; rw [if_neg (fun h => by rw [hany] at h; exact absurd h.2.2 (by decide))]
    rw [e]
    refine (callsIn_wide.1 (retire_found 3 (by omega) g p z hpl hz hv n hn0 hany w ok hok pv zv r1 r2)).mono ?_
    rintro e W' ⟨pv', zv', ok', rfl, hB, k1, k2, s1, s2⟩
    exact ⟨_, ok', fun _ _ => undef, rfl, hB, k1, k2, ep_tup s1 s2, fun b B hb => by simp at hb, fun b b' B B' hb => by simp at hb⟩
  | false =>
    have e : eret g p z n = (z ++ [(n, g)], true) := by unfold eret; rw [if_pos ⟨hv, hn0, hany⟩]
    rw [e]
    refine (callsIn_wide.1 (retire_new 3 (by omega) g p z hpl hz hv n hn0 hany w ok hok pv zv r1 r2)).mono ?_
    rintro e W' ⟨pv', zv', ok', rfl, hB, k1, k2, s1, s2⟩
    exact ⟨_, ok', fun _ _ => undef, rfl, hB, k1, k2, ep_tup s1 s2, fun b B hb => by simp at hb, fun b b' B B' hb => by simp at hb⟩
theorem efgtF (g : Int) (p : List Int) (z : List (Int × Int)) (hpl : p.length ≤ 1000000) (hz : z.length ≤ 1000000) (n : Int) : Fun Try.prog 50 [epA g p z, i64V n] [] (epT g (wV p) (zR (efgt g p z n).1) (efgt g p z n).2) := efgtF_of g p z hpl hz n (erdyF g p z hz)
end Go.Proofs.Ytijajfldpaadnaa.Ab
