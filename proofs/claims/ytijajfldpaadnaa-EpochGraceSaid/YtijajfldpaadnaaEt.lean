/- Epochs: Retire, by the iterator's contract. -/
import Derived.Test.YtijajfldpaadnaaEs
namespace Go.Proofs.Ytijajfldpaadnaa.Ab
set_option linter.unusedVariables false
set_option linter.unusedSimpArgs false
open Go.RowKit Go.Shelf

attribute [local go_sem] Oper.semAt_some

theorem ep_args {W : World} {ok : Nat → Prop} {g : Int} {pl zl : List (List IV)} {pv zv : Value} (hp : RepI W ok (.sl pl) pv) (hzr : RepI W ok (.sl zl) zv) :
    RepV W ok (fun _ _ => undef) (fun _ => 0) (.agg [.i (.sc (.int .i64 g)), .i (.sl pl), .i (.sl zl)]) (.agg #[.int .i64 g, pv, zv]) := by
  refine ⟨_, rfl, rfl, fun i u y hu hy => ?_⟩
  match i with
  | 0 => simp at hu hy; subst hu hy; exact ⟨RepI.sc _ rfl, rfl⟩
  | 1 => simp at hu hy; subst hu hy; exact ⟨hp, oneCell_of_RepI hp⟩
  | 2 => simp at hu hy; subst hu hy; exact ⟨hzr, oneCell_of_RepI hzr⟩
  | i + 3 => simp at hu
theorem rep_one {W : World} {ok : Nat → Prop} {x : AV} {v : Value} (h : RepV W ok (fun _ _ => undef) (fun _ => 0) x v) : ∀ (j : Nat) (u : Value) (y : AV), (#[v] : Array Value)[j]? = some u → [x][j]? = some y → RepV W ok (fun _ _ => undef) (fun _ => 0) y u := by
  intro j u y hu hy
  match j with
  | 0 => simp at hu hy; subst hu hy; exact h
  | j + 1 => simp at hu
theorem ep_open {W : World} {ok : Nat → Prop} {σ : Nat → Nat → Value} {G : Nat → Nat} {g : Int} {x y : AV1} {v : Value} (h : RepV W ok σ G (.agg [.i (.sc (.int .i64 g)), x, y]) v) : ∃ pv zv, v = .agg #[.int .i64 g, pv, zv] ∧ Rep1 W ok σ G x pv ∧ Rep1 W ok σ G y zv ∧ pv.oneCell' = true ∧ zv.oneCell' = true := by
  obtain ⟨arr, rfl, hasz, hcells⟩ := h
  have ha3 : arr.size = 3 := hasz
  have c0 := (hcells 0 _ _ (Array.getElem?_eq_getElem (by omega)) rfl).1
  have c1 := hcells 1 _ _ (Array.getElem?_eq_getElem (by omega)) rfl
  have c2 := hcells 2 _ _ (Array.getElem?_eq_getElem (by omega)) rfl
  have e0 : arr[0] = .int .i64 g := RepI_sc c0
  refine ⟨arr[1], arr[2], ?_, c1.1, c2.1, c1.2, c2.2⟩
  congr 1
  ext i h1 h2
  · exact ha3
  · match i with
    | 0 => exact e0
    | 1 => rfl
    | 2 => rfl
    | i + 3 => simp at h2; omega
section
variable (n : Nat) (g : Int) (p : List Int) (z : List (Int × Int)) (hpl : p.length ≤ 1000000) (hz : z.length ≤ 1000000) (w : World) (ok : Nat → Prop) (hok : ∀ k, ok k → k < w.heap.size) (pv zv : Value) (hp : RepI w ok (.sl (wV p)) pv) (hzr : RepI w ok (.sl (zR z)) zv) (W : World) (hW : Below w.heap.size w W)
include hpl hz hok hp hzr hW
theorem clone_in : CallsIn Fence.wide n Try.prog 95 #[.agg #[.int .i64 g, pv, zv]] W fun e W' => ∃ pv' zv' ok', e = .returned (.agg #[.int .i64 g, pv', zv']) ∧ Below W.heap.size W W' ∧ (∀ k, ok k → ok' k) ∧ (∀ k, ok' k → ok k ∨ (W.heap.size ≤ k ∧ k < W'.heap.size)) ∧
    RepI W' ok' (.sl (wV p)) pv' ∧ RepI W' ok' (.sl (zR z)) zv' := by
  have hb : ∀ k, ok k → W.heap[k]? = w.heap[k]? := fun k hk => hW.block k (hok k hk)
  refine (callsIn_wide.2 ((eclF g p z hpl hz).2 W ok #[.agg #[.int .i64 g, pv, zv]] (fun k hk => Nat.lt_of_lt_of_le (hok k hk) hW.size) rfl (rep_one (ep_args (RepI.mono (fun _ h => h) hb hp) (RepI.mono (fun _ h => h) hb hzr))))).mono ?_
  rintro e W' ⟨v, ok', σ, rfl, hB, h1, h2, hr, _⟩
  obtain ⟨pv', zv', rfl, r1, r2, _⟩ := ep_open hr
  exact ⟨pv', zv', ok', rfl, hB, h1, h2, r1, r2⟩
theorem clone_in2 : CallsIn Fence.wide n Try.prog 95 #[.agg #[.int .i64 g, pv, zv]] W fun e W' => ∃ pv' zv' ok', e = .returned (.agg #[.int .i64 g, pv', zv']) ∧ Below W.heap.size W W' ∧ (∀ k, ok k → ok' k) ∧ (∀ k, ok' k → ok k ∨ (W.heap.size ≤ k ∧ k < W'.heap.size)) ∧
    RepI W' ok' (.sl (wV p)) pv' ∧ pv'.oneCell' = true ∧ zv'.oneCell' = true ∧ RepB W.heap.size W' ok' (fun _ _ => zv') (fun _ => 0) 0 (.row 0 104 2 (zR z)) := by
  have hb : ∀ k, ok k → W.heap[k]? = w.heap[k]? := fun k hk => hW.block k (hok k hk)
  refine (callsIn_wide.2 ((eclZ g p z hpl hz).2 W ok #[.agg #[.int .i64 g, pv, zv]] (fun k hk => Nat.lt_of_lt_of_le (hok k hk) hW.size) rfl (rep_one (ep_args (RepI.mono (fun _ h => h) hb hp) (RepI.mono (fun _ h => h) hb hzr))))).mono ?_
  rintro e W' ⟨v, ok', σ, rfl, hB, h1, h2, hr, hbs, _⟩
  obtain ⟨pv', zv', rfl, r1, ⟨_, r2, _⟩, r3, r4⟩ := ep_open hr
  refine ⟨pv', zv', ok', rfl, hB, h1, h2, r1, r3, r4, ?_⟩
  have := (hbs 0 _ rfl).2
  obtain ⟨xs, q1, q2, q3, q4⟩ := this
  rw [← r2] at q1 q3
  exact ⟨xs, q1, q2, q3, q4⟩
end
/-- The boxes of Retire. -/
structure RW (w W : World) (g zone : Int) (pv zv r0 r1 r2 : Value) (rb : Bool) : Prop where
  a0 : W.cell? ⟨w.heap.size, 0, none⟩ = some (.int .i64 g)
  a1 : W.cell? ⟨w.heap.size, 1, none⟩ = some pv
  a2 : W.cell? ⟨w.heap.size, 2, none⟩ = some zv
  b : W.cell? ⟨w.heap.size + 1, 0, none⟩ = some (.int .i64 zone)
  c0 : W.cell? ⟨w.heap.size + 1 + 1, 0, none⟩ = some r0
  c1 : W.cell? ⟨w.heap.size + 1 + 1, 1, none⟩ = some r1
  c2 : W.cell? ⟨w.heap.size + 1 + 1, 2, none⟩ = some r2
  f0 : W.frozen? ⟨w.heap.size + 1 + 1, 0, none⟩ = false
  f1 : W.frozen? ⟨w.heap.size + 1 + 1, 1, none⟩ = false
  f2 : W.frozen? ⟨w.heap.size + 1 + 1, 2, none⟩ = false
  d : W.cell? ⟨w.heap.size + 1 + 1 + 1, 0, none⟩ = some (.bool rb)
  fd : W.frozen? ⟨w.heap.size + 1 + 1 + 1, 0, none⟩ = false
theorem RW.kept {w W W' : World} {g zone : Int} {pv zv r0 r1 r2 : Value} {rb : Bool} (h : RW w W g zone pv zv r0 r1 r2 rb) {row : Option Nat} (hg : W.grownBy W' row) (hr : ∀ r, row = some r → ∃ o : Obj, W.heap[r]? = some o ∧ o.isCells = false) : RW w W' g zone pv zv r0 r1 r2 rb :=
  ⟨cell_kept h.a0 hg hr, cell_kept h.a1 hg hr, cell_kept h.a2 hg hr, cell_kept h.b hg hr, cell_kept h.c0 hg hr, cell_kept h.c1 hg hr, cell_kept h.c2 hg hr, (frozen_kept h.c0 hg hr).trans h.f0, (frozen_kept h.c1 hg hr).trans h.f1, (frozen_kept h.c2 hg hr).trans h.f2, cell_kept h.d hg hr, (frozen_kept h.d hg hr).trans h.fd⟩
theorem RW.alloc {w W : World} {g zone : Int} {pv zv r0 r1 r2 : Value} {rb : Bool} (h : RW w W g zone pv zv r0 r1 r2 rb) (o : Obj) : RW w (W.alloc o) g zone pv zv r0 r1 r2 rb := h.kept (World.grownBy_alloc W o none) (fun r e => by cases e)
theorem RW.below {w W W' : World} {g zone : Int} {pv zv r0 r1 r2 : Value} {rb : Bool} (h : RW w W g zone pv zv r0 r1 r2 rb) {n₀ : Nat} (hn : w.heap.size + 1 + 1 + 1 < n₀) (hB : Below n₀ W W') : RW w W' g zone pv zv r0 r1 r2 rb :=
  ⟨(hB.cell (by dsimp only; omega)).trans h.a0, (hB.cell (by dsimp only; omega)).trans h.a1, (hB.cell (by dsimp only; omega)).trans h.a2, (hB.cell (by dsimp only; omega)).trans h.b, (hB.cell (by dsimp only; omega)).trans h.c0, (hB.cell (by dsimp only; omega)).trans h.c1, (hB.cell (by dsimp only; omega)).trans h.c2,
    (hB.frozen (by dsimp only; omega)).trans h.f0, (hB.frozen (by dsimp only; omega)).trans h.f1, (hB.frozen (by dsimp only; omega)).trans h.f2, (hB.cell (by dsimp only; omega)).trans h.d, (hB.frozen (by dsimp only; omega)).trans h.fd⟩
theorem RW.new (w : World) (g zone : Int) (pv zv : Value) : RW w ((((w.alloc (.cells #[.int .i64 g, pv, zv] 39)).alloc (.cells #[.int .i64 zone] 3)).alloc (.cells #[.int .i64 0, .slice none 0 0, .slice none 0 0] 39)).alloc (.cells #[.bool false] 4)) g zone pv zv (.int .i64 0) (.slice none 0 0) (.slice none 0 0) false := by
  have e1 := World.alloc_heap_new w (.cells #[.int .i64 g, pv, zv] 39)
  have e2 := World.alloc_heap_new (w.alloc (.cells #[.int .i64 g, pv, zv] 39)) (.cells #[.int .i64 zone] 3)
  have e3 := World.alloc_heap_new ((w.alloc (.cells #[.int .i64 g, pv, zv] 39)).alloc (.cells #[.int .i64 zone] 3)) (.cells #[.int .i64 0, .slice none 0 0, .slice none 0 0] 39)
  have e4 := World.alloc_heap_new (((w.alloc (.cells #[.int .i64 g, pv, zv] 39)).alloc (.cells #[.int .i64 zone] 3)).alloc (.cells #[.int .i64 0, .slice none 0 0, .slice none 0 0] 39)) (.cells #[.bool false] 4)
  simp only [World.size_alloc] at e2 e3 e4
  have k : ∀ (W : World) (o : Obj) (b : Nat) (x : Obj), W.heap[b]? = some x → (W.alloc o).heap[b]? = some x := fun W o b x h => (Below.heap_alloc W o b (Array.getElem?_eq_some_iff.1 h).1).trans h
  replace e1 := k _ (.cells #[.bool false] 4) _ _ (k _ (.cells #[.int .i64 0, .slice none 0 0, .slice none 0 0] 39) _ _ (k _ (.cells #[.int .i64 zone] 3) _ _ e1))
  replace e2 := k _ (.cells #[.bool false] 4) _ _ (k _ (.cells #[.int .i64 0, .slice none 0 0, .slice none 0 0] 39) _ _ e2)
  replace e3 := k _ (.cells #[.bool false] 4) _ _ e3
  constructor <;> (first | unfold World.cell? | unfold World.frozen?) <;> dsimp only <;> (first | rw [e1] | rw [e2] | rw [e3] | rw [e4]) <;> rfl
theorem RW.store {w W : World} {g zone : Int} {pv zv r0 r1 r2 : Value} {rb : Bool} (h : RW w W g zone pv zv r0 r1 r2 rb) (x0 x1 x2 : Value) (y : Bool) :
    RW w ((((W.setCell ⟨w.heap.size + 1 + 1, 0, none⟩ x0).setCell ⟨w.heap.size + 1 + 1, 1, none⟩ x1).setCell ⟨w.heap.size + 1 + 1, 2, none⟩ x2).setCell ⟨w.heap.size + 1 + 1 + 1, 0, none⟩ (.bool y)) g zone pv zv x0 x1 x2 y := by
  have o : ∀ (W : World) (a b : Addr) (v u : Value), a ≠ b → W.cell? b = some u → (W.setCell a v).cell? b = some u := fun W a b v u hne hc => (World.cell?_setCell_other _ _ _ _ hne).trans hc
  have t : ∀ (W : World) (a : Addr) (v u : Value), W.cell? a = some u → (W.setCell a v).cell? a = some v := fun W a v u hc => World.cell?_setCell_same' _ _ _ (by rw [hc]; rfl)
  refine ⟨o _ _ _ _ _ (by first | (simp; done) | (simp; omega)) (o _ _ _ _ _ (by first | (simp; done) | (simp; omega)) (o _ _ _ _ _ (by first | (simp; done) | (simp; omega)) (o _ _ _ _ _ (by first | (simp; done) | (simp; omega)) h.a0))), o _ _ _ _ _ (by first | (simp; done) | (simp; omega)) (o _ _ _ _ _ (by first | (simp; done) | (simp; omega)) (o _ _ _ _ _ (by first | (simp; done) | (simp; omega)) (o _ _ _ _ _ (by first | (simp; done) | (simp; omega)) h.a1))),
    o _ _ _ _ _ (by first | (simp; done) | (simp; omega)) (o _ _ _ _ _ (by first | (simp; done) | (simp; omega)) (o _ _ _ _ _ (by first | (simp; done) | (simp; omega)) (o _ _ _ _ _ (by first | (simp; done) | (simp; omega)) h.a2))), o _ _ _ _ _ (by first | (simp; done) | (simp; omega)) (o _ _ _ _ _ (by first | (simp; done) | (simp; omega)) (o _ _ _ _ _ (by first | (simp; done) | (simp; omega)) (o _ _ _ _ _ (by first | (simp; done) | (simp; omega)) h.b))),
    o _ _ _ _ _ (by first | (simp; done) | (simp; omega)) (o _ _ _ _ _ (by first | (simp; done) | (simp; omega)) (o _ _ _ _ _ (by first | (simp; done) | (simp; omega)) (t _ _ _ _ h.c0))), o _ _ _ _ _ (by first | (simp; done) | (simp; omega)) (o _ _ _ _ _ (by first | (simp; done) | (simp; omega)) (t _ _ _ _ (o _ _ _ _ _ (by first | (simp; done) | (simp; omega)) h.c1))),
    o _ _ _ _ _ (by first | (simp; done) | (simp; omega)) (t _ _ _ _ (o _ _ _ _ _ (by first | (simp; done) | (simp; omega)) (o _ _ _ _ _ (by first | (simp; done) | (simp; omega)) h.c2))), ?_, ?_, ?_, t _ _ _ _ (o _ _ _ _ _ (by first | (simp; done) | (simp; omega)) (o _ _ _ _ _ (by first | (simp; done) | (simp; omega)) (o _ _ _ _ _ (by first | (simp; done) | (simp; omega)) h.d))), ?_⟩
  · simp only [World.frozen?_setCell]; exact h.f0
  · simp only [World.frozen?_setCell]; exact h.f1
  · simp only [World.frozen?_setCell]; exact h.f2
  · simp only [World.frozen?_setCell]; exact h.fd
theorem sl_slice {w : World} {ok : Nat → Prop} {es : List (List IV)} {v : Value} (h : RepI w ok (.sl es) v) : ∃ A n c, v = .slice A n c := by
  generalize hx : IV.sl es = X at h
  cases h with
  | sc v h => cases hx
  | nil A c hm => exact ⟨_, _, _, rfl⟩
  | sl es sz ad c f hok hc hm hlen hcell hr => exact ⟨_, _, _, rfl⟩
theorem zGo_le {g : Int} : ∀ {r pre : List (Int × Int)}, zGo g pre r = true → ∀ x ∈ r, 0 ≤ x.1 ∧ 0 ≤ x.2 ∧ x.2 ≤ g
  | [], _, _, x, hx => by cases hx
  | y :: r, pre, h, x, hx => by
    rw [zGo, Bool.and_eq_true] at h
    rcases List.mem_cons.1 hx with rfl | hx
    · have := h.1
      unfold zOk at this
      rw [Bool.and_eq_true, decide_eq_true_eq] at this
      exact this.1
    · exact zGo_le h.2 x hx
theorem evalid_z {g : Int} {p : List Int} {z : List (Int × Int)} (h : evalid g p z = true) : zGo g [] z = true := by
  rw [evalid_yes (evalid_g h), Bool.and_eq_true] at h
  exact h.2
theorem comes_eq {g : Int} {p : List Int} {z : List (Int × Int)} (h : evalid g p z = true) : comes g z z.length = z.map (·.1) := by
  unfold comes
  rw [List.take_length, List.filter_eq_self.2]
  intro x hx
  exact decide_eq_true (zGo_le (evalid_z h) x hx).2.2
theorem any_mem {z : List (Int × Int)} {n : Int} : z.any (znB n) = true ↔ n ∈ z.map (·.1) := by
  simp [znB, List.any_eq_true]
theorem comes_all {g : Int} {p : List Int} {z : List (Int × Int)} {n : Int} (h : evalid g p z = true) (ha : z.any (znB n) = true) : n ∈ comes g z z.length := by
  rw [comes_eq h]
  exact any_mem.1 ha
theorem ok2_lt {ok ok2 : Nat → Prop} {w W3 W4 : World} (hok : ∀ k, ok k → k < w.heap.size) (hB3 : Below w.heap.size w W3) (hk2 : ∀ k, ok2 k → ok k ∨ W3.heap.size ≤ k ∧ k < W4.heap.size) (hB4 : Below W3.heap.size W3 W4) (k : Nat) (hk : ok2 k) : k < W4.heap.size := by
  rcases hk2 k hk with h | h
  · have := hok k h
    have := hB3.size
    have := hB4.size
    omega
  · exact h.2
set_option maxRecDepth 100000 in
set_option maxHeartbeats 4000000 in
theorem retire_found (n : Nat) (hn : 3 ≤ n) (g : Int) (p : List Int) (z : List (Int × Int)) (hpl : p.length ≤ 1000000) (hz : z.length ≤ 1000000) (hv : evalid g p z = true) (zone : Int) (hzn : 0 ≤ zone) (hany : z.any (znB zone) = true) (w : World) (ok : Nat → Prop) (hok : ∀ k, ok k → k < w.heap.size) (pv zv : Value) (hp : RepI w ok (.sl (wV p)) pv) (hzr : RepI w ok (.sl (zR z)) zv) :
    CallsIn Fence.wide n Try.prog 47 #[.agg #[.int .i64 g, pv, zv], .int .i64 zone] w fun e W' => ∃ pv' zv' ok', e = .returned (.tuple #[.agg #[.int .i64 g, pv', zv'], .bool false]) ∧ Below w.heap.size w W' ∧ (∀ k, ok k → ok' k) ∧ (∀ k, ok' k → ok k ∨ (w.heap.size ≤ k ∧ k < W'.heap.size)) ∧
      RepI W' ok' (.sl (wV p)) pv' ∧ RepI W' ok' (.sl (zR z)) zv' := by
  have h1 : 1 ≤ n := by omega
  have hval := valid_in (n - 1) g p z hz hv w ok hok pv zv hp hzr
  have hcln := clone_in (n - 1) g p z hpl hz w ok hok pv zv hp hzr
  refine callsIn_of_wp_marks Try.func47 rfl trivial ?_ rfl
  simp only [Try.ntmps47, List.size_toArray, List.length_cons, List.length_nil, Nat.reduceAdd, Nat.reduceSub, Array.replicate_succ, Array.replicate_zero, List.push_toArray, List.append_toArray, List.nil_append, List.cons_append]
  have hRW3 := RW.new w g zone pv zv
  obtain ⟨W3, hW3⟩ : ∃ W3, (((w.alloc (.cells #[.int .i64 g, pv, zv] 39)).alloc (.cells #[.int .i64 zone] 3)).alloc (.cells #[.int .i64 0, .slice none 0 0, .slice none 0 0] 39)).alloc (.cells #[.bool false] 4) = W3 := ⟨_, rfl⟩
  rw [hW3] at hRW3
  have hB3 : Below w.heap.size w W3 := by rw [← hW3]; exact ((((Below.refl _ w).alloc (Nat.le_refl _) _).alloc (by simp) _).alloc (by simp; omega) _).alloc (by simp; omega) _
  have hs3 : W3.heap.size = w.heap.size + 1 + 1 + 1 + 1 := by rw [← hW3]; simp
  have a0 := hRW3.a0
  have a1 := hRW3.a1
  have a2 := hRW3.a2
  have hz0 : ¬ zone < 0 := by omega
  gi_wp2_with (first
    | (refine ⟨trivial, ?_⟩; gi_at_call 95; refine (hcln W3 hB3).mono ?_; rintro e W4 ⟨pv2, zv2, ok2, rfl, hB4, hk1, hk2, hp2, hz2⟩; obtain ⟨pA, pn, pc, rfl⟩ := sl_slice hp2; obtain ⟨zA, zn, zc, rfl⟩ := sl_slice hz2; obtain ⟨W5, hW5⟩ : ∃ W5, W4.alloc (.cells #[.int .i64 g, .slice pA pn pc, .slice zA zn zc] 39) = W5 := ⟨_, rfl⟩; have hRW5 : RW w W5 g zone pv zv (.int .i64 0) (.slice none 0 0) (.slice none 0 0) false := (by rw [← hW5]; exact (hRW3.below (by omega) hB4).alloc _); have hB5s : W5.heap.size = W4.heap.size + 1 := (by rw [← hW5]; simp); have hB4s := hB4.size; have b0 := hRW5.a0; have b1 := hRW5.a1; have b2 := hRW5.a2; have hB5 : Below w.heap.size w W5 := (by rw [← hW5]; exact (hB3.trans (hB4.mono (by omega))).alloc (Nat.le_trans hB3.size hB4.size) _))
    | (refine ⟨trivial, ?_⟩; gi_at_call 51; refine (hval W5 hB5).mono ?_; rintro e W6 ⟨rfl, hB6⟩; have hRW6 := hRW5.below (by omega) hB6; have d0 := hRW6.a0; have d1 := hRW6.a1; have d2 := hRW6.a2; have d3 := hRW6.b)
    | (refine ⟨trivial, ?_⟩; gi_at_call 97; refine (retired_in (n - 1) g pv zv g _).mono ?_; rintro e w' ⟨rfl, rfl⟩))
  rw [decide_eq_false (show ¬ zone < 0 by omega)]
  have hs6 : W4.heap.size + 1 ≤ W6.heap.size := by rw [← hB5s]; exact hB6.size
  have hB6' : Below w.heap.size w W6 := hB5.trans (hB6.mono hB5.size)
  have e5 := cell_new3_l W4 (.int .i64 g) (.slice pA pn pc) (.slice zA zn zc) 39
  rw [hW5] at e5
  have e60 := (hB6.cell (p := ⟨W4.heap.size, 0, none⟩) (by dsimp only; omega)).trans e5.1
  have e61 := (hB6.cell (p := ⟨W4.heap.size, 1, none⟩) (by dsimp only; omega)).trans e5.2.1
  have e62 := (hB6.cell (p := ⟨W4.heap.size, 2, none⟩) (by dsimp only; omega)).trans e5.2.2
  have hRW7 := (hRW6.alloc (.cells #[.int .i64 g, pv, zv] 39)).alloc (.cells #[.int .i64 g] 3)
  have e70 := cell_alloc_l (.cells #[.int .i64 g] 3) (cell_alloc_l (.cells #[.int .i64 g, pv, zv] 39) e60)
  have e71 := cell_alloc_l (.cells #[.int .i64 g] 3) (cell_alloc_l (.cells #[.int .i64 g, pv, zv] 39) e61)
  have e72 := cell_alloc_l (.cells #[.int .i64 g] 3) (cell_alloc_l (.cells #[.int .i64 g, pv, zv] 39) e62)
  have j0 := cell_new3_l W6 (.int .i64 g) pv zv 39
  have j3 := cell_new_l (W6.alloc (.cells #[.int .i64 g, pv, zv] 39)) (.int .i64 g) 3
  rw [World.size_alloc] at j3
  have j00 := cell_alloc_l (.cells #[.int .i64 g] 3) j0.1
  have j01 := cell_alloc_l (.cells #[.int .i64 g] 3) j0.2.1
  have j02 := cell_alloc_l (.cells #[.int .i64 g] 3) j0.2.2
  have hB7 : Below w.heap.size w ((W6.alloc (.cells #[.int .i64 g, pv, zv] 39)).alloc (.cells #[.int .i64 g] 3)) := (hB6'.alloc hB6'.size _).alloc (by have := hB6'.size; simp; omega) _
  have hB47 : Below W4.heap.size W4 ((W6.alloc (.cells #[.int .i64 g, pv, zv] 39)).alloc (.cells #[.int .i64 g] 3)) := ((((by rw [← hW5]; exact (Below.refl _ W4).alloc (Nat.le_refl _) _ : Below W4.heap.size W4 W5).trans (hB6.mono (by omega))).alloc (by omega) _).alloc (by simp; omega) _)
  obtain ⟨W7, hW7⟩ : ∃ W7, (W6.alloc (.cells #[.int .i64 g, pv, zv] 39)).alloc (.cells #[.int .i64 g] 3) = W7 := ⟨_, rfl⟩
  have hs7 : W7.heap.size = W6.heap.size + 1 + 1 := by rw [← hW7]; simp
  rw [hW7] at hRW7 e70 e71 e72 j3 j00 j01 j02 hB7 hB47
  rw [hW7]
  have hws : w.heap.size + 1 + 1 + 1 + 1 ≤ W4.heap.size := by omega
  have hst := retired_stops (n - 1) (by omega) W6.heap.size (W6.heap.size + 1) g g pv zv z hz ok W7 (fun k hk => by have := hok k hk; omega) (by omega) (by omega) (RepI.mono (fun _ h => h) (fun k hk => hB7.block k (hok k hk)) hzr) j00 j01 j02 j3.1
  refine wpIn_rangeFunc_ownF rfl h1 (gf := 126) (lb := #[.pointer (some ⟨W6.heap.size, 0, none⟩), .pointer (some ⟨W6.heap.size + 1, 0, none⟩)]) rfl trivial (enters_of Try.func126 (by kernel_rfl) rfl)
    hst belowK_t (belowK_b (Nat.le_refl _)) (Below.refl _ _) (fun _ => rfl)
    (fun pre W => ((zone ∉ pre) ∧ RW w W g zone pv zv (.int .i64 0) (.slice none 0 0) (.slice none 0 0) false ∧ W.cell? ⟨W4.heap.size, 0, none⟩ = some (.int .i64 g) ∧ W.cell? ⟨W4.heap.size, 1, none⟩ = some (.slice pA pn pc) ∧ W.cell? ⟨W4.heap.size, 2, none⟩ = some (.slice zA zn zc)) ∧ Below W7.heap.size W7 W)
    (fun c pre W => (c = .ret ∧ zone ∈ pre ∧ RW w W g zone pv zv (.int .i64 g) (.slice pA pn pc) (.slice zA zn zc) false) ∧ (Below w.heap.size w W ∧ W4.heap.size ≤ W.heap.size ∧ ∀ k, ok2 k → W.heap[k]? = W4.heap[k]?))
    (OwnFrom.and (Own.from (fun s A B row hs hg hr => ⟨hs.1, hs.2.1.kept hg hr, cell_kept hs.2.2.1 hg hr, cell_kept hs.2.2.2.1 hg hr, cell_kept hs.2.2.2.2 hg hr⟩) _) (ownFrom_below (Nat.le_refl _) (Nat.le_refl _)))
    (fun c => OwnFrom.and (Own.from (fun s A B row hs hg hr => ⟨hs.1, hs.2.1, hs.2.2.kept hg hr⟩) _) (fun s A B row hs hg hr => ⟨hs.1.grown hg hs.1.size (fun k e => Nat.le_trans hB7.size (hr k e).1), Nat.le_trans hs.2.1 hg.size, fun k hk => by
      rw [hg.block k (Nat.lt_of_lt_of_le (ok2_lt hok hB3 hk2 hB4 k hk) hs.2.1) (fun e => by have := (hr k e.symm).1; have := ok2_lt hok hB3 hk2 hB4 k hk; omega)]
      exact hs.2.2 k hk⟩))
    ⟨⟨by simp, hRW7, e70, e71, e72⟩, Below.refl _ _⟩
    (fun x => { tmps := #[.agg #[.int .i64 g, pv, zv], .int .i64 zone, .pointer (some ⟨w.heap.size, 0, none⟩), .pointer (some ⟨w.heap.size + 1, 0, none⟩), .pointer (some ⟨w.heap.size + 1 + 1, 0, none⟩), .pointer (some ⟨w.heap.size + 1 + 1 + 1, 0, none⟩), .pointer (some ⟨W4.heap.size, 0, none⟩), .int .i64 x, .agg #[.int .i64 g, pv, zv], .agg #[.int .i64 g, .slice pA pn pc, .slice zA zn zc], .agg #[.int .i64 g, pv, zv], .bool true, .bool false, .bool false, .int .i64 zone, .bool false, .bool false, undef, .agg #[.int .i64 g, pv, zv], .pointer (some ⟨w.heap.size, 0, none⟩), .int .i64 g, .func (.func 126) #[] #[.pointer (some ⟨W6.heap.size, 0, none⟩), .pointer (some ⟨W6.heap.size + 1, 0, none⟩)], .int .i64 x, undef, undef, undef, undef, undef, undef, undef, undef, undef, undef, undef, undef, undef, undef], defers := [] }) ?assign ?body ?done ?stop
  case assign =>
    intro l x W K hK
    gi_wp2
    exact hK
  case body =>
    rintro l pre x W ⟨⟨hne, hR, q0, q1, q2⟩, hB⟩ _
    have r1 := hR.b
    have r2 := hR.c0
    have r3 := hR.c1
    have r4 := hR.c2
    have r5 := hR.f0
    have r6 := hR.f1
    have r7 := hR.f2
    have r8 := hR.d
    have r9 := hR.fd
    gi_wp2
    · rename_i hx
      obtain rfl : x = zone := eq_of_beq hx
      have hb0 : Below w.heap.size w W := hB7.trans (hB.mono hB7.size)
      refine ⟨(((KeepsOthers.setCell _ _ _).trans (KeepsOthers.setCell _ _ _)).trans (KeepsOthers.setCell _ _ _)).trans (KeepsOthers.setCell _ _ _), ⟨rfl, by simp, hR.store _ _ _ _⟩,
        (((hb0.setCell (p := ⟨w.heap.size + 1 + 1, 0, none⟩) (by dsimp only; omega) _).setCell (p := ⟨w.heap.size + 1 + 1, 1, none⟩) (by dsimp only; omega) _).setCell (p := ⟨w.heap.size + 1 + 1, 2, none⟩) (by dsimp only; omega) _).setCell (p := ⟨w.heap.size + 1 + 1 + 1, 0, none⟩) (by dsimp only; omega) _, ?_, fun k hk => ?_⟩
      · have := hB47.size
        have := hB.size
        simp
        omega
      · have hk4 := ok2_lt hok hB3 hk2 hB4 k hk
        have hne2 : k ≠ w.heap.size + 1 + 1 ∧ k ≠ w.heap.size + 1 + 1 + 1 := by
          rcases hk2 k hk with h | h
          · have := hok k h; omega
          · omega
        rw [Below.heap_setCell _ _ _ k hne2.2, Below.heap_setCell _ _ _ k hne2.1, Below.heap_setCell _ _ _ k hne2.1, Below.heap_setCell _ _ _ k hne2.1, hB.block k (Nat.lt_of_lt_of_le hk4 hB47.size)]
        exact hB47.block k hk4
    · rename_i hx
      have hx' : ¬ zone = x := fun e => by subst e; simp at hx
      exact ⟨KeepsOthers.refl _, Below.refl _ _, ⟨by simp [hne, hx'], hR, q0, q1, q2⟩, hB⟩
  case done =>
    rintro D ys W hD rfl ⟨⟨hne, hR, q0, q1, q2⟩, hB⟩ hK
    exact absurd (comes_all hv hany) hne
  case stop =>
    rintro D c pre W hD hpre ⟨⟨rfl, hin, hR⟩, hB, hsz, hk⟩ hK
    gi_wp2
    have hD' : w.heap.size ≤ D := Nat.le_trans hB7.size hD
    refine ⟨by simp, .inl ⟨_, _, rfl, run_takeDeferred hK, ?_⟩⟩
    have hRD := hR.kept (grownBy_putObj' W D (.deferred none)) (fun r e => by cases e; exact ⟨_, hK, rfl⟩)
    have hBD : Below w.heap.size w (W.putObj D (.deferred none)) := hB.trans (belowK_b (w := w) (Nat.le_refl _) W D _ _ hD' hK rfl rfl)
    have hkD : ∀ k, ok2 k → (W.putObj D (.deferred none)).heap[k]? = W4.heap[k]? := fun k hk4 => by
      rw [World.putObj_heap_other (by have := ok2_lt hok hB3 hk2 hB4 k hk4; have := hB47.size; omega)]
      exact hk k hk4
    have q1 := hRD.c0
    have q2 := hRD.c1
    have q3 := hRD.c2
    have q4 := hRD.d
    refine ⟨.tuple #[.agg #[.int .i64 g, .slice pA pn pc, .slice zA zn zc], .bool false], ?_, .slice pA pn pc, .slice zA zn zc, ok2, rfl, hBD, hk1, fun k hk' => ?_, RepI.mono (fun _ h => h) hkD hp2, RepI.mono (fun _ h => h) hkD hz2⟩
    · simp [results, Try.f47, go_sem, q1, q2, q3, q4]
    · rcases hk2 k hk' with h | h
      · exact Or.inl h
      · exact Or.inr ⟨by omega, Nat.lt_of_lt_of_le h.2 (by simp; omega)⟩
end Go.Proofs.Ytijajfldpaadnaa.Ab
