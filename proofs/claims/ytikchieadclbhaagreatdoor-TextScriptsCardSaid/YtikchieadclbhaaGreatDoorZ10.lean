/- Rows made, structs and slices built out of parts: the model's operations follow the abstract ones. No condition. -/
import Derived.Test.YtikchieadclbhaaGreatDoorZ09
namespace Go.Proofs.YtikchieadclbhaaGreatDoor.Ab
set_option linter.unusedVariables false
set_option linter.unusedSimpArgs false
open Go.RowKit

theorem foldl_set (l : List Value) : ∀ (k off : Nat) (cells : Array Value) (j : Nat),
    ((l.zipIdx k).foldl (fun cs (p : Value × Nat) => cs.setIfInBounds (off + p.2) p.1) cells).size = cells.size ∧
    ((l.zipIdx k).foldl (fun cs (p : Value × Nat) => cs.setIfInBounds (off + p.2) p.1) cells)[j]? = if off + k ≤ j ∧ j < off + k + l.length ∧ j < cells.size then l[j - (off + k)]? else cells[j]? := by
  induction l with
  | nil => intro k off cells j; simp; intro h1 h2; omega
  | cons x l ih =>
    intro k off cells j
    simp only [List.zipIdx_cons, List.foldl_cons]
    obtain ⟨h1, h2⟩ := ih (k + 1) off (cells.setIfInBounds (off + k) x) j
    refine ⟨by rw [h1]; simp, ?_⟩
    rw [h2]
    simp only [Array.size_setIfInBounds, List.length_cons]
    by_cases hj : j = off + k
    · subst hj
      rw [if_neg (by omega), Array.getElem?_setIfInBounds_self]
      by_cases hs : off + k < cells.size
      · rw [if_pos hs, if_pos ⟨Nat.le_refl _, by omega, hs⟩]; simp
      · rw [if_neg hs, if_neg (fun h => hs h.2.2), Array.getElem?_eq_none (by omega)]
    · rw [Array.getElem?_setIfInBounds_ne (fun e => hj e.symm)]
      by_cases hc : off + (k + 1) ≤ j ∧ j < off + (k + 1) + l.length ∧ j < cells.size
      · rw [if_pos hc, if_pos ⟨by omega, by omega, hc.2.2⟩, show j - (off + k) = (j - (off + (k + 1))) + 1 by omega, List.getElem?_cons_succ]
      · rw [if_neg hc, if_neg (fun h => hc ⟨by omega, by omega, h.2.2⟩)]

section
variable {P : Program} {T : Nat → TI} {W0 : Ent} {w : World} {ok : Nat → Prop} {σ : Nat → Nat → Value} {S : St} {a : Act} {o : Oper} {K : Kont}

/-- Cells that bear abstract ones. -/
def Bears (w : World) (ok : Nat → Prop) (σ : Nat → Nat → Value) (G : Nat → Nat) (arr : Array Value) (cs : List AV1) : Prop :=
  arr.size = cs.length ∧ ∀ (j : Nat) u x, arr[j]? = some u → cs[j]? = some x → Rep1 w ok σ G x u ∧ u.oneCell' = true

theorem fill_rep (hC : Conf W0 ok σ S a w) {ρ : Operand → AT} {place : Nat → Option (Nat × Nat)} (parts : List (Nat × Operand)) : (∀ p ∈ parts, RepT w ok σ S.G (ρ p.2) (a.eval p.2)) → ∀ {arr : Array Value} {cs cs' : List AV1}, Bears w ok σ S.G arr cs → fillA place ρ parts cs = some cs' →
    ∃ arr', Instr.fill place arr (parts.map fun p => (p.1, a.eval p.2)) = some arr' ∧ Bears w ok σ S.G arr' cs' := by
  induction parts with
  | nil => intro hρ arr cs cs' hb h; simp [fillA] at h; subst h; exact ⟨arr, rfl, hb⟩
  | cons p parts ih =>
    intro hρ arr cs cs' hb h
    obtain ⟨i, x⟩ := p
    simp only [fillA] at h
    split at h
    · cases h
    rename_i off size hp
    split at h
    · cases h
    rename_i ys hys
    split at h
    case h_2 => cases h
    rename_i e1 e2 e3
    have e1' := Nat.eq_of_beq_eq_true e1
    have e2' := Nat.le_of_ble_eq_true e2
    obtain ⟨k1, k2⟩ := cells_of_T (show RepT w ok σ S.G (ρ x) (a.eval x) from hρ (i, x) List.mem_cons_self) hys e3
    obtain ⟨hb1, hb2⟩ := hb
    have hl : (a.eval x).cells.toList.length = ys.length := by simpa using k1
    have hfold : ((a.eval x).cells.zipIdx.foldl (fun cs (p : Value × Nat) => cs.setIfInBounds (off + p.2) p.1) arr) = (((a.eval x).cells.toList.zipIdx 0).foldl (fun cs (p : Value × Nat) => cs.setIfInBounds (off + p.2) p.1) arr) := by
      rw [← Array.foldl_toList, Array.toList_zipIdx]
    have hstep : Bears w ok σ S.G ((a.eval x).cells.zipIdx.foldl (fun cs (p : Value × Nat) => cs.setIfInBounds (off + p.2) p.1) arr) (splice cs off ys) := by
      rw [hfold]
      refine ⟨by rw [(foldl_set _ 0 off arr 0).1, splice_length _ _ _ e2', hb1], fun j u y hu hy => ?_⟩
      rw [(foldl_set _ 0 off arr j).2, hl] at hu
      rw [splice_get _ _ _ e2'] at hy
      simp only [Nat.add_zero] at hu
      by_cases hin : off ≤ j ∧ j < off + ys.length
      · rw [if_pos hin] at hy
        rw [if_pos ⟨hin.1, hin.2, by omega⟩, Array.getElem?_toList] at hu
        exact k2 _ u y hu hy
      · rw [if_neg hin] at hy
        rw [if_neg (fun h => hin ⟨h.1, h.2.1⟩)] at hu
        exact hb2 j u y hu hy
    obtain ⟨arr', r1, r2⟩ := ih (fun p hp => hρ p (List.mem_cons_of_mem _ hp)) hstep h
    refine ⟨arr', ?_, r2⟩
    simp only [List.map_cons, Instr.fill, hp]
    rw [if_neg]
    · exact r1
    · simp only [bne_iff_ne, ne_eq, Bool.or_eq_true, decide_eq_true_eq, not_or]
      simp only [Decidable.not_not]
      exact ⟨by omega, by omega⟩

theorem run_mapM {α β : Type} (f : α → Sem β) (g : α → β) (l : List α) (h : ∀ x ∈ l, (f x).run P w = .ok (g x) w) : (l.mapM f).run P w = .ok (l.map g) w := by
  induction l with
  | nil => simp
  | cons x l ih =>
    simp only [List.mapM_cons, Sem.run_bind, h x List.mem_cons_self, Result.andThen_ok, ih (fun y hy => h y (List.mem_cons_of_mem _ hy)), Sem.run_pure, List.map_cons]

theorem done_build (hT : TabOk P T) (hC : Conf W0 ok σ S a w) {t : Nat} {parts : Array (Nat × Operand)} (ho : o.op = .build t parts) (h : effBuild T S.ev t parts K) : Done P W0 S o a w K := by
  have hd := hT.desc t
  have hparts : (parts.map fun (i, x) => (i, a.eval x)).toList = parts.toList.map fun p => (p.1, a.eval p.2) := by simp
  unfold effBuild at h
  split at h
  case h_3 => exact h.elim
  · rename_i fs hk
    have hkn : (T t).k ≠ .none := by rw [hk]; intro e; cases e
    rw [hk] at hd
    obtain ⟨F, hu, hF⟩ := hd
    split at h
    case h_2 => exact h.elim
    rename_i hall
    split at h
    case h_2 => exact h.elim
    rename_i cs' hfill
    rw [lay_eq] at h
    obtain ⟨z, z1, z2, z3, z4⟩ := run_zeroT hT hkn w
    have hplaces : (F.mapM (fun f => (do pure (f.offset, ← sizeOf f.type) : Sem (Nat × Nat)))).run P w = .ok ((F.toList.map fun f => (f.offset, (T f.type).size)).toArray) w := by
      rw [Array.mapM_eq_mapM_toList, Sem.run_map, run_mapM _ (fun f : Field => (f.offset, (T f.type).size)) F.toList (fun f hf => ?_)]
      · rfl
      · have hm : (f.offset, f.type) ∈ fs := by rw [← hF]; exact List.mem_map_of_mem hf
        have hkf : (T f.type).k ≠ .none := by
          intro e
          have := List.all_eq_true.1 hall _ hm
          simp [e] at this
        simp [run_sizeT hT hkf]
    have hpl : (fun i => ((F.toList.map fun f => (f.offset, (T f.type).size)).toArray)[i]?) = (fun i => (nthO fs i).map fun f => (f.1, (T f.2).size)) := by
      funext i
      rw [nthO_eq, ← hF]
      simp only [List.getElem?_toArray, List.getElem?_map, Option.map_map]
      rfl
    obtain ⟨arr', r1, r2⟩ := fill_rep hC parts.toList (fun p _ => ev_rep hC p.2) (zeros_rep (w := w) (ok := ok) (σ := σ) (G := S.G) z2 z4) hfill
    refine done_pure hC (r := .v (.agg cs')) (v := .agg arr') ?_ ⟨arr', rfl, r2.1, r2.2⟩ h
    simp only [execOp, ho, Instr.build, Sem.run_bind, z1, Result.andThen_ok, run_underlying hu, hplaces, Sem.run_pure]
    rw [hparts, hpl, r1]
    rfl
  · rename_i n e hk
    have hkn : (T t).k ≠ .none := by rw [hk]; intro e; cases e
    rw [hk] at hd
    have hd' : P.underlying t = some (.array n e) := hd
    have hke : (T e).k ≠ .none := fun e' => by rw [e'] at h; exact h
    split at h
    · exact h.elim
    split at h
    case h_2 => exact h.elim
    rename_i cs' hfill
    rw [lay_eq] at h
    obtain ⟨z, z1, z2, z3, z4⟩ := run_zeroT hT hkn w
    obtain ⟨arr', r1, r2⟩ := fill_rep hC parts.toList (fun p _ => ev_rep hC p.2) (zeros_rep (w := w) (ok := ok) (σ := σ) (G := S.G) z2 z4) hfill
    refine done_pure hC (r := .v (.agg cs')) (v := .agg arr') ?_ ⟨arr', rfl, r2.1, r2.2⟩ h
    simp only [execOp, ho, Instr.build, Sem.run_bind, z1, Result.andThen_ok, run_underlying hd', run_sizeT hT hke, Sem.run_pure]
    rw [hparts, r1]
    rfl

theorem rowsOf_len {sz n : Nat} {cs : List IV} : (rowsOf sz n cs).length = n := by
  induction n generalizing cs with
  | zero => rfl
  | succ n ih => simp [rowsOf, ih]
theorem rowsOf_get {sz : Nat} : ∀ {n : Nat} {cs : List IV} {k : Nat} {e : List IV}, (rowsOf sz n cs)[k]? = some e → e = (cs.drop (k * sz)).take sz := by
  intro n
  induction n with
  | zero => intro cs k e h; simp [rowsOf] at h
  | succ n ih =>
    intro cs k e h
    cases k with
    | zero => simp [rowsOf] at h; simp [h]
    | succ k =>
      simp only [rowsOf, List.getElem?_cons_succ] at h
      rw [ih h, List.drop_drop, Nat.add_mul, Nat.one_mul, Nat.add_comm]

theorem done_make (hT : TabOk P T) (hC : Conf W0 ok σ S a w) {t : Nat} {l c : Operand} (ho : o.op = .makeSlice t l c) (h : effMake T S.blk S.h.length o.dst t (S.ev l) (S.ev c) K) : Done P W0 S o a w K := by
  have hl := ev_rep hC l
  have hc := ev_rep hC c
  have hd := hT.desc t
  unfold effMake at h
  split at h
  case h_2 => exact h.elim
  rename_i e hk
  rw [hk] at hd
  have hd' : P.underlying t = some (.slice e) := hd
  have hke : (T e).k ≠ .none := fun e' => by rw [e'] at h; exact h
  split at h
  · exact h.elim
  case h_3 => exact h.elim
  rename_i z hz _
  split at h
  · exact h.elim
  rename_i d hdst
  split at h
  case h_2 => exact h.elim
  rename_i k1 n1 k2 n2 hdl e1 e2
  have hdl' : d < S.h.length := by rw [Nat.blt_eq] at hdl; exact hdl
  rw [e1] at hl
  rw [e2] at hc
  have hl' : a.eval l = .int k1 n1 := RepI_sc hl
  have hc' : a.eval c = .int k2 n2 := RepI_sc hc
  obtain ⟨h0, h1, h2, h3, hK0⟩ := h
  subst h1
  suffices main : ∀ E' : Nat, (E' = e ∨ FX ≤ E') → K (.v (.c (.own d ((S.blk d).gen + 1)))) [(d, .row ((S.blk d).gen + 1) E' (T e).size (List.replicate n2.toNat z))] [d] → Done P W0 S o a w K by
    split at hK0
    · rw [genK_eq] at hK0; exact main _ (Or.inl rfl) hK0
    · rw [genK_eq] at hK0; exact main _ (Or.inr (by unfold FX; omega)) hK0
    · exact hK0.elim
  intro E' hE' hK
  obtain ⟨i, zv, i1, i2, i3, i4, i5, _, i6, i7⟩ := tab_info hT hke
  obtain ⟨zz1, zz2⟩ := zeros_rep (w := w) (ok := ok) (σ := σ) (G := S.G) i5 i7
  obtain ⟨az1, az2⟩ := allI_spec (w := w) (ok := ok) (σ := σ) (S := S) hz
  have hb : (i.bytes : Int) * n2 ≤ 281474976710656 := by
    rw [i3]
    have h2' : (((T e).bytes * n2.toNat : Nat) : Int) ≤ ((140737488355328 : Nat) : Int) := Int.ofNat_le.2 h2
    rw [Int.natCast_mul, Int.toNat_of_nonneg h0] at h2'
    omega
  have hr := run_make (P := P) w t e i zv hd' i1 i4 k1 k2 n2 n2 h0 (Int.le_refl _) hb h3
  rw [i2] at hr
  have hzl : z.length = (T e).size := by rw [← az1, ← zz1, i6]
  rw [← blk_gen] at hK
  have hmz : (madeCells zv.cells (n2.toNat * (T e).size)).size = n2.toNat * (T e).size := by simp [madeCells]
  refine done_row (xs := (madeCells zv.cells (n2.toNat * (T e).size)).toList) (w' := w.alloc (.cells (madeCells zv.cells (n2.toNat * (T e).size)) e)) hC hdl' (v' := .slice (some ⟨w.heap.size, 0, none⟩) n2.toNat n2.toNat) (by
    simp only [execOp, ho, hl', hc', Sem.run_bind, hr, Result.andThen_ok, Sem.run_pure]) (row := none) (World.grownBy_alloc w _ none) (by simp)
    (base := 0) ⟨by rw [Array.length_toList, hmz, List.length_replicate], Or.inr ⟨w.heap.size, n2.toNat, _, by rw [List.length_replicate], Nat.zero_le _, ⟨_, _, heap_alloc_new w _, by
      rcases hE' with h | h
      · exact Or.inl ⟨rfl, h.symm⟩
      · exact Or.inr ⟨h, Or.inl rfl⟩⟩, by rw [List.length_replicate]; exact Nat.le_refl _, by unfold maxLen; omega, hmz, ?_⟩⟩
    (fun _ A l c he => by rw [List.length_replicate]; injection he with _ _ he; exact he.symm) (fun f hf => by rw [List.eq_of_mem_replicate hf, hzl]) (fun n hn => by simp [Value.ownBlock] at hn; right; omega) (fun k f j y hk' hj => ?_) hK
  · rw [List.length_replicate]; exact List.take_of_length_le (by rw [Array.length_toList, hmz]; exact Nat.le_refl _)
  · rw [List.getElem?_replicate] at hk'
    split at hk'
    case isFalse => cases hk'
    rename_i hkl
    injection hk' with hk'
    subst hk'
    have hjl : j < z.length := (List.getElem?_eq_some_iff.1 hj).1
    have hjl' : j < zv.cells.size := by omega
    have hlt : k * (T e).size + j < n2.toNat * (T e).size := by
      have h1 : (k + 1) * (T e).size ≤ n2.toNat * (T e).size := Nat.mul_le_mul_right _ hkl
      rw [Nat.add_mul, Nat.one_mul] at h1
      omega
    refine ⟨zv.cells[j], ?_, ?_⟩
    · rw [Array.getElem?_toList]
      simp only [madeCells, Array.getElem?_map]
      rw [Array.getElem?_range, if_pos hlt]
      simp only [Option.map_some]
      have hm : (k * (T e).size + j) % zv.cells.size = j := by rw [i6, Nat.mul_comm, Nat.mul_add_mod, Nat.mod_eq_of_lt (by omega)]
      rw [hm]
      simp [hjl']
    · exact az2 j ((T e).zero[j]'(by omega)) y (List.getElem?_eq_getElem (by omega)) hj _ (zz2 j _ _ (Array.getElem?_eq_getElem hjl') (List.getElem?_eq_getElem (by omega))).1

theorem flat_get {α : Type} (z : List α) (n i : Nat) (h : i < n * z.length) : (List.replicate n z).flatten[i]? = z[i % z.length]? := by
  induction n generalizing i with
  | zero => simp at h
  | succ n ih =>
    rw [List.replicate_succ, List.flatten_cons, List.getElem?_append]
    have hpos : 0 < z.length := by
      rcases Nat.eq_zero_or_pos z.length with h0 | h0
      · rw [h0] at h; simp at h
      · exact h0
    split
    · rw [Nat.mod_eq_of_lt (by assumption)]
    · rename_i hge
      rw [Nat.add_mul, Nat.one_mul] at h
      rw [ih (i - z.length) (by omega)]
      congr 1
      rw [← Nat.mod_eq_sub_mod (by omega)]
theorem flat_len {α : Type} (z : List α) (n : Nat) : (List.replicate n z).flatten.length = n * z.length := by simp

theorem done_buildSliceG (hT : TabOk P T) (hC : Conf W0 ok σ S a w) {t len : Nat} {parts : Array (Nat × Operand)} {ρ : Operand → AT} (hρ : ∀ p ∈ parts.toList, RepT w ok σ S.G (ρ p.2) (a.eval p.2)) (ho : o.op = .buildSlice t len parts) (h : effBuildSlice T S.blk S.h.length o.dst ρ t len parts K) : Done P W0 S o a w K := by
  have hd := hT.desc t
  have hparts : (parts.map fun (i, x) => (i, a.eval x)).toList = parts.toList.map fun p => (p.1, a.eval p.2) := by simp
  unfold effBuildSlice at h
  split at h
  case h_2 => exact h.elim
  rename_i e hk
  rw [hk] at hd
  have hd' : P.underlying t = some (.slice e) := hd
  have hke : (T e).k ≠ .none := fun e' => by rw [e'] at h; exact h
  split at h
  · exact h.elim
  split at h
  · exact h.elim
  rename_i d hdst
  split at h
  case h_2 => exact h.elim
  rename_i hdl hbig hone
  simp only [Bool.and_eq_true] at hdl
  have hdl' : d < S.h.length := by have := hdl.1; rw [Nat.blt_eq] at this; exact this
  have hbig' := Nat.le_of_ble_eq_true hbig
  have hone' := Nat.le_of_ble_eq_true hone
  split at h
  case h_2 => exact h.elim
  rename_i cs' hfill
  split at h
  case h_2 => exact h.elim
  rename_i zs hzs
  rw [lay_eq, genK_eq] at h
  obtain ⟨z, z1, z2, z3, z4⟩ := run_zeroT hT hke w
  obtain ⟨zz1, zz2⟩ := zeros_rep (w := w) (ok := ok) (σ := σ) (G := S.G) z2 z4
  have hzl : (T e).zero.length = (T e).size := by rw [← zz1, z3]
  have hb0 : Bears w ok σ S.G (madeCells (if len * (T e).size = 0 then #[] else z.cells) (len * (T e).size)) ((List.replicate len (T e).zero).flatten) := by
    refine ⟨by rw [flat_len, hzl, size_madeCells], fun j u x hu hx => ?_⟩
    have hj : j < len * (T e).size := by have := (Array.getElem?_eq_some_iff.1 hu).1; rwa [size_madeCells] at this
    rw [if_neg (by omega)] at hu
    rw [flat_get _ _ _ (by rw [hzl]; exact hj), hzl] at hx
    simp only [madeCells, Array.getElem?_map] at hu
    rw [Array.getElem?_range, if_pos hj] at hu
    simp only [Option.map_some] at hu
    have hm : j % z.cells.size < z.cells.size := Nat.mod_lt _ (by omega)
    have hu' : z.cells[j % (T e).size]? = some u := by
      rw [← z3, Array.getElem?_eq_getElem hm, ← hu, getElem!_pos z.cells _ hm]
    exact zz2 _ u x hu' hx
  obtain ⟨arr', r1, r2, r3⟩ := fill_rep hC parts.toList hρ hb0 hfill
  have hcsl : ∀ (parts : List (Nat × Operand)) (place : Nat → Option (Nat × Nat)) (cs cs' : List AV1), fillA place ρ parts cs = some cs' → cs'.length = cs.length := by
    intro parts place
    induction parts with
    | nil => intro cs cs' h; simp [fillA] at h; rw [h]
    | cons p parts ih =>
      intro cs cs' h
      obtain ⟨i, x⟩ := p
      simp only [fillA] at h
      split at h
      · cases h
      split at h
      · cases h
      split at h
      case h_2 => cases h
      rename_i e1 e2 e3
      rw [ih _ _ h, splice_length _ _ _ (Nat.le_of_ble_eq_true e2)]
  have hlen := hcsl _ _ _ _ hfill
  rw [flat_len, hzl] at hlen
  obtain ⟨az1, az2⟩ := allI_spec (w := w) (ok := ok) (σ := σ) (S := S) hzs
  have hzsl : zs.length = len * (T e).size := by rw [← az1, hlen]
  have hal : arr'.size = len * (T e).size := by rw [r2, hlen]
  rw [← blk_gen] at h
  have hrun : (execOp a.eval o).run P w = .ok (.value (.slice (some ⟨w.heap.size, 0, none⟩) len len)) (w.alloc (.cells arr' e)) := by
    have hbig2 : ¬ (len * (T e).size > 2 ^ 24) := by simpa using hbig'
    have r1' := r1
    unfold madeCells at r1'
    by_cases h0 : len * (T e).size = 0
    · rw [if_pos h0] at r1'
      simp only [execOp, ho, Instr.buildSlice, Sem.run_bind, run_underlying hd', Result.andThen_ok, run_sizeT hT hke, if_neg hbig2, if_pos h0, Sem.run_pure, hparts, r1']
      simp [newRow]
    · rw [if_neg h0] at r1'
      simp only [execOp, ho, Instr.buildSlice, Sem.run_bind, run_underlying hd', Result.andThen_ok, run_sizeT hT hke, if_neg hbig2, if_neg h0, z1, Sem.run_pure, hparts, r1']
      simp [newRow]
  refine done_row (xs := arr'.toList) hC hdl' hrun (row := none) (World.grownBy_alloc w _ none) (by simp)
    (base := 0) ⟨by rw [Array.length_toList, hal, rowsOf_len], Or.inr ⟨w.heap.size, len, _, by rw [rowsOf_len], Nat.zero_le _, ⟨_, _, heap_alloc_new w _, Or.inl ⟨rfl, rfl⟩⟩, by rw [rowsOf_len]; exact Nat.le_refl _, ?_, hal, ?_⟩⟩ (fun h => absurd h (noCX hdl.2))
    (fun f hf => ?_) (fun n hn => by simp [Value.ownBlock] at hn; right; omega) (fun k f j y hk' hj => ?_) h
  · have := Nat.le_mul_of_pos_right len hone'
    unfold maxLen
    omega
  · rw [rowsOf_len]
    exact List.take_of_length_le (by rw [Array.length_toList, hal]; exact Nat.le_refl _)
  · obtain ⟨k, hk', rfl⟩ := List.getElem_of_mem hf
    have hkl : k < len := by rw [rowsOf_len] at hk'; exact hk'
    rw [rowsOf_get (List.getElem?_eq_getElem hk'), List.length_take, List.length_drop, hzsl]
    have h1 : (k + 1) * (T e).size ≤ len * (T e).size := Nat.mul_le_mul_right _ hkl
    rw [Nat.add_mul, Nat.one_mul] at h1
    omega
  · have hkl : k < len := by have := (List.getElem?_eq_some_iff.1 hk').1; rw [rowsOf_len] at this; exact this
    have hjj := hj
    rw [rowsOf_get hk', List.getElem?_take] at hjj
    split at hjj
    case isFalse => cases hjj
    rename_i hjs
    rw [List.getElem?_drop] at hjj
    have h1 : (k + 1) * (T e).size ≤ len * (T e).size := Nat.mul_le_mul_right _ hkl
    rw [Nat.add_mul, Nat.one_mul] at h1
    have hlt : k * (T e).size + j < arr'.size := by omega
    refine ⟨arr'[k * (T e).size + j], by rw [Array.getElem?_toList]; exact Array.getElem?_eq_getElem hlt, ?_⟩
    exact az2 _ (cs'[k * (T e).size + j]'(by omega)) y (List.getElem?_eq_getElem (by omega)) hjj _ (r3 _ _ _ (Array.getElem?_eq_getElem hlt) (List.getElem?_eq_getElem (by omega))).1
theorem done_buildSlice (hT : TabOk P T) (hC : Conf W0 ok σ S a w) {t len : Nat} {parts : Array (Nat × Operand)} (ho : o.op = .buildSlice t len parts) (h : effBuildSlice T S.blk S.h.length o.dst S.ev t len parts K) : Done P W0 S o a w K := done_buildSliceG hT hC (fun p _ => ev_rep hC p.2) ho h
end
end Go.Proofs.YtikchieadclbhaaGreatDoor.Ab
