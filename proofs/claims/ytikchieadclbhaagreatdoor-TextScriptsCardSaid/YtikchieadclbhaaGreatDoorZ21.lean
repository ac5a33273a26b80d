/- The arguments of a law: what the statement says of them, in the abstract. No condition. -/
import Derived.Test.YtikchieadclbhaaGreatDoorZ20
import Derived.WideShapes
import Derived.OpenShut
namespace Go.Proofs.YtikchieadclbhaaGreatDoor.Ab
set_option linter.unusedVariables false
set_option linter.unusedSimpArgs false
open Go.RowKit

def look : List (Nat × TI) → Nat → TI
  | [], _ => ⟨.none, 0, 0, [], false⟩
  | p :: l, t => match Nat.beq p.1 t with
    | true => p.2
    | false => look l t

def DescOk (P : Program) (t : Nat) : TK → Prop
  | .none => True
  | .int k => P.underlying t = some (.int k)
  | .bool => P.underlying t = some .bool
  | .str => P.underlying t = some .string
  | .slice e => P.underlying t = some (.slice e)
  | .arr n e => P.underlying t = some (.array n e)
  | .struct fs => ∃ F : Array Field, P.underlying t = some (.struct F) ∧ F.toList.map (fun f => (f.offset, f.type)) = fs
  | .ptr e => P.underlying t = some (.pointer e)
  | .map k e => P.underlying t = some (.map k e)

def EqsOk (P : Program) (t : Nat) (b : Bool) : Prop := b = true → P.stoodInHeld t = false ∧ P.eqGuardType P.depth t = false ∧ ∀ f ∈ (P.fieldsOf t).toList, f.name ≠ "_"
theorem no_eqs {P : Program} {t : Nat} : EqsOk P t false := fun e => Bool.noConfusion e

def Good (P : Program) (t : Nat) (ti : TI) : Prop :=
  (∃ i z, P.info? t = some i ∧ i.size = ti.size ∧ i.bytes = ti.bytes ∧ i.zero = some z ∧ z.cells.toList.map some = ti.zero.map zcell ∧
    (ti.k.agg = true ↔ ∃ c, z = .agg c) ∧ z.cells.size = ti.size ∧ z.cells.all (·.oneCell') = true) ∧ DescOk P t ti.k ∧ EqsOk P t ti.eq

def AllGood (P : Program) : List (Nat × TI) → Prop
  | [] => True
  | p :: l => Good P p.1 p.2 ∧ AllGood P l

theorem tab_ok {P : Program} {l : List (Nat × TI)} (h : AllGood P l) : TabOk P (look l) := by
  have key : ∀ t, ((look l t).k = .none ∧ (look l t).eq = false) ∨ Good P t (look l t) := by
    intro t
    induction l with
    | nil => exact Or.inl ⟨rfl, rfl⟩
    | cons p l ih =>
      simp only [look]
      cases hb : Nat.beq p.1 t with
      | true =>
        have := Nat.eq_of_beq_eq_true hb
        subst this
        exact Or.inr h.1
      | false => exact ih h.2
  refine ⟨fun t => ?_, fun t => ?_, fun t => ?_⟩
  · rcases key t with h | h
    · rw [h.1]; exact trivial
    · cases hk : (look l t).k <;> first | exact trivial | (have h1 := h.1; exact (by simpa only [hk] using h1))
  · rcases key t with h | h
    · rw [h.1]; exact trivial
    · have h2 := h.2.1
      cases hk : (look l t).k <;> rw [hk] at h2 <;> exact h2
  · rcases key t with h | h
    · rw [h.2]; exact fun e => Bool.noConfusion e
    · exact h.2.2

def inB : List Nat → Nat → Bool
  | [], _ => false
  | x :: l, n => match Nat.beq x n with
    | true => true
    | false => inB l n
/-- A table with marks. -/
def markT (fl : List Nat) (T : Nat → TI) (n : Nat) : TI := match inB fl n with
  | true => ⟨.none, 1, 0, [], false⟩
  | false => T n
theorem mark_ok {P : Program} {T : Nat → TI} (fl : List Nat) (h : TabOk P T) : TabOk P (markT fl T) := by
  have key : ∀ t, markT fl T t = ⟨.none, 1, 0, [], false⟩ ∨ markT fl T t = T t := by
    intro t
    unfold markT
    split
    · exact Or.inl rfl
    · exact Or.inr rfl
  refine ⟨fun t => ?_, fun t => ?_, fun t => ?_⟩
  · rcases key t with e | e
    · rw [e]; exact trivial
    · rw [e]; exact h.info t
  · rcases key t with e | e
    · rw [e]; exact trivial
    · rw [e]; exact h.desc t
  · rcases key t with e | e
    · rw [e]; exact fun e => Bool.noConfusion e
    · rw [e]; exact h.eqs t
theorem good_mk {P : Program} {t : Nat} {ti : TI} {z : Value} (h1 : (P.info? t).map (fun i => (i.zero, i.size, i.bytes)) = some (some z, ti.size, ti.bytes)) (h2 : z.cells.toList.map some = ti.zero.map zcell)
    (h3 : ti.k.agg = true ↔ ∃ c, z = .agg c) (h4 : z.cells.size = ti.size) (h5 : z.cells.all (·.oneCell') = true) (h6 : DescOk P t ti.k) (h7 : EqsOk P t ti.eq) : Good P t ti := by
  obtain ⟨i, hi, hz, hs, hb⟩ := info_parts h1
  exact ⟨⟨i, z, hi, hs, hb, hz, h2, h3, h4, h5⟩, h6, h7⟩
theorem agg_yes {z : Value} {b : Bool} (hb : b = true) {c : Array Value} (h : z = .agg c) : b = true ↔ ∃ c, z = .agg c := ⟨fun _ => ⟨c, h⟩, fun _ => hb⟩
theorem agg_no {z : Value} {b : Bool} (hb : b = false) (h : z.oneCell' = true) : b = true ↔ ∃ c, z = .agg c := ⟨fun e => (by rw [hb] at e; cases e), fun ⟨c, e⟩ => by rw [e] at h; cases h⟩
end Go.Proofs.YtikchieadclbhaaGreatDoor.Ab
namespace Go.Proofs.YtikchieadclbhaaGreatDoor.Ab
set_option linter.unusedVariables false
set_option linter.unusedSimpArgs false
open Go.RowKit Go.WideShapes

/-- The cells of a type. -/
def ShFs (E : Nat → List IV → Prop) : List (Nat × Nat) → List IV → Prop
  | [], cs => cs = []
  | f :: fs, cs => ∃ a b, cs = a ++ b ∧ E f.2 a ∧ ShFs E fs b
def ShI (T : Nat → TI) : Nat → Nat → List IV → Prop
  | 0, _, _ => False
  | d + 1, t, cs => match (T t).k with
    | .int k => ∃ n, cs = [.sc (.int k n)] ∧ (Lit.int k n).wf = true
    | .bool => ∃ b, cs = [.sc (.bool b)]
    | .str => ∃ s, cs = [.sc (.string s)] ∧ s.size ≤ maxLen
    | .slice e => ∃ es, cs = [.sl es] ∧ es.length ≤ maxLen ∧ ∀ r ∈ es, r.length = (T e).size ∧ ShI T d e r
    | .struct fs => ShFs (ShI T d) fs cs
    | _ => False

def contig (T : Nat → TI) : List (Nat × Nat) → Nat → Nat → Bool
  | [], o, n => Nat.beq o n
  | f :: fs, o, n => Nat.beq f.1 o && contig T fs (o + (T f.2).size) n
def flatOk (T : Nat → TI) : Nat → Nat → Bool
  | 0, _ => false
  | d + 1, t => match (T t).k with
    | .int _ => Nat.beq (T t).size 1
    | .bool => Nat.beq (T t).size 1
    | .str => Nat.beq (T t).size 1
    | .slice e => Nat.beq (T t).size 1 && Nat.ble 1 (T e).size && flatOk T d e
    | .struct fs => contig T fs 0 (T t).size && fs.all fun f => flatOk T d f.2
    | _ => false

section
variable {H : Type} {enc : TypeId × Value → H} {P : Program} {T : Nat → TI} {w : World} {base : Nat} {spare : Nat → Bool} {held : Bool}

theorem cellsOf_eq (hT : TabOk P T) {t : Nat} (hk : (T t).k ≠ .none) : P.cellsOf t = (T t).size := by
  obtain ⟨i, z, h1, h2, _⟩ := tab_info hT hk
  simp [Program.cellsOf, h1, h2]

theorem flat_some {d t : Nat} (h : flatOk T d t = true) : (T t).k ≠ .none := by
  intro e
  cases d with
  | zero => cases h
  | succ d => simp only [flatOk, e] at h; cases h

abbrev Old (w : World) : Nat → Prop := fun k => k < w.heap.size

theorem read_fs {E : Nat → List IV → Prop} {size : Nat} (hk : ∀ f : Nat × Nat, True) {cs : List Value} (hl : cs.length = size) (fs : List (Nat × Nat)) : ∀ {o : Nat}, contig T fs o size = true → o ≤ size →
    (∀ f ∈ fs, ∃ ivs, E f.2 ivs ∧ ivs.length = (T f.2).size ∧ (((cs.drop f.1).take (T f.2).size).length = (T f.2).size) ∧ ∀ (j : Nat) u y, ((cs.drop f.1).take (T f.2).size)[j]? = some u → ivs[j]? = some y → RepI w (Old w) y u) →
    ∃ ivs, ShFs E fs ivs ∧ ivs.length = size - o ∧ ∀ (j : Nat) u y, cs[o + j]? = some u → ivs[j]? = some y → RepI w (Old w) y u := by
  induction fs with
  | nil =>
    intro o h ho _
    have := Nat.eq_of_beq_eq_true h
    exact ⟨[], rfl, by simp; omega, fun j u y hu hy => by simp at hy⟩
  | cons f fs ih =>
    intro o h ho hf
    simp only [contig, Bool.and_eq_true] at h
    have h1 := Nat.eq_of_beq_eq_true h.1
    obtain ⟨a, a1, a2, a3, a4⟩ := hf f List.mem_cons_self
    rw [h1] at a3 a4
    rw [List.length_take, List.length_drop] at a3
    by_cases hz : o + (T f.2).size ≤ size
    · obtain ⟨b, b1, b2, b3⟩ := ih h.2 hz (fun g hg => hf g (List.mem_cons_of_mem _ hg))
      refine ⟨a ++ b, ⟨a, b, rfl, a1, b1⟩, by simp; omega, fun j u y hu hy => ?_⟩
      rw [List.getElem?_append] at hy
      split at hy
      · rename_i hj
        refine a4 j u y ?_ hy
        rw [List.getElem?_take, if_pos (by omega), List.getElem?_drop]
        exact hu
      · rename_i hj
        refine b3 (j - a.length) u y ?_ hy
        rw [a2] at hj ⊢
        rw [show o + (T f.2).size + (j - (T f.2).size) = o + j by omega]
        exact hu
    · omega

theorem read_iv (hT : TabOk P T) (d : Nat) : ∀ {fuel t : Nat} {cs : List Value} {x : DataW H × List MemPlace}, flatOk T d t = true → DataW.trod enc P w base spare held fuel t cs = some x →
    ∃ ivs, ShI T d t ivs ∧ ivs.length = (T t).size ∧ cs.length = (T t).size ∧ ∀ (j : Nat) u y, cs[j]? = some u → ivs[j]? = some y → RepI w (Old w) y u := by
  induction d with
  | zero => intro fuel t cs x h; cases h
  | succ d ih =>
    intro fuel t cs x hf h
    have hd := hT.desc t
    have hk := flat_some hf
    have hc := cellsOf_eq hT hk
    unfold flatOk at hf
    have one : ∀ {y : IV} {v : Value}, RepI w (Old w) y v → ∀ (j : Nat) u z, [v][j]? = some u → [y][j]? = some z → RepI w (Old w) z u := by
      intro y v hr j u z hu hz
      cases j with
      | zero => simp at hu hz; subst hu hz; exact hr
      | succ j => simp at hu
    split at hf
    · rename_i k hk'
      rw [hk'] at hd
      have hs := Nat.eq_of_beq_eq_true hf
      obtain ⟨n, rfl, _, hw⟩ := DataW.trod_int hd h
      exact ⟨_, by simp only [ShI, hk']; exact ⟨n, rfl, hw⟩, by simp [hs], by simp [hs], one (.sc _ rfl)⟩
    · rename_i hk'
      rw [hk'] at hd
      have hs := Nat.eq_of_beq_eq_true hf
      obtain ⟨b, rfl, _⟩ := DataW.trod_bool hd h
      exact ⟨_, by simp only [ShI, hk']; exact ⟨b, rfl⟩, by simp [hs], by simp [hs], one (.sc _ rfl)⟩
    · rename_i hk'
      rw [hk'] at hd
      have hs := Nat.eq_of_beq_eq_true hf
      obtain ⟨s, rfl, _, hw⟩ := DataW.trod_string hd h
      exact ⟨_, by simp only [ShI, hk']; exact ⟨s, rfl, hw⟩, by simp [hs], by simp [hs], one (.sc _ rfl)⟩
    · rename_i e hk'
      rw [hk'] at hd
      simp only [Bool.and_eq_true] at hf
      obtain ⟨⟨hs, he1⟩, hfe⟩ := hf
      have hs := Nat.eq_of_beq_eq_true hs
      have he1 : 1 ≤ (T e).size := Nat.le_of_ble_eq_true he1
      have hce := cellsOf_eq hT (flat_some hfe)
      rcases DataW.trod_slice hd h with ⟨rfl, _⟩ | ⟨ad, len, cap, elems, rest, n, _, rfl, _, hb, hl, hm, hlen, hel, _, _⟩
      · refine ⟨[.sl []], by simp only [ShI, hk']; exact ⟨[], rfl, by simp, fun r hr => by cases hr⟩, by simp [hs], by simp [hs], one (.nil _ _ (Nat.zero_le _))⟩
      · have each : ∀ i, i < len → ∃ ivs, ShI T d e ivs ∧ ivs.length = (T e).size ∧ ∀ j, j < (T e).size → ∃ u, w.cell? (ad.add (i * (T e).size + j)) = some u ∧ ∀ y, ivs[j]? = some y → RepI w (Old w) y u := by
          intro i hi
          have h1 := hel i hi
          rw [List.getElem?_eq_getElem (by omega)] at h1
          obtain ⟨ci, hci, h2⟩ := Option.bind_eq_some_iff.1 h1
          obtain ⟨ivs, i1, i2, i3, i4⟩ := ih hfe h2
          obtain ⟨_, c2, c3⟩ := World.cells?_some hci
          rw [hce] at c2 c3
          refine ⟨ivs, i1, i2, fun j hj => ?_⟩
          have hj2 : j < ci.length := by omega
          refine ⟨ci[j], ?_, fun y hy => i4 j _ y (List.getElem?_eq_getElem hj2) hy⟩
          have := c3 j hj
          rw [add_add', List.getElem?_eq_getElem hj2] at this
          exact this
        obtain ⟨F, hF⟩ : ∃ F : Nat → List IV, ∀ i, i < len → ShI T d e (F i) ∧ (F i).length = (T e).size ∧ ∀ j, j < (T e).size → ∃ u, w.cell? (ad.add (i * (T e).size + j)) = some u ∧ ∀ y, (F i)[j]? = some y → RepI w (Old w) y u :=
          ⟨fun i => if hi : i < len then Classical.choose (each i hi) else [], fun i hi => by dsimp only; rw [dif_pos hi]; exact Classical.choose_spec (each i hi)⟩
        have hesl : ((List.range len).map F).length = len := by simp
        refine ⟨[.sl ((List.range len).map F)], ?_, by simp [hs], by simp [hs], one ?_⟩
        · simp only [ShI, hk']
          refine ⟨_, rfl, by omega, fun r hr => ?_⟩
          obtain ⟨i, hi, rfl⟩ := List.mem_map.1 hr
          have := hF i (List.mem_range.1 hi)
          exact ⟨this.2.1, this.1⟩
        · by_cases h0 : len = 0
          · subst h0
            exact .nil _ _ hm
          · have hbl : ad.block < w.heap.size := by
              obtain ⟨u, hu, _⟩ := (hF 0 (by omega)).2.2 0 (by omega)
              have := block_lt_of_cell hu
              rwa [add_block] at this
            have hr := RepI.sl (w := w) (ok := Old w) ((List.range len).map F) (T e).size ad cap (fun i => (w.cell? (ad.add i)).getD undef) hbl (by omega) hm (fun r hr => by
              obtain ⟨i, hi, rfl⟩ := List.mem_map.1 hr
              exact (hF i (List.mem_range.1 hi)).2.1) (fun i hi => by
              rw [hesl] at hi
              have hk1 : i / (T e).size < len := Nat.div_lt_of_lt_mul (by rw [Nat.mul_comm]; exact hi)
              obtain ⟨u, hu, _⟩ := (hF _ hk1).2.2 (i % (T e).size) (Nat.mod_lt _ (by omega))
              rw [show i / (T e).size * (T e).size + i % (T e).size = i by rw [Nat.mul_comm]; exact Nat.div_add_mod _ _] at hu
              simp [hu]) (fun k r j x hk2 hx => by
              have hk3 : k < len := by have := (List.getElem?_eq_some_iff.1 hk2).1; omega
              have : r = F k := by
                rw [List.getElem?_map, List.getElem?_range hk3] at hk2
                exact (Option.some.inj hk2).symm
              subst this
              have hj : j < (T e).size := by have := (List.getElem?_eq_some_iff.1 hx).1; rw [(hF k hk3).2.1] at this; exact this
              obtain ⟨u, hu, hr⟩ := (hF k hk3).2.2 j hj
              rw [hu]
              exact hr x hx)
            rw [hesl] at hr
            exact hr
    · rename_i fs hk'
      rw [hk'] at hd
      obtain ⟨Fs, hFs, hfs⟩ := hd
      simp only [Bool.and_eq_true] at hf
      obtain ⟨hcg, hall⟩ := hf
      obtain ⟨xs, n, _, _, hcl, hxl, hxs⟩ := DataW.trod_struct hFs h
      rw [hc] at hcl
      obtain ⟨ivs, i1, i2, i3⟩ := read_fs (E := ShI T d) (w := w) (fun _ => trivial) hcl fs hcg (Nat.zero_le _) (fun f hfm => by
        have hfo := List.all_eq_true.1 hall f hfm
        rw [← hfs] at hfm
        obtain ⟨g, hg, rfl⟩ := List.mem_map.1 hfm
        obtain ⟨i, hi, hgi⟩ := List.getElem_of_mem hg
        have hi' : i < Fs.size := by simpa using hi
        have hgi' : Fs[i]? = some g := by rw [Array.getElem?_eq_getElem hi', ← hgi]; simp
        have h1 := hxs i g hgi'
        rw [List.getElem?_eq_getElem (by omega), cellsOf_eq hT (flat_some hfo)] at h1
        obtain ⟨ivs, j1, j2, j3, j4⟩ := ih hfo h1
        exact ⟨ivs, j1, j2, j3, j4⟩)
      refine ⟨ivs, by simp only [ShI, hk']; exact i1, by omega, hcl, fun j u y hu hy => i3 j u y (by rw [Nat.zero_add]; exact hu) hy⟩
    · cases hf

/-- A struct that is handed to a law. -/
theorem open_agg (hT : TabOk P T) {r : Reach} {b0 : Nat} (dd : Nat) {t : Nat} {v : Value} {d : DataW H} {p : List MemPlace} (hf : flatOk T dd t = true) (ha : (T t).k.agg = true) (hv : Value.okWide P w r b0 t v)
    (h : DataW.Trod enc P w base spare held t v d p) : ∃ ivs, ShI T dd t ivs ∧ ∀ (σ : Nat → Nat → Value) (G : Nat → Nat), RepV w (Old w) σ G (.agg (ivs.map .i)) v := by
  have hcs : ∃ cs, v = .agg cs := by
    have hd := hT.desc t
    cases hk : (T t).k <;> rw [hk] at hd ha <;> first | (cases ha; done) | skip
    · obtain ⟨cs, e, _⟩ := (by simpa [Value.okWide, show P.underlying t = _ from hd] using hv : ∃ cs, v = .agg cs ∧ _); exact ⟨cs, e⟩
    · obtain ⟨F, hF, _⟩ := hd
      obtain ⟨cs, e, _⟩ := okWide_struct hF hv; exact ⟨cs, e⟩
  obtain ⟨cs, rfl⟩ := hcs
  obtain ⟨fuel, h⟩ := h
  obtain ⟨ivs, i1, i2, i3, i4⟩ := read_iv hT dd hf h
  have e : (Value.agg cs).cells = cs := rfl
  rw [e] at i3 i4
  refine ⟨ivs, i1, fun σ G => ⟨cs, rfl, by simp at i3 ⊢; omega, fun j u x hu hx => ?_⟩⟩
  rw [List.getElem?_map] at hx
  obtain ⟨y, hy, rfl⟩ := Option.map_eq_some_iff.1 hx
  have hr := i4 j u y (by simpa using hu) hy
  exact ⟨hr, oneCell_of_RepI hr⟩

/-- A slice that is handed to a law. -/
theorem open_sl (hT : TabOk P T) {r : Reach} {b0 : Nat} (dd : Nat) {t e : Nat} {v : Value} {d : DataW H} {p : List MemPlace} (hf : flatOk T (dd + 1) t = true) (hk : (T t).k = .slice e) (hv : Value.okWide P w r b0 t v)
    (h : DataW.Trod enc P w base spare held t v d p) : ∃ es, es.length ≤ maxLen ∧ (∀ r ∈ es, r.length = (T e).size ∧ ShI T dd e r) ∧ ∀ (σ : Nat → Nat → Value) (G : Nat → Nat), RepV w (Old w) σ G (.c (.i (.sl es))) v := by
  have hd := hT.desc t
  rw [hk] at hd
  obtain ⟨a, l, c, rfl⟩ := okWide_slice hd hv
  obtain ⟨fuel, h⟩ := h
  obtain ⟨ivs, i1, i2, i3, i4⟩ := read_iv hT (dd + 1) hf h
  simp only [ShI, hk] at i1
  obtain ⟨es, rfl, e1, e2⟩ := i1
  exact ⟨es, e1, e2, fun σ G => i4 0 _ _ rfl rfl⟩

/-- From the contract of a law to what it answers. -/
theorem law_of_fun {f : FuncId} {args : List AV} {b : Bool} {argv : Array Value} (hF : Fun P f args [] (ATbool b)) (hs : argv.size = args.length) (ha : ∀ (j : Nat) v x, argv[j]? = some v → args[j]? = some x → RepV w (Old w) (fun _ _ => undef) (fun _ => 0) x v) (hg : gP w ∧ gN ≤ w.heap.size := by exact ⟨trivial, Nat.zero_le _⟩) :
    Calls P f argv w fun e w' => e = .returned (.bool b) ∧ Below w.heap.size w w' := by
  refine (hF.2 w (Old w) argv ⟨fun k hk => hk, hg.1, fun k hk => Nat.lt_of_lt_of_le hk hg.2⟩ hs ha).mono ?_
  rintro e w' ⟨v, ok', σ, rfl, hb, _, _, hr, _⟩
  have : v = .bool b := RepI_sc hr
  subst this
  exact ⟨rfl, hb⟩
end
end Go.Proofs.YtikchieadclbhaaGreatDoor.Ab
