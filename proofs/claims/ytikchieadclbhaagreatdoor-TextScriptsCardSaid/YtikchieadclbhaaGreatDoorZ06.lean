/- The model's loads, stores, addresses and new blocks follow the abstract ones. No condition. -/
import Derived.Test.YtikchieadclbhaaGreatDoorZ05
namespace Go.Proofs.YtikchieadclbhaaGreatDoor.Ab
set_option linter.unusedVariables false
set_option linter.unusedSimpArgs false
open Go.RowKit

section tab
variable {P : Program} {T : Nat → TI} (hT : TabOk P T) {t : Nat} (hk : (T t).k ≠ .none)
include hT hk
theorem tab_info : ∃ i z, P.info? t = some i ∧ i.size = (T t).size ∧ i.bytes = (T t).bytes ∧ i.zero = some z ∧ z.cells.toList.map some = (T t).zero.map zcell ∧
    ((T t).k.agg = true ↔ ∃ c, z = .agg c) ∧ z.cells.size = (T t).size ∧ z.cells.all (·.oneCell') = true := by
  have := hT.info t
  cases hh : (T t).k <;> rw [hh] at this <;> first | exact absurd hh hk | exact this
theorem run_sizeT (w : World) : (sizeOf t).run P w = .ok (T t).size w := by
  obtain ⟨i, z, h1, h2, _⟩ := tab_info hT hk
  simp [sizeOf, typeInfo, h1, h2]
theorem run_aggT (w : World) : (isAgg t).run P w = .ok (T t).k.agg w := by
  have := hT.desc t
  unfold isAgg
  cases hh : (T t).k <;> rw [hh] at this <;> first
    | exact absurd hh hk
    | (obtain ⟨F, h1, _⟩ := this
       rw [Sem.run_bind, run_underlying h1 w]; rfl)
    | (rw [Sem.run_bind, run_underlying this w]; rfl)
theorem run_zeroT (w : World) : ∃ z, (zeroValue t).run P w = .ok z w ∧ z.cells.toList.map some = (T t).zero.map zcell ∧ z.cells.size = (T t).size ∧ z.cells.all (·.oneCell') = true := by
  obtain ⟨i, z, h1, h2, _, h3, h4, _, h5, h6⟩ := tab_info hT hk
  exact ⟨z, by simp [zeroValue, typeInfo, h1, h3], h4, h5, h6⟩
end tab

section
variable {P : Program} {T : Nat → TI} (hT : TabOk P T)
variable {w : World} {ok : Nat → Prop} {σ : Nat → Nat → Value} {G : Nat → Nat}

theorem RepI_sc {v u : Value} (h : RepI w ok (.sc v) u) : u = v := by cases h; rfl
theorem zcell_rep {x : AV1} {v : Value} (h : zcell x = some v) (ho : v.oneCell' = true) : Rep1 w ok σ G x v := by
  unfold zcell at h
  split at h
  · injection h with h; subst h; exact RepI.sc _ ho
  · injection h with h; subst h; exact rfl
  · cases h

include hT in
/-- A part of memory is read as the type says. -/
theorem part_load {t : Nat} (hk : (T t).k ≠ .none) {ad : Addr} {cs : List AV1} {off : Nat} {K : AT → Prop}
    (hc : ∀ j x, cs[j]? = some x → ∃ u, w.cell? (ad.add j) = some u ∧ Rep1 w ok σ G x u ∧ u.oneCell' = true) (h : partK (T t) cs off K) :
    ∃ v r, (loadVar t (ad.add off)).run P w = .ok v w ∧ RepT w ok σ G r v ∧ K r := by
  unfold partK at h
  cases ha : (T t).k.agg with
  | true =>
    rw [ha] at h
    cases hl : Nat.ble (off + (T t).size) cs.length with
    | false => rw [hl] at h; exact h.elim
    | true =>
      rw [hl] at h
      simp only [lay_eq] at h
      have hle : off + (T t).size ≤ cs.length := Nat.le_of_ble_eq_true hl
      have hex : ∀ j : Nat, ∃ u, j < (T t).size → w.cell? (ad.add (off + j)) = some u ∧ (∀ x, cs[off + j]? = some x → Rep1 w ok σ G x u) ∧ u.oneCell' = true := by
        intro j
        by_cases hj : j < (T t).size
        · obtain ⟨u, h1, h2, h3⟩ := hc (off + j) cs[off + j] (List.getElem?_eq_getElem (by omega))
          refine ⟨u, fun _ => ⟨h1, fun x hx => ?_, h3⟩⟩
          rw [List.getElem?_eq_getElem (by omega)] at hx
          injection hx with hx
          subst hx
          exact h2
        · exact ⟨undef, fun h => absurd h hj⟩
      have hf : ∃ f : Nat → Value, ∀ j, j < (T t).size → w.cell? (ad.add (off + j)) = some (f j) ∧ (∀ x, cs[off + j]? = some x → Rep1 w ok σ G x (f j)) ∧ (f j).oneCell' = true :=
        ⟨fun j => Classical.choose (hex j), fun j => Classical.choose_spec (hex j)⟩
      obtain ⟨f, hf⟩ := hf
      have hr := run_loadCells (P := P) w (ad.add off) (T t).size f (fun j hj => by rw [add_add']; exact (hf j hj).1)
      refine ⟨.agg ((List.range (T t).size).map f).toArray, _, ?_, ?_, h⟩
      · simp [loadVar, run_aggT hT hk, run_sizeT hT hk, ha, hr]
      · refine ⟨_, rfl, by simp; omega, fun j u x hu hx => ?_⟩
        have hj : j < (T t).size := by
          rw [List.getElem?_take] at hx
          split at hx
          · assumption
          · cases hx
        rw [List.getElem?_take, if_pos hj, List.getElem?_drop] at hx
        have e : u = f j := by simpa [hj, eq_comm] using hu
        subst e
        exact ⟨(hf j hj).2.1 x hx, (hf j hj).2.2⟩
  | false =>
    rw [ha] at h
    rw [nthO_eq] at h
    cases hx : cs[off]? with
    | none => rw [hx] at h; exact h.elim
    | some x =>
      rw [hx] at h
      obtain ⟨u, h1, h2, _⟩ := hc off x hx
      exact ⟨u, .v (.c x), by simp [loadVar, run_aggT hT hk, ha, h1], h2, h⟩
end

/-- The operation runs, and what it leaves is borne. -/
def Done (P : Program) (W0 : Ent) (S : St) (o : Oper) (a : Act) (w : World) (K : Kont) : Prop :=
  ∃ v w' r u d, ((execOp a.eval o).run P w = .ok (.value v) w' ∨ ((execOp a.eval o).run P w = .ok .skip w' ∧ v = undef)) ∧ K r u d ∧ (∀ p ∈ u, p.1 < S.h.length) ∧
    ∃ ok σ, Conf W0 ok σ (S.put o.dst r u) (a.put o.dst v) w'

theorem grown_refl (w : World) : w.grownBy w none := ⟨rfl, rfl, rfl, Nat.le_refl _, fun _ _ _ => rfl⟩

section
variable {P : Program} {T : Nat → TI} {W0 : Ent} {w : World} {ok : Nat → Prop} {σ : Nat → Nat → Value} {S : St} {a : Act} {o : Oper} {K : Kont}

/-- An operation that only computes. -/
theorem done_pure (hC : Conf W0 ok σ S a w) {v : Value} {r : AT} {d : List Nat} (hrun : (execOp a.eval o).run P w = .ok (.value v) w) (hr : RepT w ok σ S.G r v) (hK : K r [] d) : Done P W0 S o a w K :=
  ⟨v, w, r, [], d, Or.inl hrun, hK, by simp, ok, σ, hC.stay (grown_refl w) (fun _ h => h) hC.okb (fun _ h => Or.inl h) hr⟩

theorem row_cells {base : Nat} {e : TypeId} {sz n : Nat} {v : Value} {xs : List Value} (h : OwnR w base e sz v n xs) {m l c : Nat} (hv : v = .slice (some ⟨m, 0, none⟩) l c) :
    ∀ j u, xs[j]? = some u → w.cell? ⟨m, j, none⟩ = some u := h.cells hv

theorem done_load (hT : TabOk P T) (hC : Conf W0 ok σ S a w) {t : Nat} {x : Operand} (ho : o.op = .load t x) (h : effLoad T S.blk t (S.ev x) K) : Done P W0 S o a w K := by
  have hx := ev_rep hC x
  unfold effLoad at h
  have hk : (T t).k ≠ .none := fun e => by rw [e] at h; exact h
  split at h
  · exact h.elim
  have fin : ∀ {ad : Addr} {cs : List AV1} {off : Nat} {d : List Nat}, a.eval x = .pointer (some (ad.add off)) →
      (∀ j y, cs[j]? = some y → ∃ u, w.cell? (ad.add j) = some u ∧ Rep1 w ok σ S.G y u ∧ u.oneCell' = true) → partK (T t) cs off (fun r => K r [] d) → Done P W0 S o a w K := by
    intro ad cs off d hp hcell hh
    obtain ⟨v, r, h1, h2, h3⟩ := part_load hT hk hcell hh
    refine done_pure hC (v := v) ?_ h2 h3
    simp [execOp, ho, Instr.loadAt, Instr.sureAddr, hp, h1]
  split at h
  · rename_i b g off hev
    rw [hev] at hx
    split at h
    · rename_i g' cs hb
      obtain ⟨rfl, h⟩ := h
      have hbs := blk_some hb (fun g e => by cases e)
      obtain ⟨n, arr, ty, e1, _, _, e2, e3, e4⟩ := hC.blk b _ hbs
      obtain ⟨_, m, e5, e6⟩ := hx
      rw [e1] at e5
      obtain rfl : n = m := by injection e5 with e5; injection e5 with e5; injection e5
      refine fin (ad := ⟨n, 0, none⟩) (by rw [add_at, Nat.zero_add]; exact e6) (fun j y hy => ?_) h
      have hj : j < arr.size := by rw [e3]; exact (List.getElem?_eq_some_iff.1 hy).1
      have hc := cell_of_row w n j arr ty (0, 0) e2
      refine ⟨arr[j], by rw [add_at, Nat.zero_add, hc]; exact Array.getElem?_eq_getElem hj, e4 j _ y (Array.getElem?_eq_getElem hj) hy⟩
    · exact h.elim
  · rename_i cs hev
    rw [hev] at hx
    obtain ⟨ad, e1, e2, e3⟩ := hx
    refine fin (ad := ad) (off := 0) (by rw [e1]; simp [Addr.add]) (fun j y hy => ?_) h
    rw [List.getElem?_map] at hy
    obtain ⟨z, hz, rfl⟩ := Option.map_eq_some_iff.1 hy
    obtain ⟨u, hu, hr⟩ := e3 j z hz
    exact ⟨u, hu, hr, oneCell_of_RepI hr⟩
  · rename_i b g sz k off hev
    rw [hev] at hx
    split at h
    · rename_i g' E sz' es hb
      obtain ⟨rfl, rfl, e, he, h⟩ := h
      have hbs := blk_some hb (fun g e => by cases e)
      obtain ⟨xs, e1, e2, _, e4⟩ := hC.blk b _ hbs
      obtain ⟨_, m, l, c, e5, e6⟩ := hx
      refine fin (ad := ⟨m, k * sz', none⟩) (off := off) (by rw [add_at]; exact e6) (fun j y hy => ?_) h
      rw [List.getElem?_map] at hy
      obtain ⟨z, hz, rfl⟩ := Option.map_eq_some_iff.1 hy
      obtain ⟨u, hu, hr, ho⟩ := e4 k e j z he hz
      exact ⟨u, by rw [add_at]; exact row_cells e1 e5 _ _ hu, hr, ho⟩
    · exact h.elim
  · exact h.elim

theorem done_field (hT : TabOk P T) (hC : Conf W0 ok σ S a w) {s f : Nat} {x : Operand} (ho : o.op = .fieldAddr s x f) (h : effField T s (S.ev x) f K) : Done P W0 S o a w K := by
  have hx := ev_rep hC x
  unfold effField at h
  split at h
  case h_2 => exact h.elim
  rename_i fs hs
  split at h
  case h_2 => exact h.elim
  rename_i oo ft hf
  have hk : (T ft).k ≠ .none := fun e => by rw [e] at h; exact h
  split at h
  · exact h.elim
  case h_3 => exact h.elim
  rename_i hsz _
  have hsz' : (T ft).size ≠ 0 := by have := Nat.le_of_ble_eq_true hsz; omega
  have hd := hT.desc s
  rw [hs] at hd
  obtain ⟨F, hu, hF⟩ := hd
  rw [nthO_eq] at hf
  have hfld : ∃ fld : Field, F[f]? = some fld ∧ fld.offset = oo ∧ fld.type = ft := by
    rw [← hF, List.getElem?_map] at hf
    obtain ⟨fld, h1, h2⟩ := Option.map_eq_some_iff.1 hf
    injection h2 with h2 h3
    exact ⟨fld, by rw [← Array.getElem?_toList]; exact h1, h2, h3⟩
  obtain ⟨fld, hfl, rfl, rfl⟩ := hfld
  have run : ∀ ad : Addr, a.eval x = .pointer (some ad) → (execOp a.eval o).run P w = .ok (.value (.pointer (some (ad.add fld.offset)))) w := by
    intro ad hp
    simp [execOp, ho, Instr.fieldAt, run_underlying hu, hfl, hp, Instr.sureAddr, fieldPlace, run_sizeT hT hk, hsz']
  split at h
  · rename_i b g off hev
    rw [hev] at hx
    obtain ⟨h1, n, h2, h3⟩ := hx
    exact done_pure hC (r := .v (.c (.ptr b g (off + fld.offset)))) (run _ h3) ⟨h1, n, h2, by rw [add_at]⟩ h
  · rename_i b g sz k off hev
    rw [hev] at hx
    obtain ⟨h1, n, l, c, h2, h3⟩ := hx
    exact done_pure hC (r := .v (.c (.eptr b g sz k (off + fld.offset)))) (run _ h3) ⟨h1, n, l, c, h2, by rw [add_at, Nat.add_assoc]⟩ h
  · rename_i cs hev
    rw [hev] at hx
    obtain ⟨ad, h1, h2, h3⟩ := hx
    refine done_pure hC (r := .v (.c (.pim (cs.drop fld.offset)))) (run _ h1) ⟨_, rfl, by rw [add_block]; exact h2, fun j y hy => ?_⟩ h
    rw [List.getElem?_drop] at hy
    obtain ⟨u, hu, hr⟩ := h3 _ y hy
    exact ⟨u, by rw [add_add']; exact hu, hr⟩
  · exact h.elim

theorem toNat_lt {n : Int} {m : Nat} (h0 : 0 ≤ n) (h : n.toNat < m) : n < (m : Int) := by omega

theorem done_index (hT : TabOk P T) (hC : Conf W0 ok σ S a w) {t : Nat} {x i : Operand} (ho : o.op = .indexAddr t x i) (h : effIndex T S.blk t (S.ev x) (S.ev i) K) : Done P W0 S o a w K := by
  have hx := ev_rep hC x
  have hi := ev_rep hC i
  unfold effIndex at h
  split at h
  case h_2 => exact h.elim
  rename_i k n hev
  rw [hev] at hi
  have hi' : a.eval i = .int k n := RepI_sc hi
  clear hi
  split at h
  case h_3 => exact h.elim
  · rename_i e hs
    have hd := hT.desc t
    rw [hs] at hd
    have hd' : P.underlying t = some (.slice e) := hd
    have hk : (T e).k ≠ .none := fun e' => by rw [e'] at h; exact h
    have run : ∀ (ad : Addr) (l c : Nat), a.eval x = .slice (some ad) l c → 0 ≤ n → n < (l : Int) →
        (execOp a.eval o).run P w = .ok (.value (.pointer (some (ad.add (n.toNat * (T e).size))))) w := by
      intro ad l c hp h0 hl
      simp [execOp, ho, Instr.indexAt, hi', asIntOf, run_underlying hd', hp, h0, hl, run_sizeT hT hk]
    have immut : ∀ {es : List (List IV)} {z : List IV} {d : List Nat}, RepI w ok (.sl es) (a.eval x) → 0 ≤ n → es[n.toNat]? = some z → z.length = (T e).size → K (.v (.c (.pim z))) [] d → Done P W0 S o a w K := by
      intro es z d hr h0 hz hl hK
      have hlt : n.toNat < es.length := (List.getElem?_eq_some_iff.1 hz).1
      generalize hv : a.eval x = xv at hr
      cases hr with
      | nil A c hm => simp at hlt
      | sl es sz ad c f hok hc hm hlen hcell hr =>
        have hsz : sz = (T e).size := by rw [← hl]; exact (hlen z (List.mem_of_getElem? hz)).symm
        subst hsz
        refine done_pure hC (r := .v (.c (.pim z))) (run ad es.length c hv h0 (toNat_lt h0 hlt)) ⟨_, rfl, by rw [add_block]; exact hok, fun j y hy => ?_⟩ hK
        have hj : j < z.length := (List.getElem?_eq_some_iff.1 hy).1
        refine ⟨f (n.toNat * (T e).size + j), ?_, hr _ _ _ _ hz hy⟩
        rw [add_add']
        refine hcell _ ?_
        have h1 : (n.toNat + 1) * (T e).size ≤ es.length * (T e).size := Nat.mul_le_mul_right _ hlt
        rw [Nat.add_mul, Nat.one_mul] at h1
        omega
    split at h
    · exact h.elim
    split at h
    · rename_i es hev'
      rw [hev'] at hx
      obtain ⟨h0, z, hz, hl, hK⟩ := h
      exact immut hx h0 hz hl hK
    · rename_i b g hev'
      rw [hev'] at hx
      obtain ⟨hg, hv, _⟩ := hx
      split at h
      · rename_i g' E sz es hb
        obtain ⟨rfl, rfl, h0, hlt, hK⟩ := h
        have hbs := blk_some hb (fun g e => by cases e)
        obtain ⟨xs, e1, _⟩ := hC.blk b _ hbs
        rcases e1.2 with ⟨_, e2⟩ | ⟨m, cap, cur, e2, _⟩
        · omega
        · refine done_pure hC (r := .v (.c (.eptr b g' (T e).size n.toNat 0))) (run ⟨m, 0, none⟩ es.length cap (by rw [hv, e2]) h0 (toNat_lt h0 hlt)) ⟨hg, m, es.length, cap, e2, by rw [add_at]; simp⟩ hK
      · rename_i g' es hb
        obtain ⟨rfl, h0, z, hz, hl, hK⟩ := h
        have hbs := blk_some hb (fun g e => by cases e)
        have hR : RepI w ok (.sl es) (σ b g') := hC.blk b _ hbs
        rw [← hv] at hR
        exact immut hR h0 hz hl hK
      · exact h.elim
    · exact h.elim
  · rename_i len e hs
    have hd := hT.desc t
    rw [hs] at hd
    have hd' : P.underlying t = some (.array len e) := hd
    have hk : (T e).k ≠ .none := fun e' => by rw [e'] at h; exact h
    have run : ∀ (ad : Addr), a.eval x = .pointer (some ad) → 0 ≤ n → n < (len : Int) →
        (execOp a.eval o).run P w = .ok (.value (.pointer (some (ad.add (n.toNat * (T e).size))))) w := by
      intro ad hp h0 hl
      simp [execOp, ho, Instr.indexAt, hi', asIntOf, run_underlying hd', hp, h0, hl, Instr.sureAddr, run_sizeT hT hk]
    split at h
    · exact h.elim
    split at h
    · rename_i b g off hev'
      rw [hev'] at hx
      obtain ⟨h1, m, h2, h3⟩ := hx
      obtain ⟨h0, hlt, hK⟩ := h
      exact done_pure hC (r := .v (.c (.ptr b g (off + n.toNat * (T e).size)))) (run _ h3 h0 (toNat_lt h0 hlt)) ⟨h1, m, h2, by rw [add_at]⟩ hK
    · rename_i cs hev'
      rw [hev'] at hx
      obtain ⟨ad, h1, h2, h3⟩ := hx
      obtain ⟨h0, hlt, hK⟩ := h
      refine done_pure hC (r := .v (.c (.pim (cs.drop (n.toNat * (T e).size))))) (run _ h1 h0 (toNat_lt h0 hlt)) ⟨_, rfl, by rw [add_block]; exact h2, fun j y hy => ?_⟩ hK
      rw [List.getElem?_drop] at hy
      obtain ⟨u, hu, hr⟩ := h3 _ y hy
      exact ⟨u, by rw [add_add']; exact hu, hr⟩
    · exact h.elim

/-- A new block of cells for an entry. -/
theorem done_new (hC : Conf W0 ok σ S a w) {d : Nat} (hd : d < S.h.length) {arr : Array Value} {ty : TypeId} {cs : List AV1} {r : AT}
    (hrun : (execOp a.eval o).run P w = .ok (.value (.pointer (some ⟨w.heap.size, 0, none⟩))) (w.alloc (.cells arr ty)))
    (hs : arr.size = cs.length) (hc : ∀ (j : Nat) u x, arr[j]? = some u → cs[j]? = some x → Rep1 w ok σ S.G x u ∧ u.oneCell' = true)
    (hr : r = .v (.c (.ptr d ((S.blk d).gen + 1) 0))) {ds : List Nat} (hK : K r [(d, .var ((S.blk d).gen + 1) cs)] ds) : Done P W0 S o a w K := by
  rw [← blk_gen] at hr hK
  refine ⟨_, _, r, _, ds, Or.inl hrun, hK, by simp [hd], ok, fun b g => if b = d ∧ g = S.G d + 1 then .pointer (some ⟨w.heap.size, 0, none⟩) else σ b g, ?_⟩
  have hσ : ∀ c g, g ≤ S.G c → (if c = d ∧ g = S.G d + 1 then Value.pointer (some ⟨w.heap.size, 0, none⟩) else σ c g) = σ c g := by
    intro c g hg
    rw [if_neg]
    rintro ⟨rfl, rfl⟩
    omega
  have hGd : (S.put none (.v (.c .un)) [(d, Blk.var (S.G d + 1) cs)]).G d = S.G d + 1 := by simp [St.G, St.put, hd, Blk.gen]
  have hL : Later w (w.alloc (.cells arr ty)) ok ok σ (fun b g => if b = d ∧ g = S.G d + 1 then .pointer (some ⟨w.heap.size, 0, none⟩) else σ b g) S.G (S.put none (.v (.c .un)) [(d, Blk.var (S.G d + 1) cs)]).G := by
    refine ⟨fun _ h => h, fun k hk => Below.heap_alloc w _ k (hC.okb k hk), fun c => ?_, hσ⟩
    by_cases hc : c = d
    · subst hc; rw [hGd]; omega
    · simp [St.G, St.put, List.getElem?_set_ne (fun e => hc e.symm)]
  refine hC.step (row := none) (World.grownBy_alloc w _ none) (by simp) (fun _ h => h) (fun k hk => by have := hC.okb k hk; simp; omega) (fun _ h => Or.inl h) hd (by simp [Blk.gen]) hσ ?_ ?_ ?_
  · refine ⟨w.heap.size, arr, ty, by simp, Or.inl hC.below.size, fun hk => by have := hC.okb _ hk; omega, heap_alloc_new w _, hs, fun j u x hu hx => ⟨Rep1.mono hL (hc j u x hu hx).1, (hc j u x hu hx).2⟩⟩
  · intro n hn c C hc hC' hn'
    have e : n = w.heap.size := by simpa [Blk.at, Value.blkNo, eq_comm] using hn
    have := (at_bounds (hC.blk c C hC') hn').2.1
    omega
  · rw [hr]
    exact ⟨by rw [hGd]; exact Nat.le_refl _, w.heap.size, by simp, rfl⟩

def effAlloc (T : Nat → TI) (H : Nat → Blk) (n : Nat) (dst : Option Tmp) (t : Nat) (K : Kont) : Prop :=
  match (T t).k with
  | .none => False
  | _ => match dst with
    | none => False
    | some d => match Nat.blt d n with
      | true => genK (H d) fun g => K (.v (.c (.ptr d (g + 1) 0))) [(d, .var (g + 1) (T t).zero)] [d]
      | false => False

def effBox (T : Nat → TI) (H : Nat → Blk) (n : Nat) (dst : Option Tmp) (t : Nat) (x : AT) (K : Kont) : Prop :=
  match (T t).k with
  | .none => False
  | _ => match dst with
    | none => False
    | some d => match Nat.blt d n with
      | true => match x with
        | .v (.agg cs) => match cs.all AV1.known with
          | true => genK (H d) fun g => K (.v (.c (.ptr d (g + 1) 0))) [(d, .var (g + 1) cs)] [d]
          | false => False
        | .v (.c y) => match y.known with
          | true => genK (H d) fun g => K (.v (.c (.ptr d (g + 1) 0))) [(d, .var (g + 1) [y])] [d]
          | false => False
        | .tup _ => False
      | false => False

theorem cells_one {v : Value} (h : v.oneCell' = true) : v.cells = #[v] := by cases v <;> first | rfl | cases h
theorem oneCell_of_known {x : AV1} {v : Value} (hx : Rep1 w ok σ S.G x v) (hk : x.known = true) : v.oneCell' = true := by
  cases x with
  | i x => exact oneCell_of_RepI hx
  | nl => rw [show v = .slice none 0 0 from hx]; rfl
  | ptr b g off => obtain ⟨_, n, _, rfl⟩ := hx; rfl
  | own b g => exact hx.2.2
  | eptr b g sz k off => obtain ⟨_, n, l, c, _, rfl⟩ := hx; rfl
  | pim cs => obtain ⟨ad, rfl, _⟩ := hx; rfl
  | slx es => obtain ⟨A, rfl, _⟩ := hx; rfl
  | sly es c => obtain ⟨A, rfl, _⟩ := hx; rfl
  | osub b g sz lo hi => obtain ⟨_, A, A', n, c, _, _, _, _, rfl, _⟩ := hx; rfl
  | clo f ps => obtain ⟨vs, rfl, _⟩ := hx; rfl
  | lit b => rw [show v = .bool b from hx]; rfl
  | bl => obtain ⟨b, rfl⟩ := hx; rfl
  | un => cases hk

theorem zeros_rep {z : Value} {zs : List AV1} (hz : z.cells.toList.map some = zs.map zcell) (h1 : z.cells.all (·.oneCell') = true) {w : World} {ok : Nat → Prop} {σ : Nat → Nat → Value} {G : Nat → Nat} :
    z.cells.size = zs.length ∧ ∀ (j : Nat) u x, z.cells[j]? = some u → zs[j]? = some x → Rep1 w ok σ G x u ∧ u.oneCell' = true := by
  have hl : z.cells.size = zs.length := by have := congrArg List.length hz; simpa using this
  refine ⟨hl, fun j u x hu hx => ?_⟩
  have ho : u.oneCell' = true := by
    have hm := Array.mem_of_getElem? hu
    rw [Array.all_eq_true_iff_forall_mem] at h1
    exact h1 u hm
  refine ⟨zcell_rep ?_ ho, ho⟩
  have e := congrArg (fun l : List (Option Value) => l[j]?) hz
  simp only [List.getElem?_map, Array.getElem?_toList, hu, hx, Option.map_some] at e
  injection e with e
  exact e.symm

theorem done_alloc (hT : TabOk P T) (hC : Conf W0 ok σ S a w) {t : Nat} (ho : o.op = .alloc t) (h : effAlloc T S.blk S.h.length o.dst t K) : Done P W0 S o a w K := by
  unfold effAlloc at h
  have hk : (T t).k ≠ .none := fun e => by rw [e] at h; exact h
  split at h
  · exact h.elim
  split at h
  · exact h.elim
  split at h
  case h_2 => exact h.elim
  rename_i d _ _ hd
  have hd' : d < S.h.length := by rw [Nat.blt_eq] at hd; exact hd
  obtain ⟨z, h1, h2, h3, h4⟩ := run_zeroT hT hk w
  obtain ⟨hs, hc⟩ := zeros_rep (w := w) (ok := ok) (σ := σ) (G := S.G) h2 h4
  exact done_new hC hd' (arr := z.cells) (ty := t) (by simp [execOp, ho, Instr.alloc, h1, newVar, newRow]) hs hc rfl (by rw [genK_eq] at h; exact h)

theorem done_box (hC : Conf W0 ok σ S a w) {t : Nat} {x : Operand} (ho : o.op = .box t x) (h : effBox T S.blk S.h.length o.dst t (S.ev x) K) : Done P W0 S o a w K := by
  have hx := ev_rep hC x
  unfold effBox at h
  split at h
  · exact h.elim
  split at h
  · exact h.elim
  split at h
  case h_2 => exact h.elim
  rename_i d _ _ hd
  have hd' : d < S.h.length := by rw [Nat.blt_eq] at hd; exact hd
  split at h
  · rename_i cs hev
    rw [hev] at hx
    split at h
    · obtain ⟨arr, e1, e2, e3⟩ := hx
      exact done_new hC hd' (arr := arr) (ty := t) (by simp [execOp, ho, Instr.box, newVar, newRow, e1, Value.cells]) e2 e3 rfl (by rw [genK_eq] at h; exact h)
    · exact h.elim
  · rename_i y hev
    rw [hev] at hx
    split at h
    · rename_i hkn
      have h1 := oneCell_of_known hx hkn
      refine done_new hC hd' (arr := #[a.eval x]) (ty := t) (by simp [execOp, ho, Instr.box, newVar, newRow, cells_one h1]) rfl (fun j u y' hu hy => ?_) rfl (by rw [genK_eq] at h; exact h)
      cases j with
      | zero =>
        simp at hu hy
        subst hu hy
        exact ⟨hx, h1⟩
      | succ j => simp at hy
    · exact h.elim
  · exact h.elim

theorem splice_get {α : Type} (l : List α) (n : Nat) (ys : List α) (h : n + ys.length ≤ l.length) (j : Nat) : (splice l n ys)[j]? = if n ≤ j ∧ j < n + ys.length then ys[j - n]? else l[j]? := by
  induction l generalizing n ys j with
  | nil =>
    cases ys with
    | nil => simp [splice] <;> omega
    | cons y ys => simp at h
  | cons x l ih =>
    cases ys with
    | nil => simp [splice] <;> omega
    | cons y ys =>
      cases n with
      | zero =>
        cases j with
        | zero => simp [splice]
        | succ j =>
          simp only [splice, List.getElem?_cons_succ]
          rw [ih 0 ys (by simp at h ⊢; omega)]
          simp
      | succ n =>
        cases j with
        | zero => simp [splice]
        | succ j =>
          simp only [splice, List.getElem?_cons_succ]
          rw [ih n (y :: ys) (by simp at h ⊢; omega)]
          simp only [List.length_cons]
          by_cases hc : n ≤ j ∧ j < n + (ys.length + 1)
          · rw [if_pos hc, if_pos (by omega), show j + 1 - (n + 1) = j - n by omega]
          · rw [if_neg hc, if_neg (by omega)]

theorem splice_eq {α : Type} (l : List α) (n : Nat) (ys : List α) (h : n + ys.length ≤ l.length) : splice l n ys = l.take n ++ ys ++ l.drop (n + ys.length) := by
  apply List.ext_getElem?
  intro j
  rw [splice_get l n ys h, List.append_assoc, List.getElem?_append, List.getElem?_append]
  have hl : (l.take n).length = n := by rw [List.length_take]; omega
  rw [hl, List.getElem?_take, List.getElem?_drop]
  by_cases h1 : j < n
  · rw [if_neg (by omega), if_pos h1, if_pos h1]
  · rw [if_neg h1]
    by_cases h2 : j - n < ys.length
    · rw [if_pos (by omega), if_pos h2]
    · rw [if_neg (by omega), if_neg h2]
      congr 1
      omega
theorem splice_length {α : Type} (l : List α) (n : Nat) (ys : List α) (h : n + ys.length ≤ l.length) : (splice l n ys).length = l.length := by
  rw [splice_eq l n ys h]
  simp
  omega

theorem cells_of_T {x : AT} {v : Value} {cs : List AV1} (hx : RepT w ok σ S.G x v) (hc : cellsT x = some cs) (hk : cs.all AV1.known = true) :
    v.cells.size = cs.length ∧ ∀ (j : Nat) u y, v.cells[j]? = some u → cs[j]? = some y → Rep1 w ok σ S.G y u ∧ u.oneCell' = true := by
  cases x with
  | tup xs => cases hc
  | v x =>
    cases x with
    | agg cs' =>
      simp [cellsT] at hc
      subst hc
      obtain ⟨arr, rfl, h1, h2⟩ := hx
      exact ⟨h1, h2⟩
    | c y =>
      simp [cellsT] at hc
      subst hc
      have hy : y.known = true := by simpa using hk
      have h1 := oneCell_of_known hx hy
      rw [cells_one h1]
      refine ⟨rfl, fun j u y' hu hy' => ?_⟩
      cases j with
      | zero =>
        simp at hu hy'
        subst hu hy'
        exact ⟨hx, h1⟩
      | succ j => simp at hy'

/-- A mark that no cell of a row lies under. -/
def Clear (fz : Nat × Nat) (n : Nat) : Prop := fz = (0, 0) ∨ n ≤ fz.1
theorem run_storeCells_G (P : Program) (g o : Nat) (t : TypeId) (fz : Nat × Nat) : ∀ (vs : List Value) (i : Nat) (cur : Array Value) (w : World), w.heap[g]? = some (.cells cur t fz) → Clear fz cur.size → o + i + vs.length ≤ cur.size → (∀ v ∈ vs, v.oneCell' = true) →
    (storeCells ⟨g, o, none⟩ vs i).run P w = .ok () (w.setRow g (cur.toList.take (o + i) ++ vs ++ cur.toList.drop (o + i + vs.length)).toArray)
  | [], i, cur, w, hg, _, _, _ => by
    simp only [storeCells, List.append_nil, List.length_nil, Nat.add_zero, List.take_append_drop, Array.toArray_toList]
    rw [setRow_self w g cur t fz hg]
    rfl
  | v :: rest, i, cur, w, hg, hfz, hl, h1 => by
    have hi : o + i < cur.size := by simp at hl; omega
    have hadd : (⟨g, o, none⟩ : Addr).add i = ⟨g, o + i, none⟩ := by unfold Addr.add; split <;> simp_all
    have hcell : w.cell? ⟨g, o + i, none⟩ = some cur[o + i] := by simp [World.cell?, hg, hi]
    have hfro : w.frozen? ⟨g, o + i, none⟩ = false := by
      obtain ⟨lo, hi'⟩ := fz
      rcases hfz with hfz | hfz
      · injection hfz with e1 e2
        subst e1 e2
        simp [World.frozen?, hg]
      · simp only [World.frozen?, hg, Bool.and_eq_false_iff, decide_eq_false_iff_not]
        left
        simp only at hfz
        omega
    have hst : (store ((⟨g, o, none⟩ : Addr).add i) v).run P w = .ok () (w.setRow g (cur.setIfInBounds (o + i) v)) := by
      rw [hadd, run_store P w _ v _ (h1 v (by simp)), hcell]
      simp [hfro, setCell_eq_setRow w g (o + i) cur t fz v hg]
    have ih := run_storeCells_G P g o t fz rest (i + 1) (cur.setIfInBounds (o + i) v) (w.setRow g (cur.setIfInBounds (o + i) v)) (setRow_heap w g cur _ t _ hg) (by simpa using hfz) (by simp at hl ⊢; omega) (fun x hx => h1 x (by simp [hx]))
    simp only [storeCells, Sem.run_bind, hst, Result.andThen_ok, ih, setRow_setRow]
    congr 3
    have e := list_seg_step cur.toList (o + i) v rest (by simp at hl ⊢; omega)
    simpa [Array.toList_setIfInBounds, Nat.add_assoc] using e
theorem run_storeT (hT : TabOk P T) {t : Nat} (hk : (T t).k ≠ .none) {m off : Nat} {cur : Array Value} {ty : TypeId} {v : Value} {fz : Nat × Nat} (hg : w.heap[m]? = some (.cells cur ty fz)) (hs : v.cells.size = (T t).size) (hf : off + v.cells.size ≤ cur.size)
    (h1 : ∀ u ∈ v.cells, u.oneCell' = true) {x y : Operand} (ho : o.op = .store t x y) (hx : a.eval x = .pointer (some ⟨m, off, none⟩)) (hy : a.eval y = v) (hfz : Clear fz cur.size := by exact Or.inl rfl) :
    (execOp a.eval o).run P w = .ok .skip (w.setRow m (splice cur.toList off v.cells.toList).toArray) := by
  have hst := run_storeCells_G P m off ty fz v.cells.toList 0 cur w hg hfz (by simpa using hf) (fun u hu => h1 u (by simpa using hu))
  rw [Nat.add_zero] at hst
  have e : splice cur.toList off v.cells.toList = cur.toList.take off ++ v.cells.toList ++ cur.toList.drop (off + v.cells.toList.length) := splice_eq _ _ _ (by simpa using hf)
  rw [← e] at hst
  simp [execOp, ho, Instr.storeAt, hx, hy, Instr.sureAddr, storeVar, run_sizeT hT hk, hs, hst]

theorem grown_setRow (w : World) (m : Nat) (cs : Array Value) : w.grownBy (w.setRow m cs) (some m) :=
  ⟨rfl, rfl, rfl, by simp, fun k _ hne => setRow_other w m k cs (fun e => hne (by rw [e]))⟩

theorem allI_spec {l : List AV1} {m : List IV} (h : allI l = some m) : l.length = m.length ∧ ∀ (j : Nat) x y, l[j]? = some x → m[j]? = some y → ∀ v, Rep1 w ok σ S.G x v → RepI w ok y v := by
  induction l generalizing m with
  | nil => simp [allI] at h; subst h; exact ⟨rfl, fun j x y hx => by simp at hx⟩
  | cons z l ih =>
    cases z with
    | i z =>
      simp only [allI] at h
      split at h
      · rename_i m' hm
        injection h with h
        subst h
        obtain ⟨h1, h2⟩ := ih hm
        refine ⟨by simp [h1], fun j x y hx hy v hv => ?_⟩
        cases j with
        | zero => simp at hx hy; subst hx hy; exact hv
        | succ j => exact h2 j x y (by simpa using hx) (by simpa using hy) v hv
      · cases h
    | nl =>
      simp only [allI] at h
      split at h
      · rename_i m' hm
        injection h with h
        subst h
        obtain ⟨h1, h2⟩ := ih hm
        refine ⟨by simp [h1], fun j x y hx hy v hv => ?_⟩
        cases j with
        | zero =>
          simp at hx hy
          subst hx hy
          rw [show v = .slice none 0 0 from hv]
          exact RepI.nil _ _ (Nat.zero_le _)
        | succ j => exact h2 j x y (by simpa using hx) (by simpa using hy) v hv
      · cases h
    | _ => simp [allI] at h

theorem allI_known {l : List AV1} {m : List IV} (h : allI l = some m) : l.all AV1.known = true := by
  induction l generalizing m with
  | nil => rfl
  | cons z l ih =>
    cases z <;> simp only [allI] at h <;> first
      | (split at h
         · rename_i m' hm
           simp [AV1.known, ih hm]
         · cases h)
      | cases h

theorem done_storeG (hT : TabOk P T) (hC : Conf W0 ok σ S a w) {t : Nat} {x y : Operand} {yv : AT} (hy : RepT w ok σ S.G yv (a.eval y)) (ho : o.op = .store t x y) (h : effStore T S.blk t (S.ev x) yv K) (hdst : o.dst = none) : Done P W0 S o a w K := by
  have hx := ev_rep hC x
  unfold effStore at h
  have hk : (T t).k ≠ .none := fun e => by rw [e] at h; exact h
  split at h
  · exact h.elim
  split at h
  · exact h.elim
  rename_i ys hys
  split at h
  · exact h.elim
  rename_i hlen
  have hlen' : ys.length = (T t).size := Nat.eq_of_beq_eq_true hlen
  split at h
  · rename_i b g off hev
    rw [hev] at hx
    split at h
    · rename_i g' cs hb
      obtain ⟨rfl, h⟩ := h
      split at h
      · rename_i hfit hkn
        simp only [lay_eq] at h
        have hfit' := Nat.le_of_ble_eq_true hfit
        have hbs := blk_some hb (fun g e => by cases e)
        have hbl : b < S.h.length := (List.getElem?_eq_some_iff.1 hbs).1
        obtain ⟨n, arr, ty, e1, e0, eno, e2, e3, e4⟩ := hC.blk b _ hbs
        obtain ⟨_, m, e5, e6⟩ := hx
        rw [e1] at e5
        obtain rfl : n = m := by injection e5 with e5; injection e5 with e5; injection e5
        obtain ⟨k1, k2⟩ := cells_of_T hy hys hkn
        have k1' : (a.eval y).cells.toList.length = ys.length := by simpa using k1
        have hrun := run_storeT hT hk (o := o) (a := a) e2 (by rw [k1, hlen']) (by rw [k1, e3]; exact hfit') (fun u hu => by
          obtain ⟨j, hj, rfl⟩ := Array.getElem_of_mem hu
          exact (k2 j _ ys[j] (Array.getElem?_eq_getElem hj) (List.getElem?_eq_getElem (by omega))).2) ho e6 rfl
        have hgen : S.G b = g' := by rw [blk_gen, hb]; rfl
        have hGe : (S.put none (.v (.c .un)) [(b, Blk.var g' (splice cs off ys))]).G = S.G := by
          funext c
          by_cases hc : c = b
          · subst hc; rw [hgen]; simp [St.G, St.put, hbl, Blk.gen]
          · simp [St.G, St.put, List.getElem?_set_ne (fun e => hc e.symm)]
        have hL : Later w (w.setRow n (splice arr.toList off (a.eval y).cells.toList).toArray) ok ok σ σ S.G S.G :=
          ⟨fun _ h => h, fun k hk' => setRow_other w n k _ (fun e => by subst e; exact eno hk'), fun _ => Nat.le_refl _, fun _ _ _ => rfl⟩
        refine ⟨undef, _, .v (.c .un), _, _, Or.inr ⟨hrun, rfl⟩, h, by simp [hbl], ok, σ, ?_⟩
        refine hC.step (row := some n) (grown_setRow w n _) (fun n' hn' => ?_) (fun _ h => h) (fun k hk' => by simp; exact hC.okb k hk') (fun _ h => Or.inl h) hbl (by rw [hgen]; exact Nat.le_refl _) (fun _ _ _ => rfl) ?_ (fun n' hn' c C hc hC' hn'' => ?_) trivial
        · injection hn' with hn'
          subst hn'
          refine ⟨e0, eno, fun c C hc hC' hn'' => ?_⟩
          exact hC.apart b c _ C hbs hC' (fun e => hc e.symm) n (by simp [Blk.at, e1, Value.blkNo]) hn''
        · rw [hGe]
          refine ⟨n, _, ty, e1, e0, eno, setRow_heap w n arr _ ty (0, 0) e2, ?_, fun j u z hu hz => ?_⟩
          · rw [splice_length cs off ys hfit']
            simp only [List.size_toArray]
            rw [splice_length _ _ _ (by rw [k1']; simpa [e3] using hfit')]
            simpa using e3
          · rw [List.getElem?_toArray, splice_get _ _ _ (by rw [k1']; simpa [e3] using hfit'), k1'] at hu
            rw [splice_get cs off ys hfit'] at hz
            by_cases hin : off ≤ j ∧ j < off + ys.length
            · rw [if_pos hin] at hu hz
              rw [Array.getElem?_toList] at hu
              exact ⟨Rep1.mono hL (k2 _ u z hu hz).1, (k2 _ u z hu hz).2⟩
            · rw [if_neg hin] at hu hz
              rw [Array.getElem?_toList] at hu
              exact ⟨Rep1.mono hL (e4 j u z hu hz).1, (e4 j u z hu hz).2⟩
        · exact hC.apart b c _ C hbs hC' (fun e => hc e.symm) n' hn' hn''
      · exact h.elim
    · exact h.elim
  · rename_i b g sz k off hev
    rw [hev] at hx
    split at h
    · rename_i g' E sz' es hb
      obtain ⟨rfl, rfl, e, he, h⟩ := h
      split at h
      · rename_i zs hfit hzs
        simp only [lay_eq] at h
        have hfit' := Nat.le_of_ble_eq_true hfit
        have hbs := blk_some hb (fun g e => by cases e)
        have hbl : b < S.h.length := (List.getElem?_eq_some_iff.1 hbs).1
        obtain ⟨xs, e1, e2, e3, e4⟩ := hC.blk b _ hbs
        obtain ⟨_, m, l, c, e5, e6⟩ := hx
        have hkl : k < es.length := (List.getElem?_eq_some_iff.1 he).1
        have hel : e.length = sz' := e2 e (List.mem_of_getElem? he)
        obtain ⟨k1, k2⟩ := cells_of_T hy hys (allI_known hzs)
        obtain ⟨z1, z2⟩ := allI_spec (w := w) (ok := ok) (σ := σ) (S := S) hzs
        have k1' : (a.eval y).cells.toList.length = ys.length := by simpa using k1
        rcases e1.2 with ⟨e7, _⟩ | ⟨m', cap, cur, e7, e8, ⟨ty', fz, e9, e9'⟩, e10, e11, e12, e13⟩
        · rw [e7] at e5; cases e5
        have hfz : Clear fz cur.size := by rw [e12]; rcases e9' with ⟨h, _⟩ | ⟨_, h⟩; exact Or.inl h; exact h
        rw [e7] at e5
        obtain rfl : m' = m := by injection e5 with e5; injection e5 with e5; injection e5
        have hks : (k + 1) * sz' ≤ es.length * sz' := Nat.mul_le_mul_right _ hkl
        rw [Nat.add_mul, Nat.one_mul] at hks
        have hcs : es.length * sz' ≤ cap * sz' := Nat.mul_le_mul_right _ e10
        have hfitc : k * sz' + off + (a.eval y).cells.size ≤ cur.size := by rw [k1, e12]; omega
        have hrun := run_storeT hT hk (o := o) (a := a) e9 (by rw [k1, hlen']) hfitc (fun u hu => by
          obtain ⟨j, hj, rfl⟩ := Array.getElem_of_mem hu
          exact (k2 j _ ys[j] (Array.getElem?_eq_getElem hj) (List.getElem?_eq_getElem (by omega))).2) ho e6 rfl hfz
        have hgen : S.G b = g' := by rw [blk_gen, hb]; rfl
        have hGe : (S.put none (.v (.c .un)) [(b, Blk.row g' E sz' (es.set k (splice e off zs)))]).G = S.G := by
          funext c
          by_cases hc : c = b
          · subst hc; rw [hgen]; simp [St.G, St.put, hbl, Blk.gen]
          · simp [St.G, St.put, List.getElem?_set_ne (fun e => hc e.symm)]
        have eno : ¬ ok m' := e3.nok m' (by rw [e7]; rfl)
        refine ⟨undef, _, .v (.c .un), _, _, Or.inr ⟨hrun, rfl⟩, h, by simp [hbl], ok, σ, ?_⟩
        refine hC.step (row := some m') (grown_setRow w m' _) (fun n' hn' => ?_) (fun _ h => h) (fun k hk' => by simp; exact hC.okb k hk') (fun _ h => Or.inl h) hbl (by rw [hgen]; exact Nat.le_refl _) (fun _ _ _ => rfl) ?_ (fun n' hn' c C hc hC' hn'' => ?_) trivial
        · injection hn' with hn'
          subst hn'
          refine ⟨e3.has m' (by rw [e7]; rfl), eno, fun c C hc hC' hn'' => ?_⟩
          exact hC.apart b c _ C hbs hC' (fun e => hc e.symm) m' (by simp [Blk.at, e7, Value.blkNo]) hn''
        · rw [hGe]
          have hxl : xs.length = es.length * sz' := e1.1
          have hfitx : k * sz' + off + (a.eval y).cells.toList.length ≤ xs.length := by rw [k1', hxl]; omega
          refine ⟨splice xs (k * sz' + off) (a.eval y).cells.toList, ⟨by rw [splice_length _ _ _ hfitx, List.length_set, hxl], Or.inr ⟨m', cap, _, by rw [List.length_set]; exact e7, e8, ⟨_, _, setRow_heap w m' cur _ _ _ e9, e9'⟩, by rw [List.length_set]; exact e10, e11, ?_, ?_⟩⟩, fun f hf => ?_, by rw [List.length_set]; exact e3, fun i f j z hf hz => ?_⟩
          · simp only [List.size_toArray]
            rw [splice_length _ _ _ (by simpa using hfitc)]
            simpa using e12
          · rw [List.length_set]
            apply List.ext_getElem?
            intro j
            rw [List.getElem?_take, splice_get _ _ _ (by simpa using hfitc), splice_get _ _ _ hfitx, ← e13]
            by_cases hj : j < es.length * sz'
            · rw [if_pos hj]
              by_cases hin : k * sz' + off ≤ j ∧ j < k * sz' + off + (a.eval y).cells.toList.length
              · rw [if_pos hin, if_pos hin]
              · rw [if_neg hin, if_neg hin, List.getElem?_take, if_pos hj]
            · rw [if_neg hj, if_neg (by rw [k1']; omega), List.getElem?_take, if_neg hj]
          · rcases List.mem_or_eq_of_mem_set hf with hf | hf
            · exact e2 f hf
            · rw [hf, splice_length _ _ _ (by rw [← z1]; exact hfit'), hel]
          · have hRI : ∀ {x : IV} {v : Value}, RepI w ok x v → RepI (w.setRow m' (splice cur.toList (k * sz' + off) (a.eval y).cells.toList).toArray) ok x v :=
              fun h => RepI.mono (fun _ h => h) (fun k' hk' => setRow_other w m' k' _ (fun e => by subst e; exact eno hk')) h
            by_cases hik : i = k
            · subst hik
              have hf' : f = splice e off zs := by
                rw [List.getElem?_set_self hkl] at hf
                injection hf with hf
                exact hf.symm
              subst hf'
              have hjl : j < sz' := by
                have := (List.getElem?_eq_some_iff.1 hz).1
                rw [splice_length _ _ _ (by rw [← z1]; exact hfit'), hel] at this
                exact this
              rw [splice_get _ _ _ (by rw [← z1]; exact hfit')] at hz
              rw [splice_get _ _ _ hfitx]
              by_cases hin : off ≤ j ∧ j < off + zs.length
              · rw [if_pos hin] at hz
                have hlt : j - off < ys.length := by omega
                have hu : (a.eval y).cells[j - off]? = some ((a.eval y).cells[j - off]'(by omega)) := Array.getElem?_eq_getElem (by omega)
                refine ⟨(a.eval y).cells[j - off]'(by omega), ?_, hRI (z2 _ _ z (List.getElem?_eq_getElem hlt) hz _ (k2 _ _ _ hu (List.getElem?_eq_getElem hlt)).1), (k2 _ _ _ hu (List.getElem?_eq_getElem hlt)).2⟩
                rw [if_pos (by rw [k1']; omega), Array.getElem?_toList, show i * sz' + j - (i * sz' + off) = j - off by omega]
                exact hu
              · rw [if_neg hin] at hz
                obtain ⟨u, hu, hr, ho'⟩ := e4 i e j z he hz
                exact ⟨u, by rw [if_neg (by rw [k1']; omega)]; exact hu, hRI hr, ho'⟩
            · have hf' : es[i]? = some f := by rwa [List.getElem?_set_ne (fun e => hik e.symm)] at hf
              obtain ⟨u, hu, hr, ho'⟩ := e4 i f j z hf' hz
              refine ⟨u, ?_, hRI hr, ho'⟩
              have hfl : f.length = sz' := e2 f (List.mem_of_getElem? hf')
              have hjl : j < sz' := by have := (List.getElem?_eq_some_iff.1 hz).1; omega
              rw [splice_get _ _ _ hfitx, if_neg]
              · exact hu
              · rw [k1']
                rcases Nat.lt_or_gt_of_ne hik with hlt | hgt
                · have h1 : (i + 1) * sz' ≤ k * sz' := Nat.mul_le_mul_right _ hlt
                  rw [Nat.add_mul, Nat.one_mul] at h1
                  omega
                · have h1 : (k + 1) * sz' ≤ i * sz' := Nat.mul_le_mul_right _ hgt
                  rw [Nat.add_mul, Nat.one_mul] at h1
                  omega
        · exact hC.apart b c _ C hbs hC' (fun e => hc e.symm) n' hn' hn''
      · exact h.elim
    · exact h.elim
  · exact h.elim
theorem done_store (hT : TabOk P T) (hC : Conf W0 ok σ S a w) {t : Nat} {x y : Operand} (ho : o.op = .store t x y) (h : effStore T S.blk t (S.ev x) (S.ev y) K) (hdst : o.dst = none) : Done P W0 S o a w K := done_storeG hT hC (ev_rep hC y) ho h hdst
end
end Go.Proofs.YtikchieadclbhaaGreatDoor.Ab
