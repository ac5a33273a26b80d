/- Epochs: what valid epochs keep; the victims' grace; the end of retired zones. -/
import Derived.Test.YtijajfldpaadnaaEw
namespace Go.Proofs.Ytijajfldpaadnaa.Ab
set_option linter.unusedVariables false
set_option linter.unusedSimpArgs false
open Go.RowKit

/-- Valid epochs. -/
structure EV (e : Ep) : Prop where
  np : 1 ≤ e.p.length ∧ e.p.length ≤ 4
  gb : 0 ≤ e.g ∧ e.g ≤ 1099511627776
  pins : ∀ x ∈ e.p, x = -1 ∨ (0 ≤ x ∧ (x = e.g ∨ x = e.g - 1))
  zb : ∀ x ∈ e.z, 0 ≤ x.1 ∧ 0 ≤ x.2 ∧ x.2 ≤ e.g
  nd : (e.z.map (·.1)).Nodup
theorem zGo_iff (g : Int) : ∀ (r pre : List (Int × Int)), zGo g pre r = true ↔ (∀ x ∈ r, 0 ≤ x.1 ∧ 0 ≤ x.2 ∧ x.2 ≤ g) ∧ (r.map (·.1)).Nodup ∧ ∀ x ∈ r, ∀ y ∈ pre, y.1 ≠ x.1
  | [], pre => by simp [zGo]
  | x :: r, pre => by
    rw [zGo, Bool.and_eq_true, zGo_iff g r]
    unfold zOk
    rw [Bool.and_eq_true, decide_eq_true_eq, Bool.not_eq_true', List.any_eq_false]
    simp only [znB, beq_iff_eq, List.map_cons, List.nodup_cons, List.mem_cons, List.mem_append, List.mem_singleton, List.mem_map]
    constructor
    · rintro ⟨⟨h1, h2⟩, h3, h4, h5⟩
      refine ⟨?_, ⟨?_, h4⟩, ?_⟩
      · rintro y (rfl | hy)
        · exact h1
        · exact h3 y hy
      · rintro ⟨y, hy, hyx⟩
        exact h5 y hy x (Or.inr (Or.inl rfl)) hyx.symm
      · rintro y (rfl | hy) w hw
        · exact h2 w hw
        · exact h5 y hy w (Or.inl hw)
    · rintro ⟨h1, ⟨h2, h3⟩, h4⟩
      refine ⟨⟨h1 x (Or.inl rfl), fun y hy => h4 x (Or.inl rfl) y hy⟩, fun y hy => h1 y (Or.inr hy), h3, ?_⟩
      rintro y hy w (hw | hw | hw)
      · exact h4 y (Or.inr hy) w hw
      · subst hw; exact fun e => h2 ⟨y, hy, e.symm⟩
      · cases hw
theorem evalid_iff {g : Int} {p : List Int} {z : List (Int × Int)} : evalid g p z = true ↔ EV ⟨g, p, z⟩ := by
  unfold evalid
  rw [Bool.and_eq_true, Bool.and_eq_true, decide_eq_true_eq, List.all_eq_true, zGo_iff]
  constructor
  · rintro ⟨⟨h1, h2, h3, h4⟩, h5, h6, h7, _⟩
    exact ⟨⟨h1, h2⟩, ⟨h3, h4⟩, fun x hx => of_decide_eq_true (h5 x hx), h6, h7⟩
  · rintro ⟨h1, h2, h3, h4, h5⟩
    exact ⟨⟨h1.1, h1.2, h2.1, h2.2⟩, fun x hx => decide_eq_true (h3 x hx), h4, h5, fun x _ y hy => by cases hy⟩
theorem EV.set {e : Ep} (h : EV e) (k : Nat) {v : Int} (hv : v = -1 ∨ v = e.g) : EV { e with p := e.p.set k v } := by
  refine ⟨by simpa using h.np, h.gb, fun x hx => ?_, h.zb, h.nd⟩
  rcases List.mem_or_eq_of_mem_set hx with hx | rfl
  · exact h.pins x hx
  · have := h.gb.1
    rcases hv with hv | hv
    · exact Or.inl hv
    · exact Or.inr ⟨by omega, Or.inl hv⟩
theorem EV.pin {e : Ep} (h : EV e) (s : Int) : EV { e with p := (epin e.g e.p e.z s).1 } := by
  unfold epin
  split
  · exact h.set _ (Or.inr rfl)
  · exact h
theorem EV.unp {e : Ep} (h : EV e) (s : Int) : EV { e with p := (eunp e.g e.p e.z s).1 } := by
  unfold eunp
  split
  · exact h.set _ (Or.inl rfl)
  · exact h
theorem EV.ret {e : Ep} (h : EV e) (n : Int) : EV { e with z := (eret e.g e.p e.z n).1 } := by
  unfold eret
  split
  · rename_i hc
    refine ⟨h.np, h.gb, h.pins, fun x hx => ?_, ?_⟩
    · dsimp only at hx ⊢
      rcases List.mem_append.1 hx with hx | hx
      · exact h.zb x hx
      · simp at hx
        subst hx
        exact ⟨hc.2.1, h.gb.1, Int.le_refl _⟩
    · dsimp only
      rw [List.map_append, List.nodup_append]
      refine ⟨h.nd, by simp, fun a ha b hb => ?_⟩
      simp at hb
      subst hb
      intro hab
      subst hab
      have := any_mem.2 ha
      rw [hc.2.2] at this
      cases this
  · exact h
theorem EV.filter {e : Ep} (h : EV e) (q : Int × Int → Bool) : EV { e with z := e.z.filter q } :=
  ⟨h.np, h.gb, h.pins, fun x hx => h.zb x (List.mem_filter.1 hx).1, (List.filter_sublist.map _).nodup h.nd⟩
theorem EV.fgt {e : Ep} (h : EV e) (n : Int) : EV { e with z := (efgt e.g e.p e.z n).1 } := by
  unfold efgt
  split
  · exact h.filter _
  · exact h
theorem EV.adv {e : Ep} (h : EV e) : EV { e with g := (eadv e.g e.p e.z).1 } := by
  unfold eadv
  split
  · rename_i hc
    have hg := h.gb.1
    refine ⟨h.np, ⟨by dsimp only; omega, by dsimp only; omega⟩, fun x hx => ?_, fun x hx => ?_, h.nd⟩
    · have := List.all_eq_true.1 hc.2.2 x hx
      simp only [advOk, Bool.or_eq_true, beq_iff_eq] at this
      dsimp only
      rcases this with h1 | h1
      · exact Or.inl h1
      · exact Or.inr ⟨by omega, Or.inr (by omega)⟩
    · have := h.zb x hx
      dsimp only
      exact ⟨this.1, this.2.1, by omega⟩
  · exact h
theorem EV.doS {e : Ep} (h : EV e) (k s n : Int) : EV (doS e k s n) := by
  unfold Ab.doS
  split
  · exact h.pin s
  split
  · exact h.unp s
  split
  · exact h.ret n
  split
  · split
    · exact h.fgt _
    · exact h
  · exact h.adv
theorem eadv_le (g : Int) (p : List Int) (z : List (Int × Int)) : g ≤ (eadv g p z).1 ∧ (eadv g p z).1 ≤ g + 1 := by
  unfold eadv
  split <;> dsimp only <;> omega
theorem doS_g (e : Ep) (k s n : Int) : (doS e k s n).g ≤ e.g + 1 := by
  unfold doS
  repeat' split
  all_goals first
    | exact (eadv_le _ _ _).2
    | omega
    | (dsimp only; omega)
/-- The zones' numbers are below six. -/
def z6 (e : Ep) : Prop := ∀ x ∈ e.z, x.1 < 6
theorem z6_doS {e : Ep} (h : z6 e) (k s : Int) {n : Int} (hn : n < 6) : z6 (doS e k s n) := by
  unfold doS
  split
  · exact h
  split
  · exact h
  split
  · intro x hx
    dsimp only at hx
    unfold eret at hx
    split at hx
    · rcases List.mem_append.1 hx with hx | hx
      · exact h x hx
      · simp at hx; subst hx; exact hn
    · exact h x hx
  split
  · split
    · intro x hx
      dsimp only at hx
      unfold efgt at hx
      split at hx
      · exact h x (List.mem_filter.1 hx).1
      · exact h x hx
    · exact h
  · exact h
theorem EV_new (N : Nat) (h : 1 ≤ N ∧ N ≤ 4) : EV ⟨0, List.replicate N (-1), []⟩ := by
  exact ⟨by simpa using h, ⟨by simp, by simp⟩, fun x hx => Or.inl (List.eq_of_mem_replicate hx), fun x hx => (by cases hx), List.nodup_nil⟩
/-- Behind Unpin the slot is free. -/
theorem unp_at {e : Ep} (h : EV e) {k : Nat} (hk : k < e.p.length) : (eunp e.g e.p e.z k).1[k]? = some (-1) := by
  unfold eunp
  by_cases hc : e.p[k] = -1
  · rw [if_neg]
    · dsimp only; rw [List.getElem?_eq_getElem hk, hc]
    · rintro ⟨_, _, _, h4⟩
      rw [Int.toNat_natCast, List.getElem?_eq_getElem hk, hc] at h4
      exact h4 rfl
  · rw [if_pos ⟨evalid_iff.2 h, by omega, by omega, by rw [Int.toNat_natCast, List.getElem?_eq_getElem hk]; simpa using hc⟩, Int.toNat_natCast]
    dsimp only
    rw [List.getElem?_set_self hk]
theorem unp_other {e : Ep} {k j : Nat} (hne : k ≠ j) : (eunp e.g e.p e.z k).1[j]? = e.p[j]? := by
  unfold eunp
  split
  · dsimp only; rw [Int.toNat_natCast, List.getElem?_set_ne hne]
  · rfl
/-- What is kept while a slot stays pinned. -/
structure Gr (G0 : Int) (N : Nat) (e : Ep) : Prop where
  ev : EV e
  len : e.p.length = N
  pin : e.p[0]? = some G0
  z : (99, G0) ∈ e.z
theorem Gr.g {G0 : Int} {N : Nat} {e : Ep} (h : Gr G0 N e) : 0 ≤ G0 ∧ (G0 = e.g ∨ G0 = e.g - 1) := by
  have := h.ev.pins G0 (List.mem_of_getElem? h.pin)
  have h2 := (h.ev.zb _ h.z).2.1
  dsimp only at h2
  omega
theorem nd_eq {z : List (Int × Int)} (h : (z.map (·.1)).Nodup) {x y : Int × Int} (hx : x ∈ z) (hy : y ∈ z) (e : x.1 = y.1) : x = y := by
  induction z with
  | nil => cases hx
  | cons w z ih =>
    rw [List.map_cons, List.nodup_cons] at h
    rcases List.mem_cons.1 hx with hx' | hx' <;> rcases List.mem_cons.1 hy with hy' | hy'
    · rw [hx', hy']
    · exact absurd (List.mem_map.2 ⟨y, hy', by rw [← e, hx']⟩) h.1
    · exact absurd (List.mem_map.2 ⟨x, hx', by rw [e, hy']⟩) h.1
    · exact ih h.2 hx' hy'
theorem Gr.ready {G0 : Int} {N : Nat} {e : Ep} (h : Gr G0 N e) (hr : (erdy e.g e.p e.z).2 = true) : (erdy e.g e.p e.z).1 ≠ 99 := by
  unfold erdy at hr ⊢
  rw [if_pos (evalid_iff.2 h.ev)] at hr ⊢
  cases hf : e.z.find? (rdy (e.g - 2)) with
  | none => rw [hf] at hr; cases hr
  | some x =>
    dsimp only
    intro hx
    have h1 := List.mem_of_find?_eq_some hf
    have h2 : rdy (e.g - 2) x = true := List.find?_some hf
    have h3 := nd_eq h.ev.nd h1 h.z hx
    subst h3
    have h4 := of_decide_eq_true h2
    have := h.g
    dsimp only at h4
    omega
theorem Gr.pin' {G0 : Int} {N : Nat} {e : Ep} (h : Gr G0 N e) {s : Int} (hs : 1 ≤ s) : Gr G0 N { e with p := (epin e.g e.p e.z s).1 } := by
  refine ⟨h.ev.pin s, by rw [← h.len]; exact epin_len _ _ _ _, ?_, h.z⟩
  dsimp only
  unfold epin
  split
  · dsimp only; rw [List.getElem?_set_ne (by omega)]; exact h.pin
  · exact h.pin
theorem Gr.unp {G0 : Int} {N : Nat} {e : Ep} (h : Gr G0 N e) {s : Int} (hs : 1 ≤ s) : Gr G0 N { e with p := (eunp e.g e.p e.z s).1 } := by
  refine ⟨h.ev.unp s, by rw [← h.len]; exact eunp_len _ _ _ _, ?_, h.z⟩
  dsimp only
  unfold eunp
  split
  · dsimp only; rw [List.getElem?_set_ne (by omega)]; exact h.pin
  · exact h.pin
theorem Gr.adv {G0 : Int} {N : Nat} {e : Ep} (h : Gr G0 N e) : Gr G0 N { e with g := (eadv e.g e.p e.z).1 } := ⟨h.ev.adv, h.len, h.pin, h.z⟩
theorem Gr.fgt {G0 : Int} {N : Nat} {e : Ep} (h : Gr G0 N e) : Gr G0 N { e with z := (efgt e.g e.p e.z (erdy e.g e.p e.z).1).1 } := by
  refine ⟨h.ev.fgt _, h.len, h.pin, ?_⟩
  dsimp only
  unfold efgt
  split
  · rename_i hc
    have := h.ready hc.1
    refine List.mem_filter.2 ⟨h.z, ?_⟩
    simp only [zNe, Bool.not_eq_true', beq_eq_false_iff_ne, ne_eq]
    exact fun e => this e.symm
  · exact h.z
theorem Gr.start {e : Ep} {N : Nat} (h : EV e) (hN : e.p.length = N) (h0 : e.p[0]? = some (-1)) (h6 : z6 e) : (epin e.g e.p e.z 0).2 = true ∧ (eret e.g (epin e.g e.p e.z 0).1 e.z 99).2 = true ∧ Gr e.g N ⟨e.g, (epin e.g e.p e.z 0).1, (eret e.g (epin e.g e.p e.z 0).1 e.z 99).1⟩ := by
  have hl : 0 < e.p.length := h.np.1
  have h1 : epin e.g e.p e.z 0 = (e.p.set 0 e.g, true) := by unfold epin; rw [if_pos ⟨evalid_iff.2 h, by omega, by omega, h0⟩]; rfl
  have hev := h.pin 0
  rw [h1] at hev ⊢
  have hany : e.z.any (znB 99) = false := by
    cases ha : e.z.any (znB 99) with
    | false => rfl
    | true =>
      obtain ⟨x, hx, hxe⟩ := List.mem_map.1 (any_mem.1 ha)
      have := h6 x hx
      omega
  have h2 : eret e.g (e.p.set 0 e.g) e.z 99 = (e.z ++ [(99, e.g)], true) := by unfold eret; rw [if_pos ⟨evalid_iff.2 hev, by omega, hany⟩]
  have hev2 := hev.ret 99
  dsimp only at hev2
  rw [h2] at hev2 ⊢
  exact ⟨rfl, rfl, hev2, by simpa using hN, by dsimp only; rw [List.getElem?_set_self hl], by simp⟩
end Go.Proofs.Ytijajfldpaadnaa.Ab
