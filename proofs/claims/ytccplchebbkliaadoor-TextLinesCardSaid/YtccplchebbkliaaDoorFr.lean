/- How long the arguments of a law can be. No condition. -/
import Derived.Test.YtccplchebbkliaaDoorFq
import Derived.SizedLaws
namespace Go.Proofs.YtccplchebbkliaaDoor.Ab
set_option linter.unusedVariables false
set_option linter.unusedSimpArgs false
open Go.RowKit Go.WideShapes

section
variable {H : Type} {enc : TypeId × Value → H} {P : Program} {T : Nat → TI} {w : World} {base : Nat} {spare : Nat → Bool} {held : Bool}

theorem slice_bound0 (hT : TabOk P T) {t e fuel : Nat} (hk : (T t).k = .slice e) {v : Value} {x : DataW H × List MemPlace} (h : DataW.trod enc P w base spare held fuel t [v] = some x) {B : Nat} (hw : ∀ n ∈ x.1.weights P t, n ≤ B)
    {w2 : World} {ok : Nat → Prop} {es : List (List IV)} (hr : RepI w2 ok (.sl es) v) : es.length * P.bytesOf e ≤ B := by
  have hd := hT.desc t
  rw [hk] at hd
  rcases DataW.trod_slice hd h with ⟨e1, _⟩ | ⟨ad, len, cap, elems, rest, n, _, e1, rfl, hb, hl, hm, hlen, _⟩
  · have : es = [] := by
      injection e1 with e1
      subst e1
      cases hr with
      | nil A c hm => rfl
    subst this
    simp
  · have hle : es.length = len := by
      injection e1 with e1
      subst e1
      cases hr with
      | nil A c hm => rfl
      | sl es sz ad c f hok hc hm hlen hcell hr => rfl
    have := hw ((elems.length + rest.length) * P.bytesOf e) (by simp [DataW.weights, show P.underlying t = _ from hd])
    refine Nat.le_trans ?_ this
    exact Nat.mul_le_mul_right _ (by omega)

theorem slice_bound (hT : TabOk P T) {t e : Nat} (hk : (T t).k = .slice e) {v : Value} {d : DataW H} {p : List MemPlace} (h : DataW.Trod enc P w base spare held t v d p) {B : Nat} (hw : ∀ n ∈ d.weights P t, n ≤ B)
    {w2 : World} {ok : Nat → Prop} {es : List (List IV)} (hr : RepI w2 ok (.sl es) v) : es.length * P.bytesOf e ≤ B := by
  obtain ⟨fuel, h⟩ := h
  have : v.cells.toList = [v] := by cases hr <;> rfl
  rw [this] at h
  exact slice_bound0 hT hk h hw hr

theorem field_bound (hT : TabOk P T) {t e o g : Nat} {fs : List (Nat × Nat)} (hk : (T t).k = .struct fs) (hm : (o, g) ∈ fs) (hg : (T g).k = .slice e) (hz : (T g).size = 1) {cs : Array Value} {d : DataW H} {p : List MemPlace}
    (h : DataW.Trod enc P w base spare held t (.agg cs) d p) {B : Nat} (hw : ∀ n ∈ d.weights P t, n ≤ B) {u : Value} (hu : cs[o]? = some u)
    {w2 : World} {ok : Nat → Prop} {es : List (List IV)} (hr : RepI w2 ok (.sl es) u) : es.length * P.bytesOf e ≤ B := by
  obtain ⟨fuel, h⟩ := h
  have e : (Value.agg cs).cells = cs := rfl
  rw [e] at h
  have hd := hT.desc t
  rw [hk] at hd
  obtain ⟨Fs, hFs, hfs⟩ := hd
  obtain ⟨xs, n, _, hx, hcl, hxl, hxs⟩ := DataW.trod_struct hFs h
  rw [← hfs] at hm
  obtain ⟨G, hG, hGe⟩ := List.mem_map.1 hm
  obtain ⟨i, hi, hgi⟩ := List.getElem_of_mem hG
  have hi' : i < Fs.size := by simpa using hi
  have hgi' : Fs[i]? = some G := by rw [Array.getElem?_eq_getElem hi', ← hgi]; simp
  have h1 := hxs i G hgi'
  injection hGe with g1 g2
  have hc := cellsOf_eq hT (t := g) (by rw [hg]; intro h; cases h)
  rw [g1, g2, hc, hz, List.getElem?_eq_getElem (by omega)] at h1
  have hdt : (cs.toList.drop o).take 1 = [u] := by
    have ho : o < cs.size := (Array.getElem?_eq_some_iff.1 hu).1
    have hu' : cs.toList[o]? = some u := by simpa using hu
    rw [List.drop_eq_getElem_cons (by simpa using ho)]
    simp only [List.take_succ_cons, List.take_zero]
    rw [List.getElem?_eq_getElem (by simpa using ho)] at hu'
    injection hu' with hu'
    rw [hu']
  rw [hdt] at h1
  refine slice_bound0 hT hg h1 (fun m hm => hw m ?_) hr
  have hd1 : d = .agg (xs.map (·.1)) := by injection hx
  rw [hd1]
  simp only [DataW.weights, hFs]
  exact DataW.weights_mem_each (j := i) (t := g) (d := xs[i].1) (by simp [hgi', g2]) (by rw [List.getElem?_map, List.getElem?_eq_getElem (by omega)]; rfl) m hm

theorem bytesOf_eq (hT : TabOk P T) {e : Nat} (hk : (T e).k ≠ .none) : P.bytesOf e = (T e).bytes := by
  obtain ⟨i, z, h1, h2, h3, _⟩ := tab_info hT hk
  simp [Program.bytesOf, h1, h3]
/-- The arguments of a call, one by one. -/
def RepsV (w : World) (ok : Nat → Prop) (σ : Nat → Nat → Value) (G : Nat → Nat) : List Value → List AV → Prop
  | v :: vs, x :: xs => RepV w ok σ G x v ∧ RepsV w ok σ G vs xs
  | [], [] => True
  | _, _ => False
theorem reps_get {ok : Nat → Prop} {σ : Nat → Nat → Value} {G : Nat → Nat} : ∀ {vs : List Value} {xs : List AV}, RepsV w ok σ G vs xs → ∀ (j : Nat) (z : Value) (x : AV), vs.toArray[j]? = some z → xs[j]? = some x → RepV w ok σ G x z
  | v :: vs, y :: xs, h, 0, z, x, hz, hx => by simp at hz hx; subst hz hx; exact h.1
  | v :: vs, y :: xs, h, j + 1, z, x, hz, hx => reps_get h.2 j z x (by simpa using hz) (by simpa using hx)
  | [], _, _, j, z, x, hz, hx => by simp at hz
  | v :: vs, [], h, _, _, _, _, _ => h.elim
end
end Go.Proofs.YtccplchebbkliaaDoor.Ab
