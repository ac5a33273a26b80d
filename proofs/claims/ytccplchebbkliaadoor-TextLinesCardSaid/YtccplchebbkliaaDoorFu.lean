/- How long the strings of a list can be. No condition. -/
import Derived.Test.YtccplchebbkliaaDoorFs
import Derived.SizedLaws
namespace Go.Proofs.YtccplchebbkliaaDoor.Ab
set_option linter.unusedVariables false
set_option linter.unusedSimpArgs false
open Go.RowKit Go.WideShapes

section
variable {H : Type} {enc : TypeId × Value → H} {P : Program} {T : Nat → TI} {w : World} {base : Nat} {spare : Nat → Bool} {held : Bool}
theorem weights_all {e : TypeId} {n : Nat} : ∀ {l : List (DataW H)} {d : DataW H}, d ∈ l → n ∈ d.weights P e → n ∈ DataW.weightsAll P e l
  | [], d, h, _ => by cases h
  | x :: l, d, h, hn => by
    simp only [DataW.weightsAll, List.mem_append]
    rcases List.mem_cons.1 h with rfl | h
    · exact Or.inl hn
    · exact Or.inr (weights_all h hn)
theorem strs_bound (hT : TabOk P T) {t e : Nat} (hk : (T t).k = .slice e) (he : (T e).k = .str) (hz : (T e).size = 1) {v : Value} {d : DataW H} {p : List MemPlace} (h : DataW.Trod enc P w base spare held t v d p) {B : Nat} (hw : ∀ n ∈ d.weights P t, n ≤ B)
    {ok : Nat → Prop} {ss : List ByteArray} (hr : RepI w ok (.sl (ss.map fun s => [.sc (.string s)])) v) : ∀ s ∈ ss, s.size ≤ B := by
  obtain ⟨fuel, h⟩ := h
  have hv : v.cells.toList = [v] := by
    obtain ⟨A, c, e, _⟩ := slice_of hr
    rw [e]
    rfl
  rw [hv] at h
  have hd := hT.desc t
  rw [hk] at hd
  have hde := hT.desc e
  rw [he] at hde
  have hce : P.cellsOf e = 1 := by rw [cellsOf_eq hT (by rw [he]; intro h; cases h), hz]
  intro s hs
  obtain ⟨k, hkl, rfl⟩ := List.getElem_of_mem hs
  rcases DataW.trod_slice hd h with ⟨e1, _⟩ | ⟨ad, len, cap, elems, rest, n, _, e1, e2, hb, hl, hm, hlen, hel, _, _⟩
  · injection e1 with e1
    subst e1
    generalize hX : (ss.map fun s => [IV.sc (.string s)]) = X at hr
    cases hr with
    | nil A c hm =>
      have := congrArg List.length hX
      simp at this
      rw [this] at hkl
      simp at hkl
  · injection e1 with e1
    subst e1
    generalize hX : (ss.map fun s => [IV.sc (.string s)]) = X at hr
    cases hr with
    | nil A c hm =>
      have := congrArg List.length hX
      simp at this
      rw [this] at hkl
      simp at hkl
    | sl es sz ad c f hok hc hm hlen2 hcell hrr =>
      have hXl : X.length = ss.length := by rw [← hX, List.length_map]
      have h1 := hel k (by omega)
      rw [List.getElem?_eq_getElem (by omega)] at h1
      obtain ⟨ci, hci, h2⟩ := Option.bind_eq_some_iff.1 h1
      obtain ⟨_, c2, c3⟩ := World.cells?_some hci
      rw [hce] at c2 c3
      obtain ⟨s', q1, q2, _⟩ := DataW.trod_string hde h2
      have hx : X[k]? = some [IV.sc (.string ss[k])] := by rw [← hX, List.getElem?_map, List.getElem?_eq_getElem hkl]; rfl
      have hsz1 : sz = 1 := (hlen2 _ (List.mem_of_getElem? hx)).symm
      have hf := RepI_sc (hrr k _ 0 _ hx rfl)
      subst hsz1
      rw [Nat.mul_one, Nat.add_zero] at hf
      have hck := hcell k (by omega)
      have hck2 := c3 0 (by omega)
      rw [Nat.mul_one, q1] at hck2
      rw [show (ad.add k).add 0 = ad.add k by simp [Addr.add]] at hck2
      rw [hck, hf] at hck2
      have hss : s' = ss[k] := by
        simp at hck2
        exact hck2.symm
      have hin : ss[k].data.toList.length ∈ d.weights P t := by
        have e3 : d = .slice (elems.map (·.1)) (rest.map (·.1)) := congrArg Prod.fst e2
        rw [e3]
        simp only [DataW.weights, show P.underlying t = _ from hd]
        refine List.mem_cons_of_mem _ (List.mem_append_left _ (weights_all (d := .lit (.string s'.data.toList)) ?_ ?_))
        · refine List.mem_map.2 ⟨elems[k]'(by omega), List.getElem_mem _, ?_⟩
          rw [q2]
        · rw [hss]
          simp [DataW.weights]
      exact hw _ hin
end
end Go.Proofs.YtccplchebbkliaaDoor.Ab
