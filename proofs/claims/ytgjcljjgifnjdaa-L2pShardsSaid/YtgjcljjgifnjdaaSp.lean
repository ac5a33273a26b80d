/- Shards: the plain laws. -/
import Derived.Test.YtgjcljjgifnjdaaGe
namespace Go.Proofs.Ytgjcljjgifnjdaa.Ab
set_option linter.unusedVariables false
set_option linter.unusedSimpArgs false

def rightE (e : Ety) : Bool := decide ((e.k = 1 ∨ e.k = 2) ∧ 1 ≤ e.v ∧ e.v ≤ 1099511627776 ∧ 0 ≤ e.m ∧ e.m ≤ 255 ∧ 0 ≤ e.b ∧ 0 ≤ e.z ∧ 0 ≤ e.o)
def sordF (p : Ety) : List Ety → Bool
  | [] => true
  | e :: es => (rightE e && decide (p.b < e.b)) && sordF e es
def svalid : List Ety → Bool
  | [] => true
  | e :: es => rightE e && sordF e es
theorem sordF_iff (es : List Ety) : ∀ p : Ety, sordF p es = true ↔ (∀ x ∈ es, rightE x = true ∧ p.b < x.b) ∧ es.Pairwise (fun a b => a.b < b.b) := by
  induction es with
  | nil => intro p; simp [sordF]
  | cons e es ih =>
    intro p
    simp only [sordF, Bool.and_eq_true, decide_eq_true_eq, ih e, List.mem_cons, List.pairwise_cons]
    constructor
    · rintro ⟨⟨h1, h2⟩, h3, h4⟩
      refine ⟨fun x hx => ?_, fun x hx => (h3 x hx).2, h4⟩
      rcases hx with rfl | hx
      · exact ⟨h1, h2⟩
      · exact ⟨(h3 x hx).1, by have := (h3 x hx).2; omega⟩
    · rintro ⟨h1, h2, h3⟩
      exact ⟨h1 e (Or.inl rfl), fun x hx => ⟨(h1 x (Or.inr hx)).1, h2 x hx⟩, h3⟩
theorem svalid_iff (es : List Ety) : svalid es = true ↔ (∀ x ∈ es, rightE x = true) ∧ es.Pairwise (fun a b => a.b < b.b) := by
  cases es with
  | nil => simp [svalid]
  | cons e es =>
    simp only [svalid, Bool.and_eq_true, sordF_iff, List.mem_cons, List.pairwise_cons]
    constructor
    · rintro ⟨h1, h3, h4⟩
      refine ⟨fun x hx => ?_, fun x hx => (h3 x hx).2, h4⟩
      rcases hx with rfl | hx
      · exact h1
      · exact (h3 x hx).1
    · rintro ⟨h1, h2, h3⟩
      exact ⟨h1 e (Or.inl rfl), fun x hx => ⟨h1 x (Or.inr hx), h2 x hx⟩, h3⟩
theorem asc_get {es : List Ety} (h : svalid es = true) {i j : Nat} (hij : i < j) (hj : j < es.length) : es[i].b < es[j].b := by
  exact (List.pairwise_iff_getElem.1 ((svalid_iff es).1 h).2) i j (by omega) hj hij

/-- The first place whose block is not less. -/
def splace : List Ety → Int → Nat
  | [], _ => 0
  | e :: es, b => if e.b < b then splace es b + 1 else 0
theorem splace_le (es : List Ety) (b : Int) : splace es b ≤ es.length := by
  induction es with
  | nil => simp [splace]
  | cons e es ih => simp only [splace]; split <;> simp <;> omega
theorem splace_lt (es : List Ety) (b : Int) : ∀ {i : Nat} (hi : i < es.length), i < splace es b → es[i].b < b := by
  induction es with
  | nil => intro i hi; simp at hi
  | cons e es ih =>
    intro i hi h
    simp only [splace] at h
    split at h
    · cases i with
      | zero => simpa
      | succ i => exact ih (by simpa using hi) (by omega)
    · omega
theorem splace_ge (es : List Ety) (b : Int) : ∀ (h : splace es b < es.length), b ≤ (es[splace es b]).b := by
  induction es with
  | nil => intro h; simp at h
  | cons e es ih =>
    intro h
    by_cases hb : e.b < b
    · have hs : splace (e :: es) b = splace es b + 1 := by simp only [splace]; rw [if_pos hb]
      have hl : splace es b < es.length := by rw [hs] at h; simpa using h
      have := ih hl
      simp only [hs, List.getElem_cons_succ]
      exact this
    · have hs : splace (e :: es) b = 0 := by simp only [splace]; rw [if_neg hb]
      simp only [hs, List.getElem_cons_zero]
      omega
theorem splace_uniq {es : List Ety} {b : Int} {k : Nat} (hk : k ≤ es.length) (h1 : ∀ j (hj : j < es.length), j < k → es[j].b < b) (h2 : ∀ (h : k < es.length), b ≤ es[k].b) : splace es b = k := by
  have a1 := splace_le es b
  rcases Nat.lt_trichotomy (splace es b) k with h | h | h
  · have := h1 (splace es b) (by omega) h
    have := splace_ge es b (by omega)
    omega
  · exact h
  · have := splace_lt es b (by omega : k < es.length) h
    have := h2 (by omega)
    omega
/-- Is there an entry of the block? -/
def shere (es : List Ety) (b : Int) : Bool := match es[splace es b]? with
  | some x => decide (x.b = b)
  | none => false
def sold (es : List Ety) (b : Int) : Ety := if shere es b then (es[splace es b]?).getD e0 else e0
theorem shere_lt {es : List Ety} {b : Int} (h : shere es b = true) : ∃ hl : splace es b < es.length, (es[splace es b]).b = b ∧ sold es b = es[splace es b] := by
  have h' := h
  unfold shere at h
  split at h
  · rename_i x hx
    obtain ⟨hl, e⟩ := List.getElem?_eq_some_iff.1 hx
    refine ⟨hl, by rw [e]; exact of_decide_eq_true h, ?_⟩
    unfold sold
    rw [h', if_pos rfl, hx, e]; rfl
  · cases h
theorem sold_no {es : List Ety} {b : Int} (h : shere es b = false) : sold es b = e0 := by unfold sold; rw [h]; rfl
theorem shere_no {es : List Ety} {b : Int} (h : shere es b = false) : ∀ (hl : splace es b < es.length), (es[splace es b]).b ≠ b := by
  intro hl e
  unfold shere at h
  rw [List.getElem?_eq_getElem hl] at h
  simp [e] at h

def sfind (es : List Ety) (b : Int) : Ety × Bool := if svalid es then (sold es b, shere es b) else (e0, false)
def sinst (es : List Ety) (e : Ety) : List Ety × Ety × Bool :=
  if svalid es = false then ([], e0, false)
  else if rightE e = false then (es, e0, false)
  else if shere es e.b then
    if (sold es e.b).v ≥ e.v then (es, sold es e.b, false) else (es.set (splace es e.b) e, sold es e.b, true)
  else (es.take (splace es e.b) ++ e :: es.drop (splace es e.b), e0, true)
def srel (es : List Ety) (b v fz fo tz to m : Int) : List Ety × Bool :=
  if svalid es = false then ([], false)
  else if shere es b && (decide ((sold es b).v = v) && (decide ((sold es b).z = fz ∧ (sold es b).o = fo) && (decide (0 ≤ tz ∧ 0 ≤ to) && decide (0 ≤ m ∧ m ≤ 255)))) then
    (es.set (splace es b) { sold es b with z := tz, o := to, m := m }, true)
  else (es, false)
def tomb (cut : Int) (e : Ety) : Bool := decide (e.k = 2) && decide (e.v < cut)
def sdrop (es : List Ety) (cut : Int) : List Ety × List Ety :=
  if svalid es then (es.filter (fun e => !tomb cut e), es.filter (tomb cut)) else ([], [])
end Go.Proofs.Ytgjcljjgifnjdaa.Ab
