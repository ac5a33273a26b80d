/- Calls by contract, regions, statements and loops on the abstract state; that the model follows them. No condition. -/
import Derived.Test.YtikchieadclbhaaGreatDoorZ11
namespace Go.Proofs.YtikchieadclbhaaGreatDoor.Ab
set_option linter.unusedVariables false
set_option linter.unusedSimpArgs false
open Go.RowKit

/-! ### Contracts -/
/-- A call of f enters its body. -/
def Enters (P : Program) (f : FuncId) : Prop := ∃ fn, P.funcs[f]? = some fn ∧ fn.body.isNone = false ∧ (fn.name == "runtime.NumGoroutine") = false

/-- What a call of f answers at these arguments: a value that reads as 'res', with new rows 'bs' that are the caller's own. Nothing that was there has turned. -/
def Fun (P : Program) (f : FuncId) (args : List AV) (bs : List Blk) (res : AT) : Prop :=
  Enters P f ∧ ∀ (w : World) (ok : Nat → Prop) (argv : Array Value), OkW w ok → argv.size = args.length →
    (∀ (j : Nat) v x, argv[j]? = some v → args[j]? = some x → RepV w ok (fun _ _ => undef) (fun _ => 0) x v) →
    Calls P f argv w fun e w' => ∃ v ok' σ, e = .returned v ∧ Below w.heap.size w w' ∧ (∀ k, ok k → ok' k) ∧ (∀ k, ok' k → ok k ∨ (w.heap.size ≤ k ∧ k < w'.heap.size)) ∧
      RepT w' ok' σ (fun _ => 0) res v ∧ (∀ (b : Nat) B, bs[b]? = some B → B.gen = 0 ∧ RepB w.heap.size w' ok' σ (fun _ => 0) b B) ∧
      (∀ (b b' : Nat) B B', bs[b]? = some B → bs[b']? = some B' → b ≠ b' → ∀ n, B.at σ b = some n → B'.at σ b' ≠ some n)

/-- What a call on a block of the caller's answers: the block's cells behind it, and a value. -/
def FunP (P : Program) (f : FuncId) (cs : List AV1) (args : List AV) (cs' : List AV1) (res : AT) : Prop :=
  Enters P f ∧ ∀ (w : World) (ok : Nat → Prop) (m : Nat) (arr : Array Value) (ty : TypeId) (argv : Array Value), OkW w ok → w.heap[m]? = some (.cells arr ty (0, 0)) → ¬ ok m → Bears w ok (fun _ _ => undef) (fun _ => 0) arr cs →
    argv.size = args.length → (∀ (j : Nat) v x, argv[j]? = some v → args[j]? = some x → RepV w ok (fun _ _ => undef) (fun _ => 0) x v) →
    Calls P f (#[.pointer (some ⟨m, 0, none⟩)] ++ argv) w fun e w' => ∃ v ok' arr' ty', e = .returned v ∧ w.grownBy w' (some m) ∧ (∀ k, ok k → ok' k) ∧ (∀ k, ok' k → ok k ∨ (w.heap.size ≤ k ∧ k < w'.heap.size)) ∧
      w'.heap[m]? = some (.cells arr' ty' (0, 0)) ∧ Bears w' ok' (fun _ _ => undef) (fun _ => 0) arr' cs' ∧ RepT w' ok' (fun _ _ => undef) (fun _ => 0) res v

/-- What a call on a block of the caller's answers: the block's cells behind it, and a new row that is the caller's own. -/
def FunPR (P : Program) (f : FuncId) (cs : List AV1) (args : List AV) (cs' : List AV1) (E sz : Nat) (es : List (List IV)) : Prop :=
  Enters P f ∧ ∀ (w : World) (ok : Nat → Prop) (m : Nat) (arr : Array Value) (ty : TypeId) (argv : Array Value), OkW w ok → w.heap[m]? = some (.cells arr ty (0, 0)) → ¬ ok m → Bears w ok (fun _ _ => undef) (fun _ => 0) arr cs →
    argv.size = args.length → (∀ (j : Nat) v x, argv[j]? = some v → args[j]? = some x → RepV w ok (fun _ _ => undef) (fun _ => 0) x v) →
    Calls P f (#[.pointer (some ⟨m, 0, none⟩)] ++ argv) w fun e w' => ∃ v ok' arr' ty', e = .returned v ∧ w.grownBy w' (some m) ∧ (∀ k, ok k → ok' k) ∧ (∀ k, ok' k → ok k ∨ (w.heap.size ≤ k ∧ k < w'.heap.size)) ∧
      w'.heap[m]? = some (.cells arr' ty' (0, 0)) ∧ Bears w' ok' (fun _ _ => undef) (fun _ => 0) arr' cs' ∧ v.oneCell' = true ∧ RepB w.heap.size w' ok' (fun _ _ => v) (fun _ => 0) 0 (.row 0 E sz es)

/-- What a call on a row of the caller's own answers: the row behind it, which may lie in a new block. -/
def FunA (P : Program) (f : FuncId) (E sz : Nat) (es : List (List IV)) (args : List AV) (es' : List (List IV)) : Prop :=
  Enters P f ∧ ∀ (w : World) (ok : Nat → Prop) (v0 : Value) (xs : List Value) (argv : Array Value), OkW w ok → OwnR w 0 E sz v0 es.length xs → (∀ e ∈ es, e.length = sz) → (∀ m, Value.ownBlock v0 = some m → ¬ ok m) → (CX ≤ E → ∀ A l c, v0 = .slice A l c → c = es.length) →
    (∀ (k : Nat) e j x, es[k]? = some e → e[j]? = some x → ∃ u, xs[k * sz + j]? = some u ∧ RepI w ok x u ∧ u.oneCell' = true) →
    argv.size = args.length → (∀ (j : Nat) v x, argv[j]? = some v → args[j]? = some x → RepV w ok (fun _ _ => undef) (fun _ => 0) x v) →
    Calls P f (#[v0] ++ argv) w fun e w' => ∃ v xs', e = .returned v ∧ w.grownBy w' (Value.ownBlock v0) ∧ OwnR w' 0 E sz v es'.length xs' ∧ (∀ e ∈ es', e.length = sz) ∧ (∀ m, Value.ownBlock v = some m → Value.ownBlock v0 = some m ∨ w.heap.size ≤ m) ∧ (CX ≤ E → ∀ A l c, v = .slice A l c → c = es'.length) ∧
      ∀ (k : Nat) e j x, es'[k]? = some e → e[j]? = some x → ∃ u, xs'[k * sz + j]? = some u ∧ RepI w' (fun _ => True) x u ∧ u.oneCell' = true

/-- What a call on a row of the caller's own leaves in it; it answers nothing. -/
def FunS (P : Program) (f : FuncId) (E sz : Nat) (es : List (List IV)) (args : List AV) (es' : List (List IV)) : Prop :=
  Enters P f ∧ ∀ (w : World) (ok : Nat → Prop) (v0 : Value) (xs : List Value) (argv : Array Value), OkW w ok → OwnR w 0 E sz v0 es.length xs → (∀ e ∈ es, e.length = sz) → (∀ m, Value.ownBlock v0 = some m → ¬ ok m) →
    (∀ (k : Nat) e j x, es[k]? = some e → e[j]? = some x → ∃ u, xs[k * sz + j]? = some u ∧ RepI w ok x u ∧ u.oneCell' = true) →
    argv.size = args.length → (∀ (j : Nat) v x, argv[j]? = some v → args[j]? = some x → RepV w ok (fun _ _ => undef) (fun _ => 0) x v) →
    Calls P f (#[v0] ++ argv) w fun e w' => ∃ xs', e = .returned (.tuple #[]) ∧ w.grownBy w' (Value.ownBlock v0) ∧ OwnR w' 0 E sz v0 es'.length xs' ∧ es'.length = es.length ∧ (∀ e ∈ es', e.length = sz) ∧
      ∀ (k : Nat) e j x, es'[k]? = some e → e[j]? = some x → ∃ u, xs'[k * sz + j]? = some u ∧ RepI w' (fun _ => True) x u ∧ u.oneCell' = true

/-- What is lent with an argument: nothing, rows, variables. -/
inductive Ln where
  | no
  | rows
  | vars
def Ln.join : Ln → Ln → Ln
  | .no, x => x
  | .rows, .vars => .vars
  | .rows, _ => .rows
  | .vars, _ => .vars

/-- A cell as it is handed over: what never turns; a row of the caller's own only on loan. -/
def cellIK (H : Nat → Blk) : AV1 → (IV → Ln → List Nat → Prop) → Prop
  | .i x, K => K x .no []
  | .nl, K => K (.sl []) .no []
  | .slx es, K => K (.sl es) .no []
  | .lit b, K => K (.sc (.bool b)) .no []
  | .own b g, K => match H b with
    | .froz g' es => g' = g ∧ K (.sl es) .no [b]
    | .row g' _ _ es => g' = g ∧ K (.sl es) .rows [b]
    | _ => False
  | .sly es _, K => K (.sl es) .no []
  | .osub b g sz lo hi, K => match H b with
    | .row g' _ sz' es => g' = g ∧ sz' = sz ∧ K (.sl ((es.take hi).drop lo)) .rows [b]
    | .rowp g' _ sz' es N => g' = g ∧ sz' = sz ∧ lo = 0 ∧ hi ≤ es.length ∧ K (.sl (es.take hi)) .vars [b]
    | _ => False
  | _, _ => False
def cellsIK (H : Nat → Blk) : List AV1 → (List AV1 → Ln → List Nat → Prop) → Prop
  | [], K => K [] .no []
  | x :: l, K => cellIK H x fun y t d => cellsIK H l fun m t' d' => K (.i y :: m) (t.join t') (d ++ d')
def cellsVK (H : Nat → Blk) : List AV1 → (List IV → List Nat → Prop) → Prop
  | [], K => K [] []
  | x :: l, K => cellIK H x fun y _ d => cellsVK H l fun m d' => K (y :: m) (d ++ d')
def capIK (H : Nat → Blk) : Cap → (Cap → Ln → List Nat → Prop) → Prop
  | .ptr b g off, K => match H b with
    | .var g' cs => g' = g ∧ cellsVK H cs fun m d => K (.pim (m.drop off)) .vars (b :: d)
    | _ => False
  | .pim cs, K => K (.pim cs) .no []
  | .sc v, K => K (.sc v) .no []
def capsIK (H : Nat → Blk) : List Cap → (List Cap → Ln → List Nat → Prop) → Prop
  | [], K => K [] .no []
  | x :: l, K => capIK H x fun y t d => capsIK H l fun m t' d' => K (y :: m) (t.join t') (d ++ d')
def argIK (H : Nat → Blk) : AT → (AV → Ln → List Nat → Prop) → Prop
  | .v (.c (.ptr b g off)), K => match H b with
    | .var g' cs => g' = g ∧ cellsVK H cs fun m d => K (.c (.pim (m.drop off))) .vars (b :: d)
    | _ => False
  | .v (.c (.pim cs)), K => K (.c (.pim cs)) .no []
  | .v (.c (.clo f ps)), K => capsIK H ps fun qs t d => K (.c (.clo f qs)) t d
  | .v (.c (.sly es c)), K => K (.c (.sly es c)) .no []
  | .v (.c x), K => cellIK H x fun y t d => K (.c (.i y)) t d
  | .v (.agg cs), K => cellsIK H cs fun m t d => K (.agg m) t d
  | .tup _, _ => False
def argsIK (H : Nat → Blk) : List AT → (List AV → Ln → List Nat → Prop) → Prop
  | [], K => K [] .no []
  | x :: l, K => argIK H x fun y t d => argsIK H l fun m t' d' => K (y :: m) (t.join t') (d ++ d')

/-- The same, said as relations. -/
inductive CellI (H : Nat → Blk) : AV1 → IV → Ln → List Nat → Prop
  | i (x : IV) : CellI H (.i x) x .no []
  | nl : CellI H .nl (.sl []) .no []
  | slx (es) : CellI H (.slx es) (.sl es) .no []
  | lit (b : Bool) : CellI H (.lit b) (.sc (.bool b)) .no []
  | froz {b g es} (h : H b = .froz g es) : CellI H (.own b g) (.sl es) .no [b]
  | row {b g E sz es} (h : H b = .row g E sz es) : CellI H (.own b g) (.sl es) .rows [b]
  | sly (es c) : CellI H (.sly es c) (.sl es) .no []
  | osub {b g E sz lo hi es} (h : H b = .row g E sz es) : CellI H (.osub b g sz lo hi) (.sl ((es.take hi).drop lo)) .rows [b]
  | osubp {b g E sz hi es N} (h : H b = .rowp g E sz es N) (hh : hi ≤ es.length) : CellI H (.osub b g sz 0 hi) (.sl (es.take hi)) .vars [b]
inductive CellsI (H : Nat → Blk) : List AV1 → List AV1 → Ln → List Nat → Prop
  | nil : CellsI H [] [] .no []
  | cons {x y t d l m t' d'} (h : CellI H x y t d) (h' : CellsI H l m t' d') : CellsI H (x :: l) (.i y :: m) (t.join t') (d ++ d')
inductive CellsV (H : Nat → Blk) : List AV1 → List IV → List Nat → Prop
  | nil : CellsV H [] [] []
  | cons {x y t d l m d'} (h : CellI H x y t d) (h' : CellsV H l m d') : CellsV H (x :: l) (y :: m) (d ++ d')
inductive CapI (H : Nat → Blk) : Cap → Cap → Ln → List Nat → Prop
  | ptr {b g off cs m d} (h : H b = .var g cs) (h' : CellsV H cs m d) : CapI H (.ptr b g off) (.pim (m.drop off)) .vars (b :: d)
  | pim (cs) : CapI H (.pim cs) (.pim cs) .no []
  | sc (v) : CapI H (.sc v) (.sc v) .no []
inductive CapsI (H : Nat → Blk) : List Cap → List Cap → Ln → List Nat → Prop
  | nil : CapsI H [] [] .no []
  | cons {x y t d l m t' d'} (h : CapI H x y t d) (h' : CapsI H l m t' d') : CapsI H (x :: l) (y :: m) (t.join t') (d ++ d')
def AV1.isSly : AV1 → Bool
  | .sly _ _ => true
  | _ => false
inductive ArgI (H : Nat → Blk) : AT → AV → Ln → List Nat → Prop
  | ptr {b g off cs m d} (h : H b = .var g cs) (h' : CellsV H cs m d) : ArgI H (.v (.c (.ptr b g off))) (.c (.pim (m.drop off))) .vars (b :: d)
  | pim (cs) : ArgI H (.v (.c (.pim cs))) (.c (.pim cs)) .no []
  | clo {f ps qs t d} (h : CapsI H ps qs t d) : ArgI H (.v (.c (.clo f ps))) (.c (.clo f qs)) t d
  | sly (es c) : ArgI H (.v (.c (.sly es c))) (.c (.sly es c)) .no []
  | c {x y t d} (h : CellI H x y t d) (hx : x.isSly = false) : ArgI H (.v (.c x)) (.c (.i y)) t d
  | agg {cs m t d} (h : CellsI H cs m t d) : ArgI H (.v (.agg cs)) (.agg m) t d
inductive ArgsI (H : Nat → Blk) : List AT → List AV → Ln → List Nat → Prop
  | nil : ArgsI H [] [] .no []
  | cons {x y t d l m t' d'} (h : ArgI H x y t d) (h' : ArgsI H l m t' d') : ArgsI H (x :: l) (y :: m) (t.join t') (d ++ d')

section rel
variable {H H' : Nat → Blk}
theorem cellIK_iff {x : AV1} {K : IV → Ln → List Nat → Prop} : cellIK H x K ↔ ∃ y t d, CellI H x y t d ∧ K y t d := by
  constructor
  · intro h
    cases x with
    | i x => exact ⟨_, _, _, .i _, h⟩
    | nl => exact ⟨_, _, _, .nl, h⟩
    | slx es => exact ⟨_, _, _, .slx _, h⟩
    | lit b => exact ⟨_, _, _, .lit _, h⟩
    | own b g =>
      simp only [cellIK] at h
      split at h
      · rename_i hb; obtain ⟨rfl, h⟩ := h; exact ⟨_, _, _, .froz hb, h⟩
      · rename_i hb; obtain ⟨rfl, h⟩ := h; exact ⟨_, _, _, .row hb, h⟩
      · exact h.elim
    | sly es c => exact ⟨_, _, _, .sly _ _, h⟩
    | osub b g sz lo hi =>
      simp only [cellIK] at h
      split at h
      · rename_i hb; obtain ⟨rfl, rfl, h⟩ := h; exact ⟨_, _, _, .osub hb, h⟩
      · rename_i hb; obtain ⟨rfl, rfl, rfl, hh, h⟩ := h; exact ⟨_, _, _, .osubp hb hh, h⟩
      · exact h.elim
    | _ => exact h.elim
  · rintro ⟨y, t, d, h, hk⟩
    cases h with
    | froz h => simp only [cellIK, h]; exact ⟨trivial, hk⟩
    | row h => simp only [cellIK, h]; exact ⟨trivial, hk⟩
    | osub h => simp only [cellIK, h]; exact ⟨trivial, trivial, hk⟩
    | osubp h hh => simp only [cellIK, h]; exact ⟨trivial, trivial, trivial, hh, hk⟩
    | _ => exact hk
theorem cellsIK_iff {l : List AV1} : ∀ {K : List AV1 → Ln → List Nat → Prop}, cellsIK H l K ↔ ∃ m t d, CellsI H l m t d ∧ K m t d := by
  induction l with
  | nil => intro K; exact ⟨fun h => ⟨_, _, _, .nil, h⟩, fun ⟨_, _, _, h, hk⟩ => by cases h; exact hk⟩
  | cons x l ih =>
    intro K
    simp only [cellsIK, cellIK_iff, ih]
    constructor
    · rintro ⟨y, t, d, h1, m, t', d', h2, hk⟩; exact ⟨_, _, _, .cons h1 h2, hk⟩
    · rintro ⟨m, t, d, h, hk⟩; cases h with | cons h1 h2 => exact ⟨_, _, _, h1, _, _, _, h2, hk⟩
theorem cellsVK_iff {l : List AV1} : ∀ {K : List IV → List Nat → Prop}, cellsVK H l K ↔ ∃ m d, CellsV H l m d ∧ K m d := by
  induction l with
  | nil => intro K; exact ⟨fun h => ⟨_, _, .nil, h⟩, fun ⟨_, _, h, hk⟩ => by cases h; exact hk⟩
  | cons x l ih =>
    intro K
    simp only [cellsVK, cellIK_iff, ih]
    constructor
    · rintro ⟨y, t, d, h1, m, d', h2, hk⟩; exact ⟨_, _, .cons h1 h2, hk⟩
    · rintro ⟨m, d, h, hk⟩; cases h with | cons h1 h2 => exact ⟨_, _, _, h1, _, _, h2, hk⟩
theorem capIK_iff {x : Cap} {K : Cap → Ln → List Nat → Prop} : capIK H x K ↔ ∃ y t d, CapI H x y t d ∧ K y t d := by
  constructor
  · intro h
    cases x with
    | ptr b g off =>
      simp only [capIK] at h
      split at h
      · rename_i hb
        obtain ⟨rfl, h⟩ := h
        obtain ⟨m, d, h1, h2⟩ := cellsVK_iff.1 h
        exact ⟨_, _, _, .ptr hb h1, h2⟩
      · exact h.elim
    | pim cs => exact ⟨_, _, _, .pim _, h⟩
    | sc v => exact ⟨_, _, _, .sc _, h⟩
  · rintro ⟨y, t, d, h, hk⟩
    cases h with
    | ptr h h' => simp only [capIK, h]; exact ⟨trivial, cellsVK_iff.2 ⟨_, _, h', hk⟩⟩
    | _ => exact hk
theorem capsIK_iff {l : List Cap} : ∀ {K : List Cap → Ln → List Nat → Prop}, capsIK H l K ↔ ∃ m t d, CapsI H l m t d ∧ K m t d := by
  induction l with
  | nil => intro K; exact ⟨fun h => ⟨_, _, _, .nil, h⟩, fun ⟨_, _, _, h, hk⟩ => by cases h; exact hk⟩
  | cons x l ih =>
    intro K
    simp only [capsIK, capIK_iff, ih]
    constructor
    · rintro ⟨y, t, d, h1, m, t', d', h2, hk⟩; exact ⟨_, _, _, .cons h1 h2, hk⟩
    · rintro ⟨m, t, d, h, hk⟩; cases h with | cons h1 h2 => exact ⟨_, _, _, h1, _, _, _, h2, hk⟩
theorem argIK_of {x : AT} {K : AV → Ln → List Nat → Prop} (h : argIK H x K) : ∃ y t d, ArgI H x y t d ∧ K y t d := by
  cases x with
  | tup xs => exact h.elim
  | v x =>
    cases x with
    | agg cs =>
      obtain ⟨m, t, d, h1, h2⟩ := cellsIK_iff.1 h
      exact ⟨_, _, _, .agg h1, h2⟩
    | c x =>
      cases x with
      | ptr b g off =>
        simp only [argIK] at h
        split at h
        · rename_i hb
          obtain ⟨rfl, h⟩ := h
          obtain ⟨m, d, h1, h2⟩ := cellsVK_iff.1 h
          exact ⟨_, _, _, .ptr hb h1, h2⟩
        · exact h.elim
      | pim cs => exact ⟨_, _, _, .pim _, h⟩
      | clo f ps =>
        obtain ⟨m, t, d, h1, h2⟩ := capsIK_iff.1 h
        exact ⟨_, _, _, .clo h1, h2⟩
      | i x => obtain ⟨y, t, d, h1, h2⟩ := (cellIK_iff (H := H) (x := .i x) (K := fun y t d => K (.c (.i y)) t d)).1 h; exact ⟨_, _, _, .c h1 rfl, h2⟩
      | nl => obtain ⟨y, t, d, h1, h2⟩ := (cellIK_iff (H := H) (x := .nl) (K := fun y t d => K (.c (.i y)) t d)).1 h; exact ⟨_, _, _, .c h1 rfl, h2⟩
      | slx es => obtain ⟨y, t, d, h1, h2⟩ := (cellIK_iff (H := H) (x := .slx es) (K := fun y t d => K (.c (.i y)) t d)).1 h; exact ⟨_, _, _, .c h1 rfl, h2⟩
      | lit b => obtain ⟨y, t, d, h1, h2⟩ := (cellIK_iff (H := H) (x := .lit b) (K := fun y t d => K (.c (.i y)) t d)).1 h; exact ⟨_, _, _, .c h1 rfl, h2⟩
      | own b g => obtain ⟨y, t, d, h1, h2⟩ := (cellIK_iff (H := H) (x := .own b g) (K := fun y t d => K (.c (.i y)) t d)).1 h; exact ⟨_, _, _, .c h1 rfl, h2⟩
      | osub b g sz lo hi => obtain ⟨y, t, d, h1, h2⟩ := (cellIK_iff (H := H) (x := .osub b g sz lo hi) (K := fun y t d => K (.c (.i y)) t d)).1 h; exact ⟨_, _, _, .c h1 rfl, h2⟩
      | sly es c => exact ⟨_, _, _, .sly _ _, h⟩
      | eptr => exact h.elim
      | bl => exact h.elim
      | un => exact h.elim
theorem argIK_to {x : AT} {K : AV → Ln → List Nat → Prop} {y : AV} {t : Ln} {d : List Nat} (h : ArgI H x y t d) (hk : K y t d) : argIK H x K := by
  cases h with
  | ptr h h' => simp only [argIK, h]; exact ⟨trivial, cellsVK_iff.2 ⟨_, _, h', hk⟩⟩
  | pim cs => exact hk
  | clo h => exact capsIK_iff.2 ⟨_, _, _, h, hk⟩
  | agg h => exact cellsIK_iff.2 ⟨_, _, _, h, hk⟩
  | sly es c => exact hk
  | c h hx =>
    have hh := (cellIK_iff (K := fun y t d => K (.c (.i y)) t d)).2 ⟨_, _, _, h, hk⟩
    cases h <;> first | exact hh | cases hx
theorem argsIK_iff {l : List AT} : ∀ {K : List AV → Ln → List Nat → Prop}, argsIK H l K ↔ ∃ m t d, ArgsI H l m t d ∧ K m t d := by
  induction l with
  | nil => intro K; exact ⟨fun h => ⟨_, _, _, .nil, h⟩, fun ⟨_, _, _, h, hk⟩ => by cases h; exact hk⟩
  | cons x l ih =>
    intro K
    constructor
    · intro h
      obtain ⟨y, t, d, h1, h2⟩ := argIK_of h
      obtain ⟨m, t', d', h3, h4⟩ := ih.1 h2
      exact ⟨_, _, _, .cons h1 h3, h4⟩
    · rintro ⟨m, t, d, h, hk⟩
      cases h with
      | cons h1 h2 => exact argIK_to h1 (ih.2 ⟨_, _, _, h2, hk⟩)

theorem CellI.congr {x : AV1} {y : IV} {t : Ln} {d : List Nat} (h : CellI H x y t d) (hd : ∀ b ∈ d, H' b = H b) : CellI H' x y t d := by
  cases h with
  | froz h => exact .froz (by rw [hd _ (by simp)]; exact h)
  | row h => exact .row (by rw [hd _ (by simp)]; exact h)
  | osub h => exact .osub (by rw [hd _ (by simp)]; exact h)
  | osubp h hh => exact .osubp (by rw [hd _ (by simp)]; exact h) hh
  | i => exact .i _
  | nl => exact .nl
  | slx => exact .slx _
  | sly => exact .sly _ _
  | lit => exact .lit _
theorem CellsI.congr {x : List AV1} {y : List AV1} {t : Ln} {d : List Nat} (h : CellsI H x y t d) (hd : ∀ b ∈ d, H' b = H b) : CellsI H' x y t d := by
  induction h with
  | nil => exact .nil
  | cons h h' ih => exact .cons (h.congr fun b hb => hd b (List.mem_append_left _ hb)) (ih fun b hb => hd b (List.mem_append_right _ hb))
theorem CellsV.congr {x : List AV1} {y : List IV} {d : List Nat} (h : CellsV H x y d) (hd : ∀ b ∈ d, H' b = H b) : CellsV H' x y d := by
  induction h with
  | nil => exact .nil
  | cons h h' ih => exact .cons (h.congr fun b hb => hd b (List.mem_append_left _ hb)) (ih fun b hb => hd b (List.mem_append_right _ hb))
theorem CapI.congr {x y : Cap} {t : Ln} {d : List Nat} (h : CapI H x y t d) (hd : ∀ b ∈ d, H' b = H b) : CapI H' x y t d := by
  cases h with
  | ptr h h' => exact .ptr (by rw [hd _ (by simp)]; exact h) (h'.congr fun b hb => hd b (List.mem_cons_of_mem _ hb))
  | pim => exact .pim _
  | sc => exact .sc _
theorem CapsI.congr {x y : List Cap} {t : Ln} {d : List Nat} (h : CapsI H x y t d) (hd : ∀ b ∈ d, H' b = H b) : CapsI H' x y t d := by
  induction h with
  | nil => exact .nil
  | cons h h' ih => exact .cons (h.congr fun b hb => hd b (List.mem_append_left _ hb)) (ih fun b hb => hd b (List.mem_append_right _ hb))
theorem ArgI.congr {x : AT} {y : AV} {t : Ln} {d : List Nat} (h : ArgI H x y t d) (hd : ∀ b ∈ d, H' b = H b) : ArgI H' x y t d := by
  cases h with
  | ptr h h' => exact .ptr (by rw [hd _ (by simp)]; exact h) (h'.congr fun b hb => hd b (List.mem_cons_of_mem _ hb))
  | pim => exact .pim _
  | clo h => exact .clo (h.congr hd)
  | c h hx => exact .c (h.congr hd) hx
  | sly es c => exact .sly _ _
  | agg h => exact .agg (h.congr hd)
theorem ArgsI.congr {x : List AT} {y : List AV} {t : Ln} {d : List Nat} (h : ArgsI H x y t d) (hd : ∀ b ∈ d, H' b = H b) : ArgsI H' x y t d := by
  induction h with
  | nil => exact .nil
  | cons h h' ih => exact .cons (h.congr fun b hb => hd b (List.mem_append_left _ hb)) (ih fun b hb => hd b (List.mem_append_right _ hb))

/-- Entries that are rows, or never turn again. -/
def Rowish (H : Nat → Blk) (t : Ln) (d : List Nat) : Prop := (t = .no → ∀ b ∈ d, ∃ g es, H b = .froz g es) ∧ (t = .rows → ∀ b ∈ d, (∃ g es, H b = .froz g es) ∨ ∃ g E sz es, H b = .row g E sz es)
theorem Rowish.nil (H : Nat → Blk) (t : Ln) : Rowish H t [] := ⟨fun _ b hb => (by cases hb), fun _ b hb => (by cases hb)⟩
theorem Rowish.join {t t' : Ln} {d d' : List Nat} (h : Rowish H t d) (h' : Rowish H t' d') : Rowish H (t.join t') (d ++ d') := by
  obtain ⟨a1, a2⟩ := h
  obtain ⟨b1, b2⟩ := h'
  refine ⟨fun e b hb => ?_, fun e b hb => ?_⟩
  · cases t <;> cases t' <;> first | cases e; done | skip
    rcases List.mem_append.1 hb with hb | hb
    · exact a1 rfl b hb
    · exact b1 rfl b hb
  · have ha : ∀ b ∈ d, (∃ g es, H b = .froz g es) ∨ ∃ g E sz es, H b = .row g E sz es := by
      intro b hb
      cases t with
      | no => exact Or.inl (a1 rfl b hb)
      | rows => exact a2 rfl b hb
      | vars => cases e
    have hb' : ∀ b ∈ d', (∃ g es, H b = .froz g es) ∨ ∃ g E sz es, H b = .row g E sz es := by
      intro b hb
      cases t' with
      | no => exact Or.inl (b1 rfl b hb)
      | rows => exact b2 rfl b hb
      | vars => cases t <;> cases e
    rcases List.mem_append.1 hb with hb | hb
    · exact ha b hb
    · exact hb' b hb
theorem CellI.rowish {x : AV1} {y : IV} {t : Ln} {d : List Nat} (h : CellI H x y t d) : Rowish H t d := by
  cases h with
  | froz h => exact ⟨fun _ b hb => by simp at hb; subst hb; exact ⟨_, _, h⟩, fun e => by cases e⟩
  | row h => exact ⟨fun e => (by cases e), fun _ b hb => by simp at hb; subst hb; exact Or.inr ⟨_, _, _, _, h⟩⟩
  | osub h => exact ⟨fun e => (by cases e), fun _ b hb => by simp at hb; subst hb; exact Or.inr ⟨_, _, _, _, h⟩⟩
  | osubp h hh => exact ⟨fun e => (by cases e), fun e => by cases e⟩
  | _ => exact Rowish.nil _ _
theorem CellsI.rowish {x : List AV1} {y : List AV1} {t : Ln} {d : List Nat} (h : CellsI H x y t d) : Rowish H t d := by
  induction h with
  | nil => exact Rowish.nil _ _
  | cons h h' ih => exact h.rowish.join ih
theorem CapI.rowish {x y : Cap} {t : Ln} {d : List Nat} (h : CapI H x y t d) : Rowish H t d := by
  cases h with
  | ptr h h' => exact ⟨fun e => (by cases e), fun e => by cases e⟩
  | pim => exact Rowish.nil _ _
  | sc => exact Rowish.nil _ _
theorem CapsI.rowish {x y : List Cap} {t : Ln} {d : List Nat} (h : CapsI H x y t d) : Rowish H t d := by
  induction h with
  | nil => exact Rowish.nil _ _
  | cons h h' ih => exact h.rowish.join ih
theorem ArgI.rowish {x : AT} {y : AV} {t : Ln} {d : List Nat} (h : ArgI H x y t d) : Rowish H t d := by
  cases h with
  | ptr h h' => exact ⟨fun e => (by cases e), fun e => by cases e⟩
  | pim => exact Rowish.nil _ _
  | clo h => exact h.rowish
  | c h hx => exact h.rowish
  | sly => exact Rowish.nil _ _
  | agg h => exact h.rowish
theorem ArgsI.rowish {x : List AT} {y : List AV} {t : Ln} {d : List Nat} (h : ArgsI H x y t d) : Rowish H t d := by
  induction h with
  | nil => exact Rowish.nil _ _
  | cons h h' ih => exact h.rowish.join ih
end rel

/-- Rows that are handed over for good never turn again. -/
def frzK (H : Nat → Blk) : List Nat → (List (Nat × Blk) → Prop) → Prop
  | [], K => K []
  | b :: l, K => match H b with
    | .row g _ _ es => frzK H l fun m => K ((b, .froz g es) :: m)
    | _ => frzK H l K
def frz (H : Nat → Blk) : List Nat → List (Nat × Blk)
  | [] => []
  | b :: l => match H b with
    | .row g _ _ es => (b, .froz g es) :: frz H l
    | _ => frz H l
theorem frzK_eq (H : Nat → Blk) (l : List Nat) : ∀ (K : List (Nat × Blk) → Prop), frzK H l K = K (frz H l) := by
  induction l with
  | nil => intro K; rfl
  | cons b l ih =>
    intro K
    simp only [frzK, frz]
    cases H b <;> simp [ih]
theorem frz_congr {H H' : Nat → Blk} (l : List Nat) (h : ∀ b ∈ l, H' b = H b) : frz H' l = frz H l := by
  induction l with
  | nil => rfl
  | cons b l ih => simp only [frz]; rw [h b List.mem_cons_self, ih fun b hb => h b (List.mem_cons_of_mem _ hb)]
theorem frz_none {H : Nat → Blk} (l : List Nat) (h : ∀ b ∈ l, ∃ g es, H b = .froz g es) : frz H l = [] := by
  induction l with
  | nil => rfl
  | cons b l ih =>
    obtain ⟨g, es, e⟩ := h b List.mem_cons_self
    simp only [frz, e]
    exact ih fun b hb => h b (List.mem_cons_of_mem _ hb)
theorem frz_mem {H : Nat → Blk} {l : List Nat} {p : Nat × Blk} (h : p ∈ frz H l) : ∃ g E sz es, H p.1 = .row g E sz es ∧ p.2 = .froz g es := by
  induction l with
  | nil => cases h
  | cons b l ih =>
    simp only [frz] at h
    split at h
    · rename_i e
      rcases List.mem_cons.1 h with rfl | h
      · exact ⟨_, _, _, _, e, rfl⟩
      · exact ih h
    · exact ih h
theorem mem_frz {H : Nat → Blk} {l : List Nat} {b g E sz : Nat} {es : List (List IV)} (hb : b ∈ l) (e : H b = .row g E sz es) : (b, Blk.froz g es) ∈ frz H l := by
  induction l with
  | nil => cases hb
  | cons c l ih =>
    simp only [frz]
    rcases List.mem_cons.1 hb with rfl | hb
    · rw [e]; exact List.mem_cons_self
    · split
      · exact List.mem_cons_of_mem _ (ih hb)
      · exact ih hb

def sc1 : AV1 → Bool
  | .i (.sc _) => true
  | _ => false
def scV : AV → Bool
  | .c x => sc1 x
  | .agg cs => cs.all sc1
def scT : AT → Bool
  | .v x => scV x
  | .tup xs => xs.all scV

/-- The answer's new rows under the caller's numbers. -/
def reloc1 (ids : Nat → Nat × Nat) : AV1 → AV1
  | .own b 0 => match ids b with
    | (n, g) => .own n g
  | .ptr b 0 off => match ids b with
    | (n, g) => .ptr n g off
  | x => x
def relocV (ids : Nat → Nat × Nat) : AV → AV
  | .c x => .c (reloc1 ids x)
  | .agg cs => .agg (cs.map (reloc1 ids))
def relocT (ids : Nat → Nat × Nat) : AT → AT
  | .v x => .v (relocV ids x)
  | .tup xs => .tup (xs.map (relocV ids))
def Blk.reGen (g : Nat) : Blk → Blk
  | .dead _ => .dead g
  | .var _ cs => .var g cs
  | .row _ E sz es => .row g E sz es
  | .froz _ es => .froz g es
  | .mp _ kk ag f => .mp g kk ag f
  | .rowp _ E sz es N => .rowp g E sz es N


def isI : AV1 → Bool
  | .i _ => true
  | _ => false
def Blk.pure : Blk → Bool
  | .var _ cs => cs.all isI
  | .row _ _ _ _ => true
  | .mp _ _ _ _ => true
  | _ => false
def Cap.fast : Cap → Bool
  | .ptr _ _ _ => false
  | _ => true
def ok1 (n : Nat) : AV1 → Bool
  | .i _ => true
  | .pim _ => true
  | .clo _ ps => ps.all Cap.fast
  | .sly _ _ => true
  | .own b 0 => Nat.blt b n
  | .ptr b 0 _ => Nat.blt b n
  | _ => false
def okV (n : Nat) : AV → Bool
  | .c x => ok1 n x
  | .agg cs => cs.all (ok1 n)
def okT (n : Nat) : AT → Bool
  | .v x => okV n x
  | .tup xs => xs.all (okV n)

/-- The new entries of an answer. -/
def updsOf (H : Nat → Blk) (d : Nat) : List Blk → List (Nat × Blk)
  | [] => []
  | B :: bs => (d, B.reGen ((H d).gen + 1)) :: updsOf H (d + 1) bs

/-- The numbers of the new entries. -/
def idsK (H : Nat → Blk) : Nat → Nat → (List (Nat × Nat) → Prop) → Prop
  | _, 0, K => K []
  | d, n + 1, K => genK (H d) fun g => idsK H (d + 1) n fun l => K ((d, g + 1) :: l)
def idsF (l : List (Nat × Nat)) (j : Nat) : Nat × Nat :=
  match nthO l j with
  | some p => p
  | none => (0, 0)
def updsL : List Blk → List (Nat × Nat) → List (Nat × Blk)
  | B :: bs, (d, g) :: l => (d, B.reGen g) :: updsL bs l
  | _, _ => []
theorem idsK_eq (H : Nat → Blk) (bs : List Blk) : ∀ (d : Nat) (K : List (Nat × Nat) → Prop), idsK H d bs.length K → ∃ l, K l ∧ updsL bs l = updsOf H d bs ∧ ∀ j, j < bs.length → idsF l j = (d + j, (H (d + j)).gen + 1) := by
  induction bs with
  | nil => intro d K h; exact ⟨[], h, rfl, fun j hj => by simp at hj⟩
  | cons B bs ih =>
    intro d K h
    simp only [List.length_cons, idsK, genK_eq] at h
    obtain ⟨l, h1, h2, h3⟩ := ih (d + 1) _ h
    refine ⟨_, h1, by simp [updsL, updsOf, h2], fun j hj => ?_⟩
    cases j with
    | zero => rfl
    | succ j =>
      have := h3 j (by simpa using hj)
      simp only [idsF, nthO] at this ⊢
      rw [this]
      rw [show d + 1 + j = d + (j + 1) by omega]

def afterCall (H : Nat → Blk) (d : Nat) (bs : List Blk) (res : AT) (rd : List Nat) (fz : List (Nat × Blk)) (K : Kont) : Prop :=
  match bs with
  | [] => K res fz rd
  | _ => idsK H d bs.length fun l => K (relocT (idsF l) res) (fz ++ updsL bs l) (rd ++ (List.range' d bs.length))
def effCall (P : Program) (H : Nat → Blk) (n : Nat) (dst : Option Tmp) (f : FuncId) (args : List AT) (K : Kont) : Prop :=
  match dst with
  | none => False
  | some d => argsIK H args fun az t rd => ∃ bs res, Fun P f az bs res ∧
    match okT bs.length res && bs.all Blk.pure && Nat.ble (d + bs.length) n with
    | false => False
    | true => match t with
      | .no => afterCall H d bs res rd [] K
      | .rows => match scT res && bs.isEmpty with
        | true => K res [] rd
        | false => frzK H rd fun fz => afterCall H d bs res rd fz K
      | .vars => match scT res && bs.isEmpty with
        | true => K res [] rd
        | false => False

def isScI : IV → Bool
  | .sc _ => true
  | _ => false
def effCallA (P : Program) (H : Nat → Blk) (n : Nat) (dst : Option Tmp) (f : FuncId) (x : AT) (args : List AT) (K : Kont) : Prop :=
  match x with
  | .v (.c (.own b g)) => match H b with
    | .row g' E sz es => g' = g ∧ argsIK H args fun az _ rd => ∃ es', FunA P f E sz es az es' ∧ (∀ e ∈ es', ∀ y ∈ e, isScI y = true) ∧
      match rd.any (fun c => Nat.beq c b) with
      | true => False
      | false => K (.v (.c (.own b (g + 1)))) [(b, .row (g + 1) E sz es')] (b :: rd)
    | _ => False
  | .v (.c .nl) => match dst with
    | none => False
    | some d => match Nat.blt d n with
      | true => argsIK H args fun az _ rd => ∃ E sz es', FunA P f E sz [] az es' ∧ (∀ e ∈ es', ∀ y ∈ e, isScI y = true) ∧ genK (H d) fun g => K (.v (.c (.own d (g + 1)))) [(d, .row (g + 1) E sz es')] (d :: rd)
      | false => False
  | _ => False
def effCallS (P : Program) (H : Nat → Blk) (f : FuncId) (x : AT) (args : List AT) (K : Kont) : Prop :=
  match x with
  | .v (.c (.own b g)) => match H b with
    | .row g' E sz es => g' = g ∧ argsIK H args fun az _ rd => ∃ es', FunS P f E sz es az es' ∧ (∀ e ∈ es', ∀ y ∈ e, isScI y = true) ∧
      match rd.any (fun c => Nat.beq c b) with
      | true => False
      | false => K (.tup []) [(b, .row g E sz es')] (b :: rd)
    | _ => False
  | _ => False
def effCallP (P : Program) (H : Nat → Blk) (f : FuncId) (b g : Nat) (args : List AT) (K : Kont) : Prop :=
  match H b with
  | .var g' cs => g' = g ∧ cellsIK H cs fun cs0 t0 d0 => argsIK H args fun az t rd => ∃ cs' res, FunP P f cs0 az cs' res ∧
    match okT 0 res && cs'.all isI with
    | false => False
    | true => match t0.join t with
      | .no => K res [(b, .var g cs')] (b :: (d0 ++ rd))
      | .rows => frzK H (d0 ++ rd) fun fz => K res (fz ++ [(b, .var g cs')]) (b :: (d0 ++ rd))
      | .vars => False
  | _ => False

def effCallPR (P : Program) (H : Nat → Blk) (n : Nat) (dst : Option Tmp) (f : FuncId) (x : AT) (args : List AT) (K : Kont) : Prop :=
  match dst with
  | none => False
  | some d => match x with
    | .v (.c (.ptr b g off)) => match H b with
      | .var g' cs => g' = g ∧ off = 0 ∧ cellsIK H cs fun cs0 t0 d0 => argsIK H args fun az t rd => ∃ cs' E sz es, FunPR P f cs0 az cs' E sz es ∧
        match cs'.all isI && Nat.blt d n && !(Nat.beq d b) with
        | false => False
        | true => match t0.join t with
          | .no => genK (H d) fun gd => K (.v (.c (.own d (gd + 1)))) [(b, .var g cs'), (d, .row (gd + 1) E sz es)] (b :: d :: (d0 ++ rd))
          | _ => False
      | _ => False
    | _ => False

section
variable {P : Program} {T : Nat → TI} {W0 : Ent} {w w' : World} {ok ok' : Nat → Prop} {σ σc : Nat → Nat → Value} {S : St} {a : Act} {o : Oper} {K : Kont}

theorem rep_isI {x : AV1} (h : isI x = true) {σ σ' : Nat → Nat → Value} {G G' : Nat → Nat} {v : Value} (hx : Rep1 w ok σ G x v) : Rep1 w ok σ' G' x v := by
  cases x <;> first | exact hx | cases h

/-- More may be held for ok. -/
theorem later_ok (h : ∀ k, ok k → ok' k) (w : World) (σ : Nat → Nat → Value) (G : Nat → Nat) : Later w w ok ok' σ σ G G := ⟨h, fun _ _ => rfl, fun _ => Nat.le_refl _, fun _ _ _ => rfl⟩

/-- The blocks that are on loan. -/
def Lent (S : St) (σ : Nat → Nat → Value) (ok : Nat → Prop) (d : List Nat) (k : Nat) : Prop := ok k ∨ ∃ (b : Nat) (B : Blk), b ∈ d ∧ S.h[b]? = some B ∧ B.at σ b = some k
theorem Lent.left {d d' : List Nat} {k : Nat} (h : Lent S σ ok d k) : Lent S σ ok (d ++ d') k := h.imp id fun ⟨b, B, h1, h2⟩ => ⟨b, B, List.mem_append_left _ h1, h2⟩
theorem Lent.right {d d' : List Nat} {k : Nat} (h : Lent S σ ok d' k) : Lent S σ ok (d ++ d') k := h.imp id fun ⟨b, B, h1, h2⟩ => ⟨b, B, List.mem_append_right _ h1, h2⟩
theorem Lent.tail {b : Nat} {d : List Nat} {k : Nat} (h : Lent S σ ok d k) : Lent S σ ok (b :: d) k := h.imp id fun ⟨b, B, h1, h2⟩ => ⟨b, B, List.mem_cons_of_mem _ h1, h2⟩

theorem rowx_RepI {E sz : Nat} {es : List (List IV)} {v : Value} {xs : List Value} (h1 : OwnR w 0 E sz v es.length xs) (h2 : ∀ e ∈ es, e.length = sz)
    (h4 : ∀ (k : Nat) e j x, es[k]? = some e → e[j]? = some x → ∃ u, xs[k * sz + j]? = some u ∧ RepI w ok x u ∧ u.oneCell' = true) (hok : ∀ k, ok k → ok' k) (hn : ∀ n, Value.ownBlock v = some n → ok' n) : RepI w ok' (.sl es) v := by
  rcases h1.2 with ⟨e1, e2⟩ | ⟨m, cap, cur, e1, _, e3, e4, e5, e6, e7⟩
  · have : es = [] := List.eq_nil_of_length_eq_zero e2
    rw [e1, this]
    exact RepI.nil _ _ (Nat.zero_le _)
  · rw [e1]
    have hcell : ∀ i, i < es.length * sz → w.cell? ((⟨m, 0, none⟩ : Addr).add i) = some (xs.getD i undef) := by
      intro i hi
      have hil : i < xs.length := by rw [h1.1]; exact hi
      rw [add_at, Nat.zero_add]
      refine row_cells h1 e1 i _ ?_
      simp [List.getD, List.getElem?_eq_getElem hil]
    refine RepI.sl es sz ⟨m, 0, none⟩ cap (fun i => xs.getD i undef) (hn m (by rw [e1]; rfl)) e4 e5 h2 hcell (fun k e j x hk hj => ?_)
    obtain ⟨u, hu, hr, _⟩ := h4 k e j x hk hj
    have : xs.getD (k * sz + j) undef = u := by simp [List.getD, hu]
    rw [this]
    exact RepI.mono hok (fun _ _ => rfl) hr
theorem row_RepI {base : Bs} {G : Nat → Nat} {b g E sz : Nat} {es : List (List IV)} (h : RepB base w ok σ G b (.row g E sz es)) (hok : ∀ k, ok k → ok' k) (hn : ∀ n, Value.ownBlock (σ b g) = some n → ok' n) : RepI w ok' (.sl es) (σ b g) := by
  obtain ⟨xs, h1, h2, h3, h4⟩ := h
  exact rowx_RepI h1 h2 h4 hok hn

theorem osub_RepI {sz lo hi c : Nat} {es : List (List IV)} {A A' : Option Addr} (h : RepI w ok (.sl es) (.slice A es.length c)) (h1 : lo ≤ hi) (h2 : hi ≤ es.length) (h3 : lo = 0 ∨ lo < hi → A' = A.map (·.add (lo * sz))) (hsz : ∀ e ∈ es, e.length = sz) :
    RepI w ok (.sl ((es.take hi).drop lo)) (.slice A' (hi - lo) (c - lo)) := by
  obtain ⟨A2, c2, e, hc, hm⟩ := slice_of h
  injection e with _ _ e
  subst e
  have hcut := RepI.cut h hsz h1 h2 (k := c) (by omega) hm
  rcases Nat.eq_or_lt_of_le h1 with rfl | hlt
  · rw [show (es.take lo).drop lo = [] from by apply List.eq_nil_of_length_eq_zero; rw [List.length_drop, List.length_take]; omega, Nat.sub_self]
    exact RepI.nil _ _ (by omega)
  · rw [if_neg (by omega)] at hcut
    rw [h3 (Or.inr hlt)]
    exact hcut
theorem rep1_ok {okA okB : Nat → Prop} (h : ∀ k, okA k → okB k) {x : AV1} {v : Value} {σ : Nat → Nat → Value} {G : Nat → Nat} (hx : Rep1 w okA σ G x v) : Rep1 w okB σ G x v := Rep1.mono (later_ok h w σ G) hx
theorem repC_ok {okA okB : Nat → Prop} (h : ∀ k, okA k → okB k) {x : Cap} {v : Value} {σ : Nat → Nat → Value} {G : Nat → Nat} (hx : RepC w okA σ G x v) : RepC w okB σ G x v := RepC.mono (later_ok h w σ G) hx
theorem repV_ok {okA okB : Nat → Prop} (h : ∀ k, okA k → okB k) {x : AV} {v : Value} {σ : Nat → Nat → Value} {G : Nat → Nat} (hx : RepV w okA σ G x v) : RepV w okB σ G x v := RepV.mono (later_ok h w σ G) hx
theorem repI_ok {okA okB : Nat → Prop} (h : ∀ k, okA k → okB k) {x : IV} {v : Value} (hx : RepI w okA x v) : RepI w okB x v := RepI.mono h (fun _ _ => rfl) hx

theorem CellI.rep (hC : Conf W0 ok σ S a w) {x : AV1} {y : IV} {t : Ln} {d : List Nat} (h : CellI S.blk x y t d) {v : Value} (hx : Rep1 w ok σ S.G x v) : RepI w (Lent S σ ok d) y v ∧ (t = .no → RepI w ok y v) := by
  have up : ∀ {y : IV} {d : List Nat}, RepI w ok y v → RepI w (Lent S σ ok d) y v := fun hr => repI_ok (fun _ h => Or.inl h) hr
  cases h with
  | i x => exact ⟨up hx, fun _ => hx⟩
  | nl =>
    have hr : RepI w ok (.sl []) v := by rw [show v = .slice none 0 0 from hx]; exact RepI.nil _ _ (Nat.zero_le _)
    exact ⟨up hr, fun _ => hr⟩
  | slx es =>
    obtain ⟨A, _, hr⟩ := hx
    exact ⟨up hr, fun _ => hr⟩
  | lit b =>
    have hr : RepI w ok (.sc (.bool b)) v := by rw [show v = .bool b from hx]; exact RepI.sc _ rfl
    exact ⟨up hr, fun _ => hr⟩
  | @froz b g es hb =>
    obtain ⟨_, hv, _⟩ := hx
    have hR : RepI w ok (.sl es) (σ b g) := hC.blk b _ (blk_some hb (fun g e => by cases e))
    rw [← hv] at hR
    exact ⟨up hR, fun _ => hR⟩
  | @row b g E sz es hb =>
    obtain ⟨_, hv, _⟩ := hx
    have hbs := blk_some hb (fun g e => by cases e)
    refine ⟨?_, fun e => by cases e⟩
    rw [hv]
    refine row_RepI (hC.blk b _ hbs) (fun _ h => Or.inl h) (fun n hn => Or.inr ⟨b, _, by simp, hbs, ?_⟩)
    obtain ⟨xs, e1, _⟩ := hC.blk b _ hbs
    simp only [Blk.at]
    rcases e1.2 with ⟨e5, _⟩ | ⟨m, cap, cur, e5, _⟩
    · rw [e5] at hn; simp [Value.ownBlock] at hn
    · rw [e5] at hn ⊢; simpa [Value.blkNo, Value.ownBlock] using hn
  | sly es c =>
    obtain ⟨A, e, hr, _⟩ := hx
    exact ⟨up hr, fun _ => hr⟩
  | @osubp b g E sz hi es N hb hh =>
    obtain ⟨_, A, A', n, c, hv, q1, q2, q3, hvv, q5⟩ := hx
    have hbs := blk_some hb (fun g e => by cases e)
    obtain ⟨m, c', xs, e0, e1, e2, e3, e4, e5, e6⟩ := hC.blk b _ hbs
    rw [hv] at e0
    injection e0 with e0 e0' e0''
    subst e0' e0''
    obtain rfl : A' = A := by rw [q5 (Or.inl rfl), Nat.zero_mul]; cases A <;> simp [Addr.add]
    subst e0
    refine ⟨?_, fun e => by cases e⟩
    rw [hvv, Nat.sub_zero, Nat.sub_zero]
    have hw := rowx_RepI (ok' := Lent S σ ok [b]) (OwnR.of e1) e2 e6 (fun _ h => Or.inl h) (fun k hn => Or.inr ⟨b, _, by simp, hbs, ?_⟩)
    · have := osub_RepI (lo := 0) (A' := some ⟨m, 0, none⟩) hw (Nat.zero_le _) hh (fun _ => by rw [Nat.zero_mul]; simp [Addr.add]) e2
      rw [List.drop_zero, Nat.sub_zero, Nat.sub_zero] at this
      exact this
    · simp only [Blk.at]
      rw [hv]
      injection hn with hn
      subst hn
      rfl
  | @osub b g E sz lo hi es hb =>
    obtain ⟨_, A, A', n, c, hv, q1, q2, q3, hvv, q5⟩ := hx
    have hbs := blk_some hb (fun g e => by cases e)
    have hR := hC.blk b _ hbs
    obtain ⟨xs, e1, e2, _⟩ := hR
    rw [hv] at e1
    obtain rfl := row_len e1
    refine ⟨?_, fun e => by cases e⟩
    rw [hvv]
    have hw := row_RepI (ok' := Lent S σ ok [b]) (hC.blk b _ hbs) (fun _ h => Or.inl h) (fun n hn => Or.inr ⟨b, _, by simp, hbs, ?_⟩)
    · rw [hv] at hw
      exact osub_RepI hw q1 q2 q5 e2
    · simp only [Blk.at]
      rw [hv] at hn ⊢
      rcases e1.2 with ⟨e5, _⟩ | ⟨m, cap, cur, e5, _⟩
      · rw [e5] at hn; simp [Value.ownBlock] at hn
      · rw [e5] at hn ⊢; simpa [Value.blkNo, Value.ownBlock] using hn
theorem CellsI.rep (hC : Conf W0 ok σ S a w) {cs ms : List AV1} {t : Ln} {d : List Nat} (h : CellsI S.blk cs ms t d) : ms.length = cs.length ∧ ms.all isI = true ∧
    ∀ (j : Nat) x y v, cs[j]? = some x → ms[j]? = some y → Rep1 w ok σ S.G x v → Rep1 w (Lent S σ ok d) (fun _ _ => undef) (fun _ => 0) y v ∧ (t = .no → Rep1 w ok (fun _ _ => undef) (fun _ => 0) y v) := by
  induction h with
  | nil => exact ⟨rfl, rfl, fun j x y v hx => by simp at hx⟩
  | cons h h' ih =>
    obtain ⟨l1, l2, l3⟩ := ih
    refine ⟨by simp [l1], by simp [isI, l2], fun j x y v hx hy hv => ?_⟩
    cases j with
    | zero =>
      simp at hx hy
      subst hx hy
      obtain ⟨r1, r2⟩ := h.rep hC hv
      exact ⟨repI_ok (fun _ h => h.left) r1, fun e => r2 (by rename_i t _ _ _ t' _; cases t <;> cases t' <;> first | rfl | cases e)⟩
    | succ j =>
      obtain ⟨r1, r2⟩ := l3 j x y v (by simpa using hx) (by simpa using hy) hv
      exact ⟨rep1_ok (fun _ h => h.right) r1, fun e => r2 (by rename_i t _ _ _ t' _; cases t <;> cases t' <;> first | rfl | cases e)⟩
theorem CellsV.rep (hC : Conf W0 ok σ S a w) {cs : List AV1} {ms : List IV} {d : List Nat} (h : CellsV S.blk cs ms d) : ms.length = cs.length ∧
    ∀ (j : Nat) x y v, cs[j]? = some x → ms[j]? = some y → Rep1 w ok σ S.G x v → RepI w (Lent S σ ok d) y v := by
  induction h with
  | nil => exact ⟨rfl, fun j x y v hx => by simp at hx⟩
  | cons h h' ih =>
    obtain ⟨l1, l3⟩ := ih
    refine ⟨by simp [l1], fun j x y v hx hy hv => ?_⟩
    cases j with
    | zero => simp at hx hy; subst hx hy; exact repI_ok (fun _ h => h.left) (h.rep hC hv).1
    | succ j => exact repI_ok (fun _ h => h.right) (l3 j x y v (by simpa using hx) (by simpa using hy) hv)
/-- A variable of the caller's, on loan. -/
theorem var_lent (hC : Conf W0 ok σ S a w) {b g off : Nat} {cs : List AV1} {m : List IV} {d : List Nat} (hb : S.blk b = .var g cs) (h : CellsV S.blk cs m d) {v : Value} (hv : ∃ n, σ b g = .pointer (some ⟨n, 0, none⟩) ∧ v = .pointer (some ⟨n, off, none⟩)) :
    ∃ ad, v = .pointer (some ad) ∧ Lent S σ ok (b :: d) ad.block ∧ ∀ j x, (m.drop off)[j]? = some x → ∃ u, w.cell? (ad.add j) = some u ∧ RepI w (Lent S σ ok (b :: d)) x u := by
  have hbs := blk_some hb (fun g e => by cases e)
  obtain ⟨n, arr, ty, e1, e2, e3, e4, e5, e6⟩ := hC.blk b _ hbs
  obtain ⟨n', e7, e8⟩ := hv
  rw [e1] at e7
  obtain rfl : n = n' := by injection e7 with e7; injection e7 with e7; injection e7
  obtain ⟨l1, l2⟩ := h.rep hC
  refine ⟨_, e8, Or.inr ⟨b, _, by simp, hbs, by simp [Blk.at, e1, Value.blkNo]⟩, fun j x hx => ?_⟩
  rw [List.getElem?_drop] at hx
  have hj : off + j < cs.length := by rw [← l1]; exact (List.getElem?_eq_some_iff.1 hx).1
  have hja : off + j < arr.size := by rw [e5]; exact hj
  have hc := cell_of_row w n (off + j) arr ty (0, 0) e4
  refine ⟨arr[off + j], by rw [add_at, hc]; exact Array.getElem?_eq_getElem hja, ?_⟩
  exact repI_ok (fun _ h => h.tail) (l2 (off + j) _ x _ (List.getElem?_eq_getElem hj) hx (e6 _ _ _ (Array.getElem?_eq_getElem hja) (List.getElem?_eq_getElem hj)).1)
theorem CapI.rep (hC : Conf W0 ok σ S a w) {x y : Cap} {t : Ln} {d : List Nat} (h : CapI S.blk x y t d) {v : Value} (hx : RepC w ok σ S.G x v) :
    RepC w (Lent S σ ok d) (fun _ _ => undef) (fun _ => 0) y v ∧ (t = .no → RepC w ok (fun _ _ => undef) (fun _ => 0) y v) := by
  cases h with
  | ptr hb h' => exact ⟨var_lent hC hb h' hx.2, fun e => by cases e⟩
  | pim cs =>
    have hx' : RepC w ok (fun _ _ => undef) (fun _ => 0) (.pim cs) v := hx
    exact ⟨repC_ok (fun _ h => Or.inl h) hx', fun _ => hx'⟩
  | sc u => exact ⟨hx, fun _ => hx⟩
theorem CapsI.rep (hC : Conf W0 ok σ S a w) {ps qs : List Cap} {t : Ln} {d : List Nat} (h : CapsI S.blk ps qs t d) : qs.length = ps.length ∧
    ∀ (j : Nat) x y v, ps[j]? = some x → qs[j]? = some y → RepC w ok σ S.G x v → RepC w (Lent S σ ok d) (fun _ _ => undef) (fun _ => 0) y v ∧ (t = .no → RepC w ok (fun _ _ => undef) (fun _ => 0) y v) := by
  induction h with
  | nil => exact ⟨rfl, fun j x y v hx => by simp at hx⟩
  | cons h h' ih =>
    obtain ⟨l1, l3⟩ := ih
    refine ⟨by simp [l1], fun j x y v hx hy hv => ?_⟩
    cases j with
    | zero =>
      simp at hx hy
      subst hx hy
      obtain ⟨r1, r2⟩ := h.rep hC hv
      exact ⟨repC_ok (fun _ h => h.left) r1, fun e => r2 (by rename_i t _ _ _ t' _; cases t <;> cases t' <;> first | rfl | cases e)⟩
    | succ j =>
      obtain ⟨r1, r2⟩ := l3 j x y v (by simpa using hx) (by simpa using hy) hv
      exact ⟨repC_ok (fun _ h => h.right) r1, fun e => r2 (by rename_i t _ _ _ t' _; cases t <;> cases t' <;> first | rfl | cases e)⟩

theorem ArgI.rep (hC : Conf W0 ok σ S a w) {x : AT} {y : AV} {t : Ln} {d : List Nat} (h : ArgI S.blk x y t d) {v : Value} (hx : RepT w ok σ S.G x v) :
    RepV w (Lent S σ ok d) (fun _ _ => undef) (fun _ => 0) y v ∧ (t = .no → RepV w ok (fun _ _ => undef) (fun _ => 0) y v) := by
  cases h with
  | ptr hb h' => exact ⟨var_lent hC hb h' hx.2, fun e => by cases e⟩
  | pim cs =>
    have hx' : RepV w ok (fun _ _ => undef) (fun _ => 0) (.c (.pim cs)) v := hx
    exact ⟨repV_ok (fun _ h => Or.inl h) hx', fun _ => hx'⟩
  | clo h =>
    obtain ⟨vs, e, hl, hr⟩ := hx
    obtain ⟨l1, l2⟩ := h.rep hC
    refine ⟨⟨vs, e, by rw [hl, l1], fun j p u hp hu => ?_⟩, fun ht => ⟨vs, e, by rw [hl, l1], fun j p u hp hu => ?_⟩⟩
    all_goals
      have hj := (List.getElem?_eq_some_iff.1 hp).1
      rw [l1] at hj
      obtain ⟨r1, r2⟩ := l2 j _ p u (List.getElem?_eq_getElem hj) hp (hr j _ u (List.getElem?_eq_getElem hj) hu)
    · exact r1
    · exact r2 ht
  | c h _ => exact h.rep hC hx
  | sly es c => exact ⟨repV_ok (fun _ h => Or.inl h) (show RepV w ok (fun _ _ => undef) (fun _ => 0) (.c (.sly es c)) v from hx), fun _ => hx⟩
  | agg h =>
    obtain ⟨arr, e1, e2, e3⟩ := hx
    obtain ⟨l1, _, l2⟩ := h.rep hC
    refine ⟨⟨arr, e1, by rw [e2, l1], fun j u y hu hy => ?_⟩, fun ht => ⟨arr, e1, by rw [e2, l1], fun j u y hu hy => ?_⟩⟩
    all_goals
      have hj := (List.getElem?_eq_some_iff.1 hy).1
      rw [l1] at hj
      obtain ⟨r0, ho⟩ := e3 j u _ hu (List.getElem?_eq_getElem hj)
      obtain ⟨r1, r2⟩ := l2 j _ y u (List.getElem?_eq_getElem hj) hy r0
    · exact ⟨r1, ho⟩
    · exact ⟨r2 ht, ho⟩
theorem ArgsI.rep (hC : Conf W0 ok σ S a w) {xs : List AT} {ys : List AV} {t : Ln} {d : List Nat} (h : ArgsI S.blk xs ys t d) : ys.length = xs.length ∧
    ∀ (j : Nat) x y v, xs[j]? = some x → ys[j]? = some y → RepT w ok σ S.G x v → RepV w (Lent S σ ok d) (fun _ _ => undef) (fun _ => 0) y v ∧ (t = .no → RepV w ok (fun _ _ => undef) (fun _ => 0) y v) := by
  induction h with
  | nil => exact ⟨rfl, fun j x y v hx => by simp at hx⟩
  | cons h h' ih =>
    obtain ⟨l1, l3⟩ := ih
    refine ⟨by simp [l1], fun j x y v hx hy hv => ?_⟩
    cases j with
    | zero =>
      simp at hx hy
      subst hx hy
      obtain ⟨r1, r2⟩ := h.rep hC hv
      exact ⟨repV_ok (fun _ h => h.left) r1, fun e => r2 (by rename_i t _ _ _ t' _; cases t <;> cases t' <;> first | rfl | cases e)⟩
    | succ j =>
      obtain ⟨r1, r2⟩ := l3 j x y v (by simpa using hx) (by simpa using hy) hv
      exact ⟨repV_ok (fun _ h => h.right) r1, fun e => r2 (by rename_i t _ _ _ t' _; cases t <;> cases t' <;> first | rfl | cases e)⟩

/-- Rows that never turn again. -/
theorem Conf.frz (u : List (Nat × Blk)) : ∀ {ok : Nat → Prop} {S : St}, Conf W0 ok σ S a w → (∀ p ∈ u, (∃ g E sz es, S.h[p.1]? = some (.row g E sz es) ∧ p.2 = .froz g es) ∨ ∃ g es, S.h[p.1]? = some (.froz g es) ∧ p.2 = .froz g es) →
    ∃ ok', Conf W0 ok' σ (S.put none (.v (.c .un)) u) a w ∧ (∀ k, ok k → ok' k) ∧ (∀ p ∈ u, ∀ B k, S.h[p.1]? = some B → B.at σ p.1 = some k → ok' k) ∧ (S.put none (.v (.c .un)) u).G = S.G := by
  induction u with
  | nil => intro ok S hC _; exact ⟨ok, hC, fun _ h => h, fun p hp => (by cases hp), rfl⟩
  | cons p u ih =>
    intro ok S hC hu
    obtain ⟨b, B'⟩ := p
    have hstep : ∃ ok1, Conf W0 ok1 σ (S.put none (.v (.c .un)) [(b, B')]) a w ∧ (∀ k, ok k → ok1 k) ∧ (∀ B k, S.h[b]? = some B → B.at σ b = some k → ok1 k) ∧ (S.put none (.v (.c .un)) [(b, B')]).G = S.G := by
      rcases hu _ List.mem_cons_self with ⟨g, E, sz, es, h1, h2⟩ | ⟨g, es, h1, h2⟩
      · dsimp only at h1 h2
        subst h2
        have hbl : b < S.h.length := (List.getElem?_eq_some_iff.1 h1).1
        have hgen : S.G b = g := by unfold St.G; rw [h1]; rfl
        have hGe : (S.put none (.v (.c .un)) [(b, Blk.froz g es)]).G = S.G := by
          funext c
          by_cases hc : c = b
          · subst hc; rw [hgen]; simp [St.G, St.put, hbl, Blk.gen]
          · simp [St.G, St.put, List.getElem?_set_ne (fun e => hc e.symm)]
        have hRB := hC.blk b _ h1
        have hR := row_RepI (ok' := fun k => ok k ∨ (Blk.row g E sz es).at σ b = some k) hRB (fun _ h => Or.inl h) (fun n hn => Or.inr (by
          obtain ⟨xs, e1, _⟩ := hRB
          simp only [Blk.at]
          rcases e1.2 with ⟨e5, _⟩ | ⟨m, cap, cur, e5, _⟩
          · rw [e5] at hn; simp [Value.ownBlock] at hn
          · rw [e5] at hn ⊢; simpa [Value.blkNo, Value.ownBlock] using hn))
        have hbd : ∀ k, (Blk.row g E sz es).at σ b = some k → W0.bs.has k ∧ k < w.heap.size := by
          intro k hk
          obtain ⟨xs, e1, _, e3, _⟩ := hRB
          have : Value.ownBlock (σ b g) = some k := by
            simp only [Blk.at] at hk
            rcases e1.2 with ⟨e5, _⟩ | ⟨m, cap, cur, e5, _⟩
            · rw [e5] at hk; simp [Value.blkNo] at hk
            · rw [e5] at hk ⊢; simpa [Value.blkNo, Value.ownBlock] using hk
          exact ⟨e3.has k this, (e1.lt k this).2⟩
        have hC1 := hC.step (w' := w) (row := none) (ok' := fun k => ok k ∨ (Blk.row g E sz es).at σ b = some k) (σ' := σ) (b := b) (B' := .froz g es) (dst := none) (r := .v (.c .un)) (v := undef)
          (grown_refl w) (by simp) (fun _ h => Or.inl h) (fun k hk => hk.elim (hC.okb k) (fun h => (hbd k h).2))
          (fun k hk => hk.imp id fun h => ⟨(hbd k h).1, fun c C hc hC' hn => hC.apart c b C _ hC' h1 hc k hn h⟩) hbl (by rw [hgen]; exact Nat.le_refl _) (fun _ _ _ => rfl)
          (by rw [hGe]; exact hR) (fun n hn => by simp [Blk.at] at hn) trivial
        exact ⟨_, hC1, fun _ h => Or.inl h, fun B k hB hk => by rw [h1] at hB; injection hB with hB; subst hB; exact Or.inr hk, hGe⟩
      · dsimp only at h1 h2
        subst h2
        have e : S.put none (.v (.c .un)) [(b, Blk.froz g es)] = S := by
          obtain ⟨t, h⟩ := S
          simp only [St.put, List.foldl_cons, List.foldl_nil]
          congr 1
          apply List.ext_getElem?
          intro i
          by_cases hi : b = i
          · subst hi
            have hbl : b < h.length := (List.getElem?_eq_some_iff.1 h1).1
            rw [List.getElem?_set_self hbl]
            exact h1.symm
          · rw [List.getElem?_set_ne hi]
        rw [e]
        exact ⟨ok, hC, fun _ h => h, fun B k hB hk => by rw [h1] at hB; injection hB with hB; subst hB; simp [Blk.at] at hk, rfl⟩
    obtain ⟨ok1, hC1, s1, s2, s3⟩ := hstep
    have hget : ∀ c, c ≠ b → (S.put none (.v (.c .un)) [(b, B')]).h[c]? = S.h[c]? := fun c hc => by simp [St.put, List.getElem?_set_ne (fun e => hc e.symm)]
    have hself : b < S.h.length → (S.put none (.v (.c .un)) [(b, B')]).h[b]? = some B' := fun h => by simp [St.put, h]
    obtain ⟨ok2, hC2, t1, t2, t3⟩ := ih hC1 (fun q hq => by
      by_cases hc : q.1 = b
      · rcases hu _ List.mem_cons_self with ⟨g, E, sz, es, h1, h2⟩ | ⟨g, es, h1, h2⟩
        all_goals
          dsimp only at h1 h2
          have hbl : b < S.h.length := (List.getElem?_eq_some_iff.1 h1).1
          right
          rcases hu q (List.mem_cons_of_mem _ hq) with ⟨g', E', sz', es', h3, h4⟩ | ⟨g', es', h3, h4⟩
          all_goals
            rw [hc, h1] at h3
            injection h3 with h3
            first
              | (injection h3 with a1 a2 a3 a4; exact ⟨g, es, by rw [hc, hself hbl, h2], by rw [h4, ← a1, ← a4]⟩)
              | (injection h3 with a1 a2; exact ⟨g, es, by rw [hc, hself hbl, h2], by rw [h4, ← a1, ← a2]⟩)
              | cases h3
      · rw [hget _ hc]; exact hu q (List.mem_cons_of_mem _ hq))
    refine ⟨ok2, hC2, fun k hk => t1 k (s1 k hk), fun q hq B k hB hk => ?_, by rw [← s3]; exact t3⟩
    rcases List.mem_cons.1 hq with rfl | hq
    · exact t1 k (s2 B k hB hk)
    · by_cases hc : q.1 = b
      · rw [hc] at hB hk; exact t1 k (s2 B k hB hk)
      · exact t2 q hq B k (by rw [hget _ hc]; exact hB) hk
/-- Rows that are handed over. -/
theorem Conf.handed (hC : Conf W0 ok σ S a w) {t : Ln} {d : List Nat} (ht : t ≠ .vars) (hr : Rowish S.blk t d) :
    ∃ ok', Conf W0 ok' σ (S.put none (.v (.c .un)) (Ab.frz S.blk d)) a w ∧ (∀ k, ok k → ok' k) ∧ (∀ k, Lent S σ ok d k → ok' k) ∧ (S.put none (.v (.c .un)) (Ab.frz S.blk d)).G = S.G := by
  have hu : ∀ p ∈ Ab.frz S.blk d, ∃ g E sz es, S.h[p.1]? = some (.row g E sz es) ∧ p.2 = .froz g es := by
    intro p hp
    obtain ⟨g, E, sz, es, h1, h2⟩ := frz_mem hp
    exact ⟨g, E, sz, es, blk_some h1 (fun g e => by cases e), h2⟩
  obtain ⟨ok', h1, h2, h3, h4⟩ := hC.frz (Ab.frz S.blk d) (fun p hp => Or.inl (hu p hp))
  refine ⟨ok', h1, h2, fun k hk => ?_, h4⟩
  rcases hk with hk | ⟨b, B, hb, hB, hn⟩
  · exact h2 k hk
  · have hrow : (∃ g es, S.blk b = .froz g es) ∨ ∃ g E sz es, S.blk b = .row g E sz es := by
      cases t with
      | no => exact Or.inl (hr.1 rfl b hb)
      | rows => exact hr.2 rfl b hb
      | vars => exact absurd rfl ht
    rcases hrow with ⟨g, es, e⟩ | ⟨g, E, sz, es, e⟩
    · have := blk_some e (fun g e => by cases e)
      rw [this] at hB
      injection hB with hB
      subst hB
      simp [Blk.at] at hn
    · exact h3 (b, .froz g es) (mem_frz hb e) B k hB hn
end
end Go.Proofs.YtikchieadclbhaaGreatDoor.Ab
