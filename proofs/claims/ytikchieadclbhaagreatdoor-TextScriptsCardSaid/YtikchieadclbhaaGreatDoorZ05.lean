/- The operations on the abstract state, and that the model's operations follow them. No condition. -/
import Derived.Test.YtikchieadclbhaaGreatDoorZ04
namespace Go.Proofs.YtikchieadclbhaaGreatDoor.Ab
set_option linter.unusedVariables false
set_option linter.unusedSimpArgs false
open Go.RowKit

/-- What the walk knows of a type. -/
inductive TK where
  | none
  | int (k : IntKind)
  | bool
  | str
  | slice (e : Nat)
  | arr (n e : Nat)
  | struct (fs : List (Nat × Nat))
  | ptr (e : Nat)
  | map (k e : Nat)

structure TI where
  k : TK
  size : Nat
  bytes : Nat
  zero : List AV1
  eq : Bool

def TK.agg : TK → Bool
  | .arr _ _ => true
  | .struct _ => true
  | _ => false

def zcell : AV1 → Option Value
  | .i (.sc v) => some v
  | .nl => some (.slice none 0 0)
  | _ => none

/-- The table tells the truth of the program's types. -/
structure TabOk (P : Program) (T : Nat → TI) : Prop where
  info : ∀ t, (match (T t).k with | .none => True | _ => ∃ i z, P.info? t = some i ∧ i.size = (T t).size ∧ i.bytes = (T t).bytes ∧ i.zero = some z ∧ z.cells.toList.map some = (T t).zero.map zcell ∧
    ((T t).k.agg = true ↔ ∃ c, z = .agg c) ∧ z.cells.size = (T t).size ∧ z.cells.all (·.oneCell') = true)
  desc : ∀ t, (match (T t).k with
    | .none => True
    | .int k => P.underlying t = some (.int k)
    | .bool => P.underlying t = some .bool
    | .str => P.underlying t = some .string
    | .slice e => P.underlying t = some (.slice e)
    | .arr n e => P.underlying t = some (.array n e)
    | .struct fs => ∃ F : Array Field, P.underlying t = some (.struct F) ∧ F.toList.map (fun f => (f.offset, f.type)) = fs
    | .ptr e => P.underlying t = some (.pointer e)
    | .map k e => P.underlying t = some (.map k e))
  eqs : ∀ t, (T t).eq = true → P.stoodInHeld t = false ∧ P.eqGuardType P.depth t = false ∧ ∀ f ∈ (P.fieldsOf t).toList, f.name ≠ "_"

def nthO {α : Type} : List α → Nat → Option α
  | [], _ => none
  | x :: _, 0 => some x
  | _ :: l, n + 1 => nthO l n
theorem nthO_eq {α : Type} (l : List α) (n : Nat) : nthO l n = l[n]? := by
  induction l generalizing n with
  | nil => simp [nthO]
  | cons x l ih => cases n <;> simp [nthO, ih]

/-- The list laid out, element by element, before it is handed on. -/
def lay {α : Type} : List α → (List α → Prop) → Prop
  | [], K => K []
  | x :: l, K => lay l fun m => K (x :: m)
theorem lay_eq {α : Type} (l : List α) (K : List α → Prop) : lay l K = K l := by
  induction l generalizing K with
  | nil => rfl
  | cons x l ih => simp [lay, ih]

def genK (B : Blk) (K : Nat → Prop) : Prop :=
  match B with
  | .dead g => K g
  | .var g _ => K g
  | .row g _ _ _ => K g
  | .froz g _ => K g
  | .mp g _ _ _ => K g
  | .rowp g _ _ _ _ => K g
theorem genK_eq (B : Blk) (K : Nat → Prop) : genK B K = K B.gen := by cases B <;> rfl

def frcC : List Cap → (List Cap → Prop) → Prop
  | [], K => K []
  | .ptr b g off :: l, K => frcC l fun m => K (.ptr b g off :: m)
  | .pim cs :: l, K => frcC l fun m => K (.pim cs :: m)
  | .sc v :: l, K => frcC l fun m => K (.sc v :: m)
theorem frcC_eq (l : List Cap) (K : List Cap → Prop) : frcC l K = K l := by
  induction l generalizing K with
  | nil => rfl
  | cons x l ih => cases x <;> simp [frcC, ih]
/-- Values laid out to their heads, before they are handed on. -/
def frc1 (x : AV1) (K : AV1 → Prop) : Prop :=
  match x with
  | .i (.sc v) => K (.i (.sc v))
  | .i (.sl es) => K (.i (.sl es))
  | .nl => K .nl
  | .ptr b g off => K (.ptr b g off)
  | .own b g => K (.own b g)
  | .eptr b g sz k off => K (.eptr b g sz k off)
  | .pim cs => K (.pim cs)
  | .slx es => K (.slx es)
  | .sly es c => K (.sly es c)
  | .osub b g sz lo hi => K (.osub b g sz lo hi)
  | .clo f ps => frcC ps fun qs => K (.clo f qs)
  | .lit b => K (.lit b)
  | .bl => K .bl
  | .un => K .un
theorem frc1_eq (x : AV1) (K : AV1 → Prop) : frc1 x K = K x := by
  cases x with
  | i y => cases y <;> rfl
  | clo f ps => simp [frc1, frcC_eq]
  | _ => rfl
def frcL : List AV1 → (List AV1 → Prop) → Prop
  | [], K => K []
  | x :: l, K => frc1 x fun y => frcL l fun m => K (y :: m)
theorem frcL_eq (l : List AV1) (K : List AV1 → Prop) : frcL l K = K l := by
  induction l generalizing K with
  | nil => rfl
  | cons x l ih => simp [frcL, frc1_eq, ih]
def frcV (x : AV) (K : AV → Prop) : Prop :=
  match x with
  | .c x => frc1 x fun y => K (.c y)
  | .agg cs => frcL cs fun ds => K (.agg ds)
theorem frcV_eq (x : AV) (K : AV → Prop) : frcV x K = K x := by cases x <;> simp [frcV, frc1_eq, frcL_eq]
def frcVs : List AV → (List AV → Prop) → Prop
  | [], K => K []
  | x :: l, K => frcV x fun y => frcVs l fun m => K (y :: m)
theorem frcVs_eq (l : List AV) (K : List AV → Prop) : frcVs l K = K l := by
  induction l generalizing K with
  | nil => rfl
  | cons x l ih => simp [frcVs, frcV_eq, ih]
def frcT (x : AT) (K : AT → Prop) : Prop :=
  match x with
  | .v x => frcV x fun y => K (.v y)
  | .tup xs => frcVs xs fun ys => K (.tup ys)
theorem frcT_eq (x : AT) (K : AT → Prop) : frcT x K = K x := by cases x <;> simp [frcT, frcV_eq, frcVs_eq]
def frcB (B : Blk) (K : Blk → Prop) : Prop :=
  match B with
  | .dead g => K (.dead g)
  | .var g cs => frcL cs fun ds => K (.var g ds)
  | .row g E sz es => K (.row g E sz es)
  | .froz g es => K (.froz g es)
  | .mp g kk ag f => K (.mp g kk ag f)
  | .rowp g E sz es N => K (.rowp g E sz es N)
theorem frcB_eq (B : Blk) (K : Blk → Prop) : frcB B K = K B := by cases B <;> simp [frcB, frcL_eq]
def setK {α : Type} : List α → Nat → α → (List α → Prop) → Prop
  | [], _, _, K => K []
  | _ :: l, 0, x, K => K (x :: l)
  | y :: l, n + 1, x, K => setK l n x fun m => K (y :: m)
theorem setK_eq {α : Type} (l : List α) (n : Nat) (x : α) (K : List α → Prop) : setK l n x K = K (l.set n x) := by
  induction l generalizing n K with
  | nil => rfl
  | cons y l ih => cases n <;> simp [setK, ih]
def setsK : List (Nat × Blk) → List Blk → (List Blk → Prop) → Prop
  | [], h, K => K h
  | (b, B) :: u, h, K => frcB B fun B => setK h b B fun h => setsK u h K
theorem setsK_eq (u : List (Nat × Blk)) (h : List Blk) (K : List Blk → Prop) : setsK u h K = K (u.foldl (fun h p => h.set p.1 p.2) h) := by
  induction u generalizing h with
  | nil => rfl
  | cons p u ih => obtain ⟨b, B⟩ := p; simp [setsK, frcB_eq, setK_eq, ih]
/-- What an operation leaves, put into the state. -/
def putK (S : St) (dst : Option Tmp) (r : AT) (u : List (Nat × Blk)) (K : St → Prop) : Prop :=
  match S with
  | .mk t h => match dst with
    | none => setsK u h fun h => K (.mk t h)
    | some d => frcT r fun r => setK t d r fun t => setsK u h fun h => K (.mk t h)
theorem putK_eq (S : St) (dst : Option Tmp) (r : AT) (u : List (Nat × Blk)) (K : St → Prop) : putK S dst r u K = K (S.put dst r u) := by
  obtain ⟨t, h⟩ := S
  cases dst <;> simp [putK, frcT_eq, setK_eq, setsK_eq, St.put]

def const1 : Value → AV1
  | .slice none 0 0 => .nl
  | .agg _ => .un
  | .tuple _ => .un
  | v => .i (.sc v)
def constT (v : Value) : AT := .v (.c (const1 v))

def St.ev (S : St) : Operand → AT
  | .tmp t => (nthO S.t t).getD (.v (.c .un))
  | .const v => constT v
  | .func f => .v (.c (.i (.sc (.func (.func f) #[] #[]))))
  | _ => .v (.c .un)

def St.blk (S : St) (b : Nat) : Blk := (nthO S.h b).getD (.dead 0)

theorem const1_rep {w : World} {ok : Nat → Prop} {σ : Nat → Nat → Value} {G : Nat → Nat} (v : Value) : Rep1 w ok σ G (const1 v) v := by
  unfold const1
  split
  · exact rfl
  · exact trivial
  · exact trivial
  · rename_i h1 h2 h3
    refine RepI.sc _ ?_
    cases v <;> first | rfl | exact absurd rfl (h2 _) | exact absurd rfl (h3 _)

theorem ev_rep {W0 : Ent} {w : World} {ok : Nat → Prop} {σ : Nat → Nat → Value} {S : St} {a : Act} (h : Conf W0 ok σ S a w) (x : Operand) : RepT w ok σ S.G (S.ev x) (a.eval x) := by
  cases x with
  | tmp t =>
    show RepT w ok σ S.G ((nthO S.t t).getD (.v (.c .un))) (a.tmps.getD t undef)
    rw [nthO_eq]
    by_cases ht : t < S.t.length
    · have ht' : t < a.tmps.size := by rw [h.size]; exact ht
      rw [List.getElem?_eq_getElem ht]
      have e : a.tmps.getD t undef = a.tmps[t] := by simp [ht']
      rw [e]
      exact h.tmp t _ _ (Array.getElem?_eq_getElem ht') (List.getElem?_eq_getElem ht)
    · rw [List.getElem?_eq_none (Nat.le_of_not_lt ht)]; exact trivial
  | const v => exact const1_rep v
  | global g => exact trivial
  | func f => exact RepI.sc _ rfl

theorem blk_some {S : St} {b : Nat} {B : Blk} (h : S.blk b = B) (hd : ∀ g, B ≠ .dead g) : S.h[b]? = some B := by
  unfold St.blk at h
  rw [nthO_eq] at h
  cases hb : S.h[b]? with
  | none => rw [hb] at h; exact absurd h.symm (hd 0)
  | some B' => rw [hb] at h; simp at h; rw [h]
theorem blk_gen (S : St) (b : Nat) : S.G b = (S.blk b).gen := by unfold St.G St.blk; rw [nthO_eq]

/-- What one operation leaves: the answer, the entries that it turns, the entries that it looked at. -/
abbrev Kont := AT → List (Nat × Blk) → List Nat → Prop

/-- A part of cells, as the type reads it. -/
def partK (ti : TI) (cs : List AV1) (off : Nat) (K : AT → Prop) : Prop :=
  match ti.k.agg with
  | true => match Nat.ble (off + ti.size) cs.length with
    | true => lay ((cs.drop off).take ti.size) fun l => K (.v (.agg l))
    | false => False
  | false => match nthO cs off with
    | some x => K (.v (.c x))
    | none => False

def effLoad (T : Nat → TI) (H : Nat → Blk) (t : Nat) (x : AT) (K : Kont) : Prop :=
  match (T t).k with
  | .none => False
  | _ => match x with
    | .v (.c (.ptr b g off)) => match H b with
      | .var g' cs => g' = g ∧ partK (T t) cs off fun r => K r [] [b]
      | _ => False
    | .v (.c (.pim cs)) => partK (T t) (cs.map .i) 0 fun r => K r [] []
    | .v (.c (.eptr b g sz k off)) => match H b with
      | .row g' _ sz' es => g' = g ∧ sz' = sz ∧ ∃ e, es[k]? = some e ∧ partK (T t) (e.map .i) off fun r => K r [] [b]
      | _ => False
    | _ => False

def cellsT : AT → Option (List AV1)
  | .v (.c x) => some [x]
  | .v (.agg cs) => some cs
  | .tup _ => none

def splice {α : Type} : List α → Nat → List α → List α
  | l, _, [] => l
  | [], _, _ :: _ => []
  | _ :: l, 0, y :: ys => y :: splice l 0 ys
  | x :: l, n + 1, y :: ys => x :: splice l n (y :: ys)

def AV1.known : AV1 → Bool
  | .un => false
  | _ => true
def allI : List AV1 → Option (List IV)
  | [] => some []
  | .i x :: l => match allI l with | some m => some (x :: m) | none => none
  | .nl :: l => match allI l with | some m => some (.sl [] :: m) | none => none
  | _ :: _ => none

def effStore (T : Nat → TI) (H : Nat → Blk) (t : Nat) (x y : AT) (K : Kont) : Prop :=
  match (T t).k with
  | .none => False
  | _ => match cellsT y with
    | none => False
    | some ys => match Nat.beq ys.length (T t).size with
      | false => False
      | true => match x with
        | .v (.c (.ptr b g off)) => match H b with
          | .var g' cs => g' = g ∧ match Nat.ble (off + ys.length) cs.length, ys.all AV1.known with
            | true, true => lay (splice cs off ys) fun cs' => K (.v (.c .un)) [(b, .var g cs')] [b]
            | _, _ => False
          | _ => False
        | .v (.c (.eptr b g sz k off)) => match H b with
          | .row g' E sz' es => g' = g ∧ sz' = sz ∧ ∃ e, es[k]? = some e ∧ match Nat.ble (off + ys.length) e.length, allI ys with
            | true, some zs => lay (splice e off zs) fun e' => K (.v (.c .un)) [(b, .row g E sz (es.set k e'))] [b]
            | _, _ => False
          | _ => False
        | _ => False

def effField (T : Nat → TI) (s : Nat) (x : AT) (f : Nat) (K : Kont) : Prop :=
  match (T s).k with
  | .struct fs => match nthO fs f with
    | some (o, ft) => match (T ft).k, Nat.ble 1 (T ft).size with
      | .none, _ => False
      | _, true => match x with
        | .v (.c (.ptr b g off)) => K (.v (.c (.ptr b g (off + o)))) [] []
        | .v (.c (.eptr b g sz k off)) => K (.v (.c (.eptr b g sz k (off + o)))) [] []
        | .v (.c (.pim cs)) => K (.v (.c (.pim (cs.drop o)))) [] []
        | _ => False
      | _, false => False
    | none => False
  | _ => False

def effIndex (T : Nat → TI) (H : Nat → Blk) (t : Nat) (x i : AT) (K : Kont) : Prop :=
  match i with
  | .v (.c (.i (.sc (.int _ n)))) => match (T t).k with
    | .slice e => match (T e).k with
      | .none => False
      | _ => match x with
        | .v (.c (.i (.sl es))) => 0 ≤ n ∧ ∃ z, es[n.toNat]? = some z ∧ z.length = (T e).size ∧ K (.v (.c (.pim z))) [] []
        | .v (.c (.own b g)) => match H b with
          | .row g' E sz es => g' = g ∧ sz = (T e).size ∧ 0 ≤ n ∧ n.toNat < es.length ∧ K (.v (.c (.eptr b g sz n.toNat 0))) [] [b]
          | .froz g' es => g' = g ∧ 0 ≤ n ∧ ∃ z, es[n.toNat]? = some z ∧ z.length = (T e).size ∧ K (.v (.c (.pim z))) [] [b]
          | _ => False
        | _ => False
    | .arr len e => match (T e).k with
      | .none => False
      | _ => match x with
        | .v (.c (.ptr b g off)) => 0 ≤ n ∧ n.toNat < len ∧ K (.v (.c (.ptr b g (off + n.toNat * (T e).size)))) [] []
        | .v (.c (.pim cs)) => 0 ≤ n ∧ n.toNat < len ∧ K (.v (.c (.pim (cs.drop (n.toNat * (T e).size))))) [] []
        | _ => False
    | _ => False
  | _ => False

end Go.Proofs.YtikchieadclbhaaGreatDoor.Ab
