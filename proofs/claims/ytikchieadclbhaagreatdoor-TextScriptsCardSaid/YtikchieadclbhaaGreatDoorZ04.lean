/- An abstract state for walks: values that read as data, blocks of the call's own; how a world bears it. No condition. -/
import Derived.Test.YtikchieadclbhaaGreatDoorZ02
import Derived.Test.YtikchieadclbhaaGreatDoorZ03
import Derived.Maps.AppendAt
import Derived.Orders
import Derived.Laws.Rows
import Derived.Laws.IdiomCopy
namespace Go.Proofs.YtikchieadclbhaaGreatDoor.Ab
set_option linter.unusedVariables false
set_option linter.unusedSimpArgs false
open Go.RowKit

/-- What lies in one cell and never turns: a plain value, or a slice that reads as rows of cells. -/
inductive IV where
  | sc (v : Value)
  | sl (es : List (List IV))

/-- What a function value holds: a variable of the call's own, cells that never turn, a plain value. -/
inductive Cap where
  | ptr (b g off : Nat)
  | pim (cs : List IV)
  | sc (v : Value)

/-- What lies in one cell of the call's own state. -/
inductive AV1 where
  | i (x : IV)
  | nl
  | ptr (b g off : Nat)
  | own (b g : Nat)
  | eptr (b g sz k off : Nat)
  | pim (cs : List IV)
  | slx (es : List (List IV))
  | sly (es : List (List IV)) (c : Nat)
  | osub (b g sz lo hi : Nat)
  | clo (f : Nat) (ps : List Cap)
  | lit (b : Bool)
  | bl
  | un

inductive AV where
  | c (x : AV1)
  | agg (cs : List AV1)

inductive AT where
  | v (x : AV)
  | tup (xs : List AV)

/-- The kinds of a map's keys. -/
inductive KK where
  | int (q : IntKind)
  | str
def KK.fits : KK → Value → Bool
  | .int q, .int q' _ => decide (q = q')
  | .str, .string _ => true
  | _, _ => false
/-- A block of the call's own, with its generation. -/
inductive Blk where
  | dead (g : Nat)
  | var (g : Nat) (cs : List AV1)
  | row (g : Nat) (E sz : Nat) (es : List (List IV))
  | froz (g : Nat) (es : List (List IV))
  | mp (g : Nat) (kk : KK) (ag : Bool) (f : Value → Option (List IV))
  | rowp (g : Nat) (E sz : Nat) (es : List (List IV)) (N : Nat)

def Blk.gen : Blk → Nat
  | .dead g => g
  | .var g _ => g
  | .row g _ _ _ => g
  | .froz g _ => g
  | .mp g _ _ _ => g
  | .rowp g _ _ _ _ => g

/-- A row that is never appended to in place (the bytes of a string): its element's number is counted from here on. -/
def FX : Nat := 1000000
/-- A row that has no room behind its cells. -/
def CX : Nat := 2000000
/-- The function's own row; one that is fixed may have a mark behind its cells. -/
def OwnR (w : World) (base : Nat) (E sz : Nat) (v : Value) (n : Nat) (xs : List Value) : Prop :=
  xs.length = n * sz ∧ ((v = .slice none 0 0 ∧ n = 0) ∨
    ∃ g cap cur, v = .slice (some ⟨g, 0, none⟩) n cap ∧ base ≤ g ∧ (∃ ty fz, w.heap[g]? = some (.cells cur ty fz) ∧ ((fz = (0, 0) ∧ ty = E) ∨ (FX ≤ E ∧ (fz = (0, 0) ∨ cap * sz ≤ fz.1)))) ∧
      n ≤ cap ∧ cap ≤ maxLen ∧ cur.size = cap * sz ∧ cur.toList.take (n * sz) = xs)
theorem OwnR.of {w : World} {base E sz : Nat} {v : Value} {n : Nat} {xs : List Value} (h : w.ownsRow base E sz v n xs) : OwnR w base E sz v n xs := by
  refine ⟨h.1, ?_⟩
  rcases h.2 with h | ⟨g, cap, cur, h1, h2, h3, h4⟩
  · exact Or.inl h
  · exact Or.inr ⟨g, cap, cur, h1, h2, ⟨_, _, h3, Or.inl ⟨rfl, rfl⟩⟩, h4⟩
theorem OwnR.to {w : World} {base E sz : Nat} {v : Value} {n : Nat} {xs : List Value} (h : OwnR w base E sz v n xs) (hE : E < FX) : w.ownsRow base E sz v n xs := by
  refine ⟨h.1, ?_⟩
  rcases h.2 with h | ⟨g, cap, cur, h1, h2, ⟨ty, fz, h3, h5⟩, h4⟩
  · exact Or.inl h
  · rcases h5 with ⟨rfl, rfl⟩ | ⟨h5, _⟩
    · exact Or.inr ⟨g, cap, cur, h1, h2, h3, h4⟩
    · omega
theorem OwnR.lt {w : World} {base E sz : Nat} {v : Value} {n : Nat} {xs : List Value} (h : OwnR w base E sz v n xs) (m : Nat) (hm : Value.ownBlock v = some m) : base ≤ m ∧ m < w.heap.size := by
  rcases h.2 with ⟨h, _⟩ | ⟨g, cap, cur, h1, h2, ⟨ty, fz, h3, h5⟩, h4⟩
  · rw [h] at hm; cases hm
  · rw [h1] at hm
    injection hm with hm
    subst hm
    exact ⟨h2, (Array.getElem?_eq_some_iff.1 h3).1⟩
theorem OwnR.mono {w : World} {base base' : Nat} {E sz n : Nat} {v : Value} {xs : List Value} (h : OwnR w base E sz v n xs) (hb : base' ≤ base) : OwnR w base' E sz v n xs := by
  refine ⟨h.1, ?_⟩
  rcases h.2 with h | ⟨g, cap, cur, e, h1, r⟩
  · exact Or.inl h
  · exact Or.inr ⟨g, cap, cur, e, Nat.le_trans hb h1, r⟩
theorem OwnR.cells {w : World} {base E sz : Nat} {v : Value} {n : Nat} {xs : List Value} (h : OwnR w base E sz v n xs) {m l c : Nat} (hv : v = .slice (some ⟨m, 0, none⟩) l c) :
    ∀ j u, xs[j]? = some u → w.cell? ⟨m, j, none⟩ = some u := by
  intro j u hu
  rcases h.2 with ⟨h, _⟩ | ⟨g, cap, cur, h1, h2, ⟨ty, fz, h3, h5⟩, h4, h6, h7, h8⟩
  · rw [h] at hv; cases hv
  · rw [h1] at hv
    injection hv with hv
    injection hv with hv
    injection hv with hv
    subst hv
    rw [← h8, List.getElem?_take] at hu
    split at hu
    · simp only [World.cell?, h3]
      simpa using hu
    · cases hu

inductive RepI (w : World) (ok : Nat → Prop) : IV → Value → Prop
  | sc (v : Value) (h : v.oneCell' = true) : RepI w ok (.sc v) v
  | nil (A : Option Addr) (c : Nat) (hm : c ≤ maxLen) : RepI w ok (.sl []) (.slice A 0 c)
  | sl (es : List (List IV)) (sz : Nat) (ad : Addr) (c : Nat) (f : Nat → Value) (hok : ok ad.block) (hc : es.length ≤ c) (hm : c ≤ maxLen)
      (hlen : ∀ e ∈ es, e.length = sz)
      (hcell : ∀ i, i < es.length * sz → w.cell? (ad.add i) = some (f i))
      (hr : ∀ k e j x, es[k]? = some e → e[j]? = some x → RepI w ok x (f (k * sz + j))) : RepI w ok (.sl es) (.slice (some ad) es.length c)

def RepC (w : World) (ok : Nat → Prop) (σ : Nat → Nat → Value) (G : Nat → Nat) : Cap → Value → Prop
  | .ptr b g off, v => g ≤ G b ∧ ∃ n, σ b g = .pointer (some ⟨n, 0, none⟩) ∧ v = .pointer (some ⟨n, off, none⟩)
  | .pim cs, v => ∃ a, v = .pointer (some a) ∧ ok a.block ∧ ∀ j x, cs[j]? = some x → ∃ u, w.cell? (a.add j) = some u ∧ RepI w ok x u
  | .sc u, v => v = u ∧ u.oneCell' = true
def Rep1 (w : World) (ok : Nat → Prop) (σ : Nat → Nat → Value) (G : Nat → Nat) : AV1 → Value → Prop
  | .i x, v => RepI w ok x v
  | .nl, v => v = .slice none 0 0
  | .ptr b g off, v => g ≤ G b ∧ ∃ n, σ b g = .pointer (some ⟨n, 0, none⟩) ∧ v = .pointer (some ⟨n, off, none⟩)
  | .own b g, v => g ≤ G b ∧ v = σ b g ∧ v.oneCell' = true
  | .eptr b g sz k off, v => g ≤ G b ∧ ∃ n l c, σ b g = .slice (some ⟨n, 0, none⟩) l c ∧ v = .pointer (some ⟨n, k * sz + off, none⟩)
  | .pim cs, v => ∃ a, v = .pointer (some a) ∧ ok a.block ∧ ∀ j x, cs[j]? = some x → ∃ u, w.cell? (a.add j) = some u ∧ RepI w ok x u
  | .slx es, v => ∃ A, v = .slice A es.length es.length ∧ RepI w ok (.sl es) v
  | .sly es c, v => ∃ A, v = .slice A es.length c ∧ RepI w ok (.sl es) v ∧ (A = none → c = 0)
  | .osub b g sz lo hi, v => g ≤ G b ∧ ∃ A A' n c, σ b g = .slice A n c ∧ lo ≤ hi ∧ hi ≤ n ∧ n ≤ c ∧ v = .slice A' (hi - lo) (c - lo) ∧ (lo = 0 ∨ lo < hi → A' = A.map (·.add (lo * sz)))
  | .clo f ps, v => ∃ vs : List Value, v = .func (.func f) #[] vs.toArray ∧ vs.length = ps.length ∧ ∀ (j : Nat) p u, ps[j]? = some p → vs[j]? = some u → RepC w ok σ G p u
  | .lit b, v => v = .bool b
  | .bl, v => ∃ b, v = .bool b
  | .un, _ => True

def RepV (w : World) (ok : Nat → Prop) (σ : Nat → Nat → Value) (G : Nat → Nat) : AV → Value → Prop
  | .c x, v => Rep1 w ok σ G x v
  | .agg cs, v => ∃ arr : Array Value, v = .agg arr ∧ arr.size = cs.length ∧ ∀ (j : Nat) u x, arr[j]? = some u → cs[j]? = some x → Rep1 w ok σ G x u ∧ u.oneCell' = true

def RepT (w : World) (ok : Nat → Prop) (σ : Nat → Nat → Value) (G : Nat → Nat) : AT → Value → Prop
  | .v x, v => RepV w ok σ G x v
  | .tup xs, v => ∃ arr : Array Value, v = .tuple arr ∧ arr.size = xs.length ∧ ∀ (j : Nat) u x, arr[j]? = some u → xs[j]? = some x → RepV w ok σ G x u

structure St where
  t : List AT
  h : List Blk

def St.G (S : St) (b : Nat) : Nat := (S.h[b]?.getD (.dead 0)).gen
def Value.blkNo : Value → Option Nat
  | .pointer (some a) => some a.block
  | .map (some m) => some m
  | .slice (some a) _ _ => some a.block
  | _ => none
/-- The block that is in use for an entry. -/
def Blk.at (σ : Nat → Nat → Value) (b : Nat) : Blk → Option Nat
  | .var g _ => Value.blkNo (σ b g)
  | .row g _ _ _ => Value.blkNo (σ b g)
  | .mp g _ _ _ => Value.blkNo (σ b g)
  | .rowp g _ _ _ _ => Value.blkNo (σ b g)
  | _ => none

/-- Whose blocks are: from a number on, and some blocks of the caller's. -/
structure Bs where
  n : Nat
  hole : List Nat
instance : Coe Nat Bs := ⟨fun n => ⟨n, []⟩⟩
def Bs.has (b : Bs) (k : Nat) : Prop := b.n ≤ k ∨ k ∈ b.hole

/-- What is known of a row's value. -/
structure RowB (base : Bs) (ok : Nat → Prop) (E n : Nat) (v : Value) : Prop where
  nok : ∀ m, Value.ownBlock v = some m → ¬ ok m
  has : ∀ m, Value.ownBlock v = some m → base.has m
  cap : CX ≤ E → ∀ A l c, v = .slice A l c → c = n
/-- An element of a map. -/
def RepE (w : World) (ok : Nat → Prop) (ag : Bool) (cs : List IV) (v : Value) : Prop :=
  match ag with
  | true => ∃ arr : Array Value, v = .agg arr ∧ arr.size = cs.length ∧ ∀ (j : Nat) u x, arr[j]? = some u → cs[j]? = some x → RepI w ok x u
  | false => ∃ x, cs = [x] ∧ RepI w ok x v
def keyB : Value → Value → Bool
  | .int k a, .int k' b => decide (k = k') && a == b
  | .string a, .string b => a == b
  | _, _ => false
def RepM (w : World) (ok : Nat → Prop) (kk : KK) (ag : Bool) (f : Value → Option (List IV)) (es : List MapEntry) : Prop :=
  (∀ e ∈ es, kk.fits e.key = true) ∧ ∀ k, kk.fits k = true → match es.find? (fun e => keyB k e.key), f k with
    | none, none => True
    | some e, some cs => RepE w ok ag cs e.val
    | _, _ => False
def RepB (base : Bs) (w : World) (ok : Nat → Prop) (σ : Nat → Nat → Value) (G : Nat → Nat) (b : Nat) : Blk → Prop
  | .dead _ => True
  | .var g cs => ∃ (n : Nat) (arr : Array Value) (ty : TypeId), σ b g = .pointer (some ⟨n, 0, none⟩) ∧ base.has n ∧ ¬ ok n ∧ w.heap[n]? = some (.cells arr ty (0, 0)) ∧ arr.size = cs.length ∧
      ∀ (j : Nat) u x, arr[j]? = some u → cs[j]? = some x → Rep1 w ok σ G x u ∧ u.oneCell' = true
  | .mp g kk ag f => ∃ (m : Nat) (es : Array MapEntry) (clock : Nat), σ b g = .map (some m) ∧ base.has m ∧ ¬ ok m ∧ w.heap[m]? = some (.map es clock) ∧ RepM w ok kk ag f es.toList
  | .row g E sz es => ∃ xs : List Value, OwnR w 0 E sz (σ b g) es.length xs ∧ (∀ e ∈ es, e.length = sz) ∧ RowB base ok E es.length (σ b g) ∧
      ∀ (k : Nat) e j x, es[k]? = some e → e[j]? = some x → ∃ u, xs[k * sz + j]? = some u ∧ RepI w ok x u ∧ u.oneCell' = true
  | .froz g es => RepI w ok (.sl es) (σ b g)
  | .rowp g E sz es N => ∃ (m c : Nat) (xs : List Value), σ b g = .slice (some ⟨m, 0, none⟩) N c ∧ w.ownsRow 0 E sz (.slice (some ⟨m, 0, none⟩) es.length c) es.length xs ∧ (∀ e ∈ es, e.length = sz) ∧ N ≤ c ∧ base.has m ∧ ¬ ok m ∧
      ∀ (k : Nat) e j x, es[k]? = some e → e[j]? = some x → ∃ u, xs[k * sz + j]? = some u ∧ RepI w ok x u ∧ u.oneCell' = true

/-- Where a call began: its world, and what was ok then. -/
structure Ent where
  W : World
  ok0 : Nat → Prop
  hole : List Nat
  hb : Option Nat
  gl : gP W ∧ ∀ k, k < gN → ok0 k ∧ k < W.heap.size ∧ k ∉ hole
/-- The blocks that are ok lie in the world; those of the package's variables are among them, and hold what they should. -/
def OkW (w : World) (ok : Nat → Prop) : Prop := (∀ k, ok k → k < w.heap.size) ∧ gP w ∧ ∀ k, k < gN → ok k
theorem OkW.ent {w : World} {ok : Nat → Prop} (h : OkW w ok) (hole : List Nat) (hn : ∀ k ∈ hole, ¬ ok k) : gP w ∧ ∀ k, k < gN → ok k ∧ k < w.heap.size ∧ k ∉ hole := ⟨h.2.1, fun k hk => ⟨h.2.2 k hk, h.1 k (h.2.2 k hk), fun hm => hn k hm (h.2.2 k hk)⟩⟩
abbrev Ent.heap (E : Ent) : Array Obj := E.W.heap

abbrev Ent.bs (E : Ent) : Bs := ⟨E.W.heap.size, E.hole⟩
/-- What was there before is as it was, but for the one block. -/
structure Keep (E : Ent) (w : World) : Prop where
  os : w.os = E.W.os
  tape : w.tape = E.W.tape
  output : w.output = E.W.output
  size : E.heap.size ≤ w.heap.size
  block : ∀ k, k < E.heap.size → k ∉ E.hole → w.heap[k]? = E.heap[k]?

/-- The world w and the frame a bear the abstract state S; what was there when the call began is as it was. -/
structure Conf (W0 : Ent) (ok : Nat → Prop) (σ : Nat → Nat → Value) (S : St) (a : Act) (w : World) : Prop where
  below : Keep W0 w
  hole : ∀ (hb i : Nat) m, W0.hb = some hb → W0.hole[i]? = some m → σ (hb + i) 0 = .pointer (some ⟨m, 0, none⟩)
  base : ∀ k, (W0.ok0 k → ok k) ∧ (ok k → W0.ok0 k ∨ W0.bs.has k)
  defers : a.defers = []
  okb : ∀ k, ok k → k < w.heap.size
  size : a.tmps.size = S.t.length
  tmp : ∀ (i : Nat) v x, a.tmps[i]? = some v → S.t[i]? = some x → RepT w ok σ S.G x v
  blk : ∀ (b : Nat) B, S.h[b]? = some B → RepB W0.bs w ok σ S.G b B
  apart : ∀ (b b' : Nat) B B', S.h[b]? = some B → S.h[b']? = some B' → b ≠ b' → ∀ n, B.at σ b = some n → B'.at σ b' ≠ some n

theorem Conf.okw {W0 : Ent} {ok : Nat → Prop} {σ : Nat → Nat → Value} {S : St} {a : Act} {w : World} (h : Conf W0 ok σ S a w) : OkW w ok :=
  ⟨h.okb, gP_local (fun k hk => h.below.block k (W0.gl.2 k hk).2.1 (W0.gl.2 k hk).2.2) W0.gl.1, fun k hk => (h.base k).1 (W0.gl.2 k hk).1⟩
theorem OkW.mono {w : World} {ok ok' : Nat → Prop} (h : OkW w ok) (h1 : ∀ k, ok k → ok' k) (h2 : ∀ k, ok' k → k < w.heap.size) : OkW w ok' := ⟨h2, h.2.1, fun k hk => h1 k (h.2.2 k hk)⟩
theorem oneCell_of_RepI {w : World} {ok : Nat → Prop} {x : IV} {v : Value} (h : RepI w ok x v) : v.oneCell' = true := by
  cases h <;> first | assumption | rfl

/-- What a step may do to the readings: the blocks that are ok stay as they are. -/
theorem RepI.mono {w w' : World} {ok ok' : Nat → Prop} (hk : ∀ k, ok k → ok' k) (hb : ∀ k, ok k → w'.heap[k]? = w.heap[k]?) {x : IV} {v : Value} (h : RepI w ok x v) : RepI w' ok' x v := by
  induction h with
  | sc v h => exact .sc v h
  | nil A c hm => exact .nil A c hm
  | sl es sz ad c f hok hc hm hlen hcell hr ih =>
    refine .sl es sz ad c f (hk _ hok) hc hm hlen (fun i hi => ?_) ih
    rw [World.cell?_of_block (w := w)]
    · exact hcell i hi
    · have : (ad.add i).block = ad.block := by unfold Addr.add; split <;> rfl
      rw [this]
      exact hb _ hok

theorem RepE.mono {w w' : World} {ok ok' : Nat → Prop} (hk : ∀ k, ok k → ok' k) (hb : ∀ k, ok k → w'.heap[k]? = w.heap[k]?) {ag : Bool} {cs : List IV} {v : Value} (h : RepE w ok ag cs v) : RepE w' ok' ag cs v := by
  cases ag with
  | true =>
    obtain ⟨arr, e, hs, hc⟩ := h
    exact ⟨arr, e, hs, fun j u x hu hx => RepI.mono hk hb (hc j u x hu hx)⟩
  | false =>
    obtain ⟨x, e, hr⟩ := h
    exact ⟨x, e, RepI.mono hk hb hr⟩
theorem RepM.mono {w w' : World} {ok ok' : Nat → Prop} (hk : ∀ k, ok k → ok' k) (hb : ∀ k, ok k → w'.heap[k]? = w.heap[k]?) {kk : KK} {ag : Bool} {f : Value → Option (List IV)} {es : List MapEntry} (h : RepM w ok kk ag f es) : RepM w' ok' kk ag f es := by
  refine ⟨h.1, fun k hf => ?_⟩
  have := h.2 k hf
  revert this
  cases es.find? (fun e => keyB k e.key) <;> cases f k <;> first | exact id | exact fun h => RepE.mono hk hb h
theorem add_block (a : Addr) (n : Nat) : (a.add n).block = a.block := by unfold Addr.add; split <;> rfl
theorem add_add' (a : Addr) (i j : Nat) : (a.add i).add j = a.add (i + j) := by
  unfold Addr.add
  by_cases hi : i = 0 <;> by_cases hj : j = 0 <;> simp [hi, hj, Nat.add_assoc]
theorem map_add0 (A : Option Addr) (n : Nat) : A.map (·.add (0 * n)) = A := by cases A <;> simp [Addr.add]
theorem map_add_add (A : Option Addr) (i j : Nat) : (A.map (·.add i)).map (·.add j) = A.map (·.add (i + j)) := by
  cases A with
  | none => rfl
  | some ad => simp only [Option.map_some, add_add']
theorem add_at (n o i : Nat) : (⟨n, o, none⟩ : Addr).add i = ⟨n, o + i, none⟩ := by unfold Addr.add; split <;> simp_all

section mono
variable {w w' : World} {ok ok' : Nat → Prop} {σ σ' : Nat → Nat → Value} {G G' : Nat → Nat}

/-- A step from one way of reading to a later one. -/
structure Later (w w' : World) (ok ok' : Nat → Prop) (σ σ' : Nat → Nat → Value) (G G' : Nat → Nat) : Prop where
  okm : ∀ k, ok k → ok' k
  blk : ∀ k, ok k → w'.heap[k]? = w.heap[k]?
  gen : ∀ b, G b ≤ G' b
  same : ∀ b g, g ≤ G b → σ' b g = σ b g

theorem Later.cell (h : Later w w' ok ok' σ σ' G G') {a : Addr} (ha : ok a.block) : w'.cell? a = w.cell? a := World.cell?_of_block (h.blk _ ha)
theorem Later.refl (w : World) (ok : Nat → Prop) (σ : Nat → Nat → Value) (G : Nat → Nat) : Later w w ok ok σ σ G G := ⟨fun _ h => h, fun _ _ => rfl, fun _ => Nat.le_refl _, fun _ _ _ => rfl⟩

theorem RepC.mono (h : Later w w' ok ok' σ σ' G G') {x : Cap} {v : Value} (hx : RepC w ok σ G x v) : RepC w' ok' σ' G' x v := by
  cases x with
  | ptr b g off => exact ⟨Nat.le_trans hx.1 (h.gen b), by rw [h.same b g hx.1]; exact hx.2⟩
  | pim cs =>
    obtain ⟨a, e, ha, hc⟩ := hx
    refine ⟨a, e, h.okm _ ha, fun j x hj => ?_⟩
    obtain ⟨u, hu, hr⟩ := hc j x hj
    exact ⟨u, by rw [h.cell (by rw [add_block]; exact ha)]; exact hu, RepI.mono h.okm h.blk hr⟩
  | sc u => exact hx
theorem Rep1.mono (h : Later w w' ok ok' σ σ' G G') {x : AV1} {v : Value} (hx : Rep1 w ok σ G x v) : Rep1 w' ok' σ' G' x v := by
  cases x with
  | i x => exact RepI.mono h.okm h.blk hx
  | nl => exact hx
  | ptr b g off => exact ⟨Nat.le_trans hx.1 (h.gen b), by rw [h.same b g hx.1]; exact hx.2⟩
  | own b g => exact ⟨Nat.le_trans hx.1 (h.gen b), by rw [h.same b g hx.1]; exact hx.2⟩
  | eptr b g sz k off => exact ⟨Nat.le_trans hx.1 (h.gen b), by rw [h.same b g hx.1]; exact hx.2⟩
  | pim cs =>
    obtain ⟨a, e, ha, hc⟩ := hx
    refine ⟨a, e, h.okm _ ha, fun j x hj => ?_⟩
    obtain ⟨u, hu, hr⟩ := hc j x hj
    exact ⟨u, by rw [h.cell (by rw [add_block]; exact ha)]; exact hu, RepI.mono h.okm h.blk hr⟩
  | slx es =>
    obtain ⟨A, e, hr⟩ := hx
    exact ⟨A, e, RepI.mono h.okm h.blk hr⟩
  | sly es c =>
    obtain ⟨A, e, hr, hz⟩ := hx
    exact ⟨A, e, RepI.mono h.okm h.blk hr, hz⟩
  | osub b g sz lo hi => exact ⟨Nat.le_trans hx.1 (h.gen b), by rw [h.same b g hx.1]; exact hx.2⟩
  | clo f ps =>
    obtain ⟨vs, e, hl, hr⟩ := hx
    exact ⟨vs, e, hl, fun j p u hp hu => RepC.mono h (hr j p u hp hu)⟩
  | lit b => exact hx
  | bl => exact hx
  | un => exact trivial

theorem RepV.mono (h : Later w w' ok ok' σ σ' G G') {x : AV} {v : Value} (hx : RepV w ok σ G x v) : RepV w' ok' σ' G' x v := by
  cases x with
  | c x => exact Rep1.mono h hx
  | agg cs =>
    obtain ⟨arr, e, hs, hc⟩ := hx
    exact ⟨arr, e, hs, fun j u x hu hj => ⟨Rep1.mono h (hc j u x hu hj).1, (hc j u x hu hj).2⟩⟩

theorem RepT.mono (h : Later w w' ok ok' σ σ' G G') {x : AT} {v : Value} (hx : RepT w ok σ G x v) : RepT w' ok' σ' G' x v := by
  cases x with
  | v x => exact RepV.mono h hx
  | tup xs =>
    obtain ⟨arr, e, hs, hc⟩ := hx
    exact ⟨arr, e, hs, fun j u x hu hj => RepV.mono h (hc j u x hu hj)⟩
end mono

/-- What is put: the answer into a slot, blocks into the heap's entries. -/
def St.put (S : St) (dst : Option Tmp) (r : AT) (u : List (Nat × Blk)) : St :=
  ⟨match dst with | some d => S.t.set d r | none => S.t, u.foldl (fun h p => h.set p.1 p.2) S.h⟩

theorem put_size (a : Act) (dst : Option Tmp) (v : Value) : (a.put dst v).tmps.size = a.tmps.size := by cases dst <;> simp [Act.put]
theorem put_len (S : St) (dst : Option Tmp) (r : AT) (u : List (Nat × Blk)) : (S.put dst r u).t.length = S.t.length := by cases dst <;> simp [St.put]
theorem put_defers (a : Act) (dst : Option Tmp) (v : Value) : (a.put dst v).defers = a.defers := by cases dst <;> rfl
theorem put_tmp {a : Act} {S : St} {dst : Option Tmp} {v : Value} {r : AT} {u : List (Nat × Blk)} (hs : a.tmps.size = S.t.length) {i : Nat} {v' : Value} {x : AT} (h1 : (a.put dst v).tmps[i]? = some v')
    (h2 : (S.put dst r u).t[i]? = some x) : (v' = v ∧ x = r) ∨ (a.tmps[i]? = some v' ∧ S.t[i]? = some x) := by
  cases dst with
  | none => exact Or.inr ⟨h1, h2⟩
  | some d =>
    simp only [Act.put, St.put] at h1 h2
    by_cases hd : d = i
    · subst hd
      rw [Array.getElem?_setIfInBounds_self] at h1
      rw [List.getElem?_set_self'] at h2
      left
      split at h1
      · rename_i hlt
        injection h1 with h1
        have : d < S.t.length := by rw [← hs]; exact hlt
        simp [this] at h2
        exact ⟨h1.symm, h2.symm⟩
      · cases h1
    · rw [Array.getElem?_setIfInBounds_ne hd] at h1
      rw [List.getElem?_set_ne hd] at h2
      exact Or.inr ⟨h1, h2⟩

theorem G_put_nil (S : St) (dst : Option Tmp) (r : AT) : (S.put dst r []).G = S.G := rfl

section at_
variable {base : Bs} {w : World} {ok : Nat → Prop} {σ : Nat → Nat → Value} {G : Nat → Nat} {b : Nat} {B : Blk}
theorem at_bounds (h : RepB base w ok σ G b B) {n : Nat} (hn : B.at σ b = some n) : base.has n ∧ n < w.heap.size ∧ ¬ ok n := by
  cases B with
  | dead g => simp [Blk.at] at hn
  | froz g es => simp [Blk.at] at hn
  | var g cs =>
    obtain ⟨m, arr, ty, e, h1, h2, h3, _⟩ := h
    simp only [Blk.at, e, Value.blkNo, Option.some.injEq] at hn
    subst hn
    exact ⟨h1, (Array.getElem?_eq_some_iff.1 h3).1, h2⟩
  | mp g kk ag f =>
    obtain ⟨m, es, clock, e, h1, h2, h3, _⟩ := h
    simp only [Blk.at, e, Value.blkNo, Option.some.injEq] at hn
    subst hn
    exact ⟨h1, (Array.getElem?_eq_some_iff.1 h3).1, h2⟩
  | row g E sz es =>
    obtain ⟨xs, h1, _, h3, _⟩ := h
    have hob : Value.ownBlock (σ b g) = some n := by
      simp only [Blk.at] at hn
      rcases h1.2 with ⟨e, _⟩ | ⟨m, cap, cur, e, _⟩
      · rw [e] at hn; simp [Value.blkNo] at hn
      · rw [e] at hn ⊢; simpa [Value.blkNo, Value.ownBlock] using hn
    exact ⟨h3.has n hob, (h1.lt n hob).2, h3.nok n hob⟩
  | rowp g E sz es N =>
    obtain ⟨m, c, xs, e, h1, _, _, h2, h3, _⟩ := h
    simp only [Blk.at, e, Value.blkNo, Option.some.injEq] at hn
    subst hn
    exact ⟨h2, (h1.lt m rfl).2, h3⟩
end at_

/-- A block that is not touched bears what it bore. -/
theorem RepB.keep {base : Bs} {w w' : World} {ok ok' : Nat → Prop} {σ σ' : Nat → Nat → Value} {G G' : Nat → Nat} {b : Nat} {B : Blk} (hL : Later w w' ok ok' σ σ' G G') (hsz : w.heap.size ≤ w'.heap.size) (hg : B.gen ≤ G b)
    (h : RepB base w ok σ G b B) (hn : ∀ n, B.at σ b = some n → w'.heap[n]? = w.heap[n]? ∧ ¬ ok' n) : RepB base w' ok' σ' G' b B := by
  cases B with
  | dead g => exact trivial
  | froz g es =>
    show RepI w' ok' (.sl es) (σ' b g)
    rw [hL.same b g hg]
    exact RepI.mono hL.okm hL.blk h
  | var g cs =>
    obtain ⟨m, arr, ty, e, h1, h2, h3, h4, h5⟩ := h
    obtain ⟨k1, k2⟩ := hn m (by simp [Blk.at, e, Value.blkNo])
    exact ⟨m, arr, ty, by rw [hL.same b g hg]; exact e, h1, k2, by rw [k1]; exact h3, h4, fun j u x hu hx => ⟨Rep1.mono hL (h5 j u x hu hx).1, (h5 j u x hu hx).2⟩⟩
  | mp g kk ag f =>
    obtain ⟨m, es, clock, e, h1, h2, h3, h4⟩ := h
    obtain ⟨k1, k2⟩ := hn m (by simp [Blk.at, e, Value.blkNo])
    exact ⟨m, es, clock, by rw [hL.same b g hg]; exact e, h1, k2, by rw [k1]; exact h3, RepM.mono hL.okm hL.blk h4⟩
  | row g E sz es =>
    obtain ⟨xs, h1, h2, h3, h4⟩ := h
    have e : σ' b g = σ b g := hL.same b g hg
    refine ⟨xs, ?_, h2, ⟨?_, by rw [e]; exact h3.has, by rw [e]; exact h3.cap⟩, fun k e j x hk hj => ?_⟩
    · rw [e]
      refine ⟨h1.1, ?_⟩
      rcases h1.2 with hx | ⟨m, cap, cur, e', hx, hy, hz⟩
      · exact Or.inl hx
      · refine Or.inr ⟨m, cap, cur, e', hx, ?_, hz⟩
        rw [(hn m (by simp [Blk.at, e', Value.blkNo])).1]
        exact hy
    · intro n hn'
      rw [e] at hn'
      exact (hn n (by
        simp only [Blk.at]
        rcases h1.2 with ⟨e', _⟩ | ⟨m, cap, cur, e', _⟩
        · rw [e'] at hn'; simp [Value.ownBlock] at hn'
        · rw [e'] at hn' ⊢; simpa [Value.blkNo, Value.ownBlock] using hn')).2
    · obtain ⟨u, hu, hr, ho⟩ := h4 k e j x hk hj
      exact ⟨u, hu, RepI.mono hL.okm hL.blk hr, ho⟩
  | rowp g E sz es N =>
    obtain ⟨m, c, xs, e, h1, h2, h3, h4, h5, h6⟩ := h
    obtain ⟨k1, k2⟩ := hn m (by simp [Blk.at, e, Value.blkNo])
    refine ⟨m, c, xs, by rw [hL.same b g hg]; exact e, ⟨h1.1, ?_⟩, h2, h3, h4, k2, fun k e j x hk hj => ?_⟩
    · rcases h1.2 with ⟨hx, _⟩ | ⟨m', cap, cur, e', hx, hy, hz⟩
      · cases hx
      · refine Or.inr ⟨m', cap, cur, e', hx, ?_, hz⟩
        obtain rfl : m = m' := by injection e' with e'; injection e' with e'; injection e'
        rw [k1]
        exact hy
    · obtain ⟨u, hu, hr, ho⟩ := h6 k e j x hk hj
      exact ⟨u, hu, RepI.mono hL.okm hL.blk hr, ho⟩

theorem at_same {σ σ' : Nat → Nat → Value} {G : Nat → Nat} (hs : ∀ c g, g ≤ G c → σ' c g = σ c g) {b : Nat} {B : Blk} (hg : B.gen ≤ G b) : B.at σ' b = B.at σ b := by
  cases B <;> simp only [Blk.at] <;> first | rfl | (simp only [Blk.gen] at hg; rw [hs _ _ hg])

theorem gen_le {S : St} {b : Nat} {B : Blk} (h : S.h[b]? = some B) : B.gen ≤ S.G b := by unfold St.G; rw [h]; exact Nat.le_refl _

section step
variable {W0 : Ent} {w w' : World} {ok ok' : Nat → Prop} {σ σ' : Nat → Nat → Value} {S : St} {a : Act}

theorem grown_below {row : Option Nat} (h : Keep W0 w) (hg : w.grownBy w' row) (hr : ∀ n, row = some n → W0.bs.has n) : Keep W0 w' :=
  ⟨hg.os.trans h.os, hg.tape.trans h.tape, hg.output.trans h.output, Nat.le_trans h.size hg.size, fun k hk hh => by
    rw [hg.block k (Nat.lt_of_lt_of_le hk h.size) (fun e => by
      rcases hr k e.symm with h1 | h1
      · have : W0.heap.size ≤ k := h1
        omega
      · exact hh h1)]
    exact h.block k hk hh⟩

/-- A step that turns no block of the state. -/
theorem Conf.stay (h : Conf W0 ok σ S a w) (hg : w.grownBy w' none) (hok : ∀ k, ok k → ok' k) (hokb : ∀ k, ok' k → k < w'.heap.size) (hnew : ∀ k, ok' k → ok k ∨ w.heap.size ≤ k)
    {dst : Option Tmp} {r : AT} {v : Value} (hr : RepT w' ok' σ S.G r v) : Conf W0 ok' σ (S.put dst r []) (a.put dst v) w' := by
  have hL : Later w w' ok ok' σ σ S.G S.G := ⟨hok, fun k hk => hg.block k (h.okb k hk) (by simp), fun _ => Nat.le_refl _, fun _ _ _ => rfl⟩
  have hsz := h.below.size
  refine ⟨grown_below h.below hg (by simp), h.hole, fun k => ⟨fun hk => hok k ((h.base k).1 hk), fun hk => by
    rcases hnew k hk with hk | hk
    · exact (h.base k).2 hk
    · exact Or.inr (Or.inl (Nat.le_trans hsz hk))⟩, by rw [put_defers]; exact h.defers, hokb, by rw [put_size, put_len]; exact h.size, fun i v' x h1 h2 => ?_, fun b B hB => ?_, h.apart⟩
  · rcases put_tmp h.size h1 h2 with ⟨rfl, rfl⟩ | ⟨h1, h2⟩
    · exact hr
    · exact RepT.mono hL (h.tmp i v' x h1 h2)
  · have hB' : S.h[b]? = some B := hB
    have hR := h.blk b B hB'
    refine RepB.keep hL hg.size (gen_le hB') hR (fun n hn => ?_)
    obtain ⟨k1, k2, k3⟩ := at_bounds hR hn
    refine ⟨hg.block n k2 (by simp), fun hk => ?_⟩
    rcases hnew n hk with hk | hk
    · exact k3 hk
    · omega

/-- A step that turns one entry. -/
theorem Conf.step (h : Conf W0 ok σ S a w) {row : Option Nat} {b : Nat} {B' : Blk} (hg : w.grownBy w' row)
    (hrow : ∀ n, row = some n → W0.bs.has n ∧ ¬ ok n ∧ ∀ c C, c ≠ b → S.h[c]? = some C → C.at σ c ≠ some n)
    (hok : ∀ k, ok k → ok' k) (hokb : ∀ k, ok' k → k < w'.heap.size) (hnew : ∀ k, ok' k → ok k ∨ (W0.bs.has k ∧ ∀ c C, c ≠ b → S.h[c]? = some C → C.at σ c ≠ some k))
    (hb : b < S.h.length) (hgen : S.G b ≤ B'.gen) (hσ : ∀ c g, g ≤ S.G c → σ' c g = σ c g)
    (hB : RepB W0.bs w' ok' σ' (S.put none (.v (.c .un)) [(b, B')]).G b B')
    (hat : ∀ n, B'.at σ' b = some n → ∀ c C, c ≠ b → S.h[c]? = some C → C.at σ c ≠ some n)
    {dst : Option Tmp} {r : AT} {v : Value} (hr : RepT w' ok' σ' (S.put none (.v (.c .un)) [(b, B')]).G r v) : Conf W0 ok' σ' (S.put dst r [(b, B')]) (a.put dst v) w' := by
  have hG : ∀ c, (S.put none (.v (.c .un)) [(b, B')]).G c = if c = b then B'.gen else S.G c := by
    intro c
    simp only [St.G, St.put, List.foldl_cons, List.foldl_nil]
    by_cases hc : c = b
    · subst hc; simp [hb]
    · rw [List.getElem?_set_ne (fun e => hc e.symm), if_neg hc]
  have hGG : (S.put dst r [(b, B')]).G = (S.put none (.v (.c .un)) [(b, B')]).G := rfl
  have hL : Later w w' ok ok' σ σ' S.G (S.put none (.v (.c .un)) [(b, B')]).G :=
    ⟨hok, fun k hk => hg.block k (h.okb k hk) (fun e => (hrow k e.symm).2.1 hk), fun c => by
      rw [hG]
      by_cases e : c = b
      · rw [if_pos e, e]; exact hgen
      · rw [if_neg e]; exact Nat.le_refl _, hσ⟩
  refine ⟨grown_below h.below hg (fun n hn => (hrow n hn).1), fun hb i m he hm => by rw [hσ _ 0 (Nat.zero_le _)]; exact h.hole hb i m he hm, fun k => ⟨fun hk => hok k ((h.base k).1 hk), fun hk => by
    rcases hnew k hk with hk | hk
    · exact (h.base k).2 hk
    · exact Or.inr hk.1⟩, by rw [put_defers]; exact h.defers, hokb, by rw [put_size, put_len]; exact h.size, fun i v' x h1 h2 => ?_, fun c C hC => ?_, fun c c' C C' hC hC' hne n hn hn' => ?_⟩
  · rw [hGG]
    rcases put_tmp h.size h1 h2 with ⟨rfl, rfl⟩ | ⟨h1, h2⟩
    · exact hr
    · exact RepT.mono hL (h.tmp i v' x h1 h2)
  · rw [hGG]
    by_cases hc : c = b
    · subst hc
      have : C = B' := by simpa [St.put, hb, eq_comm] using hC
      subst this
      exact hB
    · have hC0 : S.h[c]? = some C := by
        simp only [St.put, List.foldl_cons, List.foldl_nil] at hC
        rwa [List.getElem?_set_ne (fun e => hc e.symm)] at hC
      have hR := h.blk c C hC0
      refine RepB.keep hL hg.size (gen_le hC0) hR (fun n hn => ?_)
      obtain ⟨k1, k2, k3⟩ := at_bounds hR hn
      refine ⟨hg.block n k2 (fun e => (hrow n e.symm).2.2 c C hc hC0 hn), fun hk => ?_⟩
      rcases hnew n hk with hk | hk
      · exact k3 hk
      · exact hk.2 c C hc hC0 hn
  · have old : ∀ c C, c ≠ b → (S.put dst r [(b, B')]).h[c]? = some C → S.h[c]? = some C := by
      intro c C hc hC
      simp only [St.put, List.foldl_cons, List.foldl_nil] at hC
      rwa [List.getElem?_set_ne (fun e => hc e.symm)] at hC
    have new : ∀ C, (S.put dst r [(b, B')]).h[b]? = some C → C = B' := by
      intro C hC
      simpa [St.put, hb, eq_comm] using hC
    by_cases hc : c = b
    · subst hc
      have hc' : c' ≠ c := fun e => hne e.symm
      have e1 := new C hC
      subst e1
      have e2 := old c' C' hc' hC'
      rw [at_same hσ (gen_le e2)] at hn'
      exact hat n hn c' C' hc' e2 hn'
    · have e1 := old c C hc hC
      rw [at_same hσ (gen_le e1)] at hn
      by_cases hc' : c' = b
      · subst hc'
        have e2 := new C' hC'
        subst e2
        exact hat n hn' c C hc e1 hn
      · have e2 := old c' C' hc' hC'
        rw [at_same hσ (gen_le e2)] at hn'
        exact h.apart c c' C C' e1 e2 hne n hn hn'
end step

end Go.Proofs.YtikchieadclbhaaGreatDoor.Ab
