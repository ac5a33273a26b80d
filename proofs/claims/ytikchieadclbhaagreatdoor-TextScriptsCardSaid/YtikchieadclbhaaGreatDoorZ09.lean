/- Slices cut, rows made and appended to, structs built: the model's operations follow the abstract ones. No condition. -/
import Derived.Test.YtikchieadclbhaaGreatDoorZ08
import Derived.Deep.DeepAppendRoom
namespace Go.Proofs.YtikchieadclbhaaGreatDoor.Ab
set_option linter.unusedVariables false
set_option linter.unusedSimpArgs false
open Go.RowKit

/-- A bound of a slice expression. -/
def boundK (x : Option AT) (d : Int) (K : Int → Prop) : Prop :=
  match x with
  | none => K d
  | some (.v (.c (.i (.sc (.int _ n))))) => K n
  | _ => False

/-- A slice that never turns. -/
def immK (H : Nat → Blk) (x : AT) (K : List (List IV) → List Nat → Prop) : Prop :=
  match x with
  | .v (.c (.i (.sl es))) => K es []
  | .v (.c .nl) => K [] []
  | .v (.c (.slx es)) => K es []
  | .v (.c (.own b g)) => match H b with
    | .froz g' es => g' = g ∧ K es [b]
    | _ => False
  | .v (.c (.sly es _)) => K es []
  | _ => False

def effSlice0 (T : Nat → TI) (H : Nat → Blk) (t : Nat) (x : AT) (lo hi mx : Option AT) (K : Kont) : Prop :=
  match (T t).k with
  | .slice e => match (T e).k with
    | .none => False
    | _ => immK H x fun es d => (∀ z ∈ es, z.length = (T e).size) ∧ boundK lo 0 fun l => boundK hi es.length fun h => match mx, hi with
      | none, _ => 0 ≤ l ∧ l ≤ h ∧ h ≤ es.length ∧ K (.v (.c (.i (.sl ((es.take h.toNat).drop l.toNat))))) [] d
      | some _, none => False
      | some m, some _ => boundK (some m) 0 fun m => 0 ≤ l ∧ l ≤ h ∧ h = m ∧ m ≤ es.length ∧ K (.v (.c (.slx ((es.take h.toNat).drop l.toNat)))) [] d
  | .str => match x with
    | .v (.c (.i (.sc (.string s)))) => boundK lo 0 fun l => boundK hi s.size fun h => match mx with
      | none => 0 ≤ l ∧ l ≤ h ∧ h ≤ s.size ∧ K (.v (.c (.i (.sc (.string (s.extract l.toNat h.toNat)))))) [] []
      | some _ => False
    | _ => False
  | _ => False

/-- Cells of the function's own row, from one place to another. -/
def rowPart (H : Nat → Blk) (x : AT) (K : Nat → Nat → Nat → Nat → List (List IV) → Nat → Nat → Prop) (N : Prop) : Prop :=
  match x with
  | .v (.c (.own b g)) => match H b with
    | .row g' E sz es => g' = g ∧ K b g E sz es 0 es.length
    | _ => N
  | .v (.c (.osub b g sz' lo hi)) => match H b with
    | .row g' E sz es => g' = g ∧ sz' = sz ∧ K b g E sz es lo hi
    | _ => N
  | _ => N
def partSl (T : Nat → TI) (t : Nat) (lo hi mx : Option AT) (K : Kont) (b g sz l0 h0 : Nat) : Prop :=
  match (T t).k with
  | .slice e => match (T e).k, mx with
    | .none, _ => False
    | _, some _ => False
    | _, none => boundK lo 0 fun l => boundK hi ((h0 - l0 : Nat) : Int) fun h => sz = (T e).size ∧ 0 ≤ l ∧ l ≤ h ∧ h ≤ ((h0 - l0 : Nat) : Int) ∧ K (.v (.c (.osub b g sz (l0 + l.toNat) (l0 + h.toNat)))) [] [b]
  | _ => False
def effSlice (T : Nat → TI) (H : Nat → Blk) (t : Nat) (x : AT) (lo hi mx : Option AT) (K : Kont) : Prop :=
  match x with
  | .v (.c (.sly es c)) => match (T t).k, lo, mx with
    | .slice e, none, none => match (T e).k with
      | .none => False
      | _ => (∀ z ∈ es, z.length = (T e).size) ∧ boundK hi es.length fun h => 0 ≤ h ∧ h ≤ es.length ∧ K (.v (.c (.sly (es.take h.toNat) c))) [] []
    | _, _, _ => effSlice0 T H t x lo hi mx K
  | _ => rowPart H x (fun b g E sz es l0 h0 => partSl T t lo hi mx K b g sz l0 h0) (effSlice0 T H t x lo hi mx K)

def zeroI (ti : TI) : Option (List IV) := allI ti.zero

def effMake (T : Nat → TI) (H : Nat → Blk) (n : Nat) (dst : Option Tmp) (t : Nat) (l c : AT) (K : Kont) : Prop :=
  match (T t).k with
  | .slice e => match (T e).k, zeroI (T e) with
    | .none, _ => False
    | _, some z => match dst with
      | none => False
      | some d => match Nat.blt d n, l, c with
        | true, .v (.c (.i (.sc (.int _ l)))), .v (.c (.i (.sc (.int _ c)))) => 0 ≤ l ∧ c = l ∧ (T e).bytes * l.toNat ≤ 140737488355328 ∧ l ≤ 9223372036854775807 ∧
            match Nat.ble e 999999, Nat.beq (T (1000000 + t)).size 1 with
            | true, false => genK (H d) fun g => K (.v (.c (.own d (g + 1)))) [(d, .row (g + 1) e (T e).size (List.replicate l.toNat z))] [d]
            | true, true => genK (H d) fun g => K (.v (.c (.own d (g + 1)))) [(d, .row (g + 1) (e + 2000000) (T e).size (List.replicate l.toNat z))] [d]
            | false, _ => False
        | _, _, _ => False
    | _, none => False
  | _ => False

/-- Parts laid into cells, each at its place. -/
def fillA (place : Nat → Option (Nat × Nat)) (ρ : Operand → AT) : List (Nat × Operand) → List AV1 → Option (List AV1)
  | [], cs => some cs
  | (i, x) :: l, cs => match place i with
    | none => none
    | some (off, size) => match cellsT (ρ x) with
      | none => none
      | some ys => match Nat.beq ys.length size, Nat.ble (off + ys.length) cs.length, ys.all AV1.known with
        | true, true, true => fillA place ρ l (splice cs off ys)
        | _, _, _ => none

def effBuild (T : Nat → TI) (ρ : Operand → AT) (t : Nat) (parts : Array (Nat × Operand)) (K : Kont) : Prop :=
  match (T t).k with
  | .struct fs => match fs.all (fun f => match (T f.2).k with | .none => false | _ => true) with
    | true => match fillA (fun i => (nthO fs i).map fun f => (f.1, (T f.2).size)) ρ parts.toList (T t).zero with
      | some cs => lay cs fun cs => K (.v (.agg cs)) [] []
      | none => False
    | false => False
  | .arr n e => match (T e).k with
    | .none => False
    | _ => match fillA (fun i => some (i * (T e).size, (T e).size)) ρ parts.toList (T t).zero with
      | some cs => lay cs fun cs => K (.v (.agg cs)) [] []
      | none => False
  | _ => False

/-- Cells cut into rows. -/
def rowsOf (sz : Nat) : Nat → List IV → List (List IV)
  | 0, _ => []
  | n + 1, cs => cs.take sz :: rowsOf sz n (cs.drop sz)

def effBuildSlice (T : Nat → TI) (H : Nat → Blk) (n : Nat) (dst : Option Tmp) (ρ : Operand → AT) (t len : Nat) (parts : Array (Nat × Operand)) (K : Kont) : Prop :=
  match (T t).k with
  | .slice e => match (T e).k with
    | .none => False
    | _ => match dst with
      | none => False
      | some d => match Nat.blt d n && Nat.ble e 999999, Nat.ble (len * (T e).size) 16777216, Nat.ble 1 (T e).size with
        | true, true, true => match fillA (fun i => some (i * (T e).size, (T e).size)) ρ parts.toList ((List.replicate len (T e).zero).flatten) with
          | some cs => match allI cs with
            | some zs => lay (rowsOf (T e).size len zs) fun es => genK (H d) fun g => K (.v (.c (.own d (g + 1)))) [(d, .row (g + 1) e (T e).size es)] [d]
            | none => False
          | none => False
        | _, _, _ => False
  | _ => False

def appK (T : Nat → TI) (H : Nat → Blk) (n d e : Nat) (x : AT) (ys : List (List IV)) (rd : List Nat) (K : Kont) : Prop :=
  match x with
  | .v (.c .nl) => match Nat.blt d n && Nat.ble e 999999 with
    | true => ys.length * (T e).bytes ≤ 140737488355328 ∧ genK (H d) fun g => K (.v (.c (.own d (g + 1)))) [(d, .row (g + 1) e (T e).size ys)] (d :: rd)
    | false => False
  | .v (.c (.sly es c)) => match Nat.blt d n && Nat.ble e 999999 with
    | true => c < es.length + ys.length ∧ (∀ z ∈ es, z.length = (T e).size) ∧ (es.length + ys.length) * (T e).bytes ≤ 140737488355328 ∧ genK (H d) fun g => K (.v (.c (.own d (g + 1)))) [(d, .row (g + 1) e (T e).size (es ++ ys))] (d :: rd)
    | false => False
  | .v (.c (.osub b g sz' lo hi)) => match H b with
    | .row g' E sz es => match Nat.ble e 999999 with
      | true => g' = g ∧ sz' = sz ∧ lo = 0 ∧ E = e ∧ sz = (T e).size ∧ ((es.take hi).length + ys.length) * (T e).bytes ≤ 140737488355328 ∧ K (.v (.c (.own b (g + 1)))) [(b, .row (g + 1) E sz (es.take hi ++ ys))] (b :: rd)
      | false => False
    | .rowp g' E sz es N => g' = g ∧ sz' = sz ∧ lo = 0 ∧ E = e ∧ sz = (T e).size ∧ hi ≤ es.length ∧ hi + ys.length ≤ N ∧ K (.v (.c (.osub b g sz 0 (hi + ys.length)))) [(b, .rowp g E sz (es.take hi ++ ys) N)] (b :: rd)
    | _ => False
  | .v (.c (.slx es)) => match Nat.blt d n && Nat.ble e 999999 with
    | true => 0 < ys.length ∧ (∀ z ∈ es, z.length = (T e).size) ∧ (es.length + ys.length) * (T e).bytes ≤ 140737488355328 ∧ genK (H d) fun g => K (.v (.c (.own d (g + 1)))) [(d, .row (g + 1) e (T e).size (es ++ ys))] (d :: rd)
    | false => False
  | .v (.c (.own b g)) => match H b with
    | .row g' E sz es => match Nat.ble e 999999 with
      | true => g' = g ∧ E = e ∧ sz = (T e).size ∧ (es.length + ys.length) * (T e).bytes ≤ 140737488355328 ∧ K (.v (.c (.own b (g + 1)))) [(b, .row (g + 1) E sz (es ++ ys))] (b :: rd)
      | false => False
    | _ => False
  | _ => False
def effAppend (T : Nat → TI) (H : Nat → Blk) (n : Nat) (dst : Option Tmp) (t : Nat) (x y : AT) (K : Kont) : Prop :=
  match (T t).k with
  | .slice e => match (T e).k, Nat.ble 1 (T e).size, Nat.ble 1 (T e).bytes, dst with
    | .none, _, _, _ => False
    | _, true, true, some d => listK H y fun ys rd => (∀ z ∈ ys, z.length = (T e).size) ∧ appK T H n d e x ys rd K
    | _, _, _, _ => False
  | _ => False

section
variable {P : Program} {T : Nat → TI} {W0 : Ent} {w : World} {ok : Nat → Prop} {σ : Nat → Nat → Value} {S : St} {a : Act} {o : Oper} {K : Kont}

theorem imm_rep (hC : Conf W0 ok σ S a w) {x : AT} {v : Value} (hx : RepT w ok σ S.G x v) {K : List (List IV) → List Nat → Prop} (h : immK S.blk x K) : ∃ es d, K es d ∧ RepI w ok (.sl es) v := by
  unfold immK at h
  split at h
  · exact ⟨_, _, h, hx⟩
  · exact ⟨_, _, h, by rw [show v = .slice none 0 0 from hx]; exact RepI.nil _ _ (Nat.zero_le _)⟩
  · obtain ⟨A, h1, h2⟩ := hx
    exact ⟨_, _, h, h2⟩
  · rename_i b g
    obtain ⟨_, hv, _⟩ := hx
    split at h
    · rename_i g' es hb
      obtain ⟨rfl, h⟩ := h
      have hR : RepI w ok (.sl es) (σ b g') := hC.blk b _ (blk_some hb (fun g e => by cases e))
      exact ⟨_, _, h, by rw [hv]; exact hR⟩
    · exact h.elim
  · obtain ⟨A, h1, h2, _⟩ := hx
    exact ⟨_, _, h, h2⟩
  · exact h.elim

theorem bound_rep (hC : Conf W0 ok σ S a w) {x : Option Operand} {d : Int} {K : Int → Prop} (h : boundK (x.map S.ev) d K) : ∃ n, K n ∧ ((x.map a.eval = none ∧ n = d) ∨ ∃ k, x.map a.eval = some (.int k n)) := by
  cases x with
  | none => exact ⟨d, h, Or.inl ⟨rfl, rfl⟩⟩
  | some x =>
    have hx := ev_rep hC x
    simp only [Option.map_some, boundK] at h
    split at h
    · rename_i e; cases e
    · rename_i k n e
      injection e with e
      rw [e] at hx
      exact ⟨n, h, Or.inr ⟨k, by rw [Option.map_some, show a.eval x = .int k n from RepI_sc hx]⟩⟩
    · exact h.elim

theorem slice_of {es : List (List IV)} {v : Value} (h : RepI w ok (.sl es) v) : ∃ A c, v = .slice A es.length c ∧ es.length ≤ c ∧ c ≤ maxLen := by
  cases h with
  | nil A c hm => exact ⟨A, c, rfl, by simp, hm⟩
  | sl es sz ad c f hok hc hm => exact ⟨_, _, rfl, hc, hm⟩

theorem RepI.cut {es : List (List IV)} {A : Option Addr} {c : Nat} (h : RepI w ok (.sl es) (.slice A es.length c)) {sz : Nat} (hsz : ∀ z ∈ es, z.length = sz) {l m k : Nat} (hl : l ≤ m) (hm : m ≤ es.length) (hk : m ≤ k) (hmm : k ≤ maxLen) :
    RepI w ok (.sl ((es.take m).drop l)) (.slice (if k = l then A else A.map (·.add (l * sz))) (m - l) (k - l)) := by
  have hlen : ((es.take m).drop l).length = m - l := by rw [List.length_drop, List.length_take]; omega
  rcases Nat.eq_or_lt_of_le hl with rfl | hlt
  · have e : (es.take l).drop l = [] := List.eq_nil_of_length_eq_zero (by rw [hlen]; omega)
    rw [e, Nat.sub_self]
    exact RepI.nil _ _ (by omega)
  · generalize hn : es.length = n at h
    cases h with
    | nil A c => simp at hm; omega
    | sl es sz' ad c f hok hc hM hlen' hcell hr =>
      rw [if_neg (by omega)]
      obtain rfl : sz' = sz := by
        rcases es with _ | ⟨e, es⟩
        · simp at hm; omega
        · rw [← hlen' e List.mem_cons_self, hsz e List.mem_cons_self]
      rw [← hlen]
      refine RepI.sl _ sz' (ad.add (l * sz')) _ (fun i => f (l * sz' + i)) (by rw [add_block]; exact hok) (by rw [hlen]; omega) (by omega) (fun e he => hlen' e (List.mem_of_mem_take (List.mem_of_mem_drop he))) (fun i hi => ?_) (fun j e i x hj hi => ?_)
      · rw [add_add']
        refine hcell _ ?_
        rw [hlen] at hi
        have h1 : m * sz' ≤ es.length * sz' := Nat.mul_le_mul_right _ hm
        have h2 : (m - l) * sz' + l * sz' = m * sz' := by rw [← Nat.add_mul]; congr 1; omega
        omega
      · rw [List.getElem?_drop, List.getElem?_take] at hj
        split at hj
        · have := hr (l + j) e i x hj hi
          rw [Nat.add_mul, Nat.add_assoc] at this
          exact this
        · cases hj

theorem run_bounds {b : Bool} {len cap : Nat} {lo hi : Option Value} {l h : Int} (h1 : (lo = none ∧ l = 0) ∨ ∃ k, lo = some (.int k l)) (h2 : (hi = none ∧ h = len) ∨ ∃ k, hi = some (.int k h)) (h3 : 0 ≤ l) (h4 : l ≤ h) (h5 : h ≤ cap) :
    (Instr.sliceBounds b len cap lo hi none).run P w = .ok (l.toNat, h.toNat, cap) w := by
  rcases h1 with ⟨rfl, rfl⟩ | ⟨k1, rfl⟩ <;> rcases h2 with ⟨rfl, rfl⟩ | ⟨k2, rfl⟩
  · simp [Instr.sliceBounds]
  · simp [Instr.sliceBounds, run_sliceBound _ _ _ _ _ (show 0 ≤ h by omega) h5]
  · simp [Instr.sliceBounds, run_sliceBound _ _ _ _ _ h3 h4]
  · have e : (h.toNat : Int) = h := Int.toNat_of_nonneg (by omega)
    simp [Instr.sliceBounds, run_sliceBound _ _ _ _ _ (show 0 ≤ h by omega) h5, run_sliceBound (P := P) w k1 l h.toNat _ h3 (by omega)]
theorem run_bounds3 {b : Bool} {len cap : Nat} {lo hi mx : Option Value} {l h m : Int} (h1 : (lo = none ∧ l = 0) ∨ ∃ k, lo = some (.int k l)) (h2 : ∃ k, hi = some (.int k h)) (h2' : ∃ k, mx = some (.int k m)) (h3 : 0 ≤ l) (h4 : l ≤ h) (h5 : h ≤ m) (h6 : m ≤ cap) :
    (Instr.sliceBounds b len cap lo hi mx).run P w = .ok (l.toNat, h.toNat, m.toNat) w := by
  obtain ⟨k2, rfl⟩ := h2
  obtain ⟨k3, rfl⟩ := h2'
  have e : (h.toNat : Int) = h := Int.toNat_of_nonneg (by omega)
  have e' : (m.toNat : Int) = m := Int.toNat_of_nonneg (by omega)
  rcases h1 with ⟨rfl, rfl⟩ | ⟨k1, rfl⟩
  · simp [Instr.sliceBounds, run_sliceBound (P := P) w k3 m cap _ (by omega) h6, run_sliceBound (P := P) w k2 h m.toNat _ (by omega) (by omega)]
  · simp [Instr.sliceBounds, run_sliceBound (P := P) w k3 m cap _ (by omega) h6, run_sliceBound (P := P) w k2 h m.toNat _ (by omega) (by omega), run_sliceBound (P := P) w k1 l h.toNat _ h3 (by omega)]

theorem done_slice0 (hT : TabOk P T) (hC : Conf W0 ok σ S a w) {t : Nat} {x : Operand} {lo hi mx : Option Operand} (ho : o.op = .slice t x lo hi mx) (h : effSlice0 T S.blk t (S.ev x) (lo.map S.ev) (hi.map S.ev) (mx.map S.ev) K) : Done P W0 S o a w K := by
  have hx := ev_rep hC x
  have hd := hT.desc t
  unfold effSlice0 at h
  split at h
  · rename_i e hk
    rw [hk] at hd
    have hd' : P.underlying t = some (.slice e) := hd
    have hke : (T e).k ≠ .none := fun e' => by rw [e'] at h; exact h
    split at h
    · exact h.elim
    obtain ⟨es, d, ⟨hsz, g1⟩, hR⟩ := imm_rep hC hx h
    obtain ⟨l, g2, hl⟩ := bound_rep hC g1
    obtain ⟨hh, g3, hh'⟩ := bound_rep hC g2
    obtain ⟨A, c, hv, hc, hcm⟩ := slice_of hR
    rw [hv] at hR
    clear h g1 g2
    split at g3
    · rename_i hmx
      have hmx' : mx = none := by cases mx with | none => rfl | some m => simp at hmx
      rw [hmx'] at ho
      obtain ⟨h0, h1, h2, hK⟩ := g3
      have hcut := RepI.cut hR hsz (l := l.toNat) (m := hh.toNat) (k := c) (by omega) (by omega) (by omega) hcm
      have hb := run_bounds (P := P) (w := w) (b := true) (cap := c) hl hh' h0 h1 (by omega)
      exact done_pure hC (r := .v (.c (.i (.sl ((es.take hh.toNat).drop l.toNat))))) (v := .slice (if c = l.toNat then A else A.map (·.add (l.toNat * (T e).size))) (hh.toNat - l.toNat) (c - l.toNat)) (by
        simp only [execOp, ho, Option.map_none, Instr.sliceAt, Sem.run_bind, run_underlying hd', Result.andThen_ok, Instr.slice, hv, hb, run_sizeT hT hke, Sem.run_pure]) hcut hK
    · exact g3.elim
    · rename_i m hi' hmx hhi
      obtain ⟨mm, ⟨h0, h1, h2, h3, hK⟩, hm'⟩ := bound_rep (x := mx) hC (by rw [hmx]; exact g3)
      subst h2
      have hm'' : ∃ k, Option.map a.eval mx = some (.int k hh) := by
        rcases hm' with ⟨e1, _⟩ | h
        · cases mx with | none => simp at hmx | some m => simp at e1
        · exact h
      have hh'' : ∃ k, Option.map a.eval hi = some (.int k hh) := by
        rcases hh' with ⟨e1, _⟩ | h
        · cases hi with | none => simp at hhi | some m => simp at e1
        · exact h
      have hcut := RepI.cut hR hsz (l := l.toNat) (m := hh.toNat) (k := hh.toNat) (by omega) (by omega) (by omega) (by omega)
      have hlen : ((es.take hh.toNat).drop l.toNat).length = hh.toNat - l.toNat := by rw [List.length_drop, List.length_take]; omega
      have hb := run_bounds3 (P := P) (w := w) (b := true) (len := es.length) (cap := c) hl hh'' hm'' h0 h1 (Int.le_refl _) (by omega)
      refine done_pure hC (v := .slice (if hh.toNat = l.toNat then A else A.map (·.add (l.toNat * (T e).size))) (hh.toNat - l.toNat) (hh.toNat - l.toNat)) (by
        simp only [execOp, ho, Instr.sliceAt, Sem.run_bind, run_underlying hd', Result.andThen_ok, Instr.slice, hv, hb, run_sizeT hT hke, Sem.run_pure]) ?_ hK
      exact ⟨_, by rw [hlen], hcut⟩
  · rename_i hk
    rw [hk] at hd
    have hd' : P.underlying t = some .string := hd
    split at h
    case h_2 => exact h.elim
    rename_i s hev
    rw [hev] at hx
    have hx' : a.eval x = .string s := RepI_sc hx
    obtain ⟨l, g2, hl⟩ := bound_rep hC h
    obtain ⟨hh, g3, hh'⟩ := bound_rep hC g2
    clear h g2
    split at g3
    case h_2 => exact g3.elim
    rename_i hmx
    have hmx' : mx = none := by cases mx with | none => rfl | some m => simp at hmx
    rw [hmx'] at ho
    obtain ⟨h0, h1, h2, hK⟩ := g3
    have hb := run_bounds (P := P) (w := w) (b := false) (cap := s.size) hl hh' h0 h1 h2
    exact done_pure hC (v := .string (s.extract l.toNat hh.toNat)) (by
      simp [execOp, ho, Instr.sliceAt, run_underlying hd', Instr.slice, hx', hb]) (rep_sc rfl) hK
  · exact h.elim

theorem row_len {base : Nat} {E sz n l c : Nat} {A : Option Addr} {w : World} {xs : List Value} (h : OwnR w base E sz (.slice A l c) n xs) : l = n := by
  rcases h.2 with ⟨e5, e6⟩ | ⟨m, cap, cur, e5, _⟩
  · injection e5 with _ e5; rw [e6, e5]
  · injection e5
theorem row_slice {base : Nat} {E sz n : Nat} {v : Value} {w : World} {xs : List Value} (h : OwnR w base E sz v n xs) : ∃ A c, v = .slice A n c ∧ n ≤ c := by
  rcases h.2 with ⟨e5, e6⟩ | ⟨m, cap, cur, e5, _, _, h, _⟩
  · exact ⟨none, 0, by rw [e5, e6], by omega⟩
  · exact ⟨_, _, e5, h⟩
/-- The value of a part of a row. -/
theorem rowPart_rep (hC : Conf W0 ok σ S a w) {x : AT} {v : Value} (hx : RepT w ok σ S.G x v) {K : Nat → Nat → Nat → Nat → List (List IV) → Nat → Nat → Prop} {N : Prop} (h : rowPart S.blk x K N) :
    (∃ b g E sz es l0 h0, K b g E sz es l0 h0 ∧ S.blk b = .row g E sz es ∧ g ≤ S.G b ∧ ∃ A A' c, σ b g = .slice A es.length c ∧ l0 ≤ h0 ∧ h0 ≤ es.length ∧ es.length ≤ c ∧ v = .slice A' (h0 - l0) (c - l0) ∧ (l0 = 0 ∨ l0 < h0 → A' = A.map (·.add (l0 * sz)))) ∨ N := by
  unfold rowPart at h
  split at h
  · rename_i b g
    split at h
    · rename_i g' E sz es hb
      obtain ⟨rfl, h⟩ := h
      obtain ⟨hg, hv, _⟩ := hx
      obtain ⟨xs, e1, _⟩ := hC.blk b _ (blk_some hb (fun g e => by cases e))
      obtain ⟨A, c, e2, e3⟩ := row_slice e1
      exact Or.inl ⟨b, g', E, sz, es, 0, es.length, h, hb, hg, A, A, c, e2, by omega, by omega, e3, by rw [hv, e2, Nat.sub_zero, Nat.sub_zero], fun _ => (map_add0 A sz).symm⟩
    · exact Or.inr h
  · rename_i b g sz' lo hi
    split at h
    · rename_i g' E sz es hb
      obtain ⟨rfl, rfl, h⟩ := h
      obtain ⟨hg, A, A', n, c, e2, q1, q2, q3, e3, e4⟩ := hx
      obtain ⟨xs, e1, _⟩ := hC.blk b _ (blk_some hb (fun g e => by cases e))
      rw [e2] at e1
      obtain rfl := row_len e1
      exact Or.inl ⟨b, g', E, sz', es, lo, hi, h, hb, hg, A, A', c, e2, q1, q2, q3, e3, e4⟩
    · exact Or.inr h
  · exact Or.inr h

theorem done_slice (hT : TabOk P T) (hC : Conf W0 ok σ S a w) {t : Nat} {x : Operand} {lo hi mx : Option Operand} (ho : o.op = .slice t x lo hi mx) (h : effSlice T S.blk t (S.ev x) (lo.map S.ev) (hi.map S.ev) (mx.map S.ev) K) : Done P W0 S o a w K := by
  have hx := ev_rep hC x
  have hd := hT.desc t
  unfold effSlice at h
  split at h
  · rename_i es c hev
    split at h
    · rename_i e hk hlo hmx
      rw [hk] at hd
      have hd' : P.underlying t = some (.slice e) := hd
      have hke : (T e).k ≠ .none := fun e' => by rw [e'] at h; exact h
      split at h
      · exact h.elim
      have hlo' : lo = none := by cases lo with | none => rfl | some m => simp at hlo
      have hmx' : mx = none := by cases mx with | none => rfl | some m => simp at hmx
      subst hlo' hmx'
      rw [hev] at hx
      obtain ⟨A, hv, hR, hA0⟩ := hx
      obtain ⟨hsz, g1⟩ := h
      obtain ⟨hh, ⟨h0, h1, hK⟩, hh'⟩ := bound_rep hC g1
      obtain ⟨A', c', hv', hc, hcm⟩ := slice_of hR
      rw [hv] at hv' hR
      injection hv' with _ _ hcc
      subst hcc
      have hcut := RepI.cut hR hsz (l := 0) (m := hh.toNat) (k := c) (by omega) (by omega) (by omega) hcm
      rw [List.drop_zero] at hcut
      have hb := run_bounds (P := P) (w := w) (b := true) (cap := c) (lo := none) (Or.inl ⟨rfl, rfl⟩) hh' (Int.le_refl _) h0 (by omega)
      refine done_pure hC (v := .slice (if c = 0 then A else A.map (·.add (0 * (T e).size))) (hh.toNat - 0) (c - 0)) (by
        simp only [execOp, ho, Option.map_none, Instr.sliceAt, Sem.run_bind, run_underlying hd', Result.andThen_ok, Instr.slice, hv, hb, run_sizeT hT hke, Sem.run_pure, Int.toNat_zero]) ?_ hK
      refine ⟨_, by rw [List.length_take, Nat.min_eq_left (by omega), Nat.sub_zero, Nat.sub_zero], hcut, fun hn => hA0 ?_⟩
      cases A with
      | none => rfl
      | some ad => split at hn <;> cases hn
    · exact done_slice0 hT hC ho h
  · rcases rowPart_rep hC hx h with ⟨b, g, E, sz, es, l0, h0, h, hb, hg, A, A', c, e2, q1, q2, q3, e3, e4⟩ | h
    · unfold partSl at h
      split at h
      case h_2 => exact h.elim
      rename_i e hk
      rw [hk] at hd
      have hd' : P.underlying t = some (.slice e) := hd
      have hke' : (T e).k ≠ .none := fun e' => by rw [e'] at h; exact h
      have hmx' : mx = none := by
        cases mx with
        | none => rfl
        | some m => exfalso; revert h; cases (T e).k <;> exact id
      subst hmx'
      split at h
      · exact h.elim
      · exact h.elim
      obtain ⟨l, g2, hl⟩ := bound_rep hC h
      obtain ⟨hh, g3, hh'⟩ := bound_rep hC g2
      obtain ⟨k1, k2, k3, k4, hK⟩ := g3
      have hb' := run_bounds (P := P) (w := w) (b := true) (cap := c - l0) hl hh' k2 k3 (by omega)
      refine done_pure hC (r := .v (.c (.osub b g sz (l0 + l.toNat) (l0 + hh.toNat)))) (v := .slice (if c - l0 = l.toNat then A' else A'.map (·.add (l.toNat * (T e).size))) (hh.toNat - l.toNat) (c - l0 - l.toNat)) (by
        simp only [execOp, ho, Option.map_none, Instr.sliceAt, Sem.run_bind, run_underlying hd', Result.andThen_ok, Instr.slice, e3, hb', run_sizeT hT hke', Sem.run_pure]) ?_ hK
      refine ⟨hg, A, _, es.length, c, e2, by omega, by omega, q3, by congr 1 <;> omega, fun hq => ?_⟩
      rw [← k1]
      rcases Nat.eq_zero_or_pos (l0 + l.toNat) with z | z
      · obtain rfl : l0 = 0 := by omega
        have z2 : l.toNat = 0 := by omega
        rw [z2, map_add0, ite_self, e4 (Or.inl rfl)]
      · rcases hq with hq | hq
        · omega
        · rw [if_neg (by omega), e4 (Or.inr (by omega)), map_add_add, Nat.add_mul]
    · exact done_slice0 hT hC ho h

/-- A row for an entry: new, or the old one grown. -/
theorem done_row (hC : Conf W0 ok σ S a w) {b : Nat} (hb : b < S.h.length) {row : Option Nat} {w' : World} {v' : Value} {E sz : Nat} {es : List (List IV)} {xs : List Value}
    (hrun : (execOp a.eval o).run P w = .ok (.value v') w') (hg : w.grownBy w' row)
    (hrow : ∀ n, row = some n → W0.bs.has n ∧ ¬ ok n ∧ ∀ c C, c ≠ b → S.h[c]? = some C → C.at σ c ≠ some n)
    {base : Nat} (hown : OwnR w' base E sz v' es.length xs) (hcap : CX ≤ E → ∀ A l c, v' = .slice A l c → c = es.length) (hlen : ∀ e ∈ es, e.length = sz) (hat : ∀ n, Value.ownBlock v' = some n → row = some n ∨ w.heap.size ≤ n)
    (hc : ∀ (k : Nat) e j y, es[k]? = some e → e[j]? = some y → ∃ u, xs[k * sz + j]? = some u ∧ RepI w ok y u) {ds : List Nat}
    (hK : K (.v (.c (.own b (S.G b + 1)))) [(b, .row (S.G b + 1) E sz es)] ds) : Done P W0 S o a w K := by
  refine ⟨_, _, _, _, ds, Or.inl hrun, hK, by simp [hb], ok, fun c g => if c = b ∧ g = S.G b + 1 then v' else σ c g, ?_⟩
  have hσ : ∀ c g, g ≤ S.G c → (if c = b ∧ g = S.G b + 1 then v' else σ c g) = σ c g := by
    intro c g hg
    rw [if_neg]
    rintro ⟨rfl, rfl⟩
    omega
  have hGd : (S.put none (.v (.c .un)) [(b, Blk.row (S.G b + 1) E sz es)]).G b = S.G b + 1 := by simp [St.G, St.put, hb, Blk.gen]
  have hv1 : v'.oneCell' = true := by
    rcases hown.2 with ⟨rfl, _⟩ | ⟨m, cap, cur, rfl, _⟩ <;> rfl
  have hob : Value.blkNo v' = Value.ownBlock v' := by
    rcases hown.2 with ⟨rfl, _⟩ | ⟨m, cap, cur, rfl, _⟩ <;> rfl
  have hnok : ∀ n, Value.ownBlock v' = some n → ¬ ok n := by
    intro n hn hk
    rcases hat n hn with h | h
    · exact (hrow n h).2.1 hk
    · have := hC.okb n hk; omega
  refine hC.step (row := row) hg hrow (fun _ h => h) (fun k hk => Nat.lt_of_lt_of_le (hC.okb k hk) hg.size) (fun _ h => Or.inl h) hb (by simp [Blk.gen]) hσ ?_ ?_ ?_
  · refine ⟨xs, by simpa using hown.mono (Nat.zero_le _), hlen, by
      simp only [and_self, if_true]
      refine ⟨hnok, fun n hn => ?_, hcap⟩
      rcases hat n hn with h | h
      · exact (hrow n h).1
      · exact Or.inl (Nat.le_trans hC.below.size h), fun k e j y hk hj => ?_⟩
    obtain ⟨u, hu, hr⟩ := hc k e j y hk hj
    exact ⟨u, hu, RepI.mono (fun _ h => h) (fun k hk => hg.block k (hC.okb k hk) (fun e => (hrow k e.symm).2.1 hk)) hr, oneCell_of_RepI hr⟩
  · intro n hn c C hc hC' hn'
    have hn1 : Value.ownBlock v' = some n := by rw [← hob]; simpa [Blk.at] using hn
    rcases hat n hn1 with h | h
    · exact (hrow n h).2.2 c C hc hC' hn'
    · have := (at_bounds (hC.blk c C hC') hn').2.1
      omega
  · exact ⟨by rw [hGd]; exact Nat.le_refl _, by simp, hv1⟩

theorem noCX {e : Nat} (h : Nat.ble e 999999 = true) : ¬ CX ≤ e := by
  have := Nat.le_of_ble_eq_true h
  unfold CX
  omega
theorem run_append_spare (w : World) (base : Nat) (t ty e : TypeId) (i : TypeInfo) (size : Nat) (ht : P.underlying t = some (.slice e)) (hi : P.info? e = some i) (hsize : i.size = size)
    (m n cap : Nat) (xs : List Value) (hown : w.ownsRow base e size (.slice (some ⟨m, 0, none⟩) n cap) n xs)
    (B : Nat) (A : Option Addr) (k c : Nat) (news : List Value) (hr : Reads w B size A k news) (h1 : ∀ u ∈ news, u.oneCell' = true) (hroom : n + k ≤ cap) :
    ∃ w', (Builtin.append_ #[t, t] ty #[.slice (some ⟨m, 0, none⟩) n cap, .slice A k c]).run P w = .ok (.slice (some ⟨m, 0, none⟩) (n + k) cap) w' ∧
      w'.ownsRow base e size (.slice (some ⟨m, 0, none⟩) (n + k) cap) (n + k) (xs ++ news) ∧ w.grownBy w' (some m) := by
  rcases A with _ | ad
  · have hm : k = 0 := by
      rcases Nat.eq_zero_or_pos k with h0 | h0
      · exact h0
      · obtain ⟨ad, h, _⟩ := hr.2 h0
        cases h
    subst hm
    have hn : news = [] := List.eq_nil_of_length_eq_zero (by simpa using hr.1)
    subst hn
    exact ⟨w, run_append_of_nil w base t ty e i size ht hi _ n xs hown c, by simpa using hown, World.grownBy.refl w _⟩
  · have hcells : ∀ j u, news[j]? = some u → w.cell? (ad.add j) = some u := by
      intro j u hu
      rcases Nat.eq_zero_or_pos k with h0 | h0
      · subst h0
        have hn : news = [] := List.eq_nil_of_length_eq_zero (by simpa using hr.1)
        subst hn
        simp at hu
      · obtain ⟨ad', h, _, hc⟩ := hr.2 h0
        injection h with h
        subst h
        exact hc j u hu
    exact run_append_own_spare (P := P) w base t ty e i size ht hi hsize m n cap xs hown ad k c news hr.1 hcells h1 hroom
/-- The first elements of a row, as a row. -/
theorem ownsRow_take {w : World} {E sz n c m hi : Nat} {xs : List Value} (h : w.ownsRow 0 E sz (.slice (some ⟨m, 0, none⟩) n c) n xs) (hh : hi ≤ n) : w.ownsRow 0 E sz (.slice (some ⟨m, 0, none⟩) hi c) hi (xs.take (hi * sz)) := by
  have hle : hi * sz ≤ n * sz := Nat.mul_le_mul_right _ hh
  refine ⟨by rw [List.length_take, h.1]; omega, ?_⟩
  rcases h.2 with ⟨e5, _⟩ | ⟨m', cap, cur, e5, e6, e7, e8, e9, e10, e11⟩
  · cases e5
  · right
    cases e5
    refine ⟨m, c, cur, rfl, e6, e7, by omega, e9, e10, ?_⟩
    rw [← e11, List.take_take, Nat.min_eq_left hle]
/-- What an append within the room of a row leaves. -/
theorem rowp_append {base : Bs} {w w' : World} {ok : Nat → Prop} {E sz m c : Nat} {es ys : List (List IV)} {xs news : List Value} {hi : Nat} (h1 : w.ownsRow 0 E sz (.slice (some ⟨m, 0, none⟩) es.length c) es.length xs) (h2 : ∀ e ∈ es, e.length = sz) (hno : ¬ ok m)
    (h6 : ∀ (k : Nat) e j x, es[k]? = some e → e[j]? = some x → ∃ u, xs[k * sz + j]? = some u ∧ RepI w ok x u ∧ u.oneCell' = true) (hh : hi ≤ es.length) (hokb : ∀ k, ok k → k < w.heap.size)
    (hlen : ∀ z ∈ ys, z.length = sz) (hcell : ∀ (k : Nat) e j y, ys[k]? = some e → e[j]? = some y → ∃ u, news[k * sz + j]? = some u ∧ RepI w ok y u) (hg : w.grownBy w' (some m)) :
    (∀ e ∈ es.take hi ++ ys, e.length = sz) ∧ ∀ (k : Nat) e j x, (es.take hi ++ ys)[k]? = some e → e[j]? = some x → ∃ u, (xs.take (hi * sz) ++ news)[k * sz + j]? = some u ∧ RepI w' ok x u ∧ u.oneCell' = true := by
  have hlt : (es.take hi).length = hi := by rw [List.length_take]; omega
  have hx1 : (xs.take (hi * sz)).length = hi * sz := (ownsRow_take h1 hh).1
  have hc1 := cells_cut (R := fun y u => RepI w ok y u) (lo := 0) h1.1 hh h2 (fun k e j y hk hj => by
    obtain ⟨u, hu, hr, _⟩ := h6 k e j y hk hj
    exact ⟨u, hu, hr⟩)
  simp only [Nat.zero_mul, List.drop_zero] at hc1
  have up : ∀ {x : IV} {u : Value}, RepI w ok x u → RepI w' ok x u := fun hr => RepI.mono (fun _ h => h) (fun k hk => hg.block k (hokb k hk) (fun e => hno (by injection e with e; rw [← e]; exact hk))) hr
  refine ⟨fun f hf => ?_, fun k f j u hk' hj => ?_⟩
  · rcases List.mem_append.1 hf with hf | hf
    · exact h2 f (List.mem_of_mem_take hf)
    · exact hlen f hf
  · rw [List.getElem?_append] at hk'
    split at hk'
    · rename_i hlt
      obtain ⟨u', hu, hr⟩ := hc1 k f j u hk' hj
      refine ⟨u', ?_, up hr, oneCell_of_RepI hr⟩
      rw [List.getElem?_append_left (List.getElem?_eq_some_iff.1 hu).1]
      exact hu
    · rename_i hge
      obtain ⟨u', hu, hr⟩ := hcell _ f j u hk' hj
      refine ⟨u', ?_, up hr, oneCell_of_RepI hr⟩
      have h1 : (k - (es.take hi).length) * sz + (es.take hi).length * sz = k * sz := by rw [← Nat.add_mul]; congr 1; omega
      rw [List.getElem?_append_right (by rw [hx1, ← hlt]; omega), hx1, show k * sz + j - hi * sz = (k - (es.take hi).length) * sz + j by rw [hlt] at h1 ⊢; omega]
      exact hu
theorem done_append (hT : TabOk P T) (hC : Conf W0 ok σ S a w) {t : Nat} {x y : Operand} (ho : o.op = .call { callee := .builtin .append, args := #[x, y], argTypes := #[t, t] })
    (h : effAppend T S.blk S.h.length o.dst t (S.ev x) (S.ev y) K) : Done P W0 S o a w K := by
  have hx := ev_rep hC x
  have hy := ev_rep hC y
  have hd := hT.desc t
  unfold effAppend at h
  split at h
  case h_2 => exact h.elim
  rename_i e hk
  rw [hk] at hd
  have hd' : P.underlying t = some (.slice e) := hd
  split at h
  · exact h.elim
  case h_3 => exact h.elim
  rename_i d hsz hby hdst hke
  have hsz' := Nat.le_of_ble_eq_true hsz
  have hby' := Nat.le_of_ble_eq_true hby
  have hke' : (T e).k ≠ .none := hke
  obtain ⟨i, z, i1, i2, i3, i4, _, _, i5, _⟩ := tab_info hT hke'
  obtain ⟨ys, rd, B, cy, ⟨hlen, h⟩, hvy, hreads⟩ := list_rep hC hy h
  obtain ⟨news, hR, hone, hcell⟩ := hreads _ hlen
  have hexec : ∀ {vx : Value} {v' : Value} {w' : World}, a.eval x = vx → (Builtin.append_ #[t, t] o.type #[vx, .slice B ys.length cy]).run P w = .ok v' w' → (execOp a.eval o).run P w = .ok (.value v') w' := by
    intro vx v' w' h1 h2
    simp [execOp, ho, resolve, invoke, builtin, h1, hvy, h2]
  have hmax : ∀ n : Nat, n * (T e).bytes ≤ 140737488355328 → n ≤ maxLen := by
    intro n hn
    have := Nat.le_mul_of_pos_right n hby'
    unfold maxLen
    omega
  have imm : ∀ {es : List (List IV)} {A : Option Addr} {c0 : Nat}, a.eval x = .slice A es.length c0 → RepI w ok (.sl es) (.slice A es.length c0) → (A = none → c0 = 0) → d < S.h.length → ¬ CX ≤ e → c0 < es.length + ys.length → (∀ z ∈ es, z.length = (T e).size) → (es.length + ys.length) * (T e).bytes ≤ 140737488355328 →
      K (.v (.c (.own d (S.G d + 1)))) [(d, .row (S.G d + 1) e (T e).size (es ++ ys))] (d :: rd) → Done P W0 S o a w K := by
    intro es A c0 hvx hRx hA0 hdl' heC hc0 hlenx hb hK
    have hslx : (RepT w ok σ S.G (.v (.c (.i (.sl es)))) (a.eval x)) := by rw [hvx]; exact hRx
    obtain ⟨es', _, A', c', ⟨rfl, _⟩, hvx', hreadx⟩ := list_rep (K := fun es' d => es' = es ∧ d = []) hC hslx (by unfold listK; exact ⟨rfl, rfl⟩)
    obtain ⟨xs, hXR, hXone, hXcell⟩ := hreadx _ hlenx
    rw [hvx] at hvx'
    injection hvx' with hA' _ hc'
    subst hA'
    have happ : ∀ (k : Nat) f j u, (es' ++ ys)[k]? = some f → f[j]? = some u → ∃ v, (xs ++ news)[k * (T e).size + j]? = some v ∧ RepI w ok u v := by
      intro k f j u hk' hj
      rw [List.getElem?_append] at hk'
      have hxl : xs.length = es'.length * (T e).size := hXR.1
      split at hk'
      · rename_i hlt
        obtain ⟨u', hu, hr⟩ := hXcell k f j u hk' hj
        exact ⟨u', by rw [List.getElem?_append_left (List.getElem?_eq_some_iff.1 hu).1]; exact hu, hr⟩
      · rename_i hge
        obtain ⟨u', hu, hr⟩ := hcell _ f j u hk' hj
        refine ⟨u', ?_, hr⟩
        have h1 : (k - es'.length) * (T e).size + es'.length * (T e).size = k * (T e).size := by rw [← Nat.add_mul]; congr 1; omega
        rw [List.getElem?_append_right (by omega), hxl, show k * (T e).size + j - es'.length * (T e).size = (k - es'.length) * (T e).size + j by omega]
        exact hu
    have hlenxy : ∀ f ∈ es' ++ ys, f.length = (T e).size := by
      intro f hf
      rcases List.mem_append.1 hf with hf | hf
      · exact hlenx f hf
      · exact hlen f hf
    cases A with
    | none =>
      have hes : es' = [] := by
        rcases Nat.eq_zero_or_pos es'.length with h | h
        · exact List.eq_nil_of_length_eq_zero h
        · obtain ⟨ad, h1, _⟩ := hXR.2 h; cases h1
      subst hes
      obtain rfl := hA0 rfl
      obtain ⟨v', w', r1, r2, r3, r4⟩ := run_append_any (P := P) w W0.heap.size t o.type e i z (T e).size (T e).bytes hd' i1 i4 i2 i3 i5 hsz' (.slice none 0 0) 0 [] (World.ownsRow_nil _ _ _ _) w.heap.size B ys.length cy news hR hone
        (by simpa using hmax _ hb) (by simpa using hb) hC.below.size
      simp only [Nat.zero_add, List.nil_append] at r2
      exact done_row hC hdl' (hexec hvx r1) r3 (by simp [Value.ownBlock]) (OwnR.of r2) (fun h => absurd h heC) hlen (fun n hn => by
        rcases r4 with r4 | r4
        · rw [r4] at hn; simp [Value.ownBlock] at hn
        · rw [r4] at hn; injection hn with hn; right; omega) hcell hK
    | some ad =>
      obtain ⟨by_, hB, _, hnews⟩ := hR.2 (by have := (slice_of hRx); obtain ⟨A2, c2, e2, l2, _⟩ := this; injection e2 with _ _ e2; subst e2; omega)
      subst hB
      have hxcells : ∀ j v, xs[j]? = some v → w.cell? (ad.add j) = some v := by
        intro j v hj
        rcases Nat.eq_zero_or_pos es'.length with h | h
        · have : xs = [] := List.eq_nil_of_length_eq_zero (by rw [hXR.1, h]; simp)
          rw [this] at hj
          simp at hj
        · obtain ⟨ad', h1, _, h3⟩ := hXR.2 h
          injection h1 with h1
          subst h1
          exact h3 j v hj
      have hlt : c0 < es'.length + ys.length := hc0
      have hm63 : es'.length + ys.length ≤ maxLen := hmax _ hb
      have hr := run_append_grow (P := P) w t o.type e i z hd' i1 i4 ad es'.length c0 xs (by rw [hXR.1, i2]) hxcells by_ ys.length cy news (by rw [hR.1, i2]) hnews hlt (by unfold maxLen at hm63; omega) (growslice_fits hlt (by rw [i3]; exact hb))
      have hge := grownCap_ge w (es'.length + ys.length) c0 e
      have hcm := grownCap_le_maxLen w (es'.length + ys.length) c0 e hm63
      have hlen' : (xs ++ news).length = (es' ++ ys).length * (T e).size := by rw [List.length_append, hXR.1, hR.1, List.length_append, Nat.add_mul]
      refine done_row (xs := xs ++ news) hC hdl' (hexec hvx hr) (row := none) ⟨rfl, rfl, rfl, by simp, fun k hk _ => Below.heap_alloc w.drew _ k hk⟩ (by simp) (base := 0) ⟨hlen', Or.inr ⟨w.heap.size, _, _, by rw [List.length_append], Nat.zero_le _, ⟨_, _, heap_alloc_new w.drew _, Or.inl ⟨rfl, rfl⟩⟩, by rw [List.length_append]; exact hge, hcm, ?_, ?_⟩⟩ (fun h => absurd h heC) hlenxy (fun n hn => by simp [Value.ownBlock] at hn; right; omega) happ hK
      · simp only [Array.size_append, List.size_toArray, size_zeroCells, i5, hXR.1, hR.1, ← Nat.add_mul]
        congr 1
        omega
      · simp only [Array.toList_append, List.append_assoc]
        rw [← List.append_assoc, ← hlen']
        exact List.take_left
  unfold appK at h
  split at h
  · rename_i hev
    rw [hev] at hx
    have hx' : a.eval x = .slice none 0 0 := hx
    split at h
    case h_2 => exact h.elim
    rename_i hdl
    simp only [Bool.and_eq_true] at hdl
    have hdl' : d < S.h.length := by have := hdl.1; rw [Nat.blt_eq] at this; exact this
    have heC := noCX hdl.2
    obtain ⟨hb, hK⟩ := h
    rw [genK_eq] at hK
    obtain ⟨v', w', r1, r2, r3, r4⟩ := run_append_any (P := P) w W0.heap.size t o.type e i z (T e).size (T e).bytes hd' i1 i4 i2 i3 i5 hsz' (.slice none 0 0) 0 [] (World.ownsRow_nil _ _ _ _) w.heap.size B ys.length cy news hR hone
      (by simpa using hmax _ hb) (by simpa using hb) hC.below.size
    simp only [Nat.zero_add, List.nil_append] at r2
    rw [← blk_gen] at hK
    exact done_row hC hdl' (hexec hx' r1) r3 (by simp [Value.ownBlock]) (OwnR.of r2) (fun h => absurd h heC) hlen (fun n hn => by
      rcases r4 with r4 | r4
      · rw [r4] at hn; simp [Value.ownBlock] at hn
      · rw [r4] at hn; injection hn with hn; right; omega) hcell hK
  · rename_i es c hev
    rw [hev] at hx
    split at h
    case h_2 => exact h.elim
    rename_i hdl
    simp only [Bool.and_eq_true] at hdl
    have hdl' : d < S.h.length := by have := hdl.1; rw [Nat.blt_eq] at this; exact this
    obtain ⟨h0, hlenx, hb, hK⟩ := h
    rw [genK_eq, ← blk_gen] at hK
    obtain ⟨A, hvx, hRx, hA0⟩ := hx
    exact imm hvx (hvx ▸ hRx) hA0 hdl' (noCX hdl.2) h0 hlenx hb hK
  · rename_i b g sz' lo hi hev
    rw [hev] at hx
    obtain ⟨hg, A, A', n, c, hv, q1, q2, q3, hvv, q5⟩ := hx
    split at h
    case h_3 => exact h.elim
    case h_2 =>
      rename_i g' E sz es N hbk
      obtain ⟨rfl, rfl, rfl, rfl, rfl, hh, hN, hK⟩ := h
      have hbs := blk_some hbk (fun g e => by cases e)
      have hbl : b < S.h.length := (List.getElem?_eq_some_iff.1 hbs).1
      obtain ⟨m, c', xs, e0, e1, e2, e3, e4, e5, e6⟩ := hC.blk b _ hbs
      rw [hv] at e0
      injection e0 with e0 e0' e0''
      subst e0' e0''
      obtain rfl : A' = A := by rw [q5 (Or.inl rfl), map_add0]
      subst e0
      rw [Nat.sub_zero, Nat.sub_zero] at hvv
      have hgen : S.G b = g' := by rw [blk_gen, hbk]; rfl
      have hlt : (es.take hi).length = hi := by rw [List.length_take]; omega
      obtain ⟨w', r1, r2, r3⟩ := run_append_spare (P := P) w 0 t o.type E i (T E).size hd' i1 i2 m hi c _ (ownsRow_take e1 hh) w.heap.size B ys.length cy news hR hone (by omega)
      obtain ⟨f1, f2⟩ := rowp_append (base := W0.bs) e1 e2 e5 e6 hh hC.okb hlen hcell r3
      have hGe : (S.put none (.v (.c .un)) [(b, Blk.rowp g' E (T E).size (es.take hi ++ ys) n)]).G = S.G := by
        funext c
        by_cases hc : c = b
        · subst hc; rw [hgen]; simp [St.G, St.put, hbl, Blk.gen]
        · simp [St.G, St.put, List.getElem?_set_ne (fun e => hc e.symm)]
      refine ⟨_, _, _, _, _, Or.inl (hexec hvv r1), hK, by simp [hbl], ok, σ, ?_⟩
      refine hC.step (row := some m) r3 (fun n' hn' => ?_) (fun _ h => h) (fun k hk => Nat.lt_of_lt_of_le (hC.okb k hk) r3.size) (fun _ h => Or.inl h) hbl (by rw [hgen]; exact Nat.le_refl _) (fun _ _ _ => rfl) ?_ (fun n' hn' c C hc hC' hn'' => ?_) ?_
      · injection hn' with hn'
        subst hn'
        exact ⟨e4, e5, fun c C hc hC' hn'' => hC.apart b c _ C hbs hC' (fun e => hc e.symm) m (by simp [Blk.at, hv, Value.blkNo]) hn''⟩
      · rw [hGe]
        exact ⟨m, c, _, hv, by rw [List.length_append, hlt]; exact r2, f1, q3, e4, e5, f2⟩
      · exact hC.apart b c _ C hbs hC' (fun e => hc e.symm) n' (by simpa [Blk.at] using hn') hn''
      · rw [hGe]
        exact ⟨hg, some ⟨m, 0, none⟩, some ⟨m, 0, none⟩, n, c, hv, Nat.zero_le _, hN, q3, by rw [Nat.sub_zero, Nat.sub_zero], fun _ => by rw [Nat.zero_mul]; rfl⟩
    rename_i g' E sz es hbk
    split at h
    case h_2 => exact h.elim
    rename_i hFX
    obtain ⟨rfl, rfl, rfl, rfl, rfl, hb, hK⟩ := h
    have hbs := blk_some hbk (fun g e => by cases e)
    have hbl : b < S.h.length := (List.getElem?_eq_some_iff.1 hbs).1
    obtain ⟨xs, e1, e2, e3, e4⟩ := hC.blk b _ hbs
    replace e1 := e1.to (Nat.lt_of_le_of_lt (Nat.le_of_ble_eq_true hFX) (by decide))
    have heC := noCX hFX
    obtain rfl : n = es.length := by have := OwnR.of e1; rw [hv] at this; exact row_len this
    obtain rfl : A' = A := by rw [q5 (Or.inl rfl), map_add0]
    rw [Nat.sub_zero, Nat.sub_zero] at hvv
    have hlt : (es.take hi).length = hi := by rw [List.length_take]; omega
    have e1' : w.ownsRow 0 E (T E).size (a.eval x) (es.take hi).length (xs.take (hi * (T E).size)) := by
      rw [hlt]
      have hle : hi * (T E).size ≤ es.length * (T E).size := Nat.mul_le_mul_right _ q2
      refine ⟨by rw [List.length_take, e1.1]; omega, ?_⟩
      rcases e1.2 with ⟨e5, e6⟩ | ⟨m, cap, cur, e5, e6, e7, e8, e9, e10, e11⟩
      · left
        rw [hv] at e5
        injection e5 with e5 e5' e5''
        exact ⟨by rw [hvv, e5, e5'']; congr 1; omega, by omega⟩
      · right
        rw [hv] at e5
        injection e5 with e5 e5' e5''
        refine ⟨m, c, cur, by rw [hvv, e5], e6, e7, by omega, by rw [e5'']; exact e9, by rw [e10, e5''], ?_⟩
        rw [← e11, List.take_take, Nat.min_eq_left hle]
    have hob : ∀ m, Value.ownBlock (a.eval x) = some m → Value.ownBlock (σ b g') = some m := by
      intro m hm
      rw [hvv] at hm
      rw [hv]
      cases A' <;> exact hm
    have hgen : S.G b = g' := by rw [blk_gen, hbk]; rfl
    rw [← hgen] at hK
    obtain ⟨v', w', r1, r2, r3, r4⟩ := run_append_any (P := P) w 0 t o.type E i z (T E).size (T E).bytes hd' i1 i4 i2 i3 i5 hsz' (a.eval x) (es.take hi).length _ e1' w.heap.size B ys.length cy news hR hone
      (hmax _ hb) hb (Nat.zero_le _)
    refine done_row hC hbl (hexec rfl r1) r3 (fun n hn => ?_) (OwnR.of (by simpa using r2)) (fun h => absurd h heC) (fun f hf => ?_) (fun n hn => ?_) (fun k f j u hk' hj => ?_) hK
    · refine ⟨e3.has n (hob n hn), e3.nok n (hob n hn), fun c C hc hC' hn' => ?_⟩
      refine hC.apart b c _ C hbs hC' (fun e => hc e.symm) n ?_ hn'
      replace hn := hob n hn
      simp only [Blk.at]
      rcases e1.2 with ⟨e5, _⟩ | ⟨m, cap, cur, e5, _⟩
      · rw [e5] at hn; simp [Value.ownBlock] at hn
      · rw [e5] at hn ⊢; simpa [Value.blkNo, Value.ownBlock] using hn
    · rcases List.mem_append.1 hf with hf | hf
      · exact e2 f (List.mem_of_mem_take hf)
      · exact hlen f hf
    · rcases r4 with r4 | r4
      · left; rw [← r4]; exact hn
      · rw [r4] at hn; injection hn with hn; right; omega
    · have hc1 := cells_cut (R := fun y u => RepI w ok y u) (lo := 0) e1.1 q2 e2 (fun k e j y hk hj => by
        obtain ⟨u, hu, hr, _⟩ := e4 k e j y hk hj
        exact ⟨u, hu, hr⟩)
      simp only [Nat.zero_mul, List.drop_zero] at hc1
      rw [List.getElem?_append] at hk'
      have hxl := e1'.1
      split at hk'
      · rename_i hlt
        obtain ⟨u', hu, hr⟩ := hc1 k f j u hk' hj
        refine ⟨u', ?_, hr⟩
        rw [List.getElem?_append_left (List.getElem?_eq_some_iff.1 hu).1]
        exact hu
      · rename_i hge
        obtain ⟨u', hu, hr⟩ := hcell _ f j u hk' hj
        refine ⟨u', ?_, hr⟩
        have h1 : (k - (es.take hi).length) * (T E).size + (es.take hi).length * (T E).size = k * (T E).size := by rw [← Nat.add_mul]; congr 1; omega
        rw [List.getElem?_append_right (by omega), hxl, show k * (T E).size + j - (es.take hi).length * (T E).size = (k - (es.take hi).length) * (T E).size + j by omega]
        exact hu
  · rename_i es hev
    rw [hev] at hx
    split at h
    case h_2 => exact h.elim
    rename_i hdl
    simp only [Bool.and_eq_true] at hdl
    have hdl' : d < S.h.length := by have := hdl.1; rw [Nat.blt_eq] at this; exact this
    obtain ⟨h0, hlenx, hb, hK⟩ := h
    rw [genK_eq, ← blk_gen] at hK
    obtain ⟨A, hvx, hRx⟩ := hx
    cases A with
    | none =>
      rcases Nat.eq_zero_or_pos es.length with hz | hz
      · exact imm hvx (hvx ▸ hRx) (fun _ => hz) hdl' (noCX hdl.2) (by omega) hlenx hb hK
      · rw [hvx] at hRx
        generalize hn : es.length = n at hRx
        cases hRx with
        | nil A c hm => simp at hz
    | some ad => exact imm hvx (hvx ▸ hRx) (fun e => by cases e) hdl' (noCX hdl.2) (by omega) hlenx hb hK
  · rename_i b g hev
    rw [hev] at hx
    obtain ⟨hg, hv, _⟩ := hx
    split at h
    case h_2 => exact h.elim
    rename_i g' E sz es hbk
    split at h
    case h_2 => exact h.elim
    rename_i hFX
    obtain ⟨rfl, rfl, rfl, hb, hK⟩ := h
    have hbs := blk_some hbk (fun g e => by cases e)
    have hbl : b < S.h.length := (List.getElem?_eq_some_iff.1 hbs).1
    obtain ⟨xs, e1, e2, e3, e4⟩ := hC.blk b _ hbs
    replace e1 := e1.to (Nat.lt_of_le_of_lt (Nat.le_of_ble_eq_true hFX) (by decide))
    have heC := noCX hFX
    rw [← hv] at e1 e3
    have hgen : S.G b = g' := by rw [blk_gen, hbk]; rfl
    rw [← hgen] at hK
    obtain ⟨v', w', r1, r2, r3, r4⟩ := run_append_any (P := P) w 0 t o.type E i z (T E).size (T E).bytes hd' i1 i4 i2 i3 i5 hsz' (a.eval x) es.length xs e1 w.heap.size B ys.length cy news hR hone
      (hmax _ hb) hb (Nat.zero_le _)
    refine done_row hC hbl (hexec rfl r1) r3 (fun n hn => ?_) (OwnR.of (by simpa using r2)) (fun h => absurd h heC) (fun f hf => ?_) (fun n hn => ?_) (fun k f j u hk' hj => ?_) hK
    · refine ⟨e3.has n hn, e3.nok n hn, fun c C hc hC' hn' => ?_⟩
      refine hC.apart b c _ C hbs hC' (fun e => hc e.symm) n ?_ hn'
      simp only [Blk.at]
      rw [← hv]
      rcases e1.2 with ⟨e5, _⟩ | ⟨m, cap, cur, e5, _⟩
      · rw [e5] at hn; simp [Value.ownBlock] at hn
      · rw [e5] at hn ⊢; simpa [Value.blkNo, Value.ownBlock] using hn
    · rcases List.mem_append.1 hf with hf | hf
      · exact e2 f hf
      · exact hlen f hf
    · rcases r4 with r4 | r4
      · left; rw [← r4]; exact hn
      · rw [r4] at hn; injection hn with hn; right; omega
    · rw [List.getElem?_append] at hk'
      have hxl : xs.length = es.length * (T E).size := e1.1
      split at hk'
      · rename_i hlt
        obtain ⟨u', hu, hr, _⟩ := e4 k f j u hk' hj
        refine ⟨u', ?_, hr⟩
        rw [List.getElem?_append_left (List.getElem?_eq_some_iff.1 hu).1]
        exact hu
      · rename_i hge
        obtain ⟨u', hu, hr⟩ := hcell _ f j u hk' hj
        refine ⟨u', ?_, hr⟩
        have h1 : (k - es.length) * (T E).size + es.length * (T E).size = k * (T E).size := by rw [← Nat.add_mul]; congr 1; omega
        rw [List.getElem?_append_right (by omega), hxl, show k * (T E).size + j - es.length * (T E).size = (k - es.length) * (T E).size + j by omega]
        exact hu
  · exact h.elim
end
end Go.Proofs.YtikchieadclbhaaGreatDoor.Ab
