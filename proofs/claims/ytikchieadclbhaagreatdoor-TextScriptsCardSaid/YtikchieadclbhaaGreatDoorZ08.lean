/- The model's further operations follow the abstract ones: numbers, slices, new rows, structs. No condition. -/
import Derived.Test.YtikchieadclbhaaGreatDoorZ06
import Derived.Test.YtikchieadclbhaaGreatDoorZ07
namespace Go.Proofs.YtikchieadclbhaaGreatDoor.Ab
set_option linter.unusedVariables false
set_option linter.unusedSimpArgs false
open Go.RowKit

abbrev ATint (n : Int) : AT := .v (.c (.i (.sc (.int .i64 n))))
abbrev ATbool (b : Bool) : AT := .v (.c (.i (.sc (.bool b))))

/-- A number as a word of 64 bits with a sign. -/
def wAt (n : Nat) (x : Int) : Int := if n = 0 then (x + 9223372036854775808) % 18446744073709551616 - 9223372036854775808 else wAt (n - 1) x
termination_by n
decreasing_by omega
def w64 (x : Int) : Int := wAt 0 x
theorem w64_eq (x : Int) : w64 x = (x + 9223372036854775808) % 18446744073709551616 - 9223372036854775808 := by unfold w64; rw [wAt]; rfl
theorem w64_in {x : Int} (h : -9223372036854775808 ≤ x ∧ x ≤ 9223372036854775807) : w64 x = x := by rw [w64_eq]; omega
theorem w64_bd (x : Int) : -9223372036854775808 ≤ w64 x ∧ w64 x ≤ 9223372036854775807 := by rw [w64_eq]; omega
theorem w64_nat {k : Nat} (h : k ≤ 9223372036854775806) : w64 ((k : Int) + 1) = ((k + 1 : Nat) : Int) := by rw [w64_eq]; omega
def iwrap : IntKind → Int → Int
  | .i64, x => w64 x
  | k, x => k.wrap x
theorem iwrap_eq (k : IntKind) (x : Int) : k.wrap x = iwrap k x := by
  cases k <;> first | rfl | (simp only [iwrap]; rw [w64_eq, IntKind.wrap_i64])

def effPick (c a b : AT) (K : Kont) : Prop :=
  match c with
  | .v (.c (.i (.sc (.bool t)))) => match t with
    | true => K a [] []
    | false => K b [] []
  | .v (.c (.lit true)) => K a [] []
  | .v (.c (.lit false)) => K b [] []
  | _ => False

def effNil (x : AT) (K : Kont) : Prop :=
  match x with
  | .v (.c (.ptr b g off)) => K (.v (.c (.ptr b g off))) [] []
  | .v (.c (.eptr b g sz k off)) => K (.v (.c (.eptr b g sz k off))) [] []
  | .v (.c (.pim cs)) => K (.v (.c (.pim cs))) [] []
  | _ => False

def effExtract (x : AT) (j : Nat) (K : Kont) : Prop :=
  match x with
  | .tup xs => match nthO xs j with
    | some y => K (.v y) [] []
    | none => False
  | _ => False

def sameKind : IntKind → IntKind → Bool
  | .i8, .i8 => true
  | .i16, .i16 => true
  | .i32, .i32 => true
  | .i64, .i64 => true
  | .u8, .u8 => true
  | .u16, .u16 => true
  | .u32, .u32 => true
  | .u64, .u64 => true
  | _, _ => false
theorem sameKind_eq {a b : IntKind} (h : sameKind a b = true) : a = b := by cases a <;> cases b <;> first | rfl | cases h

def binInt (op : BinOp) (k : IntKind) (m n : Int) (K : AT → Prop) : Prop :=
  match op with
  | .add => K (.v (.c (.i (.sc (.int k (iwrap k (m + n)))))))
  | .sub => K (.v (.c (.i (.sc (.int k (iwrap k (m - n)))))))
  | .mul => K (.v (.c (.i (.sc (.int k (iwrap k (m * n)))))))
  | .quo => n ≠ 0 ∧ K (.v (.c (.i (.sc (.int k (iwrap k (m.tdiv n)))))))
  | .rem => n ≠ 0 ∧ K (.v (.c (.i (.sc (.int k (m.tmod n))))))
  | .and => K (.v (.c (.i (.sc (.int k (k.wrap ((BitVec.ofInt k.bits m &&& BitVec.ofInt k.bits n).toNat : Int)))))))
  | .or => K (.v (.c (.i (.sc (.int k (k.wrap ((BitVec.ofInt k.bits m ||| BitVec.ofInt k.bits n).toNat : Int)))))))
  | .xor => K (.v (.c (.i (.sc (.int k (k.wrap ((BitVec.ofInt k.bits m ^^^ BitVec.ofInt k.bits n).toNat : Int)))))))
  | .eql => K (ATbool (m == n))
  | .neq => K (ATbool (m != n))
  | .lss => K (ATbool (decide (m < n)))
  | .leq => K (ATbool (decide (m ≤ n)))
  | .gtr => K (ATbool (decide (m > n)))
  | .geq => K (ATbool (decide (m ≥ n)))
  | _ => False

/-- Are two values of a type equal? -/
def eqFs (T : Nat → TI) (E : Nat → List AV1 → List AV1 → (Bool → Prop) → Prop) : List (Nat × Nat) → List AV1 → List AV1 → (Bool → Prop) → Prop
  | [], _, _, K => K true
  | f :: fs, xs, ys, K => E f.2 ((xs.drop f.1).take (T f.2).size) ((ys.drop f.1).take (T f.2).size) fun b => eqFs T E fs xs ys fun r => K (b && r)
def eqK (T : Nat → TI) : Nat → Nat → List AV1 → List AV1 → (Bool → Prop) → Prop
  | 0, _, _, _, _ => False
  | d + 1, t, xs, ys, K => match (T t).k with
    | .int _ => match xs, ys with
      | .i (.sc (.int k m)) :: _, .i (.sc (.int k' n)) :: _ => match sameKind k k' with
        | true => K (m == n)
        | false => False
      | _, _ => False
    | .bool => match xs, ys with
      | .i (.sc (.bool m)) :: _, .i (.sc (.bool n)) :: _ => K (m == n)
      | _, _ => False
    | .str => match xs, ys with
      | .i (.sc (.string m)) :: _, .i (.sc (.string n)) :: _ => K (m.toList == n.toList)
      | _, _ => False
    | .struct fs => match (T t).eq with
      | true => eqFs T (eqK T d) fs xs ys K
      | false => False
    | _ => False

def effBin (T : Nat → TI) (op : BinOp) (t : Nat) (x y : AT) (K : Kont) : Prop :=
  match x, y with
  | .v (.c (.i (.sc (.int k m)))), .v (.c (.i (.sc (.int k' n)))) => match op with
    | .shl => 0 ≤ n ∧ K (.v (.c (.i (.sc (.int k (iwrap k (m * 2 ^ (min n.toNat k.bits)))))))) [] []
    | .shr => 0 ≤ n ∧ K (.v (.c (.i (.sc (.int k (m.fdiv (2 ^ (min n.toNat k.bits)))))))) [] []
    | _ => match sameKind k k' with
      | true => binInt op k m n fun r => K r [] []
      | false => False
  | .v (.c (.i (.sc (.bool m)))), .v (.c (.i (.sc (.bool n)))) => match (T t).k with
    | .bool => match op with
      | .eql => K (ATbool (m == n)) [] []
      | .neq => K (ATbool (!(m == n))) [] []
      | _ => False
    | _ => False
  | .v (.c (.i (.sc (.string m)))), .v (.c (.i (.sc (.string n)))) => match op with
    | .add => m.size + n.size ≤ 9223372036854775807 ∧ K (.v (.c (.i (.sc (.string (m ++ n)))))) [] []
    | .eql => K (ATbool (m.toList == n.toList)) [] []
    | .neq => K (ATbool (!(m.toList == n.toList))) [] []
    | _ => False
  | .v (.c (.i (.sl es))), .v (.c .nl) => match (T t).k with
    | .slice _ => match op, es with
      | .eql, [] => K (.v (.c .bl)) [] []
      | .eql, _ :: _ => K (.v (.c (.lit false))) [] []
      | .neq, [] => K (.v (.c .bl)) [] []
      | .neq, _ :: _ => K (.v (.c (.lit true))) [] []
      | _, _ => False
    | _ => False
  | .v (.c .nl), .v (.c .nl) => match (T t).k with
    | .slice _ => match op with
      | .eql => K (.v (.c (.lit true))) [] []
      | .neq => K (.v (.c (.lit false))) [] []
      | _ => False
    | _ => False
  | .v (.agg xs), .v (.agg ys) => match (T t).k.agg with
    | true => match op with
      | .eql => eqK T 8 t xs ys fun b => K (ATbool b) [] []
      | .neq => eqK T 8 t xs ys fun b => K (ATbool (!b)) [] []
      | _ => False
    | false => False
  | _, _ => False

def effUn (op : UnOp) (x : AT) (K : Kont) : Prop :=
  match op, x with
  | .not, .v (.c (.i (.sc (.bool b)))) => K (ATbool (!b)) [] []
  | .neg, .v (.c (.i (.sc (.int k n)))) => K (.v (.c (.i (.sc (.int k (iwrap k (0 - n))))))) [] []
  | _, _ => False

def effConv (T : Nat → TI) (src dst : Nat) (x : AT) (K : Kont) : Prop :=
  match (T src).k, (T dst).k, x with
  | .int _, .int k, .v (.c (.i (.sc (.int _ n)))) => K (.v (.c (.i (.sc (.int k (iwrap k n)))))) [] []
  | .str, .str, .v (.c (.i (.sc (.string s)))) => K (.v (.c (.i (.sc (.string s))))) [] []
  | _, _, _ => False

theorem OwnR.reads {base e size n c : Nat} {A : Option Addr} {w : World} {xs : List Value} (h : OwnR w base e size (.slice A n c) n xs) : Reads w w.heap.size size A n xs := by
  refine ⟨h.1, fun hn => ?_⟩
  rcases h.2 with ⟨_, h0⟩ | ⟨g, cap, cur, e1, hb, ⟨ty, fz, hg, _⟩, _⟩
  · omega
  · have hA : A = some ⟨g, 0, none⟩ := by injection e1
    subst hA
    exact ⟨_, rfl, (Array.getElem?_eq_some_iff.1 hg).1, fun j u hu => by rw [add_at, Nat.zero_add]; exact h.cells rfl j u hu⟩
theorem reads_cut {w : World} {B sz n lo hi : Nat} {A A' : Option Addr} {xs : List Value} (h : Reads w B sz A n xs) (h1 : lo ≤ hi) (h2 : hi ≤ n) (h3 : lo = 0 ∨ lo < hi → A' = A.map (·.add (lo * sz))) :
    Reads w B sz A' (hi - lo) ((xs.take (hi * sz)).drop (lo * sz)) := by
  have hl : xs.length = n * sz := h.1
  have k1 : lo * sz ≤ hi * sz := Nat.mul_le_mul_right _ h1
  have k2 : hi * sz ≤ n * sz := Nat.mul_le_mul_right _ h2
  refine ⟨by rw [List.length_drop, List.length_take, Nat.sub_mul]; omega, fun hn => ?_⟩
  obtain ⟨ad, e1, e2, e3⟩ := h.2 (by omega)
  rw [h3 (Or.inr (by omega)), e1]
  refine ⟨ad.add (lo * sz), rfl, by rw [add_block]; exact e2, fun j u hu => ?_⟩
  rw [List.getElem?_drop, List.getElem?_take] at hu
  split at hu
  · rw [add_add']; exact e3 _ _ hu
  · cases hu
theorem cells_cut {sz lo hi : Nat} {es : List (List IV)} {xs : List Value} {R : IV → Value → Prop} (hl : xs.length = es.length * sz) (h2 : hi ≤ es.length) (hsz : ∀ e ∈ es, e.length = sz)
    (h : ∀ (k : Nat) e j y, es[k]? = some e → e[j]? = some y → ∃ u, xs[k * sz + j]? = some u ∧ R y u) :
    ∀ (k : Nat) e j y, ((es.take hi).drop lo)[k]? = some e → e[j]? = some y → ∃ u, ((xs.take (hi * sz)).drop (lo * sz))[k * sz + j]? = some u ∧ R y u := by
  intro k e j y hk hj
  rw [List.getElem?_drop, List.getElem?_take] at hk
  split at hk
  · rename_i hlt
    obtain ⟨u, hu, hr⟩ := h _ e j y hk hj
    refine ⟨u, ?_, hr⟩
    have hjl : j < sz := by have := (List.getElem?_eq_some_iff.1 hj).1; rw [hsz e (List.mem_of_getElem? hk)] at this; exact this
    have k1 : (lo + k + 1) * sz ≤ hi * sz := Nat.mul_le_mul_right _ hlt
    have k2 : (lo + k + 1) * sz = lo * sz + k * sz + sz := by rw [Nat.add_mul, Nat.add_mul, Nat.one_mul]
    have k3 : (lo + k) * sz = lo * sz + k * sz := by rw [Nat.add_mul]
    rw [List.getElem?_drop, List.getElem?_take, if_pos (by omega)]
    rw [k3] at hu
    rw [← Nat.add_assoc]
    exact hu
  · cases hk
/-- A slice as a list of rows of cells, whatever it is. -/
def listK (H : Nat → Blk) (x : AT) (K : List (List IV) → List Nat → Prop) : Prop :=
  match x with
  | .v (.c (.i (.sl es))) => K es []
  | .v (.c .nl) => K [] []
  | .v (.c (.slx es)) => K es []
  | .v (.c (.own b g)) => match H b with
    | .row g' _ _ es => g' = g ∧ K es [b]
    | .froz g' es => g' = g ∧ K es [b]
    | _ => False
  | .v (.c (.sly es _)) => K es []
  | .v (.c (.osub b g sz lo hi)) => match H b with
    | .row g' _ sz' es => g' = g ∧ sz' = sz ∧ K ((es.take hi).drop lo) [b]
    | _ => False
  | _ => False

def effLen (T : Nat → TI) (H : Nat → Blk) (t : Nat) (x : AT) (K : Kont) : Prop :=
  match (T t).k with
  | .slice _ => listK H x fun es d => K (ATint es.length) [] d
  | .str => match x with
    | .v (.c (.i (.sc (.string s)))) => K (ATint s.size) [] []
    | _ => False
  | .arr n _ => K (ATint n) [] []
  | _ => False

def effMin (mx : Bool) (x y : AT) (K : Kont) : Prop :=
  match x, y with
  | .v (.c (.i (.sc (.int k m)))), .v (.c (.i (.sc (.int k' n)))) => match mx with
    | true => K (.v (.c (.i (.sc (.int k (if n > m then n else m)))))) [] []
    | false => K (.v (.c (.i (.sc (.int k (if n < m then n else m)))))) [] []
  | _, _ => False

section
variable {P : Program} {T : Nat → TI} {W0 : Ent} {w : World} {ok : Nat → Prop} {σ : Nat → Nat → Value} {S : St} {a : Act} {o : Oper} {K : Kont}

theorem done_move (hC : Conf W0 ok σ S a w) {x : Operand} (ho : o.op = .move x ∨ o.op = .assign x) (h : K (S.ev x) [] []) : Done P W0 S o a w K :=
  done_pure hC (v := a.eval x) (by rcases ho with ho | ho <;> simp [execOp, ho]) (ev_rep hC x) h

theorem done_pick (hC : Conf W0 ok σ S a w) {c x y : Operand} (ho : o.op = .pick c x y) (h : effPick (S.ev c) (S.ev x) (S.ev y) K) : Done P W0 S o a w K := by
  have hc := ev_rep hC c
  unfold effPick at h
  split at h
  · rename_i t hev
    rw [hev] at hc
    have hc' : a.eval c = .bool t := RepI_sc hc
    cases t with
    | true => exact done_pure hC (v := a.eval x) (by simp [execOp, ho, hc', asBool]) (ev_rep hC x) h
    | false => exact done_pure hC (v := a.eval y) (by simp [execOp, ho, hc', asBool]) (ev_rep hC y) h
  · rename_i hev
    rw [hev] at hc
    have hc' : a.eval c = .bool true := hc
    exact done_pure hC (v := a.eval x) (by simp [execOp, ho, hc', asBool]) (ev_rep hC x) h
  · rename_i hev
    rw [hev] at hc
    have hc' : a.eval c = .bool false := hc
    exact done_pure hC (v := a.eval y) (by simp [execOp, ho, hc', asBool]) (ev_rep hC y) h
  · exact h.elim

theorem done_nil (hC : Conf W0 ok σ S a w) {x : Operand} (ho : o.op = .nilCheck x) (h : effNil (S.ev x) K) : Done P W0 S o a w K := by
  have hx := ev_rep hC x
  unfold effNil at h
  split at h
  · rename_i b g off hev
    rw [hev] at hx
    obtain ⟨h1, n, h2, h3⟩ := hx
    exact done_pure hC (r := .v (.c (.ptr b g off))) (v := .pointer (some ⟨n, off, none⟩)) (by simp [execOp, ho, h3]) ⟨h1, n, h2, rfl⟩ h
  · rename_i b g sz k off hev
    rw [hev] at hx
    obtain ⟨h1, n, l, c, h2, h3⟩ := hx
    exact done_pure hC (r := .v (.c (.eptr b g sz k off))) (v := .pointer (some ⟨n, k * sz + off, none⟩)) (by simp [execOp, ho, h3]) ⟨h1, n, l, c, h2, rfl⟩ h
  · rename_i cs hev
    rw [hev] at hx
    obtain ⟨ad, h1, h2⟩ := hx
    exact done_pure hC (r := .v (.c (.pim cs))) (v := .pointer (some ad)) (by simp [execOp, ho, h1]) ⟨ad, rfl, h2⟩ h
  · exact h.elim

theorem done_extract (hC : Conf W0 ok σ S a w) {x : Operand} {j : Nat} (ho : o.op = .extract x j) (h : effExtract (S.ev x) j K) : Done P W0 S o a w K := by
  have hx := ev_rep hC x
  unfold effExtract at h
  split at h
  case h_2 => exact h.elim
  rename_i xs hev
  rw [hev] at hx
  obtain ⟨arr, h1, h2, h3⟩ := hx
  rw [nthO_eq] at h
  split at h
  case h_2 => exact h.elim
  rename_i y hy
  have hj : j < arr.size := by rw [h2]; exact (List.getElem?_eq_some_iff.1 hy).1
  exact done_pure hC (r := .v y) (v := arr[j]) (by simp [execOp, ho, Instr.extract, h1, hj]) (h3 j _ y (Array.getElem?_eq_getElem hj) hy) h

theorem rep_sc {v : Value} (h : v.oneCell' = true) : RepT w ok σ S.G (.v (.c (.i (.sc v)))) v := RepI.sc v h

theorem binInt_ok {op : BinOp} {k : IntKind} {m n : Int} {K : AT → Prop} (h : binInt op k m n K) (hs : op ≠ .shl ∧ op ≠ .shr) (t : TypeId) (w : World) :
    ∃ v, (binOp op t (.int k m) (.int k n)).run P w = .ok v w ∧ v.oneCell' = true ∧ K (.v (.c (.i (.sc v)))) := by
  cases op <;> simp only [binInt] at h
  case add => exact ⟨.int k (k.wrap (m + n)), by simp [binOp, Op.intArith], rfl, by rw [iwrap_eq]; exact h⟩
  case sub => exact ⟨.int k (k.wrap (m - n)), by simp [binOp, Op.intArith], rfl, by rw [iwrap_eq]; exact h⟩
  case mul => exact ⟨.int k (k.wrap (m * n)), by simp [binOp, Op.intArith], rfl, by rw [iwrap_eq]; exact h⟩
  case quo => exact ⟨.int k (k.wrap (m.tdiv n)), by simp [binOp, Op.intDiv, h.1], rfl, by rw [iwrap_eq]; exact h.2⟩
  case rem => exact ⟨.int k (m.tmod n), by simp [binOp, Op.intDiv, h.1], rfl, h.2⟩
  case and => exact ⟨_, by simp [binOp, Op.intBits], rfl, h⟩
  case or => exact ⟨_, by simp [binOp, Op.intBits], rfl, h⟩
  case xor => exact ⟨_, by simp [binOp, Op.intBits], rfl, h⟩
  case eql => exact ⟨.bool (m == n), by simp [binOp, Op.intCmp], rfl, h⟩
  case neq => exact ⟨.bool (m != n), by simp [binOp, Op.intCmp], rfl, h⟩
  case lss => exact ⟨.bool (decide (m < n)), by simp [binOp, Op.intCmp], rfl, h⟩
  case leq => exact ⟨.bool (decide (m ≤ n)), by simp [binOp, Op.intCmp], rfl, h⟩
  case gtr => exact ⟨.bool (decide (m > n)), by simp [binOp, Op.intCmp], rfl, h⟩
  case geq => exact ⟨.bool (decide (m ≥ n)), by simp [binOp, Op.intCmp], rfl, h⟩

theorem run_bin {op : BinOp} {t yt : Nat} {x y : Operand} (ho : o.op = .binOp op t x y yt) {v1 v2 v : Value} (hx : a.eval x = v1) (hy : a.eval y = v2) (hg : (eqGuard op t x y v1 v2).run P w = .ok () w) (hb : (binOp op t v1 v2).run P w = .ok v w) :
    (execOp a.eval o).run P w = .ok (.value v) w := by
  simp only [execOp, ho, hx, hy, Sem.run_bind, hg, hb, Result.andThen_ok, Sem.run_pure]

theorem rep_bl {G : Nat → Nat} {b : Bool} : RepT w ok σ G (.v (.c .bl)) (.bool b) := ⟨b, rfl⟩
theorem rep_lit {G : Nat → Nat} {b : Bool} : RepT w ok σ G (.v (.c (.lit b))) (.bool b) := rfl
theorem eqK_some {d t : Nat} {xs ys : List AV1} {Kb : Bool → Prop} (h : eqK T d t xs ys Kb) : (T t).k ≠ .none := by
  intro e
  cases d with
  | zero => exact h
  | succ d => simp only [eqK, e] at h

/-- The cells of a value of a type. -/
def HasCells (w : World) (ok : Nat → Prop) (σ : Nat → Nat → Value) (G : Nat → Nat) (ti : TI) (X : Value) (xs : List AV1) : Prop :=
  (ti.k.agg = true ∧ ∃ arr : Array Value, X = .agg arr ∧ arr.size = xs.length ∧ ∀ (j : Nat) u x, arr[j]? = some u → xs[j]? = some x → Rep1 w ok σ G x u) ∨ (ti.k.agg = false ∧ ∀ x, xs.head? = some x → Rep1 w ok σ G x X)

theorem eqFs_ok {σG : Nat → Nat} {E : Nat → List AV1 → List AV1 → (Bool → Prop) → Prop} {D : Nat} (hT : TabOk P T) (hs : ∀ {t xs ys Kb}, E t xs ys Kb → (T t).k ≠ .none ∧ ((T t).k.agg = false → xs ≠ [] ∧ ys ≠ []))
    (hE : ∀ {t xs ys Kb X Y}, E t xs ys Kb → HasCells w ok σ σG (T t) X xs → HasCells w ok σ σG (T t) Y ys → ∃ b, Kb b ∧ (Op.equalIn D t X Y).run P w = .ok b w)
    {ax ay : Array Value} {xs ys : List AV1} (hx0 : ax.size = xs.length) (hx : ∀ (j : Nat) u x, ax[j]? = some u → xs[j]? = some x → Rep1 w ok σ σG x u) (hy0 : ay.size = ys.length) (hy : ∀ (j : Nat) u x, ay[j]? = some u → ys[j]? = some x → Rep1 w ok σ σG x u)
    (F : List Field) : ∀ {Kb : Bool → Prop}, (∀ f ∈ F, f.name ≠ "_") → eqFs T E (F.map fun f => (f.offset, f.type)) xs ys Kb → ∃ b, Kb b ∧ (Op.eqFields D ax ay F).run P w = .ok b w := by
  have hpart : ∀ {t off : Nat} {az : Array Value} {zs : List AV1}, az.size = zs.length → (∀ (j : Nat) u x, az[j]? = some u → zs[j]? = some x → Rep1 w ok σ σG x u) → (T t).k ≠ .none → ((T t).k.agg = false → (zs.drop off).take (T t).size ≠ []) →
      ∃ Z, (part t az off).run P w = .ok Z w ∧ HasCells w ok σ σG (T t) Z ((zs.drop off).take (T t).size) := by
    intro t off az zs h0 hz hk hne
    unfold part
    cases ha : (T t).k.agg with
    | true =>
      refine ⟨.agg (az.extract off (off + (T t).size)), by simp [run_aggT hT hk, run_sizeT hT hk, ha], Or.inl ⟨ha, _, rfl, by simp; omega, fun j u x hu hx => ?_⟩⟩
      rw [Array.getElem?_extract] at hu
      split at hu
      · rename_i hj
        rw [List.getElem?_take] at hx
        split at hx
        · rw [List.getElem?_drop] at hx
          exact hz _ u x hu hx
        · cases hx
      · cases hu
    | false =>
      have hne' := hne ha
      have hlt : off < zs.length := by
        rcases Nat.lt_or_ge off zs.length with h | h
        · exact h
        · exact absurd (by rw [List.drop_eq_nil_of_le h, List.take_nil]) hne'
      have hlt' : off < az.size := by omega
      refine ⟨az[off], by simp [run_aggT hT hk, ha, Array.getElem?_eq_getElem hlt'], Or.inr ⟨ha, fun x hx => ?_⟩⟩
      refine hz off az[off] x (Array.getElem?_eq_getElem hlt') ?_
      rw [List.head?_eq_getElem?, List.getElem?_take] at hx
      split at hx
      · rw [List.getElem?_drop] at hx; exact hx
      · cases hx
  induction F with
  | nil => intro Kb _ h; exact ⟨true, h, by simp [Op.eqFields]⟩
  | cons f F ih =>
    intro Kb hn h
    simp only [List.map_cons, eqFs] at h
    obtain ⟨s1, s2⟩ := hs h
    obtain ⟨X, px, cx⟩ := hpart (off := f.offset) hx0 hx s1 fun e => (s2 e).1
    obtain ⟨Y, py, cy⟩ := hpart (off := f.offset) hy0 hy s1 fun e => (s2 e).2
    obtain ⟨b, h, r⟩ := hE h cx cy
    obtain ⟨c, h, r'⟩ := ih (fun f hf => hn f (List.mem_cons_of_mem _ hf)) h
    refine ⟨_, h, ?_⟩
    simp only [Op.eqFields, ne_eq, hn f List.mem_cons_self, not_false_eq_true, if_true, Sem.run_bind, px, py, Result.andThen_ok, r]
    cases b <;> simp [r']

theorem eqK_ok {σG : Nat → Nat} (hT : TabOk P T) (d : Nat) : ∀ {D t : Nat} {xs ys : List AV1} {Kb : Bool → Prop} {X Y : Value}, eqK T d t xs ys Kb → HasCells w ok σ σG (T t) X xs → HasCells w ok σ σG (T t) Y ys →
    ∃ b, Kb b ∧ (Op.equalIn (D + d) t X Y).run P w = .ok b w := by
  induction d with
  | zero => intro D t xs ys Kb X Y h; exact h.elim
  | succ d ih =>
    intro D t xs ys Kb X Y h hX hY
    have hd := hT.desc t
    have leaf : ∀ {x : AV1} {l : List AV1} {X : Value}, (T t).k.agg = false → HasCells w ok σ σG (T t) X (x :: l) → Rep1 w ok σ σG x X := by
      intro x l X ha hc
      rcases hc with ⟨e, _⟩ | ⟨_, e⟩
      · rw [ha] at e; cases e
      · exact e x rfl
    unfold eqK at h
    rw [← Nat.add_assoc]
    split at h
    · rename_i k0 hk
      rw [hk] at hd
      have ha : (T t).k.agg = false := by rw [hk]; rfl
      split at h
      · rename_i k m _ k' n _
        split at h
        · rename_i hs
          have hs := sameKind_eq hs
          subst hs
          rw [RepI_sc (leaf ha hX), RepI_sc (leaf ha hY)]
          exact ⟨_, h, run_equalIn_int w _ t k k0 m n hd⟩
        · exact h.elim
      · exact h.elim
    · rename_i hk
      rw [hk] at hd
      have ha : (T t).k.agg = false := by rw [hk]; rfl
      split at h
      · rw [RepI_sc (leaf ha hX), RepI_sc (leaf ha hY)]
        exact ⟨_, h, run_equalIn_bool' w _ t _ _ hd⟩
      · exact h.elim
    · rename_i hk
      rw [hk] at hd
      have ha : (T t).k.agg = false := by rw [hk]; rfl
      split at h
      · rw [RepI_sc (leaf ha hX), RepI_sc (leaf ha hY)]
        exact ⟨_, h, run_equalIn_string w _ t _ _ hd⟩
      · exact h.elim
    · rename_i fs hk
      rw [hk] at hd
      obtain ⟨F, hF, hfs⟩ := hd
      have ha : (T t).k.agg = true := by rw [hk]; rfl
      split at h
      · rename_i he
        obtain ⟨q1, q2, q3⟩ := hT.eqs t he
        have hfo : P.fieldsOf t = F := by unfold Program.fieldsOf; rw [hF]
        rcases hX with ⟨_, ax, rfl, x1, x2⟩ | ⟨e, _⟩
        · rcases hY with ⟨_, ay, rfl, y1, y2⟩ | ⟨e, _⟩
          · rw [run_equalIn_struct w (D + d) t ax ay (by rw [hfo]; exact hF) q1]
            rw [hfo] at q3 ⊢
            rw [← hfs] at h
            refine eqFs_ok hT (fun {t xs ys Kb} h => ⟨eqK_some h, fun e => ?_⟩) (fun h1 h2 h3 => ih h1 h2 h3) x1 x2 y1 y2 F.toList q3 h
            cases d with
            | zero => exact h.elim
            | succ d =>
              unfold eqK at h
              split at h
              · split at h <;> first | exact h.elim | exact ⟨by simp, by simp⟩
              · split at h <;> first | exact h.elim | exact ⟨by simp, by simp⟩
              · split at h <;> first | exact h.elim | exact ⟨by simp, by simp⟩
              · rename_i hk'; rw [hk'] at e; cases e
              · exact h.elim
          · rw [ha] at e; cases e
        · rw [ha] at e; cases e
      · exact h.elim
    · exact h.elim

theorem done_bin (hT : TabOk P T) (hC : Conf W0 ok σ S a w) {op : BinOp} {t yt : Nat} {x y : Operand} (ho : o.op = .binOp op t x y yt) (h : effBin T op t (S.ev x) (S.ev y) K) : Done P W0 S o a w K := by
  have hx := ev_rep hC x
  have hy := ev_rep hC y
  unfold effBin at h
  split at h
  · rename_i k m k' n e1 e2
    rw [e1] at hx
    rw [e2] at hy
    have hx' : a.eval x = .int k m := RepI_sc hx
    have hy' : a.eval y = .int k' n := RepI_sc hy
    have hg : (eqGuard op t x y (.int k m) (.int k' n)).run P w = .ok () w := by cases op <;> rfl
    split at h
    · exact done_pure hC (v := .int k (k.wrap (m * 2 ^ (min n.toNat k.bits)))) (run_bin ho hx' hy' hg (by simp [binOp, Op.shift, show ¬ n < 0 by omega])) (rep_sc rfl) (by rw [iwrap_eq]; exact h.2)
    · exact done_pure hC (v := .int k (m.fdiv (2 ^ (min n.toNat k.bits)))) (run_bin ho hx' hy' hg (by simp [binOp, Op.shift, show ¬ n < 0 by omega])) (rep_sc rfl) h.2
    · rename_i n1 n2
      split at h
      · rename_i hk
        have hk' := sameKind_eq hk
        subst hk'
        obtain ⟨v, r1, r2, r3⟩ := binInt_ok (P := P) h ⟨n1, n2⟩ t w
        exact done_pure hC (v := v) (run_bin ho hx' hy' hg r1) (rep_sc r2) r3
      · exact h.elim
  · rename_i m n e1 e2
    rw [e1] at hx
    rw [e2] at hy
    have hx' : a.eval x = .bool m := RepI_sc hx
    have hy' : a.eval y = .bool n := RepI_sc hy
    have hg : (eqGuard op t x y (.bool m) (.bool n)).run P w = .ok () w := by cases op <;> rfl
    split at h
    case h_2 => exact h.elim
    rename_i hk
    have hd := hT.desc t
    rw [hk] at hd
    have hd' : P.underlying t = some .bool := hd
    have he : (Op.equal t (.bool m) (.bool n)).run P w = .ok (m == n) w := run_equalIn_bool w 9999 t m n hd'
    split at h
    · refine done_pure hC (v := .bool (m == n)) (run_bin ho hx' hy' hg ?_) (rep_sc rfl) h
      show ((Op.equal t (.bool m) (.bool n) >>= fun b => Pure.pure (Value.bool b)) : Sem Value).run P w = _
      simp only [Sem.run_bind, he, Result.andThen_ok, Sem.run_pure]
    · refine done_pure hC (v := .bool (!(m == n))) (run_bin ho hx' hy' hg ?_) (rep_sc rfl) h
      show ((Op.equal t (.bool m) (.bool n) >>= fun b => Pure.pure (Value.bool (!b))) : Sem Value).run P w = _
      simp only [Sem.run_bind, he, Result.andThen_ok, Sem.run_pure]
    · exact h.elim
  · rename_i m n e1 e2
    rw [e1] at hx
    rw [e2] at hy
    have hx' : a.eval x = .string m := RepI_sc hx
    have hy' : a.eval y = .string n := RepI_sc hy
    have hg : (eqGuard op t x y (.string m) (.string n)).run P w = .ok () w := by cases op <;> rfl
    split at h
    · exact done_pure hC (v := .string (m ++ n)) (by
        have h1 := h.1
        have : ¬ ((m.size : Int) + (n.size : Int) > IntKind.i64.max) := by simp [IntKind.max, IntKind.signed, IntKind.bits]; omega
        exact run_bin ho hx' hy' hg (by simp [binOp, Op.stringOp, IntKind.max, IntKind.signed, IntKind.bits]; omega)) (rep_sc rfl) h.2
    · exact done_pure hC (v := .bool (m.toList == n.toList)) (run_bin ho hx' hy' hg (by simp [binOp, Op.stringOp])) (rep_sc rfl) h
    · exact done_pure hC (v := .bool (!(m.toList == n.toList))) (run_bin ho hx' hy' hg (by simp [binOp, Op.stringOp])) (rep_sc rfl) h
    · exact h.elim
  · rename_i es e1 e2
    rw [e1] at hx
    rw [e2] at hy
    have hy' : a.eval y = .slice none 0 0 := hy
    have hd := hT.desc t
    split at h
    case h_2 => exact h.elim
    rename_i e hk
    rw [hk] at hd
    obtain ⟨A, l, c, hx', hA⟩ : ∃ A l c, a.eval x = .slice A l c ∧ (es ≠ [] → A.isNone = false) := by
      have hx : RepI w ok (.sl es) (a.eval x) := hx
      generalize a.eval x = v at hx
      cases hx with
      | nil => exact ⟨_, _, _, rfl, fun h => absurd rfl h⟩
      | sl => exact ⟨_, _, _, rfl, fun _ => rfl⟩
    have he : (Op.equal t (.slice A l c) (.slice none 0 0)).run P w = .ok A.isNone w := run_equal_slice_nil w t e A l c hd
    have hg : (eqGuard op t x y (.slice A l c) (.slice none 0 0)).run P w = .ok () w := by cases op <;> rfl
    have r1 : (binOp .eql t (.slice A l c) (.slice none 0 0)).run P w = .ok (.bool A.isNone) w := by
      show ((Op.equal t (.slice A l c) (.slice none 0 0) >>= fun b => Pure.pure (Value.bool b)) : Sem Value).run P w = _
      simp only [Sem.run_bind, he, Result.andThen_ok, Sem.run_pure]
    have r2 : (binOp .neq t (.slice A l c) (.slice none 0 0)).run P w = .ok (.bool !A.isNone) w := by
      show ((Op.equal t (.slice A l c) (.slice none 0 0) >>= fun b => Pure.pure (Value.bool (!b))) : Sem Value).run P w = _
      simp only [Sem.run_bind, he, Result.andThen_ok, Sem.run_pure]
    split at h
    · exact done_pure hC (v := .bool A.isNone) (run_bin ho hx' hy' hg r1) rep_bl h
    · exact done_pure hC (v := .bool A.isNone) (run_bin ho hx' hy' hg r1) (by rw [hA (by simp)]; exact rep_lit) h
    · exact done_pure hC (v := .bool !A.isNone) (run_bin ho hx' hy' hg r2) rep_bl h
    · exact done_pure hC (v := .bool !A.isNone) (run_bin ho hx' hy' hg r2) (by rw [hA (by simp)]; exact rep_lit) h
    · exact h.elim
  · rename_i e1 e2
    rw [e1] at hx
    rw [e2] at hy
    have hx' : a.eval x = .slice none 0 0 := hx
    have hy' : a.eval y = .slice none 0 0 := hy
    have hd := hT.desc t
    split at h
    case h_2 => exact h.elim
    rename_i e hk
    rw [hk] at hd
    have he : (Op.equal t (.slice none 0 0) (.slice none 0 0)).run P w = .ok true w := run_equal_slice_nil w t e none 0 0 hd
    have hg : (eqGuard op t x y (.slice none 0 0) (.slice none 0 0)).run P w = .ok () w := by cases op <;> rfl
    split at h
    · refine done_pure hC (v := .bool true) (run_bin ho hx' hy' hg ?_) rep_lit h
      show ((Op.equal t (.slice none 0 0) (.slice none 0 0) >>= fun b => Pure.pure (Value.bool b)) : Sem Value).run P w = _
      simp only [Sem.run_bind, he, Result.andThen_ok, Sem.run_pure]
    · refine done_pure hC (v := .bool false) (run_bin ho hx' hy' hg ?_) rep_lit h
      show ((Op.equal t (.slice none 0 0) (.slice none 0 0) >>= fun b => Pure.pure (Value.bool (!b))) : Sem Value).run P w = _
      simp only [Sem.run_bind, he, Result.andThen_ok, Sem.run_pure, Bool.not_true]
    · exact h.elim
  · rename_i xs ys e1 e2
    rw [e1] at hx
    rw [e2] at hy
    obtain ⟨ax, hx', x1, x2⟩ := hx
    obtain ⟨ay, hy', y1, y2⟩ := hy
    split at h
    case h_2 => exact h.elim
    rename_i ha
    have hcx : HasCells w ok σ S.G (T t) (.agg ax) xs := Or.inl ⟨ha, ax, rfl, x1, fun j u z hu hz => (x2 j u z hu hz).1⟩
    have hcy : HasCells w ok σ S.G (T t) (.agg ay) ys := Or.inl ⟨ha, ay, rfl, y1, fun j u z hu hz => (y2 j u z hu hz).1⟩
    have hg : ∀ {Kb}, eqK T 8 t xs ys Kb → (eqGuard op t x y (.agg ax) (.agg ay)).run P w = .ok () w := by
      intro Kb h
      refine run_eqGuard_agg w op t x y ax ay ?_
      unfold eqK at h
      split at h
      · rename_i hk; rw [hk] at ha; cases ha
      · rename_i hk; rw [hk] at ha; cases ha
      · rename_i hk; rw [hk] at ha; cases ha
      · split at h
        · rename_i he; exact (hT.eqs t he).2.1
        · exact h.elim
      · exact h.elim
    split at h
    · obtain ⟨b, hb, hr⟩ := eqK_ok (D := 9992) hT 8 h hcx hcy
      exact done_pure hC (v := .bool b) (run_bin ho hx' hy' (hg h) (by rw [run_eql_struct, hr]; rfl)) (rep_sc rfl) hb
    · obtain ⟨b, hb, hr⟩ := eqK_ok (D := 9992) hT 8 h hcx hcy
      exact done_pure hC (v := .bool !b) (run_bin ho hx' hy' (hg h) (by rw [run_neq_struct, hr]; rfl)) (rep_sc rfl) hb
    · exact h.elim
  · exact h.elim

theorem done_un (hC : Conf W0 ok σ S a w) {op : UnOp} {t : Nat} {x : Operand} (ho : o.op = .unOp op t x) (h : effUn op (S.ev x) K) : Done P W0 S o a w K := by
  have hx := ev_rep hC x
  unfold effUn at h
  split at h
  · rename_i b e1
    rw [e1] at hx
    have hx' : a.eval x = .bool b := RepI_sc hx
    exact done_pure hC (v := .bool (!b)) (by simp [execOp, ho, hx', Op.unary]) (rep_sc rfl) h
  · rename_i k n e1
    rw [e1] at hx
    have hx' : a.eval x = .int k n := RepI_sc hx
    exact done_pure hC (v := .int k (k.wrap (0 - n))) (by simp [execOp, ho, hx', Op.unary, Op.intArith]) (rep_sc rfl) (by rw [iwrap_eq]; exact h)
  · exact h.elim

theorem done_conv (hT : TabOk P T) (hC : Conf W0 ok σ S a w) {src dst : Nat} {x : Operand} (ho : o.op = .convert src dst x) (h : effConv T src dst (S.ev x) K) : Done P W0 S o a w K := by
  have hx := ev_rep hC x
  have h1 := hT.desc src
  have h2 := hT.desc dst
  unfold effConv at h
  split at h
  · rename_i k0 k kk n e1 e2 e3
    rw [e3] at hx
    rw [e1] at h1
    rw [e2] at h2
    have h1' : P.underlying src = some (.int k0) := h1
    have h2' : P.underlying dst = some (.int k) := h2
    have hx' : a.eval x = .int kk n := RepI_sc hx
    exact done_pure hC (v := .int k (k.wrap n)) (by simp [execOp, ho, hx', convert, run_underlying h1', run_underlying h2', Conv.intToInt]) (rep_sc rfl) (by rw [iwrap_eq]; exact h)
  · rename_i s e1 e2 e3
    rw [e3] at hx
    rw [e1] at h1
    rw [e2] at h2
    have h1' : P.underlying src = some .string := h1
    have h2' : P.underlying dst = some .string := h2
    have hx' : a.eval x = .string s := RepI_sc hx
    exact done_pure hC (v := .string s) (by simp [execOp, ho, hx', convert, run_underlying h1', run_underlying h2']) (rep_sc rfl) h
  · exact h.elim

/-- A slice read as a list: its length, and where its cells lie. -/
theorem list_rep (hC : Conf W0 ok σ S a w) {x : AT} {v : Value} (hx : RepT w ok σ S.G x v) {K : List (List IV) → List Nat → Prop} (h : listK S.blk x K) :
    ∃ es d A c, K es d ∧ v = .slice A es.length c ∧ (∀ sz, (∀ e ∈ es, e.length = sz) → ∃ xs : List Value, Reads w w.heap.size sz A es.length xs ∧ (∀ u ∈ xs, u.oneCell' = true) ∧
      ∀ (k : Nat) e j y, es[k]? = some e → e[j]? = some y → ∃ u, xs[k * sz + j]? = some u ∧ RepI w ok y u) := by
  have immut : ∀ {es : List (List IV)} {v : Value}, RepI w ok (.sl es) v → ∃ A c, v = .slice A es.length c ∧ (∀ sz, (∀ e ∈ es, e.length = sz) → ∃ xs : List Value, Reads w w.heap.size sz A es.length xs ∧ (∀ u ∈ xs, u.oneCell' = true) ∧
      ∀ (k : Nat) e j y, es[k]? = some e → e[j]? = some y → ∃ u, xs[k * sz + j]? = some u ∧ RepI w ok y u) := by
    intro es v h
    cases h with
    | nil A c hm => exact ⟨A, c, rfl, fun sz _ => ⟨[], ⟨by simp, fun h => absurd h (by simp)⟩, by simp, fun k e j y hk => by simp at hk⟩⟩
    | sl es sz ad c f hok hc hm hlen hcell hr =>
      refine ⟨some ad, c, rfl, fun sz' hsz' => ?_⟩
      rcases es with _ | ⟨e0, es⟩
      · exact ⟨[], ⟨by simp, fun h => absurd h (by simp)⟩, by simp, fun k e j y hk => by simp at hk⟩
      · obtain rfl : sz = sz' := by rw [← hlen e0 List.mem_cons_self, hsz' e0 List.mem_cons_self]
        generalize hes : e0 :: es = es' at *
        have hone : ∀ i, i < es'.length * sz → (f i).oneCell' = true := by
          intro i hi
          have hpos : 0 < sz := by
            rcases Nat.eq_zero_or_pos sz with h0 | h0
            · rw [h0] at hi; simp at hi
            · exact h0
          have hk : i / sz < es'.length := by rw [Nat.div_lt_iff_lt_mul hpos]; exact hi
          have hj : i % sz < (es'[i / sz]).length := by rw [hlen _ (List.getElem_mem hk)]; exact Nat.mod_lt _ hpos
          have := hr (i / sz) _ (i % sz) _ (List.getElem?_eq_getElem hk) (List.getElem?_eq_getElem hj)
          rw [show i / sz * sz + i % sz = i by rw [Nat.mul_comm]; exact Nat.div_add_mod i sz] at this
          exact oneCell_of_RepI this
        refine ⟨(List.range (es'.length * sz)).map f, ⟨by simp, fun _ => ⟨ad, rfl, hC.okb _ hok, fun j u hu => ?_⟩⟩, fun u hu => ?_, fun k e j y hk hj => ?_⟩
        · rw [List.getElem?_map] at hu
          obtain ⟨i, hi, rfl⟩ := Option.map_eq_some_iff.1 hu
          have hjl : j < es'.length * sz := by have := (List.getElem?_eq_some_iff.1 hi).1; simpa using this
          rw [List.getElem?_range hjl] at hi
          injection hi with hi
          subst hi
          exact hcell _ hjl
        · rw [List.mem_map] at hu
          obtain ⟨i, hi, rfl⟩ := hu
          exact hone i (by simpa using hi)
        · refine ⟨f (k * sz + j), ?_, hr k e j y hk hj⟩
          have hkl := (List.getElem?_eq_some_iff.1 hk).1
          have hjl : j < sz := by have := (List.getElem?_eq_some_iff.1 hj).1; rw [hlen e (List.mem_of_getElem? hk)] at this; exact this
          have h1 : (k + 1) * sz ≤ es'.length * sz := Nat.mul_le_mul_right _ hkl
          rw [Nat.add_mul, Nat.one_mul] at h1
          rw [List.getElem?_map, List.getElem?_range (by omega)]
          rfl
  unfold listK at h
  split at h
  · rename_i es
    obtain ⟨A, c, h1, h2⟩ := immut hx
    exact ⟨es, [], A, c, h, h1, h2⟩
  · rw [show v = .slice none 0 0 from hx]
    exact ⟨[], [], none, 0, h, rfl, fun sz _ => ⟨[], ⟨by simp, fun h => absurd h (by simp)⟩, by simp, fun k e j y hk => by simp at hk⟩⟩
  · rename_i es
    obtain ⟨A', h0, hR⟩ := hx
    obtain ⟨A, c, h1, h2⟩ := immut hR
    exact ⟨es, [], A, c, h, h1, h2⟩
  · rename_i b g
    obtain ⟨hg, hv, _⟩ := hx
    split at h
    · rename_i g' E sz es hb
      obtain ⟨rfl, h⟩ := h
      have hbs := blk_some hb (fun g e => by cases e)
      obtain ⟨xs, e1, e2, e3, e4⟩ := hC.blk b _ hbs
      have hv' : ∃ A c, v = .slice A es.length c := by
        rcases e1.2 with ⟨e5, e6⟩ | ⟨m, cap, cur, e5, _⟩
        · exact ⟨none, 0, by rw [hv, e5, e6]⟩
        · exact ⟨_, _, hv.trans e5⟩
      obtain ⟨A, c, hv'⟩ := hv'
      refine ⟨es, [b], A, c, h, hv', fun sz' hsz' => ?_⟩
      rcases es with _ | ⟨e0, es⟩
      · exact ⟨[], ⟨by simp, fun h => absurd h (by simp)⟩, by simp, fun k e j y hk => by simp at hk⟩
      · obtain rfl : sz = sz' := by rw [← e2 e0 List.mem_cons_self, hsz' e0 List.mem_cons_self]
        rw [← hv, hv'] at e1
        refine ⟨xs, e1.reads, fun u hu => ?_, fun k e j y hk hj => ?_⟩
        · obtain ⟨i, hi, rfl⟩ := List.getElem_of_mem hu
          have hil : i < (e0 :: es).length * sz := by rw [← e1.1]; exact hi
          have hpos : 0 < sz := by
            rcases Nat.eq_zero_or_pos sz with h0 | h0
            · rw [h0] at hil; simp at hil
            · exact h0
          have hk : i / sz < (e0 :: es).length := by rw [Nat.div_lt_iff_lt_mul hpos]; exact hil
          have hj : i % sz < ((e0 :: es)[i / sz]).length := by rw [e2 _ (List.getElem_mem hk)]; exact Nat.mod_lt _ hpos
          obtain ⟨u, hu, _, ho⟩ := e4 (i / sz) _ (i % sz) _ (List.getElem?_eq_getElem hk) (List.getElem?_eq_getElem hj)
          rw [show i / sz * sz + i % sz = i by rw [Nat.mul_comm]; exact Nat.div_add_mod i sz, List.getElem?_eq_getElem hi] at hu
          injection hu with hu
          rw [hu]
          exact ho
        · obtain ⟨u, hu, hr, _⟩ := e4 k e j y hk hj
          exact ⟨u, hu, hr⟩
    · rename_i g' es hb
      obtain ⟨rfl, h⟩ := h
      have hbs := blk_some hb (fun g e => by cases e)
      have hR : RepI w ok (.sl es) (σ b g') := hC.blk b _ hbs
      rw [← hv] at hR
      obtain ⟨A, c, h1, h2⟩ := immut hR
      exact ⟨es, [b], A, c, h, h1, h2⟩
    · exact h.elim
  · rename_i es _
    obtain ⟨A', h0, hR, _⟩ := hx
    obtain ⟨A, c, h1, h2⟩ := immut hR
    exact ⟨es, [], A, c, h, h1, h2⟩
  · rename_i b g sz lo hi
    obtain ⟨hg, A, A', n, c, hv, q1, q2, q3, hvv, q5⟩ := hx
    split at h
    · rename_i g' E sz' es hb
      obtain ⟨rfl, rfl, h⟩ := h
      have hbs := blk_some hb (fun g e => by cases e)
      obtain ⟨xs, e1, e2, e3, e4⟩ := hC.blk b _ hbs
      rw [hv] at e1
      obtain rfl : n = es.length := by
        rcases e1.2 with ⟨e5, e6⟩ | ⟨m, cap, cur, e5, _⟩
        · injection e5 with _ e5; rw [e6, e5]
        · injection e5
      have hlen : ((es.take hi).drop lo).length = hi - lo := by rw [List.length_drop, List.length_take]; omega
      refine ⟨_, [b], _, _, h, by rw [hlen]; exact hvv, fun sz2 hsz2 => ?_⟩
      rw [hlen]
      rcases Nat.eq_or_lt_of_le q1 with q4 | q4
      · subst q4
        rw [show (es.take lo).drop lo = [] from by apply List.eq_nil_of_length_eq_zero; rw [List.length_drop, List.length_take]; omega]
        exact ⟨[], ⟨by simp, fun h => absurd h (by simp)⟩, by simp, fun k e j y hk => by simp at hk⟩
      · have hmem : es[lo]'(by omega) ∈ (es.take hi).drop lo := by
          refine List.mem_of_getElem? (i := 0) ?_
          rw [List.getElem?_drop, List.getElem?_take, if_pos (by omega)]
          exact List.getElem?_eq_getElem (by omega)
        obtain rfl : sz' = sz2 := by rw [← e2 _ (List.getElem_mem (show lo < es.length by omega)), hsz2 _ hmem]
        refine ⟨_, reads_cut e1.reads q1 q2 q5, fun u hu => ?_, cells_cut (R := fun y u => RepI w ok y u) e1.1 q2 e2 (fun k e j y hk hj => by
          obtain ⟨u, hu, hr, _⟩ := e4 k e j y hk hj
          exact ⟨u, hu, hr⟩)⟩
        have hu := List.mem_of_mem_take (List.mem_of_mem_drop hu)
        obtain ⟨i, hi', rfl⟩ := List.getElem_of_mem hu
        have hil : i < es.length * sz' := by rw [← e1.1]; exact hi'
        have hpos : 0 < sz' := by
          rcases Nat.eq_zero_or_pos sz' with h0 | h0
          · rw [h0] at hil; simp at hil
          · exact h0
        have hk : i / sz' < es.length := by rw [Nat.div_lt_iff_lt_mul hpos]; exact hil
        have hj : i % sz' < (es[i / sz']).length := by rw [e2 _ (List.getElem_mem hk)]; exact Nat.mod_lt _ hpos
        obtain ⟨u, hu, _, ho⟩ := e4 (i / sz') _ (i % sz') _ (List.getElem?_eq_getElem hk) (List.getElem?_eq_getElem hj)
        rw [show i / sz' * sz' + i % sz' = i by rw [Nat.mul_comm]; exact Nat.div_add_mod i sz', List.getElem?_eq_getElem hi'] at hu
        injection hu with hu
        rw [hu]
        exact ho
    · exact h.elim
  · exact h.elim

theorem done_len (hT : TabOk P T) (hC : Conf W0 ok σ S a w) {t : Nat} {x : Operand} (ho : o.op = .call { callee := .builtin .len, args := #[x], argTypes := #[t] }) (h : effLen T S.blk t (S.ev x) K) : Done P W0 S o a w K := by
  have hx := ev_rep hC x
  have hd := hT.desc t
  unfold effLen at h
  split at h
  · rename_i e hk
    rw [hk] at hd
    have hd' : P.underlying t = some (.slice e) := hd
    obtain ⟨es, d, A, c, hK, hv, _⟩ := list_rep hC hx h
    exact done_pure hC (v := .int .i64 es.length) (by simp [execOp, ho, resolve, invoke, builtin, Builtin.len_, run_underlying hd', hv, goInt]) (rep_sc rfl) hK
  · rename_i hk
    rw [hk] at hd
    have hd' : P.underlying t = some .string := hd
    split at h
    · rename_i s e1
      rw [e1] at hx
      have hx' : a.eval x = .string s := RepI_sc hx
      exact done_pure hC (v := .int .i64 s.size) (by simp [execOp, ho, resolve, invoke, builtin, Builtin.len_, run_underlying hd', hx', goInt]) (rep_sc rfl) h
    · exact h.elim
  · rename_i n e hk
    rw [hk] at hd
    have hd' : P.underlying t = some (.array n e) := hd
    exact done_pure hC (v := .int .i64 n) (by simp [execOp, ho, resolve, invoke, builtin, Builtin.len_, run_underlying hd', goInt]) (rep_sc rfl) h
  · exact h.elim

theorem done_min (hC : Conf W0 ok σ S a w) {x y : Operand} {t t' : Nat} (ho : o.op = .call { callee := .builtin .min, args := #[x, y], argTypes := #[t, t'] }) (h : effMin false (S.ev x) (S.ev y) K) : Done P W0 S o a w K := by
  have hx := ev_rep hC x
  have hy := ev_rep hC y
  unfold effMin at h
  split at h
  · rename_i k m k' n e1 e2
    rw [e1] at hx
    rw [e2] at hy
    have hx' : a.eval x = .int k m := RepI_sc hx
    have hy' : a.eval y = .int k' n := RepI_sc hy
    exact done_pure hC (v := .int k (if n < m then n else m)) (by simp [execOp, ho, resolve, invoke, builtin, run_min_int2, hx', hy']) (rep_sc rfl) h
  · exact h.elim
theorem done_max (hC : Conf W0 ok σ S a w) {x y : Operand} {t t' : Nat} (ho : o.op = .call { callee := .builtin .max, args := #[x, y], argTypes := #[t, t'] }) (h : effMin true (S.ev x) (S.ev y) K) : Done P W0 S o a w K := by
  have hx := ev_rep hC x
  have hy := ev_rep hC y
  unfold effMin at h
  split at h
  · rename_i k m k' n e1 e2
    rw [e1] at hx
    rw [e2] at hy
    have hx' : a.eval x = .int k m := RepI_sc hx
    have hy' : a.eval y = .int k' n := RepI_sc hy
    exact done_pure hC (v := .int k (if n > m then n else m)) (by simp [execOp, ho, resolve, invoke, builtin, run_max_int2, hx', hy']) (rep_sc rfl) h
  · exact h.elim
end
end Go.Proofs.YtikchieadclbhaaGreatDoor.Ab
