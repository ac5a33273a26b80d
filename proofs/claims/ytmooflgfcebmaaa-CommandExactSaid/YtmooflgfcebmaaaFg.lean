/- Calls by contract, regions, statements and loops on the abstract state; that the model follows them. No condition. -/
import Derived.Test.YtmooflgfcebmaaaFf
namespace Go.Proofs.Ytmooflgfcebmaaa.Ab
set_option linter.unusedVariables false
set_option linter.unusedSimpArgs false
open Go.RowKit

/-! ### Contracts -/
/-- A call of f enters its body. -/
def Enters (P : Program) (f : FuncId) : Prop := ∃ fn, P.funcs[f]? = some fn ∧ fn.body.isNone = false ∧ (fn.name == "runtime.NumGoroutine") = false

/-- What a call of f answers at these arguments: a value that reads as 'res', with new rows 'bs' that are the caller's own. Nothing that was there has turned. -/
def Fun (P : Program) (f : FuncId) (args : List AV) (bs : List Blk) (res : AT) : Prop :=
  Enters P f ∧ ∀ (w : World) (ok : Nat → Prop) (argv : Array Value), (∀ k, ok k → k < w.heap.size) → argv.size = args.length →
    (∀ (j : Nat) v x, argv[j]? = some v → args[j]? = some x → RepV w ok (fun _ _ => undef) (fun _ => 0) x v) →
    Calls P f argv w fun e w' => ∃ v ok' σ, e = .returned v ∧ Below w.heap.size w w' ∧ (∀ k, ok k → ok' k) ∧ (∀ k, ok' k → ok k ∨ (w.heap.size ≤ k ∧ k < w'.heap.size)) ∧
      RepT w' ok' σ (fun _ => 0) res v ∧ (∀ (b : Nat) B, bs[b]? = some B → B.gen = 0 ∧ RepB w.heap.size w' ok' σ (fun _ => 0) b B) ∧
      (∀ (b b' : Nat) B B', bs[b]? = some B → bs[b']? = some B' → b ≠ b' → ∀ n, B.at σ b = some n → B'.at σ b' ≠ some n)

/-- What a call on a block of the caller's answers: the block's cells behind it, and a value. -/
def FunP (P : Program) (f : FuncId) (cs : List AV1) (args : List AV) (cs' : List AV1) (res : AT) : Prop :=
  Enters P f ∧ ∀ (w : World) (ok : Nat → Prop) (m : Nat) (arr : Array Value) (ty : TypeId) (argv : Array Value), (∀ k, ok k → k < w.heap.size) → w.heap[m]? = some (.cells arr ty (0, 0)) → ¬ ok m → Bears w ok (fun _ _ => undef) (fun _ => 0) arr cs →
    argv.size = args.length → (∀ (j : Nat) v x, argv[j]? = some v → args[j]? = some x → RepV w ok (fun _ _ => undef) (fun _ => 0) x v) →
    Calls P f (#[.pointer (some ⟨m, 0, none⟩)] ++ argv) w fun e w' => ∃ v ok' arr' ty', e = .returned v ∧ w.grownBy w' (some m) ∧ (∀ k, ok k → ok' k) ∧ (∀ k, ok' k → ok k ∨ (w.heap.size ≤ k ∧ k < w'.heap.size)) ∧
      w'.heap[m]? = some (.cells arr' ty' (0, 0)) ∧ Bears w' ok' (fun _ _ => undef) (fun _ => 0) arr' cs' ∧ RepT w' ok' (fun _ _ => undef) (fun _ => 0) res v

/-- A cell as it is handed over: what never turns; a row of the caller's own only on loan. -/
def cellIK (H : Nat → Blk) : AV1 → (IV → Bool → List Nat → Prop) → Prop
  | .i x, K => K x true []
  | .nl, K => K (.sl []) true []
  | .slx es, K => K (.sl es) true []
  | .lit b, K => K (.sc (.bool b)) true []
  | .own b g, K => match H b with
    | .froz g' es => g' = g ∧ K (.sl es) true [b]
    | .row g' _ _ es => g' = g ∧ K (.sl es) false [b]
    | _ => False
  | _, _ => False
def cellsIK (H : Nat → Blk) : List AV1 → (List AV1 → Bool → List Nat → Prop) → Prop
  | [], K => K [] true []
  | x :: l, K => cellIK H x fun y t d => cellsIK H l fun m t' d' => K (.i y :: m) (t && t') (d ++ d')
def argIK (H : Nat → Blk) : AT → (AV → Bool → List Nat → Prop) → Prop
  | .v (.c x), K => cellIK H x fun y t d => K (.c (.i y)) t d
  | .v (.agg cs), K => cellsIK H cs fun m t d => K (.agg m) t d
  | .tup _, _ => False
def argsIK (H : Nat → Blk) : List AT → (List AV → Bool → List Nat → Prop) → Prop
  | [], K => K [] true []
  | x :: l, K => argIK H x fun y t d => argsIK H l fun m t' d' => K (y :: m) (t && t') (d ++ d')

def sc1 : AV1 → Bool
  | .i (.sc _) => true
  | _ => false
def scV : AV → Bool
  | .c x => sc1 x
  | .agg cs => cs.all sc1
def scT : AT → Bool
  | .v x => scV x
  | .tup xs => xs.all scV

/-- The answer's new rows under the caller's numbers. -/
def reloc1 (ids : Nat → Nat × Nat) : AV1 → AV1
  | .own b 0 => match ids b with
    | (n, g) => .own n g
  | .ptr b 0 off => match ids b with
    | (n, g) => .ptr n g off
  | x => x
def relocV (ids : Nat → Nat × Nat) : AV → AV
  | .c x => .c (reloc1 ids x)
  | .agg cs => .agg (cs.map (reloc1 ids))
def relocT (ids : Nat → Nat × Nat) : AT → AT
  | .v x => .v (relocV ids x)
  | .tup xs => .tup (xs.map (relocV ids))
def Blk.reGen (g : Nat) : Blk → Blk
  | .dead _ => .dead g
  | .var _ cs => .var g cs
  | .row _ E sz es => .row g E sz es
  | .froz _ es => .froz g es


def isI : AV1 → Bool
  | .i _ => true
  | _ => false
def Blk.pure : Blk → Bool
  | .var _ cs => cs.all isI
  | .row _ _ _ _ => true
  | _ => false
def ok1 (n : Nat) : AV1 → Bool
  | .i _ => true
  | .own b 0 => Nat.blt b n
  | .ptr b 0 _ => Nat.blt b n
  | _ => false
def okV (n : Nat) : AV → Bool
  | .c x => ok1 n x
  | .agg cs => cs.all (ok1 n)
def okT (n : Nat) : AT → Bool
  | .v x => okV n x
  | .tup xs => xs.all (okV n)

/-- The new entries of an answer. -/
def updsOf (H : Nat → Blk) (d : Nat) : List Blk → List (Nat × Blk)
  | [] => []
  | B :: bs => (d, B.reGen ((H d).gen + 1)) :: updsOf H (d + 1) bs

/-- The numbers of the new entries. -/
def idsK (H : Nat → Blk) : Nat → Nat → (List (Nat × Nat) → Prop) → Prop
  | _, 0, K => K []
  | d, n + 1, K => genK (H d) fun g => idsK H (d + 1) n fun l => K ((d, g + 1) :: l)
def idsF (l : List (Nat × Nat)) (j : Nat) : Nat × Nat :=
  match nthO l j with
  | some p => p
  | none => (0, 0)
def updsL : List Blk → List (Nat × Nat) → List (Nat × Blk)
  | B :: bs, (d, g) :: l => (d, B.reGen g) :: updsL bs l
  | _, _ => []
theorem idsK_eq (H : Nat → Blk) (bs : List Blk) : ∀ (d : Nat) (K : List (Nat × Nat) → Prop), idsK H d bs.length K → ∃ l, K l ∧ updsL bs l = updsOf H d bs ∧ ∀ j, j < bs.length → idsF l j = (d + j, (H (d + j)).gen + 1) := by
  induction bs with
  | nil => intro d K h; exact ⟨[], h, rfl, fun j hj => by simp at hj⟩
  | cons B bs ih =>
    intro d K h
    simp only [List.length_cons, idsK, genK_eq] at h
    obtain ⟨l, h1, h2, h3⟩ := ih (d + 1) _ h
    refine ⟨_, h1, by simp [updsL, updsOf, h2], fun j hj => ?_⟩
    cases j with
    | zero => rfl
    | succ j =>
      have := h3 j (by simpa using hj)
      simp only [idsF, nthO] at this ⊢
      rw [this]
      rw [show d + 1 + j = d + (j + 1) by omega]

def effCall (P : Program) (H : Nat → Blk) (n : Nat) (dst : Option Tmp) (f : FuncId) (args : List AT) (K : Kont) : Prop :=
  match dst with
  | none => False
  | some d => argsIK H args fun az full rd => ∃ bs res, Fun P f az bs res ∧
    match (full || (scT res && bs.isEmpty)) && okT bs.length res && bs.all Blk.pure && Nat.ble (d + bs.length) n with
    | false => False
    | true => match bs with
      | [] => K res [] rd
      | _ => idsK H d bs.length fun l => K (relocT (idsF l) res) (updsL bs l) (rd ++ (List.range' d bs.length))

def effCallP (P : Program) (H : Nat → Blk) (f : FuncId) (b g : Nat) (args : List AT) (K : Kont) : Prop :=
  match H b with
  | .var g' cs => g' = g ∧ argsIK H args fun az full rd => ∃ cs' res, FunP P f cs az cs' res ∧
    match full && okT 0 res && cs.all isI && cs'.all isI with
    | false => False
    | true => K res [(b, .var g cs')] (b :: rd)
  | _ => False

section
variable {P : Program} {T : Nat → TI} {W0 : Ent} {w w' : World} {ok ok' : Nat → Prop} {σ σc : Nat → Nat → Value} {S : St} {a : Act} {o : Oper} {K : Kont}

theorem rep_isI {x : AV1} (h : isI x = true) {σ σ' : Nat → Nat → Value} {G G' : Nat → Nat} {v : Value} (hx : Rep1 w ok σ G x v) : Rep1 w ok σ' G' x v := by
  cases x <;> first | exact hx | cases h

/-- More may be held for ok. -/
theorem later_ok (h : ∀ k, ok k → ok' k) (w : World) (σ : Nat → Nat → Value) (G : Nat → Nat) : Later w w ok ok' σ σ G G := ⟨h, fun _ _ => rfl, fun _ => Nat.le_refl _, fun _ _ _ => rfl⟩

/-- The blocks of the rows that are on loan. -/
def Lent (S : St) (σ : Nat → Nat → Value) (ok : Nat → Prop) (k : Nat) : Prop := ok k ∨ ∃ (b : Nat) (B : Blk), S.h[b]? = some B ∧ B.at σ b = some k

theorem row_RepI {base : Bs} {G : Nat → Nat} {b g E sz : Nat} {es : List (List IV)} (h : RepB base w ok σ G b (.row g E sz es)) (hok : ∀ k, ok k → ok' k) (hn : ∀ n, Value.ownBlock (σ b g) = some n → ok' n) : RepI w ok' (.sl es) (σ b g) := by
  obtain ⟨xs, h1, h2, h3, h4⟩ := h
  rcases h1.2 with ⟨e1, e2⟩ | ⟨m, cap, cur, e1, _, e3, e4, e5, e6, e7⟩
  · have : es = [] := List.eq_nil_of_length_eq_zero e2
    rw [e1, this]
    exact RepI.nil _ _ (Nat.zero_le _)
  · rw [e1]
    have hcell : ∀ i, i < es.length * sz → w.cell? ((⟨m, 0, none⟩ : Addr).add i) = some (xs.getD i undef) := by
      intro i hi
      have hil : i < xs.length := by rw [h1.1]; exact hi
      rw [add_at, Nat.zero_add]
      refine row_cells h1 e1 i _ ?_
      simp [List.getD, List.getElem?_eq_getElem hil]
    refine RepI.sl es sz ⟨m, 0, none⟩ cap (fun i => xs.getD i undef) (hn m (by rw [e1]; rfl)) e4 e5 h2 hcell (fun k e j x hk hj => ?_)
    obtain ⟨u, hu, hr, _⟩ := h4 k e j x hk hj
    have : xs.getD (k * sz + j) undef = u := by simp [List.getD, hu]
    rw [this]
    exact RepI.mono hok (fun _ _ => rfl) hr

theorem cellIK_rep (hC : Conf W0 ok σ S a w) {x : AV1} {v : Value} (hx : Rep1 w ok σ S.G x v) {K : IV → Bool → List Nat → Prop} (h : cellIK S.blk x K) :
    ∃ y t d, K y t d ∧ RepI w (Lent S σ ok) y v ∧ (t = true → RepI w ok y v) := by
  have up : ∀ {y : IV}, RepI w ok y v → RepI w (Lent S σ ok) y v := fun hr => RepI.mono (fun _ h => Or.inl h) (fun _ _ => rfl) hr
  cases x with
  | i x => exact ⟨_, _, _, h, up hx, fun _ => hx⟩
  | nl =>
    have hr : RepI w ok (.sl []) v := by rw [show v = .slice none 0 0 from hx]; exact RepI.nil _ _ (Nat.zero_le _)
    exact ⟨_, _, _, h, up hr, fun _ => hr⟩
  | slx es =>
    obtain ⟨A, _, hr⟩ := hx
    exact ⟨_, _, _, h, up hr, fun _ => hr⟩
  | lit b =>
    have hr : RepI w ok (.sc (.bool b)) v := by rw [show v = .bool b from hx]; exact RepI.sc _ rfl
    exact ⟨_, _, _, h, up hr, fun _ => hr⟩
  | own b g =>
    obtain ⟨_, hv, _⟩ := hx
    simp only [cellIK] at h
    split at h
    · rename_i g' es hb
      obtain ⟨rfl, h⟩ := h
      have hR : RepI w ok (.sl es) (σ b g') := hC.blk b _ (blk_some hb (fun g e => by cases e))
      rw [← hv] at hR
      exact ⟨_, _, _, h, up hR, fun _ => hR⟩
    · rename_i g' E sz es hb
      obtain ⟨rfl, h⟩ := h
      have hbs := blk_some hb (fun g e => by cases e)
      refine ⟨_, _, _, h, ?_, fun e => by cases e⟩
      rw [hv]
      refine row_RepI (hC.blk b _ hbs) (fun _ h => Or.inl h) (fun n hn => Or.inr ⟨b, _, hbs, ?_⟩)
      obtain ⟨xs, e1, _⟩ := hC.blk b _ hbs
      simp only [Blk.at]
      rcases e1.2 with ⟨e5, _⟩ | ⟨m, cap, cur, e5, _⟩
      · rw [e5] at hn; simp [Value.ownBlock] at hn
      · rw [e5] at hn ⊢; simpa [Value.blkNo, Value.ownBlock] using hn
    · exact h.elim
  | _ => exact h.elim

theorem cellsIK_rep (hC : Conf W0 ok σ S a w) {cs : List AV1} : ∀ {K : List AV1 → Bool → List Nat → Prop}, cellsIK S.blk cs K →
    ∃ m t d, K m t d ∧ m.length = cs.length ∧ ∀ (j : Nat) x y v, cs[j]? = some x → m[j]? = some y → Rep1 w ok σ S.G x v → Rep1 w (Lent S σ ok) (fun _ _ => undef) (fun _ => 0) y v ∧ (t = true → Rep1 w ok (fun _ _ => undef) (fun _ => 0) y v) := by
  induction cs with
  | nil => intro K h; exact ⟨[], true, [], h, rfl, fun j x y v hx => by simp at hx⟩
  | cons c cs ih =>
    intro K h
    simp only [cellsIK] at h
    -- the head's reading for one value: taken of any value that it bears
    by_cases hex : ∃ v0, Rep1 w ok σ S.G c v0
    · obtain ⟨v0, hv0⟩ := hex
      have hall : ∃ y t d, (cellsIK S.blk cs fun m t' d' => K (.i y :: m) (t && t') (d ++ d')) ∧ ∀ v, Rep1 w ok σ S.G c v → RepI w (Lent S σ ok) y v ∧ (t = true → RepI w ok y v) := by
        have keep := h
        cases c with
        | own b g =>
          simp only [cellIK] at h
          cases hb : S.blk b with
          | froz g' es =>
            rw [hb] at h
            obtain ⟨rfl, h⟩ := h
            refine ⟨_, _, _, h, fun v hv => ?_⟩
            obtain ⟨y, t, d, h1, h2, h3⟩ := cellIK_rep hC hv (K := fun y t d => y = .sl es ∧ t = true) (by simp [cellIK, hb])
            obtain ⟨rfl, rfl⟩ := h1
            exact ⟨h2, h3⟩
          | row g' E sz es =>
            rw [hb] at h
            obtain ⟨rfl, h⟩ := h
            refine ⟨_, _, _, h, fun v hv => ?_⟩
            obtain ⟨y, t, d, h1, h2, h3⟩ := cellIK_rep hC hv (K := fun y t d => y = .sl es ∧ t = false) (by simp [cellIK, hb])
            obtain ⟨rfl, rfl⟩ := h1
            exact ⟨h2, fun e => by cases e⟩
          | dead g' => rw [hb] at h; exact h.elim
          | var g' cs => rw [hb] at h; exact h.elim
        | i x =>
          refine ⟨_, _, _, h, fun v hv => ?_⟩
          obtain ⟨y, t, d, h1, h2, h3⟩ := cellIK_rep hC hv (K := fun y t d => y = x ∧ t = true) ⟨rfl, rfl⟩
          obtain ⟨rfl, rfl⟩ := h1
          exact ⟨h2, h3⟩
        | nl =>
          refine ⟨_, _, _, h, fun v hv => ?_⟩
          obtain ⟨y, t, d, h1, h2, h3⟩ := cellIK_rep hC hv (K := fun y t d => y = .sl [] ∧ t = true) ⟨rfl, rfl⟩
          obtain ⟨rfl, rfl⟩ := h1
          exact ⟨h2, h3⟩
        | slx es =>
          refine ⟨_, _, _, h, fun v hv => ?_⟩
          obtain ⟨y, t, d, h1, h2, h3⟩ := cellIK_rep hC hv (K := fun y t d => y = .sl es ∧ t = true) ⟨rfl, rfl⟩
          obtain ⟨rfl, rfl⟩ := h1
          exact ⟨h2, h3⟩
        | lit b =>
          refine ⟨_, _, _, h, fun v hv => ?_⟩
          obtain ⟨y, t, d, h1, h2, h3⟩ := cellIK_rep hC hv (K := fun y t d => y = .sc (.bool b) ∧ t = true) ⟨rfl, rfl⟩
          obtain ⟨rfl, rfl⟩ := h1
          exact ⟨h2, h3⟩
        | ptr _ _ _ => exact h.elim
        | eptr _ _ _ _ _ => exact h.elim
        | pim _ => exact h.elim
        | bl => exact h.elim
        | un => exact h.elim
      obtain ⟨y, t, d, h1, h2⟩ := hall
      obtain ⟨m, t', d', h3, h4, h5⟩ := ih h1
      refine ⟨_, _, _, h3, by simp [h4], fun j x z v hx hz hv => ?_⟩
      cases j with
      | zero =>
        simp at hx hz
        subst hx hz
        obtain ⟨r1, r2⟩ := h2 v hv
        exact ⟨r1, fun e => r2 (by cases t <;> simp_all)⟩
      | succ j =>
        obtain ⟨r1, r2⟩ := h5 j x z v (by simpa using hx) (by simpa using hz) hv
        exact ⟨r1, fun e => r2 (by cases t <;> simp_all)⟩
    · -- nothing bears the head: any reading will do
      have hany : ∃ y t d, cellsIK S.blk cs fun m t' d' => K (.i y :: m) (t && t') (d ++ d') := by
        cases c with
        | own b g =>
          simp only [cellIK] at h
          cases hb : S.blk b <;> rw [hb] at h <;> first | exact ⟨_, _, _, h.2⟩ | exact h.elim
        | i x => exact ⟨_, _, _, h⟩
        | nl => exact ⟨_, _, _, h⟩
        | slx es => exact ⟨_, _, _, h⟩
        | lit b => exact ⟨_, _, _, h⟩
        | ptr _ _ _ => exact h.elim
        | eptr _ _ _ _ _ => exact h.elim
        | pim _ => exact h.elim
        | bl => exact h.elim
        | un => exact h.elim
      obtain ⟨y, t, d, h1⟩ := hany
      obtain ⟨m, t', d', h3, h4, h5⟩ := ih h1
      refine ⟨_, _, _, h3, by simp [h4], fun j x z v hx hz hv => ?_⟩
      cases j with
      | zero =>
        simp at hx
        subst hx
        exact absurd ⟨v, hv⟩ hex
      | succ j =>
        obtain ⟨r1, r2⟩ := h5 j x z v (by simpa using hx) (by simpa using hz) hv
        exact ⟨r1, fun e => r2 (by cases t <;> simp_all)⟩

theorem argIK_rep (hC : Conf W0 ok σ S a w) {x : AT} {v : Value} (hx : RepT w ok σ S.G x v) {K : AV → Bool → List Nat → Prop} (h : argIK S.blk x K) :
    ∃ y t d, K y t d ∧ RepV w (Lent S σ ok) (fun _ _ => undef) (fun _ => 0) y v ∧ (t = true → RepV w ok (fun _ _ => undef) (fun _ => 0) y v) := by
  cases x with
  | tup xs => exact h.elim
  | v x =>
    cases x with
    | c x =>
      obtain ⟨y, t, d, h1, h2, h3⟩ := cellIK_rep hC hx h
      exact ⟨_, _, _, h1, h2, h3⟩
    | agg cs =>
      obtain ⟨arr, e1, e2, e3⟩ := hx
      obtain ⟨m, t, d, h1, h2, h3⟩ := cellsIK_rep hC h
      have key : ∀ (j : Nat) u y, arr[j]? = some u → m[j]? = some y → ∃ x, cs[j]? = some x ∧ Rep1 w ok σ S.G x u ∧ u.oneCell' = true := by
        intro j u y hu hy
        have hj : j < cs.length := by rw [← h2]; exact (List.getElem?_eq_some_iff.1 hy).1
        exact ⟨_, List.getElem?_eq_getElem hj, e3 j u _ hu (List.getElem?_eq_getElem hj)⟩
      refine ⟨_, _, _, h1, ⟨arr, e1, by rw [e2, h2], fun j u y hu hy => ?_⟩, fun ht => ⟨arr, e1, by rw [e2, h2], fun j u y hu hy => ?_⟩⟩
      · obtain ⟨x, hx, hr, ho⟩ := key j u y hu hy
        exact ⟨(h3 j x y u hx hy hr).1, ho⟩
      · obtain ⟨x, hx, hr, ho⟩ := key j u y hu hy
        exact ⟨(h3 j x y u hx hy hr).2 ht, ho⟩

theorem argsIK_rep (hC : Conf W0 ok σ S a w) (args : List Operand) : ∀ {K : List AV → Bool → List Nat → Prop}, argsIK S.blk (args.map S.ev) K →
    ∃ m t d, K m t d ∧ m.length = args.length ∧ ∀ (j : Nat) x y, args[j]? = some x → m[j]? = some y → RepV w (Lent S σ ok) (fun _ _ => undef) (fun _ => 0) y (a.eval x) ∧ (t = true → RepV w ok (fun _ _ => undef) (fun _ => 0) y (a.eval x)) := by
  induction args with
  | nil => intro K h; exact ⟨[], true, [], h, rfl, fun j x y hx => by simp at hx⟩
  | cons c cs ih =>
    intro K h
    simp only [List.map_cons, argsIK] at h
    obtain ⟨y, t, d, h1, h2, h2'⟩ := argIK_rep hC (ev_rep hC c) h
    obtain ⟨m, t', d', h3, h4, h5⟩ := ih h1
    refine ⟨_, _, _, h3, by simp [h4], fun j x z hx hz => ?_⟩
    cases j with
    | zero =>
      simp at hx hz
      subst hx hz
      exact ⟨h2, fun e => h2' (by cases t <;> simp_all)⟩
    | succ j =>
      obtain ⟨r1, r2⟩ := h5 j x z (by simpa using hx) (by simpa using hz)
      exact ⟨r1, fun e => r2 (by cases t <;> simp_all)⟩
end
end Go.Proofs.Ytmooflgfcebmaaa.Ab
