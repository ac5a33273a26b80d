/- Copies, bytes as strings, parts of values, function values: the model's operations follow the abstract ones. No condition. -/
import Derived.Test.YtikchieadclbhaaGreatDoorZ10
import Derived.Carry
import Derived.MapKept
namespace Go.Proofs.YtikchieadclbhaaGreatDoor.Ab
set_option linter.unusedVariables false
set_option linter.unusedSimpArgs false
open Go.RowKit

def effCopy (T : Nat → TI) (H : Nat → Blk) (t : Nat) (x y : AT) (K : Kont) : Prop :=
  match (T t).k with
  | .slice e => match (T e).k with
    | .none => False
    | _ => match x with
      | .v (.c (.own b g)) => match H b with
        | .row g' E sz es => match Nat.ble E 999999 with
          | true => g' = g ∧ sz = (T e).size ∧ listK H y fun ys rd => (∀ z ∈ ys, z.length = sz) ∧ K (ATint (min ys.length es.length : Nat)) [(b, .row g E sz (ys.take es.length ++ es.drop ys.length))] (b :: rd)
          | false => match Nat.ble 2000000 E with
            | true => g' = g ∧ sz = (T e).size ∧ listK H y fun ys rd => (∀ z ∈ ys, z.length = sz) ∧ K (ATint (min ys.length es.length : Nat)) [(b, .row g E sz (splice es 0 (ys.take es.length)))] (b :: rd)
            | false => False
        | _ => False
      | .v (.c (.osub b g sz' lo hi)) => match H b with
        | .row g' E sz es => g' = g ∧ sz' = sz ∧ sz = (T e).size ∧ listK H y fun ys rd => (∀ z ∈ ys, z.length = sz) ∧ K (ATint (min ys.length (hi - lo) : Nat)) [(b, .row g E sz (splice es lo (ys.take (hi - lo))))] (b :: rd)
        | _ => False
      | _ => False
  | _ => False
/-- The builtin clear, on a part of an own row. -/
def effClear (T : Nat → TI) (H : Nat → Blk) (t : Nat) (x : AT) (K : Kont) : Prop :=
  match (T t).k with
  | .slice e => match (T e).k, zeroI (T e) with
    | .none, _ => False
    | _, none => False
    | _, some z => rowPart H x (fun b g E sz es l0 h0 => sz = (T e).size ∧ K (.tup []) [(b, .row g E sz (splice es l0 (List.replicate (h0 - l0) z)))] [b]) False
  | _ => False
def effCap (T : Nat → TI) (t : Nat) (x : AT) (K : Kont) : Prop :=
  match (T t).k with
  | .slice _ => match x with
    | .v (.c .nl) => K (ATint 0) [] []
    | .v (.c (.slx es)) => K (ATint es.length) [] []
    | .v (.c (.sly _ c)) => K (ATint c) [] []
    | _ => False
  | .arr n _ => K (ATint n) [] []
  | _ => False

def cVb (ws : List Int) : List (List IV) := ws.map fun s => [.sc (.int .u8 s)]
def bytesStr (ws : List Int) : ByteArray := ⟨(ws.map fun n => UInt8.ofNat n.toNat).toArray⟩
def effConvB (T : Nat → TI) (H : Nat → Blk) (src dst : Nat) (x : AT) (K : Kont) : Prop :=
  match (T src).k with
  | .slice e => match (T dst).k with
    | .str => (T e).k = .int .u8 ∧ listK H x fun es d => ∃ ws : List Int, es = cVb ws ∧ K (.v (.c (.i (.sc (.string (bytesStr ws)))))) [] d
    | _ => False
  | _ => effConv T src dst x K

/-- The bytes of a string, as a row that is never grown. -/
def sBytes (s : ByteArray) : List (List IV) := s.data.toList.map fun b => [.sc (.int .u8 b.toNat)]
def effConvN (T : Nat → TI) (H : Nat → Blk) (n : Nat) (dst : Option Tmp) (src dt : Nat) (x : AT) (K : Kont) : Prop :=
  match (T src).k with
  | .str => match (T dt).k with
    | .slice e => match x with
      | .v (.c (.i (.sc (.string s)))) => match dst with
        | some d => match Nat.blt d n && Nat.ble e 999999, Nat.beq (T e).size 1 with
          | true, true => (T e).k = .int .u8 ∧ s.size ≤ 140737488355328 ∧ genK (H d) fun g => K (.v (.c (.own d (g + 1)))) [(d, .row (g + 1) (e + 1000000) 1 (sBytes s))] [d]
          | _, _ => False
        | none => False
      | _ => False
    | _ => effConvB T H src dt x K
  | _ => effConvB T H src dt x K

/-! ### Maps -/
def kkOf : TK → Option KK
  | .int q => some (.int q)
  | .str => some .str
  | _ => none
def sameKK : KK → KK → Bool
  | .int q, .int q' => sameKind q q'
  | .str, .str => true
  | _, _ => false
/-- A value that can be a key of this kind. -/
def keyFits : KK → Value → Bool
  | .int q, .int q' _ => sameKind q q'
  | .str, .string _ => true
  | _, _ => false
def effMakeMap (T : Nat → TI) (H : Nat → Blk) (n : Nat) (dst : Option Tmp) (t : Nat) (K : Kont) : Prop :=
  match (T t).k with
  | .map k e => match kkOf (T k).k, dst with
    | some kk, some d => match Nat.blt d n with
      | true => genK (H d) fun g => K (.v (.c (.own d (g + 1)))) [(d, .mp (g + 1) kk (T e).k.agg (fun _ => none))] [d]
      | false => False
    | _, _ => False
  | _ => False
/-- The cells of an element as a value. -/
def elemT (ag : Bool) (cs : List AV1) (K : AV → Prop) : Prop :=
  match ag with
  | true => K (.agg cs)
  | false => match cs with
    | [x] => K (.c x)
    | _ => False
def lookK (ok : Bool) (b : Nat) (K : Kont) (y : AV) (bb : Bool) : Prop :=
  match ok with
  | true => K (.tup [y, .c (.i (.sc (.bool bb)))]) [] [b]
  | false => K (.v y) [] [b]
def effLookup (T : Nat → TI) (H : Nat → Blk) (t : Nat) (x i : AT) (ok : Bool) (K : Kont) : Prop :=
  match (T t).k with
  | .map k e => match (T e).k, kkOf (T k).k with
    | .none, _ => False
    | _, none => False
    | _, some kk => match x with
      | .v (.c (.own b g)) => match H b with
        | .mp g' kk' ag f => match sameKK kk kk' with
          | true => g' = g ∧ ag = (T e).k.agg ∧ match i with
            | .v (.c (.i (.sc key))) => match keyFits kk key with
              | true => ∃ r : Option (List IV), f key = r ∧ match r with
                | some cs => elemT (T e).k.agg (cs.map .i) fun y => lookK ok b K y true
                | none => elemT (T e).k.agg (T e).zero fun y => lookK ok b K y false
              | false => False
            | _ => False
          | false => False
        | _ => False
      | _ => False
  | _ => False
/-- A map with another element. -/
def mput (f : Value → Option (List IV)) (key : Value) (cs : List IV) (v : Value) : Option (List IV) := match keyB v key with
  | true => some cs
  | false => f v
def effMapUpdate (T : Nat → TI) (H : Nat → Blk) (t : Nat) (x i y : AT) (K : Kont) : Prop :=
  match (T t).k with
  | .map k e => match (T e).k, kkOf (T k).k with
    | .none, _ => False
    | _, none => False
    | _, some kk => match x with
      | .v (.c (.own b g)) => match H b with
        | .mp g' kk' ag f => match sameKK kk kk' with
          | true => g' = g ∧ match i with
            | .v (.c (.i (.sc key))) => match keyFits kk key with
              | true => match y with
                | .v (.c (.i z)) => ag = false ∧ K (.v (.c .un)) [(b, .mp g kk' ag (mput f key [z]))] [b]
                | .v (.agg cs) => match allI cs with
                  | some zs => ag = true ∧ K (.v (.c .un)) [(b, .mp g kk' ag (mput f key zs))] [b]
                  | none => False
                | _ => False
              | false => False
            | _ => False
          | false => False
        | _ => False
      | _ => False
  | _ => False

/-- An append of a made slice. -/
def effAppMake (T : Nat → TI) (H : Nat → Blk) (n : Nat) (dst : Option Tmp) (t t' : Nat) (x y : AT) (K : Kont) : Prop :=
  match (T t).k, (T t').k with
  | .slice e, .int _ => match (T e).k, zeroI (T e), Nat.ble 1 (T e).size && Nat.ble 1 (T e).bytes && Nat.ble e 999999, dst, y with
    | .none, _, _, _, _ => False
    | _, some z, true, some d, .v (.c (.i (.sc (.int _ m)))) => match Nat.blt d n with
      | true => match x with
        | .v (.c .nl) => 0 < m ∧ m.toNat * (T e).bytes ≤ 140737488355328 ∧ genK (H d) fun g => K (.v (.c (.own d (g + 1)))) [(d, .row (g + 1) e (T e).size (List.replicate m.toNat z))] [d]
        | .v (.c (.sly es c)) => 0 ≤ m ∧ c < es.length + m.toNat ∧ (∀ z ∈ es, z.length = (T e).size) ∧ (es.length + m.toNat) * (T e).bytes ≤ 140737488355328 ∧ genK (H d) fun g => K (.v (.c (.own d (g + 1)))) [(d, .row (g + 1) e (T e).size (es ++ List.replicate m.toNat z))] [d]
        | _ => False
      | false => False
    | _, _, _, _, _ => False
  | _, _ => False

def effIndexV (T : Nat → TI) (t : Nat) (x i : AT) (K : Kont) : Prop :=
  match i with
  | .v (.c (.i (.sc (.int _ n)))) => match (T t).k with
    | .str => match x with
      | .v (.c (.i (.sc (.string s)))) => 0 ≤ n ∧ ∃ c : UInt8, s[n.toNat]? = some c ∧ K (.v (.c (.i (.sc (.int .u8 c.toNat))))) [] []
      | _ => False
    | .arr len e => match (T e).k with
      | .none => False
      | _ => match x with
        | .v (.agg cs) => match Nat.beq cs.length (T t).size with
          | true => 0 ≤ n ∧ n.toNat < len ∧ partK (T e) cs (n.toNat * (T e).size) fun r => K r [] []
          | false => False
        | _ => False
    | _ => False
  | _ => False

def effFieldV (T : Nat → TI) (s : Nat) (x : AT) (f : Nat) (K : Kont) : Prop :=
  match (T s).k with
  | .struct fs => match nthO fs f with
    | some (o, ft) => match (T ft).k with
      | .none => False
      | _ => match x with
        | .v (.agg cs) => partK (T ft) cs o fun r => K r [] []
        | _ => False
    | none => False
  | _ => False

def capK (x : AT) (K : Cap → Prop) : Prop :=
  match x with
  | .v (.c (.ptr b g off)) => K (.ptr b g off)
  | .v (.c (.pim cs)) => K (.pim cs)
  | .v (.c (.i (.sc v))) => K (.sc v)
  | _ => False
def capsK : List AT → (List Cap → Prop) → Prop
  | [], K => K []
  | x :: l, K => capK x fun p => capsK l fun ps => K (p :: ps)

section
variable {P : Program} {T : Nat → TI} {W0 : Ent} {w : World} {ok : Nat → Prop} {σ : Nat → Nat → Value} {S : St} {a : Act} {o : Oper} {K : Kont}

theorem run_copy_sz (w : World) (dT sT ty e : TypeId) (m dLen dCap : Nat) (cur : Array Value) (E : TypeId) (A : Option Addr) (sLen sCap sz : Nat) (news : List Value) {B : Nat} (hu : P.underlying dT = some (.slice e)) (hs : (sizeOf e).run P w = .ok sz w)
    (hR : Reads w B sz A sLen news) (h1 : ∀ u ∈ news, u.oneCell' = true) (hg : w.heap[m]? = some (.cells cur E (0, 0))) (hfit : dLen * sz ≤ cur.size) :
    (Builtin.copy_ #[dT, sT] ty #[.slice (some ⟨m, 0, none⟩) dLen dCap, .slice A sLen sCap]).run P w = .ok (.int .i64 (min sLen dLen : Nat)) (w.setRow m (news.take (dLen * sz) ++ cur.toList.drop (news.take (dLen * sz)).length).toArray) := by
  have hmin : Nat.min sLen dLen = min sLen dLen := rfl
  have hl1 : (news.take (dLen * sz)).length = min sLen dLen * sz := by
    rw [List.length_take, hR.1]
    rcases Nat.le_total sLen dLen with h | h
    · have := Nat.mul_le_mul_right sz h
      rw [Nat.min_eq_left h]; omega
    · have := Nat.mul_le_mul_right sz h
      rw [Nat.min_eq_right h]; omega
  have hst := run_storeCells_at P m 0 E (news.take (dLen * sz)) 0 cur w hg (by rw [hl1]; have := Nat.mul_le_mul_right sz (Nat.min_le_right sLen dLen); omega) (fun u hu => h1 u (List.mem_of_mem_take hu))
  simp only [Nat.add_zero, Nat.zero_add, List.take_zero, List.nil_append] at hst
  have hfc : (Builtin.firstCells sz (min sLen dLen) (.slice A sLen sCap)).run P w = .ok (news.take (dLen * sz)).toArray w := by
    rcases Nat.eq_zero_or_pos sLen with h0 | h0
    · subst h0
      have hn : news = [] := List.eq_nil_of_length_eq_zero (by rw [hR.1]; simp)
      subst hn
      have hl : ∀ (x : Addr), (loadCells x 0).run P w = .ok #[] w := fun x => by simpa using run_loadCells_list (P := P) w x [] (by simp)
      cases A <;> simp [Builtin.firstCells, hl]
    · obtain ⟨ad, rfl, _, hc⟩ := hR.2 h0
      have := run_loadCells_list (P := P) w ad (news.take (dLen * sz)) (fun j v hj => by
        rw [List.getElem?_take] at hj
        split at hj
        · exact hc j v hj
        · cases hj)
      rw [hl1] at this
      simpa [Builtin.firstCells] using this
  simp [Builtin.copy_, run_underlying hu, Builtin.lenOf, hmin, hs, hfc, hst, goInt]

/-- The copying into a row whose marks do not matter, from any place on. -/
theorem run_copy_at (w : World) (dT sT ty e : TypeId) (m o dLen dCap : Nat) (cur : Array Value) (E : TypeId) (fz : Nat × Nat) (A : Option Addr) (sLen sCap sz : Nat) (news : List Value) {B : Nat} (hu : P.underlying dT = some (.slice e)) (hs : (sizeOf e).run P w = .ok sz w)
    (hR : Reads w B sz A sLen news) (h1 : ∀ u ∈ news, u.oneCell' = true) (hg : w.heap[m]? = some (.cells cur E fz)) (hfz : Clear fz cur.size) (hfit : o + dLen * sz ≤ cur.size) :
    (Builtin.copy_ #[dT, sT] ty #[.slice (some ⟨m, o, none⟩) dLen dCap, .slice A sLen sCap]).run P w = .ok (.int .i64 (min sLen dLen : Nat)) (w.setRow m (splice cur.toList o (news.take (dLen * sz))).toArray) := by
  have hmin : Nat.min sLen dLen = min sLen dLen := rfl
  have hl1 : (news.take (dLen * sz)).length = min sLen dLen * sz := by
    rw [List.length_take, hR.1]
    rcases Nat.le_total sLen dLen with h | h
    · have := Nat.mul_le_mul_right sz h
      rw [Nat.min_eq_left h]; omega
    · have := Nat.mul_le_mul_right sz h
      rw [Nat.min_eq_right h]; omega
  have hle : (news.take (dLen * sz)).length ≤ dLen * sz := by rw [List.length_take]; omega
  have hst := run_storeCells_G P m o E fz (news.take (dLen * sz)) 0 cur w hg hfz (by omega) (fun u hu => h1 u (List.mem_of_mem_take hu))
  rw [Nat.add_zero] at hst
  have hcl : cur.toList.length = cur.size := Array.length_toList
  rw [splice_eq _ _ _ (by omega)]
  have hfc : (Builtin.firstCells sz (min sLen dLen) (.slice A sLen sCap)).run P w = .ok (news.take (dLen * sz)).toArray w := by
    rcases Nat.eq_zero_or_pos sLen with h0 | h0
    · subst h0
      have hn : news = [] := List.eq_nil_of_length_eq_zero (by rw [hR.1]; simp)
      subst hn
      have hl : ∀ (x : Addr), (loadCells x 0).run P w = .ok #[] w := fun x => by simpa using run_loadCells_list (P := P) w x [] (by simp)
      cases A <;> simp [Builtin.firstCells, hl]
    · obtain ⟨ad, rfl, _, hc⟩ := hR.2 h0
      have := run_loadCells_list (P := P) w ad (news.take (dLen * sz)) (fun j v hj => by
        rw [List.getElem?_take] at hj
        split at hj
        · exact hc j v hj
        · cases hj)
      rw [hl1] at this
      simpa [Builtin.firstCells] using this
  simp [Builtin.copy_, run_underlying hu, Builtin.lenOf, hmin, hs, hfc, hst, goInt]

/-- Cells of an own row are written over. -/
theorem done_over (hC : Conf W0 ok σ S a w) {b g E sz : Nat} {es zs : List (List IV)} (hb : S.blk b = .row g E sz es) {lo : Nat} {m l c : Nat} (hσ : σ b g = .slice (some ⟨m, 0, none⟩) l c) (hfit : lo + zs.length ≤ es.length) {news : List Value} (hnl : news.length = zs.length * sz)
    (hone : ∀ u ∈ news, u.oneCell' = true) (hlen : ∀ z ∈ zs, z.length = sz) (hcell : ∀ (k : Nat) e j y, zs[k]? = some e → e[j]? = some y → ∃ u, news[k * sz + j]? = some u ∧ RepI w ok y u)
    {v : Value} {r : AT} {d : List Nat}
    (hrun : ∀ cur ty fz, w.heap[m]? = some (.cells cur ty fz) → Clear fz cur.size → es.length * sz ≤ cur.size → (execOp a.eval o).run P w = .ok (.value v) (w.setRow m (splice cur.toList (lo * sz) news).toArray))
    (hr : ∀ (w' : World) (ok' : Nat → Prop) (σ' : Nat → Nat → Value) (G' : Nat → Nat), RepT w' ok' σ' G' r v) (hK : K r [(b, .row g E sz (splice es lo zs))] d) : Done P W0 S o a w K := by
  have hbs := blk_some hb (fun g e => by cases e)
  have hbl : b < S.h.length := (List.getElem?_eq_some_iff.1 hbs).1
  obtain ⟨xs, e1, e2, e3, e4⟩ := hC.blk b _ hbs
  have hxl : xs.length = es.length * sz := e1.1
  obtain ⟨m', cap, cur, e7, e8, ⟨ty', fz, e9, e9'⟩, e10, e11, e12, e13⟩ : ∃ g' cap cur, σ b g = .slice (some ⟨g', 0, none⟩) es.length cap ∧ 0 ≤ g' ∧ (∃ ty fz, w.heap[g']? = some (.cells cur ty fz) ∧ ((fz = (0, 0) ∧ ty = E) ∨ (FX ≤ E ∧ (fz = (0, 0) ∨ cap * sz ≤ fz.1)))) ∧ es.length ≤ cap ∧ cap ≤ maxLen ∧ cur.size = cap * sz ∧ cur.toList.take (es.length * sz) = xs := by
    rcases e1.2 with ⟨e5, _⟩ | h
    · rw [hσ] at e5; cases e5
    · exact h
  obtain rfl : m = m' := by rw [hσ] at e7; injection e7 with e7; injection e7 with e7; injection e7
  have hfz : Clear fz cur.size := by rw [e12]; rcases e9' with ⟨h, _⟩ | ⟨_, h⟩; exact Or.inl h; exact h
  have hcs : es.length * sz ≤ cap * sz := Nat.mul_le_mul_right _ e10
  have hrun' := hrun cur ty' fz e9 hfz (by omega)
  have hgen : S.G b = g := by rw [blk_gen, hb]; rfl
  have hGe : (S.put none (.v (.c .un)) [(b, Blk.row g E sz (splice es lo zs))]).G = S.G := by
    funext c
    by_cases hc : c = b
    · subst hc; rw [hgen]; simp [St.G, St.put, hbl, Blk.gen]
    · simp [St.G, St.put, List.getElem?_set_ne (fun e => hc e.symm)]
  have eno : ¬ ok m := e3.nok m (by rw [e7]; rfl)
  have hsl : (splice es lo zs).length = es.length := splice_length _ _ _ hfit
  have hfz1 : (lo + zs.length) * sz ≤ es.length * sz := Nat.mul_le_mul_right _ hfit
  rw [Nat.add_mul] at hfz1
  have hfitx : lo * sz + news.length ≤ xs.length := by omega
  have hcl : cur.toList.length = cur.size := Array.length_toList
  have hfitc : lo * sz + news.length ≤ cur.toList.length := by omega
  have hL : Later w (w.setRow m (splice cur.toList (lo * sz) news).toArray) ok ok σ σ S.G S.G :=
    ⟨fun _ h => h, fun k hk' => setRow_other w m k _ (fun e => by subst e; exact eno hk'), fun _ => Nat.le_refl _, fun _ _ _ => rfl⟩
  refine ⟨v, _, _, _, _, Or.inl hrun', hK, by simp [hbl], ok, σ, ?_⟩
  refine hC.step (row := some m) (grown_setRow w m _) (fun n' hn' => ?_) (fun _ h => h) (fun k hk' => by simp; exact hC.okb k hk') (fun _ h => Or.inl h) hbl (by rw [hgen]; exact Nat.le_refl _) (fun _ _ _ => rfl) ?_ (fun n' hn' c C hc hC' hn'' => ?_) (hr _ _ _ _)
  · injection hn' with hn'
    subst hn'
    refine ⟨e3.has m (by rw [e7]; rfl), eno, fun c C hc hC' hn'' => ?_⟩
    exact hC.apart b c _ C hbs hC' (fun e => hc e.symm) m (by simp [Blk.at, e7, Value.blkNo]) hn''
  · rw [hGe]
    refine ⟨splice xs (lo * sz) news, ⟨by rw [splice_length _ _ _ hfitx, hsl, hxl], Or.inr ⟨m, cap, _, by rw [hsl]; exact e7, e8, ⟨_, _, setRow_heap w m cur _ _ _ e9, e9'⟩, by rw [hsl]; exact e10, e11, ?_, ?_⟩⟩, fun f hf => ?_, by rw [hsl]; exact e3, fun k f j z hf hz => ?_⟩
    · simp only [List.size_toArray]
      rw [splice_length _ _ _ hfitc]
      simpa using e12
    · rw [hsl]
      apply List.ext_getElem?
      intro j
      simp only [List.getElem?_take]
      rw [splice_get _ _ _ hfitc, splice_get _ _ _ hfitx, ← e13]
      by_cases hj : j < es.length * sz
      · rw [if_pos hj]
        by_cases hin : lo * sz ≤ j ∧ j < lo * sz + news.length
        · rw [if_pos hin, if_pos hin]
        · rw [if_neg hin, if_neg hin, List.getElem?_take, if_pos hj]
      · rw [if_neg hj, if_neg (by omega), List.getElem?_take, if_neg hj]
    · obtain ⟨k, hk, rfl⟩ := List.getElem_of_mem hf
      have hk2 := List.getElem?_eq_getElem hk
      rw [splice_get _ _ _ hfit] at hk2
      split at hk2
      · exact hlen _ (List.mem_of_getElem? hk2)
      · exact e2 _ (List.mem_of_getElem? hk2)
    · have hjl : j < sz := by
        have h1 := (List.getElem?_eq_some_iff.1 hz).1
        have hf2 := hf
        rw [splice_get _ _ _ hfit] at hf2
        split at hf2
        · rw [hlen _ (List.mem_of_getElem? hf2)] at h1; exact h1
        · rw [e2 _ (List.mem_of_getElem? hf2)] at h1; exact h1
      rw [splice_get _ _ _ hfit] at hf
      rw [splice_get _ _ _ hfitx]
      split at hf
      · rename_i hin
        obtain ⟨u, hu, hr⟩ := hcell _ f j z hf hz
        have h1 : lo * sz ≤ k * sz := Nat.mul_le_mul_right _ hin.1
        have h2 : (k + 1) * sz ≤ (lo + zs.length) * sz := Nat.mul_le_mul_right _ (by omega)
        rw [Nat.add_mul, Nat.add_mul, Nat.one_mul] at h2
        have h3 : (k - lo) * sz = k * sz - lo * sz := Nat.sub_mul _ _ _
        refine ⟨u, ?_, RepI.mono hL.okm hL.blk hr, hone u (List.mem_of_getElem? hu)⟩
        rw [if_pos (by omega), show k * sz + j - lo * sz = (k - lo) * sz + j by omega]
        exact hu
      · rename_i hin
        obtain ⟨u, hu, hr, ho'⟩ := e4 k f j z hf hz
        refine ⟨u, ?_, RepI.mono hL.okm hL.blk hr, ho'⟩
        rw [if_neg, hu]
        intro hc
        apply hin
        constructor
        · rcases Nat.lt_or_ge k lo with h | h
          · have h2 : (k + 1) * sz ≤ lo * sz := Nat.mul_le_mul_right _ h
            rw [Nat.add_mul, Nat.one_mul] at h2
            omega
          · exact h
        · rcases Nat.lt_or_ge k (lo + zs.length) with h | h
          · exact h
          · have h2 : (lo + zs.length) * sz ≤ k * sz := Nat.mul_le_mul_right _ h
            rw [Nat.add_mul] at h2
            omega
  · exact hC.apart b c _ C hbs hC' (fun e => hc e.symm) n' hn' hn''

theorem keyFits_fits {kk kk' : KK} {v : Value} (h : keyFits kk v = true) (hs : sameKK kk kk' = true) : kk'.fits v = true := by
  cases kk <;> cases kk' <;> simp only [sameKK] at hs <;> first | (cases hs; done) | skip
  · cases v <;> simp only [keyFits] at h <;> first | (cases h; done) | skip
    rw [← sameKind_eq hs, ← sameKind_eq h]
    simp [KK.fits]
  · cases v <;> simp only [keyFits] at h <;> first | (cases h; done) | rfl
theorem fits_eq {kk : KK} {v : Value} (h : kk.fits v = true) : (∃ q n, kk = .int q ∧ v = .int q n) ∨ ∃ s, kk = .str ∧ v = .string s := by
  cases kk <;> cases v <;> simp only [KK.fits] at h <;> first | (cases h; done) | skip
  · exact Or.inl ⟨_, _, rfl, by rw [of_decide_eq_true h]⟩
  · exact Or.inr ⟨_, rfl, rfl⟩
theorem keyB_eq {kk : KK} {u v : Value} (hu : kk.fits u = true) (hv : kk.fits v = true) (h : keyB u v = true) : u = v := by
  rcases fits_eq hu with ⟨q, n, rfl, rfl⟩ | ⟨s, rfl, rfl⟩
  · rcases fits_eq hv with ⟨q', n', e, rfl⟩ | ⟨s, e, _⟩
    · injection e with e
      subst e
      simp [keyB] at h
      rw [h]
    · cases e
  · rcases fits_eq hv with ⟨q', n', e, _⟩ | ⟨s', _, rfl⟩
    · cases e
    · simp only [keyB] at h
      rw [(MapKept.bytes_beq _ _).1 h]
theorem keyB_self {kk : KK} {u : Value} (hu : kk.fits u = true) : keyB u u = true := by
  rcases fits_eq hu with ⟨q, n, rfl, rfl⟩ | ⟨s, rfl, rfl⟩
  · simp [keyB]
  · exact (MapKept.bytes_beq s s).2 rfl
def KK.desc : KK → TypeDesc
  | .int q => .int q
  | .str => .string
theorem sameNow_eq {kk : KK} {u v : Value} (hu : kk.fits u = true) (hv : kk.fits v = true) : Instr.sameNow kk.desc u v = some (keyB u v) := by
  rcases fits_eq hu with ⟨q, n, rfl, rfl⟩ | ⟨s, rfl, rfl⟩
  · rcases fits_eq hv with ⟨q', n', e, rfl⟩ | ⟨s, e, _⟩
    · injection e with e
      subst e
      simp [keyB, Instr.sameNow, KK.desc]
    · cases e
  · rcases fits_eq hv with ⟨q', n', e, _⟩ | ⟨s', _, rfl⟩
    · cases e
    · simp [keyB, Instr.sameNow, KK.desc]
/-- Where a key stands. -/
def placeOf (k : Value) : List MapEntry → Nat → Option (Nat × Value)
  | [], _ => none
  | e :: es, i => match keyB k e.key with
    | true => some (i, e.val)
    | false => placeOf k es (i + 1)
theorem findNow_eq {kk : KK} {k : Value} (hk : kk.fits k = true) (es : List MapEntry) : ∀ i, (∀ e ∈ es, kk.fits e.key = true) → Instr.findNow kk.desc k es i = some (placeOf k es i) := by
  induction es with
  | nil => intro i _; rfl
  | cons e es ih =>
    intro i h
    simp only [Instr.findNow, placeOf, sameNow_eq hk (h e List.mem_cons_self)]
    cases keyB k e.key with
    | true => rfl
    | false => exact ih (i + 1) (fun e he => h e (List.mem_cons_of_mem _ he))
theorem placeOf_find (k : Value) (es : List MapEntry) : ∀ i, (placeOf k es i).map (·.2) = (es.find? (fun e => keyB k e.key)).map (·.val) := by
  induction es with
  | nil => intro i; rfl
  | cons e es ih =>
    intro i
    simp only [placeOf, List.find?_cons]
    cases keyB k e.key with
    | true => rfl
    | false => exact ih (i + 1)
theorem placeOf_some {k : Value} {es : List MapEntry} : ∀ {i j v}, placeOf k es i = some (j, v) → i ≤ j ∧ ∃ e, es[j - i]? = some e ∧ keyB k e.key = true ∧ e.val = v ∧ ∀ m, m < j - i → ∀ e', es[m]? = some e' → keyB k e'.key = false := by
  induction es with
  | nil => intro i j v h; cases h
  | cons e es ih =>
    intro i j v h
    simp only [placeOf] at h
    cases hb : keyB k e.key with
    | true =>
      rw [hb] at h
      injection h with h
      injection h with h1 h2
      subst h1 h2
      refine ⟨Nat.le_refl _, e, by simp, hb, rfl, fun m hm => by omega⟩
    | false =>
      rw [hb] at h
      obtain ⟨h1, e', h2, h3, h4, h5⟩ := ih h
      refine ⟨by omega, e', by rw [show j - i = (j - (i + 1)) + 1 by omega]; simpa using h2, h3, h4, fun m hm e2 he2 => ?_⟩
      cases m with
      | zero => simp at he2; subst he2; exact hb
      | succ m => exact h5 m (by omega) e2 (by simpa using he2)
theorem run_key {kk : KK} {P : Program} {k : TypeId} (hu : P.underlying k = some kk.desc) {v : Value} (hv : kk.fits v = true) (em : Bool) (w : World) : (Instr.checkKey em 10000 k v).run P w = .ok () w := by
  rcases fits_eq hv with ⟨q, n, rfl, rfl⟩ | ⟨s, rfl, rfl⟩
  · exact MapKept.run_checkKey hu (show MapKept.IsKey (.int q) (.int q n) by simp [MapKept.IsKey]) em 9999
  · exact MapKept.run_checkKey hu (show MapKept.IsKey .string (.string s) by simp [MapKept.IsKey]) em 9999
theorem run_find {kk : KK} {P : Program} {k : TypeId} (hu : P.underlying k = some kk.desc) {v : Value} (hv : kk.fits v = true) {es : List MapEntry} (h : ∀ e ∈ es, kk.fits e.key = true) (w : World) : (Instr.findKey k v es).run P w = .ok (placeOf v es 0) w := by
  simp [Instr.findKey, run_underlying hu, findNow_eq hv es 0 h]
theorem run_stays {kk : KK} {P : Program} {u v : Value} (hu : kk.fits u = true) (hv : kk.fits v = true) (h : keyB u v = true) (w : World) : (Instr.keyThatStays v u).run P w = .ok v w := by
  obtain rfl := keyB_eq hu hv h
  have : Instr.sameBits 10000 u u = true := by
    rcases fits_eq hu with ⟨q, n, rfl, rfl⟩ | ⟨s, rfl, rfl⟩
    · simp [Instr.sameBits]
    · simp only [Instr.sameBits]; exact (MapKept.bytes_beq s s).2 rfl
  simp [Instr.keyThatStays, this]
theorem find_map_set {k key : Value} {es : List MapEntry} : ∀ {j : Nat} {e x : MapEntry}, es[j]? = some e → keyB key e.key = true → (∀ m, m < j → ∀ e', es[m]? = some e' → keyB key e'.key = false) → x.key = e.key → (keyB k e.key = true → keyB k key = true) → (keyB k key = true → ∀ u, keyB key u = keyB k u) →
    (es.set j x).find? (fun e => keyB k e.key) = if keyB k e.key then some x else es.find? (fun e => keyB k e.key) := by
  induction es with
  | nil => intro j e x he; simp at he
  | cons e0 es ih =>
    intro j e x he hk hlt hx h1 h2
    cases j with
    | zero =>
      simp at he
      subst he
      simp only [List.set_cons_zero, List.find?_cons, hx]
      cases hb : keyB k e0.key <;> simp
    | succ j =>
      have h0 := hlt 0 (by omega) e0 rfl
      simp only [List.set_cons_succ, List.find?_cons]
      have := ih (x := x) (by simpa using he) hk (fun m hm e' he' => hlt (m + 1) (by omega) e' (by simpa using he')) hx h1 h2
      cases hb : keyB k e0.key with
      | true =>
        simp only
        split
        · rename_i hke
          have := h2 (h1 hke) e0.key
          rw [h0, hb] at this
          cases this
        · rfl
      | false => exact this

theorem kk_under {P : Program} {T : Nat → TI} (hT : TabOk P T) {k : Nat} {kk : KK} (h : kkOf (T k).k = some kk) : P.underlying k = some kk.desc := by
  have hd := hT.desc k
  revert h hd
  cases (T k).k <;> intro h hd <;> simp only [kkOf] at h <;> first | (cases h; done) | (injection h with h; subst h; exact hd)

theorem done_makeMap (hT : TabOk P T) (hC : Conf W0 ok σ S a w) {t : Nat} (ho : o.op = .makeMap t none) (h : effMakeMap T S.blk S.h.length o.dst t K) : Done P W0 S o a w K := by
  unfold effMakeMap at h
  split at h
  case h_2 => exact h.elim
  rename_i k e hk
  split at h
  case h_2 => exact h.elim
  rename_i kk d hkk hdst
  split at h
  case h_2 => exact h.elim
  rename_i hdl
  have hd : d < S.h.length := by rw [Nat.blt_eq] at hdl; exact hdl
  rw [genK_eq, ← blk_gen] at h
  have hσ : ∀ c g, g ≤ S.G c → (if c = d ∧ g = S.G d + 1 then Value.map (some w.heap.size) else σ c g) = σ c g := by
    intro c g hg
    rw [if_neg]
    rintro ⟨rfl, rfl⟩
    omega
  have hGd : (S.put none (.v (.c .un)) [(d, Blk.mp (S.G d + 1) kk (T e).k.agg (fun _ => none))]).G d = S.G d + 1 := by simp [St.G, St.put, hd, Blk.gen]
  refine ⟨.map (some w.heap.size), w.alloc (.map #[] 0), _, _, _, Or.inl (by simp [execOp, ho, run_makeMap t w]), h, by simp [hd], ok, fun c g => if c = d ∧ g = S.G d + 1 then .map (some w.heap.size) else σ c g, ?_⟩
  refine hC.step (row := none) (World.grownBy_alloc w _ none) (by simp) (fun _ h => h) (fun k hk => by have := hC.okb k hk; simp; omega) (fun _ h => Or.inl h) hd (by simp [Blk.gen]) hσ ?_ ?_ ?_
  · refine ⟨w.heap.size, #[], 0, by simp, Or.inl hC.below.size, fun hk => by have := hC.okb _ hk; omega, heap_alloc_new w _, ⟨fun e he => by simp at he, fun k _ => by simp⟩⟩
  · intro n hn c C hc hC' hn'
    have e : n = w.heap.size := by simpa [Blk.at, Value.blkNo, eq_comm] using hn
    have := (at_bounds (hC.blk c C hC') hn').2.1
    omega
  · exact ⟨by rw [hGd]; exact Nat.le_refl _, by simp, rfl⟩

theorem elem_rep {ag : Bool} {cs : List AV1} {K : AV → Prop} (h : elemT ag cs K) {v : Value} {G : Nat → Nat} (hc : v.cells.size = cs.length ∧ (ag = true ↔ ∃ c, v = .agg c) ∧ ∀ (j : Nat) u x, v.cells[j]? = some u → cs[j]? = some x → Rep1 w ok σ G x u ∧ u.oneCell' = true) (hv : ag = false → v.oneCell' = true) :
    ∃ y, K y ∧ RepV w ok σ G y v := by
  cases ag with
  | true =>
    obtain ⟨c, rfl⟩ := hc.2.1.1 rfl
    exact ⟨_, h, c, rfl, hc.1, hc.2.2⟩
  | false =>
    simp only [elemT] at h
    split at h
    · rename_i x
      have := cells_one (hv rfl)
      rw [this] at hc
      exact ⟨_, h, (hc.2.2 0 v x rfl rfl).1⟩
    · exact h.elim

theorem done_lookup (hT : TabOk P T) (hC : Conf W0 ok σ S a w) {t : Nat} {x i : Operand} {cok : Bool} (ho : o.op = .lookup t x i cok) (h : effLookup T S.blk t (S.ev x) (S.ev i) cok K) : Done P W0 S o a w K := by
  have hx := ev_rep hC x
  have hi := ev_rep hC i
  have hd := hT.desc t
  unfold effLookup at h
  split at h
  case h_2 => exact h.elim
  rename_i k e hk
  rw [hk] at hd
  have hd' : P.underlying t = some (.map k e) := hd
  have hke' : (T e).k ≠ .none := fun e' => by rw [e'] at h; exact h
  split at h
  · exact h.elim
  · exact h.elim
  rename_i kk hkk _
  have hku := kk_under hT hkk
  split at h
  case h_2 => exact h.elim
  rename_i b g hev
  rw [hev] at hx
  obtain ⟨hg, hv, _⟩ := hx
  split at h
  case h_2 => exact h.elim
  rename_i g' kk' ag f hb
  split at h
  case h_2 => exact h.elim
  rename_i hsk
  obtain ⟨rfl, rfl, h⟩ := h
  split at h
  case h_2 => exact h.elim
  rename_i key hei
  rw [hei] at hi
  have hi' : a.eval i = key := RepI_sc hi
  split at h
  case h_2 => exact h.elim
  rename_i hkf
  obtain ⟨r, hr, h⟩ := h
  obtain ⟨m, es, clock, e1, e2, e3, e4, e5⟩ := hC.blk b _ (blk_some hb (fun g e => by cases e))
  have hkk' : kk = kk' := by
    cases kk <;> cases kk' <;> simp only [sameKK] at hsk <;> first | (cases hsk; done) | rfl | rw [sameKind_eq hsk]
  subst hkk'
  have hkey : kk.fits key = true := keyFits_fits hkf hsk
  have hm := e5.2 key hkey
  have hf := run_find (P := P) hku hkey e5.1 w
  have hck := run_key (P := P) hku hkey es.isEmpty w
  have hpl := placeOf_find key es.toList 0
  obtain ⟨z, z1, z2, z3, z4⟩ := run_zeroT hT hke' w
  have hobj : (getObj m).run P w = .ok (.map es clock) w := MapKept.run_getObj_map e4
  rw [hr] at hm
  have fin : ∀ {v : Value} {y : AV} {bb : Bool}, ((∃ j, placeOf key es.toList 0 = some (j, v)) ∧ bb = true ∨ placeOf key es.toList 0 = none ∧ (zeroValue e).run P w = .ok v w ∧ bb = false) → RepV w ok σ S.G y v → lookK cok b K y bb → Done P W0 S o a w K := by
    intro v y bb hrun hy hK
    unfold lookK at hK
    split at hK
    · refine done_pure hC (v := .tuple #[v, .bool bb]) (r := .tup [y, .c (.i (.sc (.bool bb)))]) ?_ ⟨_, rfl, rfl, fun j u x hu hx => ?_⟩ hK
      · rcases hrun with ⟨⟨j, hp⟩, rfl⟩ | ⟨hp, hz, rfl⟩
        · simp [execOp, ho, Instr.lookup, run_underlying hd', hv, e1, hobj, hck, hi', hf, hp]
        · simp [execOp, ho, Instr.lookup, run_underlying hd', hv, e1, hobj, hck, hi', hf, hp, hz]
      · match j with
        | 0 => simp at hu hx; subst hu hx; exact hy
        | 1 => simp at hu hx; subst hu hx; exact RepI.sc _ rfl
        | j + 2 => simp at hx
    · refine done_pure hC (v := v) (r := .v y) ?_ hy hK
      rcases hrun with ⟨⟨j, hp⟩, rfl⟩ | ⟨hp, hz, rfl⟩
      · simp [execOp, ho, Instr.lookup, run_underlying hd', hv, e1, hobj, hck, hi', hf, hp]
      · simp [execOp, ho, Instr.lookup, run_underlying hd', hv, e1, hobj, hck, hi', hf, hp, hz]
  cases r with
  | none =>
    dsimp only at h
    have hno : placeOf key es.toList 0 = none := by
      cases hfd : es.toList.find? (fun e => keyB key e.key) with
      | none => rw [hfd] at hpl; cases hp : placeOf key es.toList 0 with
        | none => rfl
        | some q => rw [hp] at hpl; cases hpl
      | some q => rw [hfd] at hm; exact hm.elim
    obtain ⟨zz1, zz2⟩ := zeros_rep (w := w) (ok := ok) (σ := σ) (G := S.G) z2 z4
    obtain ⟨i0, z0, i1, i2, i3, i4, i5, i6, i7, i8⟩ := tab_info hT hke'
    have hzz : z0 = z := by
      have : (zeroValue e).run P w = .ok z0 w := by simp [zeroValue, typeInfo, i1, i4]
      rw [z1] at this
      injection this with this
      exact this.symm
    subst hzz
    obtain ⟨y, hK, hy⟩ := elem_rep (G := S.G) h ⟨zz1, i6, zz2⟩ (fun hag => by
      cases z0 <;> first | rfl | skip
      all_goals first
        | (have := i6.2 ⟨_, rfl⟩; rw [hag] at this; cases this)
        | (exfalso; revert i8; simp [Value.cells, Value.oneCell']))
    exact fin (v := z0) (y := y) (bb := false) (Or.inr ⟨hno, z1, rfl⟩) hy hK
  | some cs =>
    dsimp only at h
    cases hfd : es.toList.find? (fun e => keyB key e.key) with
    | none => rw [hfd] at hm; exact hm.elim
    | some q =>
      rw [hfd] at hm hpl
      obtain ⟨⟨j, v⟩, hp, hpv⟩ : ∃ p, placeOf key es.toList 0 = some p ∧ p.2 = q.val := by
        cases hp : placeOf key es.toList 0 with
        | none => rw [hp] at hpl; cases hpl
        | some p => rw [hp] at hpl; exact ⟨p, rfl, by injection hpl⟩
      dsimp only at hpv
      subst hpv
      have hm' : RepE w ok (T e).k.agg cs q.val := hm
      obtain ⟨y, hK, hy⟩ : ∃ y, lookK cok b K y true ∧ RepV w ok σ S.G y q.val := by
        clear hm fin
        revert h hm'
        cases (T e).k.agg with
        | true =>
          intro h hm'
          obtain ⟨arr, q1, q2, q3⟩ := hm'
          refine ⟨_, h, arr, q1, by simpa using q2, fun j u x hu hx => ?_⟩
          rw [List.getElem?_map] at hx
          obtain ⟨y, hy, rfl⟩ := Option.map_eq_some_iff.1 hx
          exact ⟨q3 j u y hu hy, oneCell_of_RepI (q3 j u y hu hy)⟩
        | false =>
          intro h hm'
          obtain ⟨x, rfl, hr2⟩ := hm'
          exact ⟨_, h, hr2⟩
      exact fin (v := q.val) (y := y) (bb := true) (Or.inl ⟨⟨_, hp⟩, rfl⟩) hy hK

theorem grown_setMap (w : World) (m : Nat) (ob : Obj) : w.grownBy { w with heap := w.heap.setIfInBounds m ob } (some m) :=
  ⟨rfl, rfl, rfl, by simp, fun k _ hne => by
    have h : m ≠ k := fun e => hne (by rw [e])
    exact Array.getElem?_setIfInBounds_ne h⟩
open Classical in
theorem mput_eq {kk : KK} {f : Value → Option (List IV)} {key k : Value} {cs : List IV} (h1 : kk.fits key = true) (h2 : kk.fits k = true) : mput f key cs k = if k = key then some cs else f k := by
  unfold mput
  split
  · rename_i h; rw [if_pos (keyB_eq h2 h1 h)]
  · rename_i h
    rw [if_neg]
    rintro rfl
    rw [keyB_self h1] at h
    cases h
theorem repM_put {kk : KK} {ag : Bool} {f : Value → Option (List IV)} {es es' : List MapEntry} {key : Value} {zs : List IV} {x : MapEntry} (hkey : kk.fits key = true) (h : RepM w ok kk ag f es) (hx : x.key = key) (hE : RepE w ok ag zs x.val)
    (h' : ((∃ j e, placeOf key es 0 = some (j, e.val) ∧ es[j]? = some e ∧ es' = es.set j x) ∨ (placeOf key es 0 = none ∧ es' = es ++ [x]))) : RepM w ok kk ag (mput f key zs) es' := by
  have hkx : kk.fits x.key = true := by rw [hx]; exact hkey
  rcases h' with ⟨j, e, hp, he, rfl⟩ | ⟨hp, rfl⟩
  · obtain ⟨_, e', he', hk', _, hlt⟩ := placeOf_some hp
    rw [Nat.sub_zero] at he' hlt
    rw [he] at he'
    injection he' with he'
    subst he'
    have hek : e.key = key := (keyB_eq hkey (h.1 e (List.mem_of_getElem? he)) hk').symm
    refine ⟨fun y hy => ?_, fun k hk => ?_⟩
    · rcases List.mem_or_eq_of_mem_set hy with hy | hy
      · exact h.1 y hy
      · rw [hy]; exact hkx
    · have hfs := find_map_set (k := k) (x := x) he hk' hlt (by rw [hx, hek]) (by rw [hek]; exact id) (fun hh u => by rw [keyB_eq hk hkey hh])
      rw [hfs, mput_eq hkey hk, hek]
      by_cases hkk : k = key
      · subst hkk
        rw [if_pos (keyB_self hkey), if_pos rfl]
        exact hE
      · rw [if_neg (fun hh => hkk (keyB_eq hk hkey hh)), if_neg hkk]
        exact h.2 k hk
  · refine ⟨fun y hy => ?_, fun k hk => ?_⟩
    · rcases List.mem_append.1 hy with hy | hy
      · exact h.1 y hy
      · rw [List.mem_singleton.1 hy]; exact hkx
    · rw [List.find?_append, mput_eq hkey hk]
      have hp2 := placeOf_find key es 0
      rw [hp] at hp2
      by_cases hkk : k = key
      · subst hkk
        rw [if_pos rfl]
        have : es.find? (fun e => keyB k e.key) = none := by
          cases hh : es.find? (fun e => keyB k e.key) with
          | none => rfl
          | some q => rw [hh] at hp2; cases hp2
        rw [this]
        simp only [List.find?_cons, hx, keyB_self hkey, Option.none_or]
        exact hE
      · rw [if_neg hkk]
        have hb : keyB k x.key = false := by
          rw [hx]
          cases hh : keyB k key with
          | true => exact absurd (keyB_eq hk hkey hh) hkk
          | false => rfl
        simp only [List.find?_cons, hb, List.find?_nil, Option.or_none]
        exact h.2 k hk

theorem done_mapUpdate (hT : TabOk P T) (hC : Conf W0 ok σ S a w) {t : Nat} {x i y : Operand} (ho : o.op = .mapUpdate t x i y ∨ o.op = .insert t x i y) (h : effMapUpdate T S.blk t (S.ev x) (S.ev i) (S.ev y) K) (hdst : o.dst = none) : Done P W0 S o a w K := by
  have hx := ev_rep hC x
  have hi := ev_rep hC i
  have hy := ev_rep hC y
  have hd := hT.desc t
  unfold effMapUpdate at h
  split at h
  case h_2 => exact h.elim
  rename_i k e hk
  rw [hk] at hd
  have hd' : P.underlying t = some (.map k e) := hd
  split at h
  · exact h.elim
  · exact h.elim
  rename_i kk hkk _
  have hku := kk_under hT hkk
  split at h
  case h_2 => exact h.elim
  rename_i b g hev
  rw [hev] at hx
  obtain ⟨hg, hv, _⟩ := hx
  split at h
  case h_2 => exact h.elim
  rename_i g' kk' ag f hb
  split at h
  case h_2 => exact h.elim
  rename_i hsk
  obtain ⟨rfl, h⟩ := h
  split at h
  case h_2 => exact h.elim
  rename_i key hei
  rw [hei] at hi
  have hi' : a.eval i = key := RepI_sc hi
  split at h
  case h_2 => exact h.elim
  rename_i hkf
  have hkk' : kk = kk' := by
    cases kk <;> cases kk' <;> simp only [sameKK] at hsk <;> first | (cases hsk; done) | rfl | rw [sameKind_eq hsk]
  subst hkk'
  obtain ⟨zs, hK, hE⟩ : ∃ zs, K (.v (.c .un)) [(b, .mp g' kk ag (mput f key zs))] [b] ∧ RepE w ok ag zs (a.eval y) := by
    split at h
    · rename_i z hez
      rw [hez] at hy
      obtain ⟨rfl, h⟩ := h
      exact ⟨_, h, z, rfl, hy⟩
    · rename_i cs hez
      rw [hez] at hy
      split at h
      · rename_i zs hzs
        obtain ⟨rfl, h⟩ := h
        obtain ⟨arr, q1, q2, q3⟩ := hy
        obtain ⟨az1, az2⟩ := allI_spec (w := w) (ok := ok) (σ := σ) (S := S) hzs
        refine ⟨_, h, arr, q1, by rw [q2, az1], fun j u x hu hx => ?_⟩
        have hj := (List.getElem?_eq_some_iff.1 hx).1
        exact az2 j _ x (List.getElem?_eq_getElem (by omega)) hx u (q3 j u _ hu (List.getElem?_eq_getElem (by omega))).1
      · exact h.elim
    · exact h.elim
  have hbs := blk_some hb (fun g e => by cases e)
  have hbl : b < S.h.length := (List.getElem?_eq_some_iff.1 hbs).1
  obtain ⟨m, es, clock, e1, e2, e3, e4, e5⟩ := hC.blk b _ hbs
  have hkey : kk.fits key = true := keyFits_fits hkf hsk
  have hf := run_find (P := P) hku hkey e5.1 w
  have hck := run_key (P := P) hku hkey false w
  have hobj : (getObj m).run P w = .ok (.map es clock) w := MapKept.run_getObj_map e4
  have hmlt : m < w.heap.size := (Array.getElem?_eq_some_iff.1 e4).1
  have fin : ∀ {es' : Array MapEntry} {clock' : Nat} {xx : MapEntry}, xx.key = key → xx.val = a.eval y → ((∃ j e, placeOf key es.toList 0 = some (j, e.val) ∧ es.toList[j]? = some e ∧ es'.toList = es.toList.set j xx) ∨ (placeOf key es.toList 0 = none ∧ es'.toList = es.toList ++ [xx])) →
      (execOp a.eval o).run P w = .ok .skip { w with heap := w.heap.setIfInBounds m (.map es' clock') } → Done P W0 S o a w K := by
    intro es' clock' xx hxk hxv h' hrun
    have hgen : S.G b = g' := by rw [blk_gen, hb]; rfl
    have hGe : (S.put none (.v (.c .un)) [(b, Blk.mp g' kk ag (mput f key zs))]).G = S.G := by
      funext c
      by_cases hc : c = b
      · subst hc; rw [hgen]; simp [St.G, St.put, hbl, Blk.gen]
      · simp [St.G, St.put, List.getElem?_set_ne (fun e => hc e.symm)]
    have hold : ∀ k, ok k → ({ w with heap := w.heap.setIfInBounds m (.map es' clock') } : World).heap[k]? = w.heap[k]? := fun k hk' => by
      have hne : m ≠ k := fun e => by subst e; exact e3 hk'
      simp [Array.getElem?_setIfInBounds_ne hne]
    refine ⟨undef, _, _, _, _, Or.inr ⟨hrun, rfl⟩, hK, by simp [hbl], ok, σ, ?_⟩
    refine hC.step (row := some m) (grown_setMap w m _) (fun n' hn' => ?_) (fun _ h => h) (fun k hk' => by simp; exact hC.okb k hk') (fun _ h => Or.inl h) hbl (by rw [hgen]; exact Nat.le_refl _) (fun _ _ _ => rfl) ?_ (fun n' hn' c C hc hC' hn'' => ?_) trivial
    · injection hn' with hn'
      subst hn'
      refine ⟨e2, e3, fun c C hc hC' hn'' => ?_⟩
      exact hC.apart b c _ C hbs hC' (fun e => hc e.symm) m (by simp [Blk.at, e1, Value.blkNo]) hn''
    · rw [hGe]
      refine ⟨m, es', clock', e1, e2, e3, by simp [hmlt], ?_⟩
      exact RepM.mono (fun _ h => h) hold (repM_put hkey e5 hxk (by rw [hxv]; exact hE) h')
    · exact hC.apart b c _ C hbs hC' (fun e => hc e.symm) n' hn' hn''
  cases hp : placeOf key es.toList 0 with
  | none =>
    refine fin (es' := es.push { key, val := a.eval y, born := clock }) (clock' := clock + 1) (xx := { key, val := a.eval y, born := clock }) rfl rfl (Or.inr ⟨hp, by simp⟩) ?_
    rcases ho with ho | ho <;> simp [execOp, ho, Instr.mapUpdate, run_underlying hd', hv, e1, hobj, hck, hi', hf, hp, MapKept.run_setObj_map _ e4]
  | some p =>
    obtain ⟨j, v⟩ := p
    obtain ⟨_, e', he', hk', hval, hlt⟩ := placeOf_some hp
    rw [Nat.sub_zero] at he' hlt
    have he2 : es[j]? = some e' := by rw [← Array.getElem?_toList]; exact he'
    have hfe := e5.1 e' (List.mem_of_getElem? he')
    have hst := run_stays (P := P) hkey hfe hk' w
    have hek : e'.key = key := (keyB_eq hkey hfe hk').symm
    refine fin (es' := es.modify j fun e => { e with key := key, val := a.eval y }) (clock' := clock) (xx := { e' with key := key, val := a.eval y }) rfl rfl (Or.inl ⟨j, e', by rw [hp, hval], he', ?_⟩) ?_
    · rw [Array.toList_modify]
      apply List.ext_getElem?
      intro i
      rw [List.getElem?_modify]
      by_cases hij : j = i
      · subst hij
        rw [List.getElem?_set_self (List.getElem?_eq_some_iff.1 he').1, he']
        simp
      · rw [List.getElem?_set_ne hij]
        simp [hij]
    · rw [hek] at hst
      rcases ho with ho | ho <;> simp [execOp, ho, Instr.mapUpdate, run_underlying hd', hv, e1, hobj, hck, hi', hf, hp, he2, hek, hst, MapKept.run_setObj_map _ e4]

theorem done_clear (hT : TabOk P T) (hC : Conf W0 ok σ S a w) {t : Nat} {x : Operand} (ho : o.op = .call { callee := .builtin .clear, args := #[x], argTypes := #[t] })
    (h : effClear T S.blk t (S.ev x) K) : Done P W0 S o a w K := by
  have hx := ev_rep hC x
  have hd := hT.desc t
  unfold effClear at h
  split at h
  case h_2 => exact h.elim
  rename_i e hk
  rw [hk] at hd
  have hd' : P.underlying t = some (.slice e) := hd
  have hke' : (T e).k ≠ .none := fun e' => by rw [e'] at h; exact h
  split at h
  · exact h.elim
  · exact h.elim
  rename_i z hz _
  rcases rowPart_rep hC hx h with ⟨b, g, E, sz, es, lo, hi, ⟨rfl, hK⟩, hb, hg, A, A', c, e2, q1, q2, q3, e3, e4⟩ | h
  case inr => exact h.elim
  obtain ⟨zv, z1, z2, z3, z4⟩ := run_zeroT hT hke' w
  obtain ⟨zz1, zz2⟩ := zeros_rep (w := w) (ok := ok) (σ := σ) (G := S.G) z2 z4
  obtain ⟨az1, az2⟩ := allI_spec (w := w) (ok := ok) (σ := σ) (S := S) hz
  have hzl : z.length = (T e).size := by rw [← az1, ← zz1, z3]
  have hbs := blk_some hb (fun g e => by cases e)
  have hbl : b < S.h.length := (List.getElem?_eq_some_iff.1 hbs).1
  rcases Nat.eq_or_lt_of_le q1 with q6 | q6
  · subst q6
    have hspl : splice es lo (List.replicate (lo - lo) z) = es := by rw [Nat.sub_self, List.replicate_zero]; cases es <;> cases lo <;> rfl
    rw [hspl] at hK
    have hrun : (execOp a.eval o).run P w = .ok (.value (.tuple #[])) w := by
      rw [Nat.sub_self] at e3
      cases A' <;> simp [execOp, ho, resolve, invoke, builtin, Builtin.clear_, run_underlying hd', e3]
    refine ⟨_, w, _, _, _, Or.inl hrun, hK, by simp [hbl], ok, σ, ?_⟩
    have hsame : S.put o.dst (.tup []) [(b, Blk.row g E (T e).size es)] = S.put o.dst (.tup []) [] := by
      simp only [St.put, List.foldl_cons, List.foldl_nil]
      congr 1
      exact List.ext_getElem? fun i => by
        by_cases hi : b = i
        · subst hi; rw [List.getElem?_set_self hbl, hbs]
        · rw [List.getElem?_set_ne hi]
    rw [hsame]
    exact hC.stay (grown_refl w) (fun _ h => h) hC.okb (fun _ h => Or.inl h) ⟨#[], rfl, rfl, fun j u y hu hy => by simp at hy⟩
  · obtain ⟨xs, e1, _⟩ := hC.blk b _ hbs
    rcases e1.2 with ⟨e5, e6⟩ | ⟨m, cap, _, e5, _⟩
    · omega
    rw [e2] at e5
    injection e5 with e5 _ _
    subst e5
    have hA' : A' = some ⟨m, lo * (T e).size, none⟩ := by rw [e4 (Or.inr q6), Option.map_some, add_at, Nat.zero_add]
    subst hA'
    have hnl : (Builtin.zeroCells zv.cells (hi - lo)).toList.length = (List.replicate (hi - lo) z).length * (T e).size := by
      rw [Array.length_toList, size_zeroCells, z3, List.length_replicate]
    have hget : ∀ i, i < (hi - lo) * (T e).size → (Builtin.zeroCells zv.cells (hi - lo)).toList[i]? = zv.cells[i % (T e).size]? := by
      intro i hi2
      rw [← z3]
      have hm : i % zv.cells.size < zv.cells.size := Nat.mod_lt _ (by rcases Nat.eq_zero_or_pos zv.cells.size with h0 | h0; (rw [z3] at h0; rw [h0] at hi2; simp at hi2); exact h0)
      simp only [Builtin.zeroCells, Array.getElem?_toList, Array.getElem?_map]
      rw [Array.getElem?_range, if_pos (by rw [z3]; exact hi2)]
      simp only [Option.map_some]
      rw [Array.getElem?_eq_getElem hm, getElem!_pos zv.cells _ hm]
    have hpos : ∀ i, i < (hi - lo) * (T e).size → 0 < (T e).size := by
      intro i hi2
      rcases Nat.eq_zero_or_pos (T e).size with h0 | h0
      · rw [h0] at hi2; simp at hi2
      · exact h0
    refine done_over hC hb e2 (lo := lo) (zs := List.replicate (hi - lo) z) (by rw [List.length_replicate]; omega) (news := (Builtin.zeroCells zv.cells (hi - lo)).toList) hnl (fun u hu => ?_) (fun f hf => by rw [List.eq_of_mem_replicate hf, hzl]) (fun k f j y hk' hj => ?_) (v := .tuple #[]) (r := .tup []) ?_ (fun _ _ _ _ => ⟨#[], rfl, rfl, fun j u y hu hy => by simp at hy⟩) hK
    · obtain ⟨i, hi2, rfl⟩ := List.getElem_of_mem hu
      have h1 : i < (hi - lo) * (T e).size := by rw [hnl, List.length_replicate] at hi2; exact hi2
      have h2 := hget i h1
      rw [List.getElem?_eq_getElem hi2] at h2
      have h3 : i % (T e).size < (T e).size := Nat.mod_lt _ (hpos i h1)
      exact (zz2 (i % (T e).size) _ ((T e).zero[i % (T e).size]'(by omega)) h2.symm (List.getElem?_eq_getElem (by omega))).2
    · rw [List.getElem?_replicate] at hk'
      split at hk'
      case isFalse => cases hk'
      rename_i hkl
      injection hk' with hk'
      subst hk'
      have hjl : j < z.length := (List.getElem?_eq_some_iff.1 hj).1
      have h1 : (k + 1) * (T e).size ≤ (hi - lo) * (T e).size := Nat.mul_le_mul_right _ hkl
      rw [Nat.add_mul, Nat.one_mul] at h1
      have hjs : j < (T e).size := by omega
      have hm : (k * (T e).size + j) % (T e).size = j := by rw [Nat.mul_comm, Nat.mul_add_mod, Nat.mod_eq_of_lt hjs]
      have h2 := hget (k * (T e).size + j) (by omega)
      rw [hm] at h2
      have hjv : j < zv.cells.size := by omega
      refine ⟨zv.cells[j], by rw [h2]; exact Array.getElem?_eq_getElem hjv, ?_⟩
      exact az2 j ((T e).zero[j]'(by omega)) y (List.getElem?_eq_getElem (by omega)) hj _ (zz2 j _ _ (Array.getElem?_eq_getElem hjv) (List.getElem?_eq_getElem (by omega))).1
    · intro cur ty fz hg2 hfz hcs
      have hcl : cur.toList.length = cur.size := Array.length_toList
      have hle : lo * (T e).size + (Builtin.zeroCells zv.cells (hi - lo)).toList.length ≤ cur.size := by
        rw [hnl, List.length_replicate, ← Nat.add_mul]
        exact Nat.le_trans (Nat.mul_le_mul_right _ (by omega)) hcs
      have hst := run_storeCells_G P m (lo * (T e).size) ty fz (Builtin.zeroCells zv.cells (hi - lo)).toList 0 cur w hg2 hfz (by omega) (fun u hu => ?_)
      · rw [Nat.add_zero, ← splice_eq _ _ _ (by omega)] at hst
        have hne : hi - lo ≠ 0 := by omega
        obtain ⟨k, hk⟩ := Nat.exists_eq_succ_of_ne_zero hne
        rw [hk] at e3 hst ⊢
        simp [execOp, ho, resolve, invoke, builtin, Builtin.clear_, run_underlying hd', e3, z1, hst]
      · obtain ⟨i, hi2, rfl⟩ := List.getElem_of_mem hu
        have h1 : i < (hi - lo) * (T e).size := by rw [hnl, List.length_replicate] at hi2; exact hi2
        have h2 := hget i h1
        rw [List.getElem?_eq_getElem hi2] at h2
        have h3 : i % (T e).size < (T e).size := Nat.mod_lt _ (hpos i h1)
        exact (zz2 (i % (T e).size) _ ((T e).zero[i % (T e).size]'(by omega)) h2.symm (List.getElem?_eq_getElem (by omega))).2

theorem zeroCells_get {z : Array Value} {n i : Nat} (h : i < n * z.size) : (Builtin.zeroCells z n).toList[i]? = z[i % z.size]? := by
  have hm : i % z.size < z.size := Nat.mod_lt _ (by
    rcases Nat.eq_zero_or_pos z.size with h0 | h0
    · rw [h0] at h; simp at h
    · exact h0)
  simp only [Builtin.zeroCells, Array.getElem?_toList, Array.getElem?_map]
  rw [Array.getElem?_range, if_pos h]
  simp only [Option.map_some]
  rw [Array.getElem?_eq_getElem hm, getElem!_pos z _ hm]
theorem run_append_made (w : World) (t tx ty e : TypeId) (i : TypeInfo) (z : Value) (q : IntKind) (ht : P.underlying t = some (.slice e)) (hx : P.underlying tx = some (.int q)) (hi : P.info? e = some i) (hz : i.zero = some z) (hzs : z.cells.size = i.size)
    (base : Option Addr) (sLen sCap : Nat) (olds : List Value) (hold : (Builtin.firstCells i.size sLen (.slice base sLen sCap)).run P w.drew = .ok olds.toArray w.drew) (k : IntKind) (n : Nat) (hn0 : n ≤ 9223372036854775807) (hnb : n * i.bytes ≤ 281474976710656)
    (hg : sCap < sLen + n) (h63 : ((sLen + n : Nat) : Int) ≤ 9223372036854775807) (hfit : Builtin.nextslicecap (sLen + n) sCap * i.bytes ≤ 281474976710656) :
    (Builtin.append_ #[t, tx] ty #[.slice base sLen sCap, .int k n]).run P w =
      .ok (.slice (some ⟨w.heap.size, 0, none⟩) (sLen + n) (grownCap w (sLen + n) sCap e))
        (w.drew.alloc (.cells ((olds ++ (Builtin.zeroCells z.cells n).toList).toArray ++ Builtin.zeroCells z.cells (grownCap w (sLen + n) sCap e - (sLen + n))) e)) := by
  have hn : ¬ (sLen + n ≤ sCap) := by omega
  have h63' : ¬ (9223372036854775807 < ((sLen : Int) + (n : Int))) := by omega
  have h48' : ¬ (281474976710656 < Builtin.nextslicecap (sLen + n) sCap * i.bytes) := by omega
  have hwr : IntKind.i64.wrap (n : Int) = (n : Int) := by rw [iwrap_eq]; exact w64_in (by omega)
  have hnb' : ¬ (281474976710656 < (n : Int) * (i.bytes : Int)) := by
    have : ((n * i.bytes : Nat) : Int) ≤ 281474976710656 := by omega
    rw [Int.natCast_mul] at this
    omega
  have hai : ∀ w' : World, (asIntOf (.int k (n : Int))).run P w' = .ok (k, (n : Int)) w' := fun _ => rfl
  have hneg : ¬ ((n : Int) < 0) := by omega
  have hmx : max (n : Int) 0 = n := by omega
  by_cases h0 : n * i.size = 0
  · have hz0 : Builtin.zeroCells z.cells n = #[] := by
      have : (Builtin.zeroCells z.cells n).size = 0 := by rw [size_zeroCells, hzs]; exact h0
      exact Array.eq_empty_of_size_eq_zero this
    simp [Builtin.append_, run_underlying ht, run_underlying hx, sizeOf, typeInfo, zeroValue, hi, hz, asInt, hai, hwr, hneg, hmx, hnb', hn, h63', h48', Question.forced, hold, newRow, grownCap, h0, hz0]
  · simp [Builtin.append_, run_underlying ht, run_underlying hx, sizeOf, typeInfo, zeroValue, hi, hz, asInt, hai, hwr, hneg, hmx, hnb', hn, h63', h48', Question.forced, hold, newRow, grownCap, h0]
    congr 2
    apply Array.ext'
    simp [List.append_assoc]

theorem firstCells_reads {w : World} {B sz n c : Nat} {A : Option Addr} {xs : List Value} (hR : Reads w B sz A n xs) : (Builtin.firstCells sz n (.slice A n c)).run P w = .ok xs.toArray w := by
  rcases Nat.eq_zero_or_pos n with h0 | h0
  · subst h0
    have hn : xs = [] := List.eq_nil_of_length_eq_zero (by rw [hR.1]; simp)
    subst hn
    have hl : ∀ (x : Addr), (loadCells x 0).run P w = .ok #[] w := fun x => by simpa using run_loadCells_list (P := P) w x [] (by simp)
    cases A <;> simp [Builtin.firstCells, hl]
  · obtain ⟨ad, rfl, _, hc⟩ := hR.2 h0
    have := run_loadCells_list (P := P) w ad xs hc
    rw [hR.1] at this
    simpa [Builtin.firstCells] using this
theorem done_appMake (hT : TabOk P T) (hC : Conf W0 ok σ S a w) {t t' : Nat} {x y : Operand} (ho : o.op = .call { callee := .builtin .append, args := #[x, y], argTypes := #[t, t'] })
    (h : effAppMake T S.blk S.h.length o.dst t t' (S.ev x) (S.ev y) K) : Done P W0 S o a w K := by
  have hx := ev_rep hC x
  have hy := ev_rep hC y
  have hd := hT.desc t
  have hd2 := hT.desc t'
  unfold effAppMake at h
  split at h
  case h_2 => exact h.elim
  rename_i e q hk hk2
  rw [hk] at hd
  rw [hk2] at hd2
  have hd' : P.underlying t = some (.slice e) := hd
  have hd2' : P.underlying t' = some (.int q) := hd2
  have hke : (T e).k ≠ .none := fun e' => by rw [e'] at h; exact h
  split at h
  · exact h.elim
  case h_3 => exact h.elim
  rename_i z d k m hz hgd _ hev _
  simp only [Bool.and_eq_true] at hgd
  obtain ⟨⟨hsz, hby⟩, heC⟩ := hgd
  have hby' := Nat.le_of_ble_eq_true hby
  have heC' := noCX heC
  rw [hev] at hy
  have hy' : a.eval y = .int k m := RepI_sc hy
  split at h
  case h_2 => exact h.elim
  rename_i hdl
  have hdl' : d < S.h.length := by rw [Nat.blt_eq] at hdl; exact hdl
  obtain ⟨i, zv, i1, i2, i3, i4, i5, _, i6, i7⟩ := tab_info hT hke
  obtain ⟨zz1, zz2⟩ := zeros_rep (w := w) (ok := ok) (σ := σ) (G := S.G) i5 i7
  obtain ⟨az1, az2⟩ := allI_spec (w := w) (ok := ok) (σ := σ) (S := S) hz
  have hzl : z.length = (T e).size := by rw [← az1, ← zz1, i6]
  have main : ∀ {A : Option Addr} {es : List (List IV)} {c : Nat} {olds : List Value}, a.eval x = .slice A es.length c → Reads w w.heap.size (T e).size A es.length olds → (∀ (k : Nat) f j y, es[k]? = some f → f[j]? = some y → ∃ u, olds[k * (T e).size + j]? = some u ∧ RepI w ok y u) → (∀ f ∈ es, f.length = (T e).size) → 0 ≤ m → c < es.length + m.toNat →
      (es.length + m.toNat) * (T e).bytes ≤ 140737488355328 → K (.v (.c (.own d (S.G d + 1)))) [(d, .row (S.G d + 1) e (T e).size (es ++ List.replicate m.toNat z))] [d] → Done P W0 S o a w K := by
    intro A es c olds hvx hR hcell hlen h0 hc hb hK
    have hmN : m = (m.toNat : Int) := by omega
    have hn63 : es.length + m.toNat ≤ maxLen := by
      have := Nat.le_mul_of_pos_right (es.length + m.toNat) hby'
      unfold maxLen
      omega
    have hold := firstCells_reads (P := P) (c := c) (show Reads w.drew w.heap.size (T e).size A es.length olds from hR)
    rw [← i2] at hold
    have hn63' : es.length + m.toNat ≤ 9223372036854775807 := by unfold maxLen at hn63; omega
    have hmb : m.toNat * i.bytes ≤ 281474976710656 := by
      rw [i3]
      have : m.toNat * (T e).bytes ≤ (es.length + m.toNat) * (T e).bytes := Nat.mul_le_mul_right _ (Nat.le_add_left _ _)
      omega
    have hr := run_append_made (P := P) w t t' o.type e i zv q hd' hd2' i1 i4 (by rw [i6, i2]) A es.length c olds hold k m.toNat (by omega) hmb hc (by omega) (growslice_fits hc (by rw [i3]; exact hb))
    rw [← hmN] at hr
    have hge := grownCap_ge w (es.length + m.toNat) c e
    have hcm := grownCap_le_maxLen w (es.length + m.toNat) c e hn63
    have hznl : (Builtin.zeroCells zv.cells m.toNat).toList.length = m.toNat * (T e).size := by rw [Array.length_toList, size_zeroCells, i6]
    have hlen' : (olds ++ (Builtin.zeroCells zv.cells m.toNat).toList).length = (es ++ List.replicate m.toNat z).length * (T e).size := by
      rw [List.length_append, hznl, hR.1, List.length_append, List.length_replicate, Nat.add_mul]
    refine done_row (base := 0) (xs := olds ++ (Builtin.zeroCells zv.cells m.toNat).toList) hC hdl' (v' := .slice (some ⟨w.heap.size, 0, none⟩) (es.length + m.toNat) (grownCap w (es.length + m.toNat) c e)) (w' := w.drew.alloc (.cells ((olds ++ (Builtin.zeroCells zv.cells m.toNat).toList).toArray ++ Builtin.zeroCells zv.cells (grownCap w (es.length + m.toNat) c e - (es.length + m.toNat))) e)) (by simp [execOp, ho, resolve, invoke, builtin, hvx, hy', hr]) (row := none) ⟨rfl, rfl, rfl, by simp, fun k hk _ => Below.heap_alloc w.drew _ k hk⟩ (by simp)
      ⟨hlen', Or.inr ⟨w.heap.size, _, _, by rw [List.length_append, List.length_replicate], Nat.zero_le _, ⟨_, _, heap_alloc_new w.drew _, Or.inl ⟨rfl, rfl⟩⟩, by rw [List.length_append, List.length_replicate]; exact hge, hcm, ?_, ?_⟩⟩ (fun h => absurd h heC') (fun f hf => ?_) (fun n hn => by simp [Value.ownBlock] at hn; right; omega) (fun k f j y hk' hj => ?_) hK
    · simp only [Array.size_append, List.size_toArray, size_zeroCells, i6]
      rw [hlen', List.length_append, List.length_replicate, ← Nat.add_mul]
      congr 1
      omega
    · rw [← hlen']
      simp only [Array.toList_append]
      exact List.take_left
    · rcases List.mem_append.1 hf with hf | hf
      · exact hlen f hf
      · rw [List.eq_of_mem_replicate hf, hzl]
    · rw [List.getElem?_append] at hk'
      have hol : olds.length = es.length * (T e).size := hR.1
      split at hk'
      · obtain ⟨u, hu, hr⟩ := hcell k f j y hk' hj
        exact ⟨u, by rw [List.getElem?_append_left (List.getElem?_eq_some_iff.1 hu).1]; exact hu, hr⟩
      · rename_i hkge
        rw [List.getElem?_replicate] at hk'
        split at hk'
        case isFalse => cases hk'
        rename_i hkl
        injection hk' with hk'
        subst hk'
        have hjl : j < z.length := (List.getElem?_eq_some_iff.1 hj).1
        have hjs : j < (T e).size := by omega
        have h1 : (k - es.length + 1) * (T e).size ≤ m.toNat * (T e).size := Nat.mul_le_mul_right _ hkl
        rw [Nat.add_mul, Nat.one_mul] at h1
        have h2 : (k - es.length) * (T e).size + es.length * (T e).size = k * (T e).size := by rw [← Nat.add_mul]; congr 1; omega
        have hjv : j < zv.cells.size := by omega
        refine ⟨zv.cells[j], ?_, az2 j ((T e).zero[j]'(by omega)) y (List.getElem?_eq_getElem (by omega)) hj _ (zz2 j _ _ (Array.getElem?_eq_getElem hjv) (List.getElem?_eq_getElem (by omega))).1⟩
        rw [List.getElem?_append_right (by omega), hol, show k * (T e).size + j - es.length * (T e).size = (k - es.length) * (T e).size + j by omega, zeroCells_get (by rw [i6]; omega), i6, Nat.mul_comm, Nat.mul_add_mod, Nat.mod_eq_of_lt hjs]
        exact Array.getElem?_eq_getElem hjv
  split at h
  · rename_i hevx
    rw [hevx] at hx
    obtain ⟨h0, hb, hK⟩ := h
    rw [genK_eq, ← blk_gen] at hK
    exact main (A := none) (es := []) (c := 0) (olds := []) hx ⟨by simp, fun h => absurd h (by simp)⟩ (fun k f j y hk => by simp at hk) (by simp) (by omega) (by simp; omega) (by simpa using hb) (by simpa using hK)
  · rename_i es c hevx
    rw [hevx] at hx
    obtain ⟨h0, hc, hlen, hb, hK⟩ := h
    rw [genK_eq, ← blk_gen] at hK
    obtain ⟨A, hvx, hRx, _⟩ := hx
    have hslx : RepT w ok σ S.G (.v (.c (.i (.sl es)))) (a.eval x) := hRx
    obtain ⟨es', _, A', c', ⟨rfl, _⟩, hvx', hreadx⟩ := list_rep (K := fun es' d => es' = es ∧ d = []) hC hslx (by unfold listK; exact ⟨rfl, rfl⟩)
    obtain ⟨xs, hXR, _, hXcell⟩ := hreadx _ hlen
    rw [hvx] at hvx'
    injection hvx' with hA' _ hc'
    subst hA'
    exact main hvx hXR hXcell hlen h0 hc hb hK
  · exact h.elim

theorem done_cap (hT : TabOk P T) (hC : Conf W0 ok σ S a w) {t : Nat} {x : Operand} (ho : o.op = .call { callee := .builtin .cap, args := #[x], argTypes := #[t] }) (h : effCap T t (S.ev x) K) : Done P W0 S o a w K := by
  have hx := ev_rep hC x
  have hd := hT.desc t
  unfold effCap at h
  split at h
  case h_3 => exact h.elim
  · rename_i e hk
    rw [hk] at hd
    have hd' : P.underlying t = some (.slice e) := hd
    have go : ∀ {A : Option Addr} {n c : Nat}, a.eval x = .slice A n c → K (ATint c) [] [] → Done P W0 S o a w K := by
      intro A n c hv hK
      exact done_pure hC (v := .int .i64 c) (by simp [execOp, ho, resolve, invoke, builtin, Builtin.cap_, run_underlying hd', hv, goInt]) (rep_sc rfl) hK
    split at h
    · rename_i hev; rw [hev] at hx; exact go hx h
    · rename_i es hev; rw [hev] at hx; obtain ⟨A, hv, _⟩ := hx; exact go hv h
    · rename_i es c hev; rw [hev] at hx; obtain ⟨A, hv, _⟩ := hx; exact go hv h
    · exact h.elim
  · rename_i n e hk
    rw [hk] at hd
    have hd' : P.underlying t = some (.array n e) := hd
    exact done_pure hC (v := .int .i64 n) (by simp [execOp, ho, resolve, invoke, builtin, Builtin.cap_, run_underlying hd', goInt]) (rep_sc rfl) h

theorem done_copy (hT : TabOk P T) (hC : Conf W0 ok σ S a w) {t t' : Nat} {x y : Operand} (ho : o.op = .call { callee := .builtin .copy, args := #[x, y], argTypes := #[t, t'] })
    (h : effCopy T S.blk t (S.ev x) (S.ev y) K) : Done P W0 S o a w K := by
  have hx := ev_rep hC x
  have hy := ev_rep hC y
  have hd := hT.desc t
  unfold effCopy at h
  split at h
  case h_2 => exact h.elim
  rename_i e hk
  rw [hk] at hd
  have hd' : P.underlying t = some (.slice e) := hd
  split at h
  · exact h.elim
  rename_i hke
  have hke' : (T e).k ≠ .none := hke
  -- over a part
  have over : ∀ {b g sz lo hi E : Nat} {es : List (List IV)} {A A' : Option Addr} {c : Nat}, S.blk b = .row g E sz es → σ b g = .slice A es.length c → a.eval x = .slice A' (hi - lo) (c - lo) → lo ≤ hi → hi ≤ es.length → (lo = 0 ∨ lo < hi → A' = A.map (·.add (lo * sz))) → sz = (T e).size →
      listK S.blk (S.ev y) (fun ys rd => (∀ z ∈ ys, z.length = sz) ∧ K (ATint (min ys.length (hi - lo) : Nat)) [(b, .row g E sz (splice es lo (ys.take (hi - lo))))] (b :: rd)) → Done P W0 S o a w K := by
    intro b g sz lo hi E es A A' c hb hσ hx0 q1 q2 q5 hsz0 h
    subst hsz0
    have hbs := blk_some hb (fun g e => by cases e)
    have hbl : b < S.h.length := (List.getElem?_eq_some_iff.1 hbs).1
    obtain ⟨xs, e1, e2, e3, e4⟩ := hC.blk b _ hbs
    obtain ⟨ys, rd, B, cy, ⟨hlen, hK⟩, hvy, hreads⟩ := list_rep hC hy h
    obtain ⟨news, hR, hone, hcell⟩ := hreads _ hlen
    have hszw := run_sizeT hT hke' w
    have hexec : ∀ {v' : Value} {w' : World}, (Builtin.copy_ #[t, t'] o.type #[.slice A' (hi - lo) (c - lo), .slice B ys.length cy]).run P w = .ok v' w' → (execOp a.eval o).run P w = .ok (.value v') w' := by
      intro v' w' h2
      simp [execOp, ho, resolve, invoke, builtin, hx0, hvy, h2]
    rcases Nat.eq_or_lt_of_le q1 with q6 | q6
    · subst q6
      have hrun : (Builtin.copy_ #[t, t'] o.type #[.slice A' (lo - lo) (c - lo), .slice B ys.length cy]).run P w = .ok (.int .i64 (0 : Nat)) w := by
        have hl : ∀ (x : Addr), (loadCells x 0).run P w = .ok #[] w := fun x => by simpa using run_loadCells_list (P := P) w x [] (by simp)
        cases A' <;> cases B <;> simp [Builtin.copy_, run_underlying hd', Builtin.lenOf, Builtin.firstCells, hszw, hl, goInt, storeCells]
      have hspl : splice es lo (ys.take (lo - lo)) = es := by rw [Nat.sub_self, List.take_zero]; cases es <;> cases lo <;> rfl
      rw [hspl, Nat.sub_self, Nat.min_zero] at hK
      refine ⟨_, w, _, _, _, Or.inl (hexec hrun), hK, by simp [hbl], ok, σ, ?_⟩
      have hsame : S.put o.dst (ATint ((0 : Nat) : Int)) [(b, Blk.row g E (T e).size es)] = S.put o.dst (ATint ((0 : Nat) : Int)) [] := by
        simp only [St.put, List.foldl_cons, List.foldl_nil]
        congr 1
        exact List.ext_getElem? fun i => by
          by_cases hi : b = i
          · subst hi; rw [List.getElem?_set_self hbl, hbs]
          · rw [List.getElem?_set_ne hi]
      rw [hsame]
      exact hC.stay (grown_refl w) (fun _ h => h) hC.okb (fun _ h => Or.inl h) (rep_sc rfl)
    · rcases e1.2 with ⟨e5, e6⟩ | ⟨m, cap, _, e5, _⟩
      · omega
      rw [hσ] at e5
      injection e5 with e5 _ _
      subst e5
      have hA' : A' = some ⟨m, lo * (T e).size, none⟩ := by rw [q5 (Or.inr q6), Option.map_some, add_at, Nat.zero_add]
      subst hA'
      have hmin : (ys.take (hi - lo)).length = min ys.length (hi - lo) := by rw [List.length_take]; exact Nat.min_comm _ _
      have htl : (news.take ((hi - lo) * (T e).size)).length = (ys.take (hi - lo)).length * (T e).size := by
        rw [List.length_take, hR.1, List.length_take]
        rcases Nat.le_total ys.length (hi - lo) with h | h
        · have := Nat.mul_le_mul_right (T e).size h
          rw [Nat.min_eq_right h]; omega
        · have := Nat.mul_le_mul_right (T e).size h
          rw [Nat.min_eq_left h]; omega
      refine done_over hC hb hσ (lo := lo) (zs := ys.take (hi - lo)) (by rw [hmin]; omega) (news := news.take ((hi - lo) * (T e).size)) htl (fun u hu => hone u (List.mem_of_mem_take hu)) (fun z hz => hlen z (List.mem_of_mem_take hz)) ?_ (v := .int .i64 (min ys.length (hi - lo) : Nat)) (r := ATint (min ys.length (hi - lo) : Nat)) ?_ (fun _ _ _ _ => RepI.sc _ rfl) hK
      · intro k f j z hf hz
        rw [List.getElem?_take] at hf
        split at hf
        · rename_i hk
          obtain ⟨u, hu, hr⟩ := hcell k f j z hf hz
          have hjl : j < (T e).size := by rw [← hlen f (List.mem_of_getElem? hf)]; exact (List.getElem?_eq_some_iff.1 hz).1
          have h2 : (k + 1) * (T e).size ≤ (hi - lo) * (T e).size := Nat.mul_le_mul_right _ hk
          rw [Nat.add_mul, Nat.one_mul] at h2
          exact ⟨u, by rw [List.getElem?_take, if_pos (by omega)]; exact hu, hr⟩
        · cases hf
      · intro cur ty fz hg hfz hcs
        refine hexec (run_copy_at w t t' o.type e m (lo * (T e).size) (hi - lo) (c - lo) cur ty fz B ys.length cy (T e).size news hd' hszw hR hone hg hfz ?_)
        rw [← Nat.add_mul]
        exact Nat.le_trans (Nat.mul_le_mul_right _ (by omega)) hcs
  split at h
  case h_3 => exact h.elim
  case h_2 =>
    rename_i b g sz' lo hi hev
    rw [hev] at hx
    obtain ⟨hg, A, A', n, c, hv, q1, q2, q3, hvv, q5⟩ := hx
    split at h
    · rename_i g' E sz es hb
      obtain ⟨rfl, rfl, hsz0, h⟩ := h
      obtain ⟨xs, e1, _⟩ := hC.blk b _ (blk_some hb (fun g e => by cases e))
      rw [hv] at e1
      obtain rfl := row_len e1
      exact over hb hv hvv q1 q2 q5 hsz0 h
    · exact h.elim
  rename_i b g hev
  rw [hev] at hx
  obtain ⟨hg, hv, _⟩ := hx
  split at h
  case h_2 => exact h.elim
  rename_i g' E sz es hb
  split at h
  case h_2 =>
    split at h
    · obtain ⟨rfl, hsz0, h⟩ := h
      obtain ⟨xs, e1, _⟩ := hC.blk b _ (blk_some hb (fun g e => by cases e))
      obtain ⟨A, c, e2, e3⟩ := row_slice e1
      exact over (lo := 0) (hi := es.length) (A' := A) hb e2 (by rw [hv, e2, Nat.sub_zero, Nat.sub_zero]) (Nat.zero_le _) (Nat.le_refl _) (fun _ => (map_add0 A sz).symm) hsz0 (by simpa using h)
    · exact h.elim
  rename_i hFX
  obtain ⟨rfl, rfl, h⟩ := h
  have hbs := blk_some hb (fun g e => by cases e)
  have hbl : b < S.h.length := (List.getElem?_eq_some_iff.1 hbs).1
  obtain ⟨xs, e1, e2, e3, e4⟩ := hC.blk b _ hbs
  obtain ⟨ys, rd, A, cy, ⟨hlen, hK⟩, hvy, hreads⟩ := list_rep hC hy h
  obtain ⟨news, hR, hone, hcell⟩ := hreads _ hlen
  have hsz := run_sizeT hT hke' w
  have hexec : ∀ {v' : Value} {w' : World}, (Builtin.copy_ #[t, t'] o.type #[σ b g', .slice A ys.length cy]).run P w = .ok v' w' → (execOp a.eval o).run P w = .ok (.value v') w' := by
    intro v' w' h2
    simp [execOp, ho, resolve, invoke, builtin, hv, hvy, h2]
  have hgen : S.G b = g' := by rw [blk_gen, hb]; rfl
  have hGe : (S.put none (.v (.c .un)) [(b, Blk.row g' E (T e).size (ys.take es.length ++ es.drop ys.length))]).G = S.G := by
    funext c
    by_cases hc : c = b
    · subst hc; rw [hgen]; simp [St.G, St.put, hbl, Blk.gen]
    · simp [St.G, St.put, List.getElem?_set_ne (fun e => hc e.symm)]
  have hnl : (ys.take es.length ++ es.drop ys.length).length = es.length := by simp; omega
  have hl2 : ∀ f ∈ ys.take es.length ++ es.drop ys.length, f.length = (T e).size := by
    intro f hf
    rcases List.mem_append.1 hf with hf | hf
    · exact hlen f (List.mem_of_mem_take hf)
    · exact e2 f (List.mem_of_mem_drop hf)
  replace e1 := e1.to (Nat.lt_of_le_of_lt (Nat.le_of_ble_eq_true hFX) (by decide))
  rcases e1.2 with ⟨e5, e6⟩ | ⟨m, cap, cur, e5, e6, e7, e8, e9, e10, e11⟩
  · -- no cells at all
    have hes : es = [] := List.eq_nil_of_length_eq_zero e6
    subst hes
    have hrun : (Builtin.copy_ #[t, t'] o.type #[σ b g', .slice A ys.length cy]).run P w = .ok (.int .i64 (0 : Nat)) w := by
      rw [e5]
      have hl : ∀ (x : Addr), (loadCells x 0).run P w = .ok #[] w := fun x => by simpa using run_loadCells_list (P := P) w x [] (by simp)
      cases A <;> simp [Builtin.copy_, run_underlying hd', Builtin.lenOf, Builtin.firstCells, hsz, hl, goInt]
    have hK' : K (ATint ((0 : Nat) : Int)) [(b, .row g' E (T e).size [])] (b :: rd) := by simpa using hK
    refine ⟨_, w, _, _, _, Or.inl (hexec hrun), hK', by simp [hbl], ok, σ, ?_⟩
    have hsame : S.put o.dst (ATint ((0 : Nat) : Int)) [(b, Blk.row g' E (T e).size [])] = S.put o.dst (ATint ((0 : Nat) : Int)) [] := by
      simp only [St.put, List.foldl_cons, List.foldl_nil]
      congr 1
      exact List.ext_getElem? fun i => by
        by_cases hi : b = i
        · subst hi; rw [List.getElem?_set_self hbl, hbs]
        · rw [List.getElem?_set_ne hi]
    rw [hsame]
    exact hC.stay (grown_refl w) (fun _ h => h) hC.okb (fun _ h => Or.inl h) (rep_sc rfl)
  · have hcs : es.length * (T e).size ≤ cap * (T e).size := Nat.mul_le_mul_right _ e8
    have hrun := run_copy_sz (P := P) w t t' o.type e m es.length cap cur E A ys.length cy (T e).size news hd' hsz hR hone e7 (by rw [e10]; exact hcs)
    rw [← e5] at hrun
    have hxl : xs.length = es.length * (T e).size := e1.1
    have eno : ¬ ok m := e3.nok m (by rw [e5]; rfl)
    refine ⟨_, _, _, _, _, Or.inl (hexec hrun), hK, by simp [hbl], ok, σ, ?_⟩
    refine hC.step (row := some m) (grown_setRow w m _) (fun n' hn' => ?_) (fun _ h => h) (fun k hk' => by simp; exact hC.okb k hk') (fun _ h => Or.inl h) hbl (by rw [hgen]; exact Nat.le_refl _) (fun _ _ _ => rfl) ?_ (fun n' hn' c C hc hC' hn'' => ?_) (rep_sc rfl)
    · injection hn' with hn'
      subst hn'
      refine ⟨e3.has m (by rw [e5]; rfl), eno, fun c C hc hC' hn'' => ?_⟩
      exact hC.apart b c _ C hbs hC' (fun e => hc e.symm) m (by simp [Blk.at, e5, Value.blkNo]) hn''
    · rw [hGe]
      have hnewl : news.length = ys.length * (T e).size := hR.1
      have hfl : (news.take (es.length * (T e).size)).length ≤ es.length * (T e).size := by rw [List.length_take]; omega
      have hcurl : es.length * (T e).size ≤ cur.size := by rw [e10]; exact hcs
      refine ⟨news.take (es.length * (T e).size) ++ xs.drop (news.take (es.length * (T e).size)).length, ⟨by rw [hnl, List.length_append, List.length_drop, hxl]; omega, Or.inr ⟨m, cap, _, by rw [hnl]; exact e5, e6, ⟨_, _, setRow_heap w m cur _ E (0, 0) e7, Or.inl ⟨rfl, rfl⟩⟩, by rw [hnl]; exact e8, e9, ?_, ?_⟩⟩, hl2, by rw [hnl]; exact e3, fun k f j z hf hz => ?_⟩
      · simp only [List.size_toArray, List.length_append, List.length_drop, Array.length_toList]
        rw [e10] at hcurl ⊢
        omega
      · rw [hnl, List.take_append, ← e11]
        rw [List.take_of_length_le hfl, List.drop_take]
      · have hRI : ∀ {x : IV} {v : Value}, RepI w ok x v → RepI (w.setRow m (news.take (es.length * (T e).size) ++ cur.toList.drop (news.take (es.length * (T e).size)).length).toArray) ok x v :=
          fun h => RepI.mono (fun _ h => h) (fun k' hk' => setRow_other w m k' _ (fun e => by subst e; exact eno hk')) h
        have hjl : j < (T e).size := by rw [← hl2 f (List.mem_of_getElem? hf)]; exact (List.getElem?_eq_some_iff.1 hz).1
        rw [List.getElem?_append] at hf
        split at hf
        · rename_i hkl
          rw [List.length_take] at hkl
          rw [List.getElem?_take, if_pos (by omega)] at hf
          obtain ⟨u, hu, hr⟩ := hcell k f j z hf hz
          refine ⟨u, ?_, hRI hr, hone u (List.mem_of_getElem? hu)⟩
          have hlt : k * (T e).size + j < es.length * (T e).size := by
            have h1 : (k + 1) * (T e).size ≤ es.length * (T e).size := Nat.mul_le_mul_right _ (by omega)
            rw [Nat.add_mul, Nat.one_mul] at h1
            omega
          have hlt2 : k * (T e).size + j < news.length := (List.getElem?_eq_some_iff.1 hu).1
          rw [List.getElem?_append_left (by rw [List.length_take]; omega), List.getElem?_take, if_pos hlt]
          exact hu
        · rename_i hkl
          rw [List.length_take] at hkl
          rw [List.length_take, List.getElem?_drop] at hf
          have hlt : ys.length + (k - min es.length ys.length) < es.length := (List.getElem?_eq_some_iff.1 hf).1
          have hyl : ys.length ≤ es.length := by omega
          rw [Nat.min_eq_right hyl] at hkl hf hlt
          rw [show ys.length + (k - ys.length) = k by omega] at hf
          obtain ⟨u, hu, hr, ho'⟩ := e4 k f j z hf hz
          refine ⟨u, ?_, hRI hr, ho'⟩
          have h2 : ys.length * (T e).size ≤ es.length * (T e).size := Nat.mul_le_mul_right _ hyl
          have h3 : ys.length * (T e).size ≤ k * (T e).size := Nat.mul_le_mul_right _ (by omega)
          have h4 : (news.take (es.length * (T e).size)).length = ys.length * (T e).size := by rw [List.length_take, hnewl]; omega
          rw [List.getElem?_append_right (by rw [h4]; omega), h4, List.getElem?_drop, show ys.length * (T e).size + (k * (T e).size + j - ys.length * (T e).size) = k * (T e).size + j by omega]
          exact hu
    · exact hC.apart b c _ C hbs hC' (fun e => hc e.symm) n' hn' hn''

theorem done_convB (hT : TabOk P T) (hC : Conf W0 ok σ S a w) {src dst : Nat} {x : Operand} (ho : o.op = .convert src dst x) (h : effConvB T S.blk src dst (S.ev x) K) : Done P W0 S o a w K := by
  unfold effConvB at h
  split at h
  case h_2 => exact done_conv hT hC ho h
  rename_i e hk
  have h1 := hT.desc src
  rw [hk] at h1
  split at h
  case h_2 => exact h.elim
  rename_i hk2
  have h2 := hT.desc dst
  rw [hk2] at h2
  obtain ⟨hke, h⟩ := h
  have h3 := hT.desc e
  rw [hke] at h3
  have h1' : P.underlying src = some (.slice e) := h1
  have h2' : P.underlying dst = some .string := h2
  have h3' : P.underlying e = some (.int .u8) := h3
  obtain ⟨es, d, A, c, ⟨ws, rfl, hK⟩, hv, hreads⟩ := list_rep hC (ev_rep hC x) h
  obtain ⟨xs, hR, hone, hcell⟩ := hreads 1 (fun z hz => by
    obtain ⟨s, _, rfl⟩ := List.mem_map.1 hz
    rfl)
  have hlen : (cVb ws).length = ws.length := by simp [cVb]
  rw [hlen] at hR hv
  have hxs : xs = ws.map (Value.int .u8) := by
    apply List.ext_getElem?
    intro k
    by_cases hk : k < ws.length
    · obtain ⟨u, hu, hr⟩ := hcell k [.sc (.int .u8 ws[k])] 0 (.sc (.int .u8 ws[k])) (by simp [cVb, hk]) rfl
      rw [Nat.mul_one, Nat.add_zero] at hu
      rw [hu, RepI_sc hr]
      simp [hk]
    · rw [List.getElem?_eq_none (by rw [hR.1]; omega), List.getElem?_eq_none (by simp; omega)]
  have hrun : (convert src dst (a.eval x)).run P w = .ok (.string (bytesStr ws)) w := by
    rw [hv]
    have hload : ∀ (ad : Addr), (loadCells ad ws.length).run P w = .ok (ws.map (Value.int .u8)).toArray w → (convert src dst (.slice (some ad) ws.length c)).run P w = .ok (.string (bytesStr ws)) w := by
      intro ad hl
      rw [run_convert_bytes_string w src dst e (some ad) ws.length c h1' h3' h2', run_bytesToString w ad ws.length c ws hl]
      have : ∀ (ns : List Int) (s : ByteArray), ns.foldl (fun r n => r.push (UInt8.ofNat n.toNat)) s = ⟨s.data ++ (ns.map fun n => UInt8.ofNat n.toNat).toArray⟩ := by
        intro ns
        induction ns with
        | nil => intro s; simp
        | cons n ns ih => intro s; rw [List.foldl_cons, ih]; simp [ByteArray.push]
      rw [this]
      have he0 : ByteArray.empty.data = #[] := rfl
      rw [he0]
      simp [bytesStr]
    rcases Nat.eq_zero_or_pos ws.length with h0 | h0
    · have hw : ws = [] := List.eq_nil_of_length_eq_zero h0
      subst hw
      cases A with
      | none =>
        rw [run_convert_bytes_string w src dst e none _ c h1' h3' h2']
        rfl
      | some ad => exact hload ad (by simpa using run_loadCells_list (P := P) w ad [] (by simp))
    · obtain ⟨ad, rfl, _, hc⟩ := hR.2 h0
      refine hload ad ?_
      have := run_loadCells_list (P := P) w ad xs hc
      rw [hR.1, Nat.mul_one] at this
      rw [this, hxs]
  exact done_pure hC (v := .string (bytesStr ws)) (by simp [execOp, ho, hrun]) (rep_sc rfl) hK

/-- A part of a value. -/
theorem part_rep (hT : TabOk P T) {G : Nat → Nat} {t : Nat} (hk : (T t).k ≠ .none) {az : Array Value} {cs : List AV1} {off : Nat} {K : AT → Prop} (h0 : az.size = cs.length)
    (hz : ∀ (j : Nat) u x, az[j]? = some u → cs[j]? = some x → Rep1 w ok σ G x u ∧ u.oneCell' = true) (h : partK (T t) cs off K) : ∃ v r, (part t az off).run P w = .ok v w ∧ RepT w ok σ G r v ∧ K r := by
  unfold partK at h
  unfold part
  cases ha : (T t).k.agg with
  | true =>
    rw [ha] at h
    cases hl : Nat.ble (off + (T t).size) cs.length with
    | false => rw [hl] at h; exact h.elim
    | true =>
      rw [hl] at h
      simp only [lay_eq] at h
      have hle : off + (T t).size ≤ cs.length := Nat.le_of_ble_eq_true hl
      refine ⟨.agg (az.extract off (off + (T t).size)), .v (.agg ((cs.drop off).take (T t).size)), by simp [run_aggT hT hk, run_sizeT hT hk, ha], ⟨_, rfl, by simp; omega, fun j u x hu hx => ?_⟩, h⟩
      rw [Array.getElem?_extract] at hu
      split at hu
      · rw [List.getElem?_take] at hx
        split at hx
        · rw [List.getElem?_drop] at hx
          exact hz _ u x hu hx
        · cases hx
      · cases hu
  | false =>
    rw [ha] at h
    rw [nthO_eq] at h
    cases hx : cs[off]? with
    | none => rw [hx] at h; exact h.elim
    | some x =>
      rw [hx] at h
      have hlt : off < az.size := by rw [h0]; exact (List.getElem?_eq_some_iff.1 hx).1
      exact ⟨az[off], .v (.c x), by simp [run_aggT hT hk, ha, Array.getElem?_eq_getElem hlt], (hz off _ x (Array.getElem?_eq_getElem hlt) hx).1, h⟩

theorem done_indexV (hT : TabOk P T) (hC : Conf W0 ok σ S a w) {t : Nat} {x i : Operand} (ho : o.op = .index t x i) (h : effIndexV T t (S.ev x) (S.ev i) K) : Done P W0 S o a w K := by
  have hx := ev_rep hC x
  have hi := ev_rep hC i
  unfold effIndexV at h
  split at h
  case h_2 => exact h.elim
  rename_i k n hev
  rw [hev] at hi
  have hi' : a.eval i = .int k n := RepI_sc hi
  have hd := hT.desc t
  split at h
  case h_3 => exact h.elim
  · rename_i hk
    rw [hk] at hd
    have hd' : P.underlying t = some .string := hd
    split at h
    case h_2 => exact h.elim
    rename_i s hev2
    rw [hev2] at hx
    have hx' : a.eval x = .string s := RepI_sc hx
    obtain ⟨h0, c, hc, hK⟩ := h
    exact done_pure hC (v := .int .u8 c.toNat) (by simp [execOp, ho, Instr.index, hi', asIntOf, hx', run_underlying hd', h0, hc]) (rep_sc rfl) hK
  · rename_i len e hk
    rw [hk] at hd
    have hd' : P.underlying t = some (.array len e) := hd
    have hke : (T e).k ≠ .none := fun e' => by rw [e'] at h; exact h
    split at h
    · exact h.elim
    split at h
    case h_2 => exact h.elim
    rename_i cs hev2
    rw [hev2] at hx
    obtain ⟨arr, e1, e2, e3⟩ := hx
    split at h
    case h_2 => exact h.elim
    obtain ⟨h0, hlt, h⟩ := h
    obtain ⟨v, r, h1, h2, h3⟩ := part_rep (w := w) (ok := ok) (σ := σ) (G := S.G) hT hke e2 e3 h
    have hlt' : n < (len : Int) := toNat_lt h0 hlt
    exact done_pure hC (v := v) (by simp [execOp, ho, Instr.index, hi', asIntOf, e1, run_underlying hd', h0, hlt', run_sizeT hT hke, h1]) h2 h3

theorem done_fieldV (hT : TabOk P T) (hC : Conf W0 ok σ S a w) {s f : Nat} {x : Operand} (ho : o.op = .field s x f) (h : effFieldV T s (S.ev x) f K) : Done P W0 S o a w K := by
  have hx := ev_rep hC x
  unfold effFieldV at h
  split at h
  case h_2 => exact h.elim
  rename_i fs hs
  split at h
  case h_2 => exact h.elim
  rename_i oo ft hf
  have hk : (T ft).k ≠ .none := fun e => by rw [e] at h; exact h
  split at h
  · exact h.elim
  split at h
  case h_2 => exact h.elim
  rename_i cs hev
  rw [hev] at hx
  obtain ⟨arr, e1, e2, e3⟩ := hx
  have hd := hT.desc s
  rw [hs] at hd
  obtain ⟨F, hu, hF⟩ := hd
  rw [nthO_eq] at hf
  have hfld : ∃ fld : Field, F[f]? = some fld ∧ fld.offset = oo ∧ fld.type = ft := by
    rw [← hF, List.getElem?_map] at hf
    obtain ⟨fld, h1, h2⟩ := Option.map_eq_some_iff.1 hf
    injection h2 with h2 h3
    exact ⟨fld, by rw [← Array.getElem?_toList]; exact h1, h2, h3⟩
  obtain ⟨fld, hfl, rfl, rfl⟩ := hfld
  obtain ⟨v, r, h1, h2, h3⟩ := part_rep (w := w) (ok := ok) (σ := σ) (G := S.G) hT hk e2 e3 h
  exact done_pure hC (v := v) (by simp [execOp, ho, Instr.field, run_underlying hu, hfl, e1, asAgg, h1]) h2 h3

theorem caps_rep (hC : Conf W0 ok σ S a w) (l : List Operand) : ∀ {K : List Cap → Prop}, capsK (l.map S.ev) K → ∃ ps, K ps ∧ ps.length = l.length ∧ ∀ (j : Nat) p x, ps[j]? = some p → l[j]? = some x → RepC w ok σ S.G p (a.eval x) := by
  induction l with
  | nil => intro K h; exact ⟨[], h, rfl, fun j p x hp => by simp at hp⟩
  | cons x l ih =>
    intro K h
    simp only [List.map_cons, capsK] at h
    have hx := ev_rep hC x
    have : ∃ p, (capsK (l.map S.ev) fun ps => K (p :: ps)) ∧ RepC w ok σ S.G p (a.eval x) := by
      unfold capK at h
      split at h
      · rename_i b g off hev; rw [hev] at hx; exact ⟨_, h, hx⟩
      · rename_i cs hev; rw [hev] at hx; exact ⟨_, h, hx⟩
      · rename_i v hev
        rw [hev] at hx
        refine ⟨_, h, RepI_sc hx, ?_⟩
        cases hx
        assumption
      · exact h.elim
    obtain ⟨p, h1, h2⟩ := this
    obtain ⟨ps, h3, h4, h5⟩ := ih h1
    refine ⟨_, h3, by simp [h4], fun j q y hq hy => ?_⟩
    cases j with
    | zero => simp at hq hy; subst hq hy; exact h2
    | succ j => exact h5 j q y (by simpa using hq) (by simpa using hy)

theorem done_makeFunc (hC : Conf W0 ok σ S a w) {f : FuncId} {l : List Operand} (ho : o.op = .makeFunc (.func f) #[] l.toArray) (h : capsK (l.map S.ev) fun ps => K (.v (.c (.clo f ps))) [] []) : Done P W0 S o a w K := by
  obtain ⟨ps, hK, hl, hr⟩ := caps_rep hC l h
  refine done_pure hC (v := .func (.func f) #[] (l.map a.eval).toArray) (r := .v (.c (.clo f ps))) (by simp [execOp, ho, Instr.makeFunc]) ⟨l.map a.eval, rfl, by simp [hl], fun j p u hp hu => ?_⟩ hK
  rw [List.getElem?_map] at hu
  obtain ⟨x, hx, rfl⟩ := Option.map_eq_some_iff.1 hu
  exact hr j p x hp hx
theorem done_convN (hT : TabOk P T) (hC : Conf W0 ok σ S a w) {src dst : Nat} {x : Operand} (ho : o.op = .convert src dst x) (h : effConvN T S.blk S.h.length o.dst src dst (S.ev x) K) : Done P W0 S o a w K := by
  unfold effConvN at h
  split at h
  case h_2 => exact done_convB hT hC ho h
  rename_i hk
  split at h
  case h_2 => exact done_convB hT hC ho h
  rename_i e hk2
  have h1 := hT.desc src
  rw [hk] at h1
  have h2 := hT.desc dst
  rw [hk2] at h2
  have hx := ev_rep hC x
  split at h
  case h_2 => exact h.elim
  rename_i s hev
  rw [hev] at hx
  split at h
  case h_2 => exact h.elim
  rename_i d hd
  split at h
  case h_2 => exact h.elim
  rename_i hdl hs1
  obtain ⟨hke, hsz, hK⟩ := h
  have h3 := hT.desc e
  rw [hke] at h3
  have h1' : P.underlying src = some .string := h1
  have h2' : P.underlying dst = some (.slice e) := h2
  have h3' : P.underlying e = some (.int .u8) := h3
  simp only [Bool.and_eq_true] at hdl
  have hdl' : d < S.h.length := by simpa using hdl.1
  rw [genK_eq, ← blk_gen] at hK
  have hxs : a.eval x = .string s := RepI_sc hx
  have hge := grownCap_ge w s.size 0 e
  have hcm := grownCap_le_maxLen w s.size 0 e (by unfold maxLen; omega)
  have hsd : s.data.size = s.size := rfl
  have hcs : (Lib.bytesCells w e s).size = grownCap w s.size 0 e := by
    simp only [Lib.bytesCells, Array.size_append, Array.size_map, Array.size_replicate, hsd]
    omega
  refine done_row (xs := s.data.toList.map fun b => Value.int .u8 b.toNat) hC hdl' (v' := .slice (some ⟨w.heap.size, 0, none⟩) s.size (grownCap w s.size 0 e)) (w' := Lib.bytesWorld w e s) (by
      simp only [execOp, ho, hxs, Sem.run_bind, Lib.run_convert_string_bytes w src dst e s h1' h2' h3', Result.andThen_ok, Sem.run_pure]) (row := none)
    ⟨rfl, rfl, rfl, by rw [Lib.bytesWorld_size]; omega, fun k hk _ => Lib.bytesWorld_at_old w e s k hk⟩ (by simp)
    (base := 0) ⟨by simp [sBytes], Or.inr ⟨w.heap.size, grownCap w s.size 0 e, _, by simp [sBytes, hsd], Nat.zero_le _, ⟨_, _, Lib.bytesWorld_at_new w e s, Or.inr ⟨Nat.le_add_left _ _, Or.inr (by dsimp only; omega)⟩⟩, by simp [sBytes, hsd]; exact hge, hcm, by rw [hcs, Nat.mul_one], ?_⟩⟩ (fun h => by
      have := Nat.le_of_ble_eq_true hdl.2
      have hF : FX = 1000000 := rfl
      unfold CX at h
      omega)
    (fun f hf => ?_) (fun n hn => by simp [Value.ownBlock] at hn; right; omega) (fun k f j y hk' hj => ?_) hK
  · simp only [Lib.bytesCells, sBytes, List.length_map, Nat.mul_one, Array.toList_append, Array.toList_map]
    exact List.take_left' (by simp)
  · obtain ⟨b, _, rfl⟩ := List.mem_map.1 hf
    rfl
  · simp only [sBytes, List.getElem?_map, Option.map_eq_some_iff] at hk'
    obtain ⟨b, hb, rfl⟩ := hk'
    cases j with
    | zero =>
      simp at hj
      subst hj
      refine ⟨_, by rw [Nat.mul_one, Nat.add_zero, List.getElem?_map, hb]; rfl, .sc _ rfl⟩
    | succ j => simp at hj
end
end Go.Proofs.YtikchieadclbhaaGreatDoor.Ab
