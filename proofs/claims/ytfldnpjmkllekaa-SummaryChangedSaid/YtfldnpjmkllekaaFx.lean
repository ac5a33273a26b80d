/- Copies, bytes as strings, parts of values, function values: the model's operations follow the abstract ones. No condition. -/
import Derived.Test.YtfldnpjmkllekaaFf
namespace Go.Proofs.Ytfldnpjmkllekaa.Ab
set_option linter.unusedVariables false
set_option linter.unusedSimpArgs false
open Go.RowKit

def effCopy (T : Nat → TI) (H : Nat → Blk) (t : Nat) (x y : AT) (K : Kont) : Prop :=
  match (T t).k with
  | .slice e => match (T e).k with
    | .none => False
    | _ => match x with
      | .v (.c (.own b g)) => match H b with
        | .row g' E sz es => match Nat.ble E 999999 with
          | true => g' = g ∧ sz = (T e).size ∧ listK H y fun ys rd => (∀ z ∈ ys, z.length = sz) ∧ K (ATint (min ys.length es.length : Nat)) [(b, .row g E sz (ys.take es.length ++ es.drop ys.length))] (b :: rd)
          | false => False
        | _ => False
      | _ => False
  | _ => False

def cVb (ws : List Int) : List (List IV) := ws.map fun s => [.sc (.int .u8 s)]
def bytesStr (ws : List Int) : ByteArray := ⟨(ws.map fun n => UInt8.ofNat n.toNat).toArray⟩
def effConvB (T : Nat → TI) (H : Nat → Blk) (src dst : Nat) (x : AT) (K : Kont) : Prop :=
  match (T src).k with
  | .slice e => match (T dst).k with
    | .str => (T e).k = .int .u8 ∧ listK H x fun es d => ∃ ws : List Int, es = cVb ws ∧ K (.v (.c (.i (.sc (.string (bytesStr ws)))))) [] d
    | _ => False
  | _ => effConv T src dst x K

/-- The bytes of a string, as a row that is never grown. -/
def sBytes (s : ByteArray) : List (List IV) := s.data.toList.map fun b => [.sc (.int .u8 b.toNat)]
def effConvN (T : Nat → TI) (H : Nat → Blk) (n : Nat) (dst : Option Tmp) (src dt : Nat) (x : AT) (K : Kont) : Prop :=
  match (T src).k with
  | .str => match (T dt).k with
    | .slice e => match x with
      | .v (.c (.i (.sc (.string s)))) => match dst with
        | some d => match Nat.blt d n, Nat.beq (T e).size 1 with
          | true, true => (T e).k = .int .u8 ∧ s.size ≤ 140737488355328 ∧ genK (H d) fun g => K (.v (.c (.own d (g + 1)))) [(d, .row (g + 1) (e + 1000000) 1 (sBytes s))] [d]
          | _, _ => False
        | none => False
      | _ => False
    | _ => effConvB T H src dt x K
  | _ => effConvB T H src dt x K

def effIndexV (T : Nat → TI) (t : Nat) (x i : AT) (K : Kont) : Prop :=
  match i with
  | .v (.c (.i (.sc (.int _ n)))) => match (T t).k with
    | .str => match x with
      | .v (.c (.i (.sc (.string s)))) => 0 ≤ n ∧ ∃ c : UInt8, s[n.toNat]? = some c ∧ K (.v (.c (.i (.sc (.int .u8 c.toNat))))) [] []
      | _ => False
    | .arr len e => match (T e).k with
      | .none => False
      | _ => match x with
        | .v (.agg cs) => match Nat.beq cs.length (T t).size with
          | true => 0 ≤ n ∧ n.toNat < len ∧ partK (T e) cs (n.toNat * (T e).size) fun r => K r [] []
          | false => False
        | _ => False
    | _ => False
  | _ => False

def effFieldV (T : Nat → TI) (s : Nat) (x : AT) (f : Nat) (K : Kont) : Prop :=
  match (T s).k with
  | .struct fs => match nthO fs f with
    | some (o, ft) => match (T ft).k with
      | .none => False
      | _ => match x with
        | .v (.agg cs) => partK (T ft) cs o fun r => K r [] []
        | _ => False
    | none => False
  | _ => False

def capK (x : AT) (K : Cap → Prop) : Prop :=
  match x with
  | .v (.c (.ptr b g off)) => K (.ptr b g off)
  | .v (.c (.pim cs)) => K (.pim cs)
  | .v (.c (.i (.sc v))) => K (.sc v)
  | _ => False
def capsK : List AT → (List Cap → Prop) → Prop
  | [], K => K []
  | x :: l, K => capK x fun p => capsK l fun ps => K (p :: ps)

section
variable {P : Program} {T : Nat → TI} {W0 : Ent} {w : World} {ok : Nat → Prop} {σ : Nat → Nat → Value} {S : St} {a : Act} {o : Oper} {K : Kont}

theorem run_copy_sz (w : World) (dT sT ty e : TypeId) (m dLen dCap : Nat) (cur : Array Value) (E : TypeId) (A : Option Addr) (sLen sCap sz : Nat) (news : List Value) {B : Nat} (hu : P.underlying dT = some (.slice e)) (hs : (sizeOf e).run P w = .ok sz w)
    (hR : Reads w B sz A sLen news) (h1 : ∀ u ∈ news, u.oneCell' = true) (hg : w.heap[m]? = some (.cells cur E (0, 0))) (hfit : dLen * sz ≤ cur.size) :
    (Builtin.copy_ #[dT, sT] ty #[.slice (some ⟨m, 0, none⟩) dLen dCap, .slice A sLen sCap]).run P w = .ok (.int .i64 (min sLen dLen : Nat)) (w.setRow m (news.take (dLen * sz) ++ cur.toList.drop (news.take (dLen * sz)).length).toArray) := by
  have hmin : Nat.min sLen dLen = min sLen dLen := rfl
  have hl1 : (news.take (dLen * sz)).length = min sLen dLen * sz := by
    rw [List.length_take, hR.1]
    rcases Nat.le_total sLen dLen with h | h
    · have := Nat.mul_le_mul_right sz h
      rw [Nat.min_eq_left h]; omega
    · have := Nat.mul_le_mul_right sz h
      rw [Nat.min_eq_right h]; omega
  have hst := run_storeCells_at P m 0 E (news.take (dLen * sz)) 0 cur w hg (by rw [hl1]; have := Nat.mul_le_mul_right sz (Nat.min_le_right sLen dLen); omega) (fun u hu => h1 u (List.mem_of_mem_take hu))
  simp only [Nat.add_zero, Nat.zero_add, List.take_zero, List.nil_append] at hst
  have hfc : (Builtin.firstCells sz (min sLen dLen) (.slice A sLen sCap)).run P w = .ok (news.take (dLen * sz)).toArray w := by
    rcases Nat.eq_zero_or_pos sLen with h0 | h0
    · subst h0
      have hn : news = [] := List.eq_nil_of_length_eq_zero (by rw [hR.1]; simp)
      subst hn
      have hl : ∀ (x : Addr), (loadCells x 0).run P w = .ok #[] w := fun x => by simpa using run_loadCells_list (P := P) w x [] (by simp)
      cases A <;> simp [Builtin.firstCells, hl]
    · obtain ⟨ad, rfl, _, hc⟩ := hR.2 h0
      have := run_loadCells_list (P := P) w ad (news.take (dLen * sz)) (fun j v hj => by
        rw [List.getElem?_take] at hj
        split at hj
        · exact hc j v hj
        · cases hj)
      rw [hl1] at this
      simpa [Builtin.firstCells] using this
  simp [Builtin.copy_, run_underlying hu, Builtin.lenOf, hmin, hs, hfc, hst, goInt]

theorem done_copy (hT : TabOk P T) (hC : Conf W0 ok σ S a w) {t t' : Nat} {x y : Operand} (ho : o.op = .call { callee := .builtin .copy, args := #[x, y], argTypes := #[t, t'] })
    (h : effCopy T S.blk t (S.ev x) (S.ev y) K) : Done P W0 S o a w K := by
  have hx := ev_rep hC x
  have hy := ev_rep hC y
  have hd := hT.desc t
  unfold effCopy at h
  split at h
  case h_2 => exact h.elim
  rename_i e hk
  rw [hk] at hd
  have hd' : P.underlying t = some (.slice e) := hd
  split at h
  · exact h.elim
  rename_i hke
  have hke' : (T e).k ≠ .none := hke
  split at h
  case h_2 => exact h.elim
  rename_i b g hev
  rw [hev] at hx
  obtain ⟨hg, hv, _⟩ := hx
  split at h
  case h_2 => exact h.elim
  rename_i g' E sz es hb
  split at h
  case h_2 => exact h.elim
  rename_i hFX
  obtain ⟨rfl, rfl, h⟩ := h
  have hbs := blk_some hb (fun g e => by cases e)
  have hbl : b < S.h.length := (List.getElem?_eq_some_iff.1 hbs).1
  obtain ⟨xs, e1, e2, e3, e4⟩ := hC.blk b _ hbs
  obtain ⟨ys, rd, A, cy, ⟨hlen, hK⟩, hvy, hreads⟩ := list_rep hC hy h
  obtain ⟨news, hR, hone, hcell⟩ := hreads _ hlen
  have hsz := run_sizeT hT hke' w
  have hexec : ∀ {v' : Value} {w' : World}, (Builtin.copy_ #[t, t'] o.type #[σ b g', .slice A ys.length cy]).run P w = .ok v' w' → (execOp a.eval o).run P w = .ok (.value v') w' := by
    intro v' w' h2
    simp [execOp, ho, resolve, invoke, builtin, hv, hvy, h2]
  have hgen : S.G b = g' := by rw [blk_gen, hb]; rfl
  have hGe : (S.put none (.v (.c .un)) [(b, Blk.row g' E (T e).size (ys.take es.length ++ es.drop ys.length))]).G = S.G := by
    funext c
    by_cases hc : c = b
    · subst hc; rw [hgen]; simp [St.G, St.put, hbl, Blk.gen]
    · simp [St.G, St.put, List.getElem?_set_ne (fun e => hc e.symm)]
  have hnl : (ys.take es.length ++ es.drop ys.length).length = es.length := by simp; omega
  have hl2 : ∀ f ∈ ys.take es.length ++ es.drop ys.length, f.length = (T e).size := by
    intro f hf
    rcases List.mem_append.1 hf with hf | hf
    · exact hlen f (List.mem_of_mem_take hf)
    · exact e2 f (List.mem_of_mem_drop hf)
  replace e1 := e1.to (Nat.lt_of_le_of_lt (Nat.le_of_ble_eq_true hFX) (by decide))
  rcases e1.2 with ⟨e5, e6⟩ | ⟨m, cap, cur, e5, e6, e7, e8, e9, e10, e11⟩
  · -- no cells at all
    have hes : es = [] := List.eq_nil_of_length_eq_zero e6
    subst hes
    have hrun : (Builtin.copy_ #[t, t'] o.type #[σ b g', .slice A ys.length cy]).run P w = .ok (.int .i64 (0 : Nat)) w := by
      rw [e5]
      have hl : ∀ (x : Addr), (loadCells x 0).run P w = .ok #[] w := fun x => by simpa using run_loadCells_list (P := P) w x [] (by simp)
      cases A <;> simp [Builtin.copy_, run_underlying hd', Builtin.lenOf, Builtin.firstCells, hsz, hl, goInt]
    have hK' : K (ATint ((0 : Nat) : Int)) [(b, .row g' E (T e).size [])] (b :: rd) := by simpa using hK
    refine ⟨_, w, _, _, _, Or.inl (hexec hrun), hK', by simp [hbl], ok, σ, ?_⟩
    have hsame : S.put o.dst (ATint ((0 : Nat) : Int)) [(b, Blk.row g' E (T e).size [])] = S.put o.dst (ATint ((0 : Nat) : Int)) [] := by
      simp only [St.put, List.foldl_cons, List.foldl_nil]
      congr 1
      exact List.ext_getElem? fun i => by
        by_cases hi : b = i
        · subst hi; rw [List.getElem?_set_self hbl, hbs]
        · rw [List.getElem?_set_ne hi]
    rw [hsame]
    exact hC.stay (grown_refl w) (fun _ h => h) hC.okb (fun _ h => Or.inl h) (rep_sc rfl)
  · have hcs : es.length * (T e).size ≤ cap * (T e).size := Nat.mul_le_mul_right _ e8
    have hrun := run_copy_sz (P := P) w t t' o.type e m es.length cap cur E A ys.length cy (T e).size news hd' hsz hR hone e7 (by rw [e10]; exact hcs)
    rw [← e5] at hrun
    have hxl : xs.length = es.length * (T e).size := e1.1
    have eno : ¬ ok m := e3 m (by rw [e5]; rfl)
    refine ⟨_, _, _, _, _, Or.inl (hexec hrun), hK, by simp [hbl], ok, σ, ?_⟩
    refine hC.step (row := some m) (grown_setRow w m _) (fun n' hn' => ?_) (fun _ h => h) (fun k hk' => by simp; exact hC.okb k hk') (fun _ h => Or.inl h) hbl (by rw [hgen]; exact Nat.le_refl _) (fun _ _ _ => rfl) ?_ (fun n' hn' c C hc hC' hn'' => ?_) (rep_sc rfl)
    · injection hn' with hn'
      subst hn'
      refine ⟨Or.inl e6, eno, fun c C hc hC' hn'' => ?_⟩
      exact hC.apart b c _ C hbs hC' (fun e => hc e.symm) m (by simp [Blk.at, e5, Value.blkNo]) hn''
    · rw [hGe]
      have hnewl : news.length = ys.length * (T e).size := hR.1
      have hfl : (news.take (es.length * (T e).size)).length ≤ es.length * (T e).size := by rw [List.length_take]; omega
      have hcurl : es.length * (T e).size ≤ cur.size := by rw [e10]; exact hcs
      refine ⟨news.take (es.length * (T e).size) ++ xs.drop (news.take (es.length * (T e).size)).length, ⟨by rw [hnl, List.length_append, List.length_drop, hxl]; omega, Or.inr ⟨m, cap, _, by rw [hnl]; exact e5, e6, ⟨_, _, setRow_heap w m cur _ E (0, 0) e7, Or.inl ⟨rfl, rfl⟩⟩, by rw [hnl]; exact e8, e9, ?_, ?_⟩⟩, hl2, e3, fun k f j z hf hz => ?_⟩
      · simp only [List.size_toArray, List.length_append, List.length_drop, Array.length_toList]
        rw [e10] at hcurl ⊢
        omega
      · rw [hnl, List.take_append, ← e11]
        rw [List.take_of_length_le hfl, List.drop_take]
      · have hRI : ∀ {x : IV} {v : Value}, RepI w ok x v → RepI (w.setRow m (news.take (es.length * (T e).size) ++ cur.toList.drop (news.take (es.length * (T e).size)).length).toArray) ok x v :=
          fun h => RepI.mono (fun _ h => h) (fun k' hk' => setRow_other w m k' _ (fun e => by subst e; exact eno hk')) h
        have hjl : j < (T e).size := by rw [← hl2 f (List.mem_of_getElem? hf)]; exact (List.getElem?_eq_some_iff.1 hz).1
        rw [List.getElem?_append] at hf
        split at hf
        · rename_i hkl
          rw [List.length_take] at hkl
          rw [List.getElem?_take, if_pos (by omega)] at hf
          obtain ⟨u, hu, hr⟩ := hcell k f j z hf hz
          refine ⟨u, ?_, hRI hr, hone u (List.mem_of_getElem? hu)⟩
          have hlt : k * (T e).size + j < es.length * (T e).size := by
            have h1 : (k + 1) * (T e).size ≤ es.length * (T e).size := Nat.mul_le_mul_right _ (by omega)
            rw [Nat.add_mul, Nat.one_mul] at h1
            omega
          have hlt2 : k * (T e).size + j < news.length := (List.getElem?_eq_some_iff.1 hu).1
          rw [List.getElem?_append_left (by rw [List.length_take]; omega), List.getElem?_take, if_pos hlt]
          exact hu
        · rename_i hkl
          rw [List.length_take] at hkl
          rw [List.length_take, List.getElem?_drop] at hf
          have hlt : ys.length + (k - min es.length ys.length) < es.length := (List.getElem?_eq_some_iff.1 hf).1
          have hyl : ys.length ≤ es.length := by omega
          rw [Nat.min_eq_right hyl] at hkl hf hlt
          rw [show ys.length + (k - ys.length) = k by omega] at hf
          obtain ⟨u, hu, hr, ho'⟩ := e4 k f j z hf hz
          refine ⟨u, ?_, hRI hr, ho'⟩
          have h2 : ys.length * (T e).size ≤ es.length * (T e).size := Nat.mul_le_mul_right _ hyl
          have h3 : ys.length * (T e).size ≤ k * (T e).size := Nat.mul_le_mul_right _ (by omega)
          have h4 : (news.take (es.length * (T e).size)).length = ys.length * (T e).size := by rw [List.length_take, hnewl]; omega
          rw [List.getElem?_append_right (by rw [h4]; omega), h4, List.getElem?_drop, show ys.length * (T e).size + (k * (T e).size + j - ys.length * (T e).size) = k * (T e).size + j by omega]
          exact hu
    · exact hC.apart b c _ C hbs hC' (fun e => hc e.symm) n' hn' hn''

theorem done_convB (hT : TabOk P T) (hC : Conf W0 ok σ S a w) {src dst : Nat} {x : Operand} (ho : o.op = .convert src dst x) (h : effConvB T S.blk src dst (S.ev x) K) : Done P W0 S o a w K := by
  unfold effConvB at h
  split at h
  case h_2 => exact done_conv hT hC ho h
  rename_i e hk
  have h1 := hT.desc src
  rw [hk] at h1
  split at h
  case h_2 => exact h.elim
  rename_i hk2
  have h2 := hT.desc dst
  rw [hk2] at h2
  obtain ⟨hke, h⟩ := h
  have h3 := hT.desc e
  rw [hke] at h3
  have h1' : P.underlying src = some (.slice e) := h1
  have h2' : P.underlying dst = some .string := h2
  have h3' : P.underlying e = some (.int .u8) := h3
  obtain ⟨es, d, A, c, ⟨ws, rfl, hK⟩, hv, hreads⟩ := list_rep hC (ev_rep hC x) h
  obtain ⟨xs, hR, hone, hcell⟩ := hreads 1 (fun z hz => by
    obtain ⟨s, _, rfl⟩ := List.mem_map.1 hz
    rfl)
  have hlen : (cVb ws).length = ws.length := by simp [cVb]
  rw [hlen] at hR hv
  have hxs : xs = ws.map (Value.int .u8) := by
    apply List.ext_getElem?
    intro k
    by_cases hk : k < ws.length
    · obtain ⟨u, hu, hr⟩ := hcell k [.sc (.int .u8 ws[k])] 0 (.sc (.int .u8 ws[k])) (by simp [cVb, hk]) rfl
      rw [Nat.mul_one, Nat.add_zero] at hu
      rw [hu, RepI_sc hr]
      simp [hk]
    · rw [List.getElem?_eq_none (by rw [hR.1]; omega), List.getElem?_eq_none (by simp; omega)]
  have hrun : (convert src dst (a.eval x)).run P w = .ok (.string (bytesStr ws)) w := by
    rw [hv]
    have hload : ∀ (ad : Addr), (loadCells ad ws.length).run P w = .ok (ws.map (Value.int .u8)).toArray w → (convert src dst (.slice (some ad) ws.length c)).run P w = .ok (.string (bytesStr ws)) w := by
      intro ad hl
      rw [run_convert_bytes_string w src dst e (some ad) ws.length c h1' h3' h2', run_bytesToString w ad ws.length c ws hl]
      have : ∀ (ns : List Int) (s : ByteArray), ns.foldl (fun r n => r.push (UInt8.ofNat n.toNat)) s = ⟨s.data ++ (ns.map fun n => UInt8.ofNat n.toNat).toArray⟩ := by
        intro ns
        induction ns with
        | nil => intro s; simp
        | cons n ns ih => intro s; rw [List.foldl_cons, ih]; simp [ByteArray.push]
      rw [this]
      have he0 : ByteArray.empty.data = #[] := rfl
      rw [he0]
      simp [bytesStr]
    rcases Nat.eq_zero_or_pos ws.length with h0 | h0
    · have hw : ws = [] := List.eq_nil_of_length_eq_zero h0
      subst hw
      cases A with
      | none =>
        rw [run_convert_bytes_string w src dst e none _ c h1' h3' h2']
        rfl
      | some ad => exact hload ad (by simpa using run_loadCells_list (P := P) w ad [] (by simp))
    · obtain ⟨ad, rfl, _, hc⟩ := hR.2 h0
      refine hload ad ?_
      have := run_loadCells_list (P := P) w ad xs hc
      rw [hR.1, Nat.mul_one] at this
      rw [this, hxs]
  exact done_pure hC (v := .string (bytesStr ws)) (by simp [execOp, ho, hrun]) (rep_sc rfl) hK

/-- A part of a value. -/
theorem part_rep (hT : TabOk P T) {G : Nat → Nat} {t : Nat} (hk : (T t).k ≠ .none) {az : Array Value} {cs : List AV1} {off : Nat} {K : AT → Prop} (h0 : az.size = cs.length)
    (hz : ∀ (j : Nat) u x, az[j]? = some u → cs[j]? = some x → Rep1 w ok σ G x u ∧ u.oneCell' = true) (h : partK (T t) cs off K) : ∃ v r, (part t az off).run P w = .ok v w ∧ RepT w ok σ G r v ∧ K r := by
  unfold partK at h
  unfold part
  cases ha : (T t).k.agg with
  | true =>
    rw [ha] at h
    cases hl : Nat.ble (off + (T t).size) cs.length with
    | false => rw [hl] at h; exact h.elim
    | true =>
      rw [hl] at h
      simp only [lay_eq] at h
      have hle : off + (T t).size ≤ cs.length := Nat.le_of_ble_eq_true hl
      refine ⟨.agg (az.extract off (off + (T t).size)), .v (.agg ((cs.drop off).take (T t).size)), by simp [run_aggT hT hk, run_sizeT hT hk, ha], ⟨_, rfl, by simp; omega, fun j u x hu hx => ?_⟩, h⟩
      rw [Array.getElem?_extract] at hu
      split at hu
      · rw [List.getElem?_take] at hx
        split at hx
        · rw [List.getElem?_drop] at hx
          exact hz _ u x hu hx
        · cases hx
      · cases hu
  | false =>
    rw [ha] at h
    rw [nthO_eq] at h
    cases hx : cs[off]? with
    | none => rw [hx] at h; exact h.elim
    | some x =>
      rw [hx] at h
      have hlt : off < az.size := by rw [h0]; exact (List.getElem?_eq_some_iff.1 hx).1
      exact ⟨az[off], .v (.c x), by simp [run_aggT hT hk, ha, Array.getElem?_eq_getElem hlt], (hz off _ x (Array.getElem?_eq_getElem hlt) hx).1, h⟩

theorem done_indexV (hT : TabOk P T) (hC : Conf W0 ok σ S a w) {t : Nat} {x i : Operand} (ho : o.op = .index t x i) (h : effIndexV T t (S.ev x) (S.ev i) K) : Done P W0 S o a w K := by
  have hx := ev_rep hC x
  have hi := ev_rep hC i
  unfold effIndexV at h
  split at h
  case h_2 => exact h.elim
  rename_i k n hev
  rw [hev] at hi
  have hi' : a.eval i = .int k n := RepI_sc hi
  have hd := hT.desc t
  split at h
  case h_3 => exact h.elim
  · rename_i hk
    rw [hk] at hd
    have hd' : P.underlying t = some .string := hd
    split at h
    case h_2 => exact h.elim
    rename_i s hev2
    rw [hev2] at hx
    have hx' : a.eval x = .string s := RepI_sc hx
    obtain ⟨h0, c, hc, hK⟩ := h
    exact done_pure hC (v := .int .u8 c.toNat) (by simp [execOp, ho, Instr.index, hi', asIntOf, hx', run_underlying hd', h0, hc]) (rep_sc rfl) hK
  · rename_i len e hk
    rw [hk] at hd
    have hd' : P.underlying t = some (.array len e) := hd
    have hke : (T e).k ≠ .none := fun e' => by rw [e'] at h; exact h
    split at h
    · exact h.elim
    split at h
    case h_2 => exact h.elim
    rename_i cs hev2
    rw [hev2] at hx
    obtain ⟨arr, e1, e2, e3⟩ := hx
    split at h
    case h_2 => exact h.elim
    obtain ⟨h0, hlt, h⟩ := h
    obtain ⟨v, r, h1, h2, h3⟩ := part_rep (w := w) (ok := ok) (σ := σ) (G := S.G) hT hke e2 e3 h
    have hlt' : n < (len : Int) := toNat_lt h0 hlt
    exact done_pure hC (v := v) (by simp [execOp, ho, Instr.index, hi', asIntOf, e1, run_underlying hd', h0, hlt', run_sizeT hT hke, h1]) h2 h3

theorem done_fieldV (hT : TabOk P T) (hC : Conf W0 ok σ S a w) {s f : Nat} {x : Operand} (ho : o.op = .field s x f) (h : effFieldV T s (S.ev x) f K) : Done P W0 S o a w K := by
  have hx := ev_rep hC x
  unfold effFieldV at h
  split at h
  case h_2 => exact h.elim
  rename_i fs hs
  split at h
  case h_2 => exact h.elim
  rename_i oo ft hf
  have hk : (T ft).k ≠ .none := fun e => by rw [e] at h; exact h
  split at h
  · exact h.elim
  split at h
  case h_2 => exact h.elim
  rename_i cs hev
  rw [hev] at hx
  obtain ⟨arr, e1, e2, e3⟩ := hx
  have hd := hT.desc s
  rw [hs] at hd
  obtain ⟨F, hu, hF⟩ := hd
  rw [nthO_eq] at hf
  have hfld : ∃ fld : Field, F[f]? = some fld ∧ fld.offset = oo ∧ fld.type = ft := by
    rw [← hF, List.getElem?_map] at hf
    obtain ⟨fld, h1, h2⟩ := Option.map_eq_some_iff.1 hf
    injection h2 with h2 h3
    exact ⟨fld, by rw [← Array.getElem?_toList]; exact h1, h2, h3⟩
  obtain ⟨fld, hfl, rfl, rfl⟩ := hfld
  obtain ⟨v, r, h1, h2, h3⟩ := part_rep (w := w) (ok := ok) (σ := σ) (G := S.G) hT hk e2 e3 h
  exact done_pure hC (v := v) (by simp [execOp, ho, Instr.field, run_underlying hu, hfl, e1, asAgg, h1]) h2 h3

theorem caps_rep (hC : Conf W0 ok σ S a w) (l : List Operand) : ∀ {K : List Cap → Prop}, capsK (l.map S.ev) K → ∃ ps, K ps ∧ ps.length = l.length ∧ ∀ (j : Nat) p x, ps[j]? = some p → l[j]? = some x → RepC w ok σ S.G p (a.eval x) := by
  induction l with
  | nil => intro K h; exact ⟨[], h, rfl, fun j p x hp => by simp at hp⟩
  | cons x l ih =>
    intro K h
    simp only [List.map_cons, capsK] at h
    have hx := ev_rep hC x
    have : ∃ p, (capsK (l.map S.ev) fun ps => K (p :: ps)) ∧ RepC w ok σ S.G p (a.eval x) := by
      unfold capK at h
      split at h
      · rename_i b g off hev; rw [hev] at hx; exact ⟨_, h, hx⟩
      · rename_i cs hev; rw [hev] at hx; exact ⟨_, h, hx⟩
      · rename_i v hev
        rw [hev] at hx
        refine ⟨_, h, RepI_sc hx, ?_⟩
        cases hx
        assumption
      · exact h.elim
    obtain ⟨p, h1, h2⟩ := this
    obtain ⟨ps, h3, h4, h5⟩ := ih h1
    refine ⟨_, h3, by simp [h4], fun j q y hq hy => ?_⟩
    cases j with
    | zero => simp at hq hy; subst hq hy; exact h2
    | succ j => exact h5 j q y (by simpa using hq) (by simpa using hy)

theorem done_makeFunc (hC : Conf W0 ok σ S a w) {f : FuncId} {l : List Operand} (ho : o.op = .makeFunc (.func f) #[] l.toArray) (h : capsK (l.map S.ev) fun ps => K (.v (.c (.clo f ps))) [] []) : Done P W0 S o a w K := by
  obtain ⟨ps, hK, hl, hr⟩ := caps_rep hC l h
  refine done_pure hC (v := .func (.func f) #[] (l.map a.eval).toArray) (r := .v (.c (.clo f ps))) (by simp [execOp, ho, Instr.makeFunc]) ⟨l.map a.eval, rfl, by simp [hl], fun j p u hp hu => ?_⟩ hK
  rw [List.getElem?_map] at hu
  obtain ⟨x, hx, rfl⟩ := Option.map_eq_some_iff.1 hu
  exact hr j p x hp hx
theorem done_convN (hT : TabOk P T) (hC : Conf W0 ok σ S a w) {src dst : Nat} {x : Operand} (ho : o.op = .convert src dst x) (h : effConvN T S.blk S.h.length o.dst src dst (S.ev x) K) : Done P W0 S o a w K := by
  unfold effConvN at h
  split at h
  case h_2 => exact done_convB hT hC ho h
  rename_i hk
  split at h
  case h_2 => exact done_convB hT hC ho h
  rename_i e hk2
  have h1 := hT.desc src
  rw [hk] at h1
  have h2 := hT.desc dst
  rw [hk2] at h2
  have hx := ev_rep hC x
  split at h
  case h_2 => exact h.elim
  rename_i s hev
  rw [hev] at hx
  split at h
  case h_2 => exact h.elim
  rename_i d hd
  split at h
  case h_2 => exact h.elim
  rename_i hdl hs1
  obtain ⟨hke, hsz, hK⟩ := h
  have h3 := hT.desc e
  rw [hke] at h3
  have h1' : P.underlying src = some .string := h1
  have h2' : P.underlying dst = some (.slice e) := h2
  have h3' : P.underlying e = some (.int .u8) := h3
  have hdl' : d < S.h.length := by simpa using hdl
  rw [genK_eq, ← blk_gen] at hK
  have hxs : a.eval x = .string s := RepI_sc hx
  have hge := grownCap_ge w s.size 0 e
  have hcm := grownCap_le_maxLen w s.size 0 e (by unfold maxLen; omega)
  have hsd : s.data.size = s.size := rfl
  have hcs : (Lib.bytesCells w e s).size = grownCap w s.size 0 e := by
    simp only [Lib.bytesCells, Array.size_append, Array.size_map, Array.size_replicate, hsd]
    omega
  refine done_row (xs := s.data.toList.map fun b => Value.int .u8 b.toNat) hC hdl' (v' := .slice (some ⟨w.heap.size, 0, none⟩) s.size (grownCap w s.size 0 e)) (w' := Lib.bytesWorld w e s) (by
      simp only [execOp, ho, hxs, Sem.run_bind, Lib.run_convert_string_bytes w src dst e s h1' h2' h3', Result.andThen_ok, Sem.run_pure]) (row := none)
    ⟨rfl, rfl, rfl, by rw [Lib.bytesWorld_size]; omega, fun k hk _ => Lib.bytesWorld_at_old w e s k hk⟩ (by simp)
    ⟨by simp [sBytes], Or.inr ⟨w.heap.size, grownCap w s.size 0 e, _, by simp [sBytes, hsd], hC.below.size, ⟨_, _, Lib.bytesWorld_at_new w e s, Or.inr ⟨Nat.le_add_left _ _, Or.inr (by dsimp only; omega)⟩⟩, by simp [sBytes, hsd]; exact hge, hcm, by rw [hcs, Nat.mul_one], ?_⟩⟩
    (fun f hf => ?_) (fun n hn => by simp [Value.ownBlock] at hn; right; omega) (fun k f j y hk' hj => ?_) hK
  · simp only [Lib.bytesCells, sBytes, List.length_map, Nat.mul_one, Array.toList_append, Array.toList_map]
    exact List.take_left' (by simp)
  · obtain ⟨b, _, rfl⟩ := List.mem_map.1 hf
    rfl
  · simp only [sBytes, List.getElem?_map, Option.map_eq_some_iff] at hk'
    obtain ⟨b, hb, rfl⟩ := hk'
    cases j with
    | zero =>
      simp at hj
      subst hj
      refine ⟨_, by rw [Nat.mul_one, Nat.add_zero, List.getElem?_map, hb]; rfl, .sc _ rfl⟩
    | succ j => simp at hj
end
end Go.Proofs.Ytfldnpjmkllekaa.Ab
