/- Checkpoints: the records of both. No condition. -/
import Derived.Test.YtkpicojhnnkibaaQc
import Derived.Test.YtkpicojhnnkibaaGe
import Derived.Test.YtkpicojhnnkibaaGd
import Derived.Test.YtkpicojhnnkibaaQd
namespace Go.Proofs.Ytkpicojhnnkibaa.Ab
set_option linter.unusedVariables false
set_option linter.unusedSimpArgs false
open Go.RowKit

/-! ### Lists of records -/
def rRow (r : Rec) : List IV := [.sc (.int .i64 r.k), .sc (.int .i64 r.b), .sc (.int .i64 r.v), .sc (.int .i64 r.m), .sc (.string r.p)]
def rR (rs : List Rec) : List (List IV) := rs.map rRow
theorem rLen (rs : List Rec) : (rR rs).length = rs.length := by simp [rR]
theorem rSz (rs : List Rec) : ∀ z ∈ rR rs, z.length = (tab 27).size := by
  intro z hz
  obtain ⟨x, _, rfl⟩ := List.mem_map.1 hz
  rfl
theorem rItem {rs : List Rec} {k : Nat} (h : k < rs.length) : (rR rs)[((k : Int)).toNat]? = some (rRow rs[k]) := by simp [rR, h]
theorem rSnoc (a : List Rec) (r : Rec) : rR a ++ [rRow r] = rR (a ++ [r]) := by simp [rR]
theorem rApp (a b : List Rec) : rR a ++ rR b = rR (a ++ b) := by simp [rR]
theorem rSet (rs : List Rec) (k : Nat) (r : Rec) : (rR rs).set ((k : Int)).toNat (rRow r) = rR (rs.set k r) := by simp [rR, List.map_set]
theorem eSnoc' (a : List Ety) (e : Ety) : eR a ++ [eRow e] = eR (a ++ [e]) := by simp [eR]
theorem eLen (es : List Ety) : (eR es).length = es.length := by simp [eR]
def rEq (a b : Rec) : Bool := (a.k == b.k && (a.b == b.b && (a.v == b.v && (a.m == b.m && (a.p.toList == b.p.toList && true)))))
theorem rEq_iff {a b : Rec} : rEq a b = true ↔ a = b := by
  obtain ⟨a1, a2, a3, a4, a5⟩ := a
  obtain ⟨b1, b2, b3, b4, b5⟩ := b
  simp only [rEq, Bool.and_eq_true, beq_iff_eq, and_true, Rec.mk.injEq]
  constructor
  · rintro ⟨h1, h2, h3, h4, h5⟩
    exact ⟨h1, h2, h3, h4, sL_inj (by rw [← toList_eq, ← toList_eq, h5])⟩
  · rintro ⟨h1, h2, h3, h4, h5⟩
    exact ⟨h1, h2, h3, h4, by rw [h5]⟩
instance : DecidableEq Rec := fun a b => decidable_of_iff _ rEq_iff
instance : DecidableEq Ety := fun a b => decidable_of_iff _ eEq_iff
theorem rEq_self (a : Rec) : rEq a a = true := rEq_iff.2 rfl
theorem recs_of {d : Nat} (es : List (List IV)) (h : ∀ r ∈ es, ShI tab (d + 1 + 1) 27 r) : ∃ xs : List Rec, es = rR xs ∧ ∀ r ∈ xs, r.p.size ≤ maxLen := by
  induction es with
  | nil => exact ⟨[], rfl, fun r hr => by cases hr⟩
  | cons e es ih =>
    obtain ⟨xs, rfl, hxs⟩ := ih (fun r hr => h r (List.mem_cons_of_mem _ hr))
    obtain ⟨k, b, v, m, p, rfl, hp, _⟩ := rec_of (h e List.mem_cons_self)
    exact ⟨⟨k, b, v, m, p⟩ :: xs, rfl, fun r hr => by
      rcases List.mem_cons.1 hr with rfl | hr
      · exact hp
      · exact hxs r hr⟩

/-! ### Checkpoints -/
structure Bse where
  s : Int
  n : Int
  c : Int
  es : List Ety
def bseV (b : Bse) : AV := .agg [.i (.sc (.int .i64 b.s)), .i (.sc (.int .i64 b.n)), .i (.sc (.int .i64 b.c)), .i (.sl (eR b.es))]
def b0 : Bse := ⟨0, 0, 0, []⟩
/-- The first error of an entry, but for the order. -/
def chkE (next : Int) (e : Ety) : Int :=
  if e.k ≠ 1 then 3
  else if e.b < 0 ∨ e.b ≥ 128 ∨ e.v < 1 ∨ e.v ≥ next ∨ e.m < 0 ∨ e.m > 255 ∨ e.z < 0 ∨ e.z ≥ 32 ∨ e.o < 0 ∨ e.o ≥ 64 then 1 else 0
def chkL (next : Int) : Int → List Ety → Int
  | _, [] => 0
  | last, e :: l => if chkE next e ≠ 0 then chkE next e else if e.b ≤ last then 17 else chkL next e.b l
def badB (b : Bse) : Prop := b.s < 1 ∨ b.s ≥ 1099511627776 ∨ b.n < 1 ∨ b.n > 1099511627776 ∨ b.c < 1 ∨ b.c > b.n
instance (b : Bse) : Decidable (badB b) := by unfold badB; infer_instance
def cchk (b : Bse) : Int := if badB b then 1 else if b.es.length > 128 then 19 else chkL b.n (-1) b.es
theorem chkE_no {next : Int} {e : Ety} (h : chkE next e = 0) : e.k = 1 ∧ 0 ≤ e.b ∧ e.b < 128 ∧ 1 ≤ e.v ∧ e.v < next ∧ 0 ≤ e.m ∧ e.m ≤ 255 ∧ 0 ≤ e.z ∧ e.z < 32 ∧ 0 ≤ e.o ∧ e.o < 64 := by
  unfold chkE at h
  split at h
  · cases h
  · split at h
    · cases h
    · omega
theorem chkE_cases (next : Int) (e : Ety) : chkE next e = 3 ∨ chkE next e = 1 ∨ chkE next e = 0 := by
  unfold chkE
  split
  · exact Or.inl rfl
  · split
    · exact Or.inr (Or.inl rfl)
    · exact Or.inr (Or.inr rfl)
/-- What a right list of entries is. -/
inductive EsOk (next : Int) : Int → List Ety → Prop
  | nil (last : Int) : EsOk next last []
  | cons {last : Int} {e : Ety} {l : List Ety} (h : chkE next e = 0) (h' : last < e.b) (hl : EsOk next e.b l) : EsOk next last (e :: l)
theorem chkL_iff {next : Int} {l : List Ety} : ∀ {last : Int}, chkL next last l = 0 ↔ EsOk next last l := by
  induction l with
  | nil => intro last; exact ⟨fun _ => .nil _, fun _ => rfl⟩
  | cons e l ih =>
    intro last
    simp only [chkL]
    constructor
    · intro h
      split at h
      · exact absurd h (by assumption)
      · split at h
        · cases h
        · exact .cons (by omega) (by omega) (ih.1 h)
    · rintro (_ | ⟨h, h', hl⟩)
      rw [if_neg (by omega), if_neg (by omega)]
      exact ih.2 hl
theorem EsOk.mem {next last : Int} {l : List Ety} (h : EsOk next last l) : ∀ e ∈ l, chkE next e = 0 := by
  induction h with
  | nil => intro e he; cases he
  | cons h _ _ ih =>
    intro e he
    rcases List.mem_cons.1 he with rfl | he
    · exact h
    · exact ih e he
theorem cchk_ok {b : Bse} (h : cchk b = 0) : ¬ badB b ∧ b.es.length ≤ 128 ∧ EsOk b.n (-1) b.es := by
  unfold cchk at h
  split at h
  · cases h
  · split at h
    · cases h
    · exact ⟨by assumption, by omega, chkL_iff.1 h⟩
theorem cchk_long {b : Bse} (h : 128 < b.es.length) : cchk b ≠ 0 := by
  intro h0
  have := (cchk_ok h0).2.1
  omega
def nu (n k : Int) : ByteArray := (sput n k).1
/-- What the records say that their sectors are right. -/
def bodies (rs : List Rec) : List UInt8 := (rs.map fun r => if rchk r = 0 then bodyL r else []).flatten
def sumR (rs : List Rec) : ByteArray := sS (putB (crcN (bodies rs)) 4)
def headR (b : Bse) : Rec := ⟨4, b.es.length, b.s, 0, nu b.n 6 ++ nu b.c 6⟩
def entR (e : Ety) : Rec := ⟨5, e.b, e.v, e.m, nu e.z 2 ++ nu e.o 2⟩
def bodyR (b : Bse) : List Rec := headR b :: b.es.map entR
def footR (b : Bse) : Rec := ⟨6, b.es.length, b.s, 0, sumR (bodyR b)⟩
def cenc (b : Bse) : List Rec := bodyR b ++ [footR b]
def cencode (b : Bse) : List Rec × Int := if cchk b = 0 then (cenc b, 0) else ([], cchk b)
theorem cenc_len (b : Bse) : (cenc b).length = b.es.length + 2 := by simp [cenc, bodyR]
theorem cencode_yes {b : Bse} (h : cchk b = 0) : cencode b = (cenc b, 0) := by unfold cencode; rw [if_pos h]
theorem cencode_no {b : Bse} (h : cchk b ≠ 0) : cencode b = ([], cchk b) := by unfold cencode; rw [if_neg h]
def gt (p : ByteArray) (a k : Int) : Int := (sget p a k).1
def candE (r : Rec) : Ety := ⟨r.b, 1, r.v, r.m, gt r.p 0 2, gt r.p 2 2⟩
def candB (h : Rec) (t : List Rec) : Bse := ⟨h.v, gt h.p 0 6, gt h.p 6 6, t.dropLast.map candE⟩
def cdecode (l : List Rec) : Bse × Int :=
  match l with
  | h :: t => if t.length ≥ 1 ∧ cchk (candB h t) = 0 ∧ cenc (candB h t) = l then (candB h t, 0) else (b0, 3)
  | [] => (b0, 3)
theorem cdecode_no {h : Rec} {t : List Rec} (hn : ¬ (t.length ≥ 1 ∧ cchk (candB h t) = 0 ∧ cenc (candB h t) = h :: t)) : cdecode (h :: t) = (b0, 3) := by
  unfold cdecode
  dsimp only
  rw [if_neg hn]
theorem cdecode_yes {h : Rec} {t : List Rec} (hn : t.length ≥ 1 ∧ cchk (candB h t) = 0 ∧ cenc (candB h t) = h :: t) : cdecode (h :: t) = (candB h t, 0) := by
  unfold cdecode
  dsimp only
  rw [if_pos hn]
theorem cdecode_err (l : List Rec) : (cdecode l).2 = 0 ∨ cdecode l = (b0, 3) := by
  unfold cdecode
  split
  · split
    · exact Or.inl rfl
    · exact Or.inr rfl
  · exact Or.inr rfl
theorem cdecode_short {l : List Rec} (h : l.length < 2) : cdecode l = (b0, 3) := by
  match l with
  | [] => rfl
  | h' :: t =>
    refine cdecode_no (fun hh => ?_)
    simp only [List.length_cons] at h
    have := hh.1
    omega
theorem cand_es (h : Rec) (t : List Rec) : (candB h t).es.length = t.length - 1 := by simp [candB]
theorem cdecode_long {l : List Rec} (h : 130 < l.length) : cdecode l = (b0, 3) := by
  match l with
  | [] => rfl
  | h' :: t =>
    refine cdecode_no (fun hh => ?_)
    simp at h
    exact cchk_long (by rw [cand_es]; omega) hh.2.1
theorem nu_size {n : Int} {k : Nat} (h1 : 1 ≤ k) (h7 : k ≤ 7) (h0 : 0 ≤ n) (hn : n < ((256 ^ k : Nat) : Int)) : nu n k = sS (putB n.toNat k) := by
  obtain ⟨m, rfl⟩ : ∃ m : Nat, n = m := ⟨n.toNat, by omega⟩
  unfold nu
  rw [sput_yes h1 h7 (by omega)]
  simp
theorem badB_no {b : Bse} (h : ¬ badB b) : 1 ≤ b.s ∧ b.s < 1099511627776 ∧ 1 ≤ b.n ∧ b.n ≤ 1099511627776 ∧ 1 ≤ b.c ∧ b.c ≤ b.n := by unfold badB at h; omega
theorem head_pay {b : Bse} (h : ¬ badB b) : (headR b).p = sS (putB b.n.toNat 6 ++ putB b.c.toNat 6) := by
  have := badB_no h
  show nu b.n (6 : Nat) ++ nu b.c (6 : Nat) = _
  rw [nu_size (by decide) (by decide) (by omega) (by omega), nu_size (by decide) (by decide) (by omega) (by omega), sS_append]
theorem head_size {b : Bse} (h : ¬ badB b) : (headR b).p.size = 12 := by rw [head_pay h, sS_size, List.length_append, putB_len, putB_len]
theorem ent_pay {next : Int} {e : Ety} (h : chkE next e = 0) : (entR e).p = sS (putB e.z.toNat 2 ++ putB e.o.toNat 2) := by
  have := chkE_no h
  show nu e.z (2 : Nat) ++ nu e.o (2 : Nat) = _
  rw [nu_size (by decide) (by decide) (by omega) (by omega), nu_size (by decide) (by decide) (by omega) (by omega), sS_append]
theorem ent_size {next : Int} {e : Ety} (h : chkE next e = 0) : (entR e).p.size = 4 := by rw [ent_pay h, sS_size, List.length_append, putB_len, putB_len]
/-- What is not read: a head or an entry whose payload has another length. -/
theorem cdecode_head {h : Rec} {t : List Rec} (hs : h.p.size ≠ 12) : cdecode (h :: t) = (b0, 3) := by
  refine cdecode_no (fun hh => hs ?_)
  obtain ⟨_, h2, h3⟩ := hh
  have e : headR (candB h t) = h := by
    have := congrArg List.head? h3
    simpa [cenc, bodyR] using this
  rw [← e]
  exact head_size (cchk_ok h2).1
theorem cdecode_ent {h : Rec} {t : List Rec} {k : Nat} {r : Rec} (hk : t.dropLast[k]? = some r) (hs : r.p.size ≠ 4) : cdecode (h :: t) = (b0, 3) := by
  refine cdecode_no (fun hh => hs ?_)
  obtain ⟨_, h2, h3⟩ := hh
  have hE := (cchk_ok h2).2.2.mem
  have hlt : k < t.length - 1 := by
    have := (List.getElem?_eq_some_iff.1 hk).1
    simpa using this
  have e1 : (cenc (candB h t))[k + 1]? = some (entR (candE r)) := by
    simp only [cenc, bodyR, List.cons_append, List.getElem?_cons_succ]
    rw [List.getElem?_append_left (by simp [candB]; omega), List.getElem?_map]
    simp only [candB, List.getElem?_map, hk, Option.map_some]
  rw [h3, List.getElem?_cons_succ] at e1
  have e2 : t[k]? = some r := by
    rw [List.getElem?_dropLast, if_pos hlt] at hk
    exact hk
  rw [e2] at e1
  injection e1 with e1
  rw [e1]
  exact ent_size (hE _ (List.mem_map.2 ⟨r, List.mem_of_getElem? hk, rfl⟩))
theorem gt_left {x y k : Nat} (h1 : 1 ≤ k) (h7 : k ≤ 7) (hx : x < 256 ^ k) : gt (sS (putB x k ++ putB y k)) 0 k = x := by
  unfold gt
  have := sget_ok (b := sS (putB x k ++ putB y k)) (a := 0) h1 h7 (by rw [sS_size, List.length_append, putB_len, putB_len]; omega)
  rw [show ((0 : Nat) : Int) = 0 from rfl] at this
  rw [this, sL_S, List.drop_zero, List.take_left' (putB_len _ _), getN_putB k _ hx]
theorem gt_right {x y k : Nat} (h1 : 1 ≤ k) (h7 : k ≤ 7) (hy : y < 256 ^ k) : gt (sS (putB x k ++ putB y k)) k k = y := by
  unfold gt
  rw [sget_ok (b := sS (putB x k ++ putB y k)) (a := k) h1 h7 (by rw [sS_size, List.length_append, putB_len, putB_len]; omega)]
  rw [sL_S, List.drop_left' (putB_len _ _), List.take_of_length_le (by rw [putB_len]; exact Nat.le_refl _), getN_putB k _ hy]
theorem candE_ent {next : Int} {e : Ety} (h : chkE next e = 0) : candE (entR e) = e := by
  have hh := chkE_no h
  have hp := ent_pay h
  have g1 := gt_left (x := e.z.toNat) (y := e.o.toNat) (k := 2) (by decide) (by decide) (by omega)
  have g2 := gt_right (x := e.z.toNat) (y := e.o.toNat) (k := 2) (by decide) (by decide) (by omega)
  unfold candE
  rw [hp]
  rw [show gt (sS (putB e.z.toNat 2 ++ putB e.o.toNat 2)) 0 2 = _ from g1, show gt (sS (putB e.z.toNat 2 ++ putB e.o.toNat 2)) 2 2 = _ from g2]
  obtain ⟨b, k, v, m, z, o⟩ := e
  simp only [entR, Ety.mk.injEq, true_and]
  dsimp only at hh
  omega
/-- A checkpoint is read back. -/
theorem cdec_enc {b : Bse} (h : cchk b = 0) : cdecode (cenc b) = (b, 0) := by
  obtain ⟨h1, h2, h3⟩ := cchk_ok h
  have hb := badB_no h1
  have hp := head_pay h1
  have g1 := gt_left (x := b.n.toNat) (y := b.c.toNat) (k := 6) (by decide) (by decide) (by omega)
  have g2 := gt_right (x := b.n.toNat) (y := b.c.toNat) (k := 6) (by decide) (by decide) (by omega)
  have e : candB (headR b) (b.es.map entR ++ [footR b]) = b := by
    unfold candB
    rw [hp, show gt (sS (putB b.n.toNat 6 ++ putB b.c.toNat 6)) 0 6 = _ from g1, show gt (sS (putB b.n.toNat 6 ++ putB b.c.toNat 6)) 6 6 = _ from g2, List.dropLast_concat]
    have hm : (b.es.map entR).map candE = b.es := by
      rw [List.map_map]
      conv => rhs; rw [← List.map_id b.es]
      exact List.map_congr_left (fun e he => candE_ent (h3.mem e he))
    rw [hm]
    obtain ⟨s, n, c, es⟩ := b
    simp only [headR, Bse.mk.injEq, true_and, and_true]
    dsimp only at hb
    omega
  have := cdecode_yes (h := headR b) (t := b.es.map entR ++ [footR b]) (by rw [e]; exact ⟨by simp, h, rfl⟩)
  rw [e] at this
  exact this
/-- A checkpoint of which a record is left out is none. -/
theorem cdec_less {b : Bse} (h : cchk b = 0) {k : Nat} (hk : k < (cenc b).length) : cdecode ((cenc b).take k ++ (cenc b).drop (k + 1)) = (b0, 3) := by
  rw [cenc_len] at hk
  cases k with
  | zero =>
    simp only [List.take_zero, List.nil_append, cenc, bodyR, List.cons_append, Nat.zero_add, List.drop_succ_cons, List.drop_zero]
    cases he : b.es with
    | nil => exact cdecode_short (by simp)
    | cons e es =>
      refine cdecode_head ?_
      rw [ent_size ((cchk_ok h).2.2.mem e (by rw [he]; exact List.mem_cons_self))]
      decide
  | succ k =>
    generalize hX : (cenc b).take (k + 1) ++ (cenc b).drop (k + 1 + 1) = X
    have hlen : X.length = b.es.length + 1 := by
      rw [← hX, List.length_append, List.length_take, List.length_drop, cenc_len]
      omega
    have hhd : X[0]? = some (headR b) := by
      rw [← hX]
      simp [cenc, bodyR]
    match X, hlen, hhd with
    | h' :: t, hlen, hhd =>
      have e1 : h' = headR b := by simpa using hhd
      subst e1
      refine cdecode_no (fun hh => ?_)
      obtain ⟨h4, h5, h6⟩ := hh
      have e2 : headR (candB (headR b) t) = headR b := by
        have := congrArg List.head? h6
        simpa [cenc, bodyR] using this
      have e3 := congrArg Rec.b e2
      have e4 : ((candB (headR b) t).es.length : Int) = b.es.length := e3
      rw [cand_es] at e4
      simp at hlen
      omega
def bsame (a b : Bse) : Bool := decide (a.s = b.s ∧ a.n = b.n ∧ a.c = b.c ∧ a.es = b.es)
theorem bsame_iff {a b : Bse} : bsame a b = true ↔ a = b := by
  obtain ⟨a1, a2, a3, a4⟩ := a
  obtain ⟨b1, b2, b3, b4⟩ := b
  simp [bsame]
end Go.Proofs.Ytkpicojhnnkibaa.Ab
namespace Go.Proofs.Ytkpicojhnnkibaa.Ab
set_option linter.unusedVariables false
set_option linter.unusedSimpArgs false
open Go.RowKit

def bseA (s n c : Int) (es : List Ety) : AV := .agg [.i (.sc (.int .i64 s)), .i (.sc (.int .i64 n)), .i (.sc (.int .i64 c)), .i (.sl (eR es))]
theorem cchk_go {b : Bse} (h : ¬ badB b) (hl : b.es.length ≤ 128) : cchk b = chkL b.n (-1) b.es := by unfold cchk; rw [if_neg h, if_neg (by omega)]
theorem cchk_bad {b : Bse} (h : badB b) : cchk b = 1 := by unfold cchk; rw [if_pos h]
theorem cchk_19 {b : Bse} (h : ¬ badB b) (hl : 128 < b.es.length) : cchk b = 19 := by unfold cchk; rw [if_neg h, if_pos (by omega)]
theorem chkL_at {next last : Int} {es : List Ety} {k : Nat} (h : k < es.length) : chkL next last (es.drop k) = if chkE next es[k] ≠ 0 then chkE next es[k] else if es[k].b ≤ last then 17 else chkL next es[k].b (es.drop (k + 1)) := by
  rw [List.drop_eq_getElem_cons h, chkL]
theorem chkL_end {next last : Int} {es : List Ety} {k : Nat} (h : ¬ k < es.length) : chkL next last (es.drop k) = 0 := by
  rw [List.drop_of_length_le (by omega), chkL]
theorem chkE_3 {next : Int} {e : Ety} (h : ¬ e.k = 1) : chkE next e = 3 := by unfold chkE; rw [if_pos h]
theorem chkE_1 {next : Int} {e : Ety} (h : e.k = 1) (h2 : e.b < 0 ∨ e.b ≥ 128 ∨ e.v < 1 ∨ e.v ≥ next ∨ e.m < 0 ∨ e.m > 255 ∨ e.z < 0 ∨ e.z ≥ 32 ∨ e.o < 0 ∨ e.o ≥ 64) : chkE next e = 1 := by unfold chkE; rw [if_neg (by omega), if_pos h2]
theorem chkE_0 {next : Int} {e : Ety} (h : e.k = 1) (h2 : ¬ (e.b < 0 ∨ e.b ≥ 128 ∨ e.v < 1 ∨ e.v ≥ next ∨ e.m < 0 ∨ e.m > 255 ∨ e.z < 0 ∨ e.z ≥ 32 ∨ e.o < 0 ∨ e.o ≥ 64)) : chkE next e = 0 := by unfold chkE; rw [if_neg (by omega), if_neg h2]
set_option maxRecDepth 100000 in
set_option maxHeartbeats 16000000 in
theorem cchkF (s n c : Int) (es : List Ety) : Fun Try.prog 14 [bseA s n c es] [] (.v (i64V (cchk ⟨s, n, c, es⟩))) := by
  by_cases hb : badB ⟨s, n, c, es⟩
  · have hR := cchk_bad hb
    unfold badB at hb
    dsimp only at hb
    generalize cchk ⟨s, n, c, es⟩ = R at hR ⊢
    subst hR
    refine fun_of_vc tabOk mixOk Try.func14 rfl (by rfl) (rs := [.tmp 2]) rfl rfl 117 ?_; rw [Try.ntmps14]
    (conv => whnf); repeat ((first | refine And.intro DrawOk.go ?_ | refine And.intro rfl ?_ | refine And.intro (fun _ => ?_) (fun h => Bool.noConfusion h) | refine And.intro (fun h => Bool.noConfusion h) (fun _ => ?_)); conv => whnf)
    repeat' (first | ((refine And.intro (fun h => ?_) (fun h => ?_)) <;> (try simp at h) <;> ((conv => whnf); repeat ((first | refine And.intro DrawOk.go ?_ | refine And.intro rfl ?_ | refine And.intro (fun _ => ?_) (fun h => Bool.noConfusion h) | refine And.intro (fun h => Bool.noConfusion h) (fun _ => ?_)); conv => whnf))) | fail)
    all_goals first
      | (exfalso; omega)
      | (refine Exists.intro [] (And.intro List.nodup_nil ?_); ((conv => whnf); repeat ((first | refine And.intro DrawOk.go ?_ | refine And.intro rfl ?_ | refine And.intro (fun _ => ?_) (fun h => Bool.noConfusion h) | refine And.intro (fun h => Bool.noConfusion h) (fun _ => ?_)); conv => whnf))
         rfl)
  by_cases hlen : 128 < es.length
  · have hR := cchk_19 hb (show 128 < (Bse.mk s n c es).es.length from hlen)
    unfold badB at hb
    dsimp only at hb
    generalize cchk ⟨s, n, c, es⟩ = R at hR ⊢
    subst hR
    refine fun_of_vc tabOk mixOk Try.func14 rfl (by rfl) (rs := [.tmp 2]) rfl rfl 117 ?_; rw [Try.ntmps14]
    (conv => whnf); repeat ((first | refine And.intro DrawOk.go ?_ | refine And.intro rfl ?_ | refine And.intro (fun _ => ?_) (fun h => Bool.noConfusion h) | refine And.intro (fun h => Bool.noConfusion h) (fun _ => ?_)); conv => whnf)
    repeat' (first | ((refine And.intro (fun h => ?_) (fun h => ?_)) <;> (try simp at h) <;> ((conv => whnf); repeat ((first | refine And.intro DrawOk.go ?_ | refine And.intro rfl ?_ | refine And.intro (fun _ => ?_) (fun h => Bool.noConfusion h) | refine And.intro (fun h => Bool.noConfusion h) (fun _ => ?_)); conv => whnf))) | fail)
    all_goals first
      | (exfalso; omega)
      | (exfalso; simp only [eLen] at *; omega)
      | (refine Exists.intro [] (And.intro List.nodup_nil ?_); ((conv => whnf); repeat ((first | refine And.intro DrawOk.go ?_ | refine And.intro rfl ?_ | refine And.intro (fun _ => ?_) (fun h => Bool.noConfusion h) | refine And.intro (fun h => Bool.noConfusion h) (fun _ => ?_)); conv => whnf))
         rfl)
  have hR := cchk_go hb (show (Bse.mk s n c es).es.length ≤ 128 by dsimp only; omega)
  unfold badB at hb
  dsimp only at hb hR
  generalize cchk ⟨s, n, c, es⟩ = R at hR ⊢
  refine fun_of_vc tabOk mixOk Try.func14 rfl (by rfl) (rs := [.tmp 2]) rfl rfl 117 ?_; rw [Try.ntmps14]
  (conv => whnf); repeat ((first | refine And.intro DrawOk.go ?_ | refine And.intro rfl ?_ | refine And.intro (fun _ => ?_) (fun h => Bool.noConfusion h) | refine And.intro (fun h => Bool.noConfusion h) (fun _ => ?_)); conv => whnf)
  repeat' (first | ((refine And.intro (fun h => ?_) (fun h => ?_)) <;> (try simp at h) <;> ((conv => whnf); repeat ((first | refine And.intro DrawOk.go ?_ | refine And.intro rfl ?_ | refine And.intro (fun _ => ?_) (fun h => Bool.noConfusion h) | refine And.intro (fun h => Bool.noConfusion h) (fun _ => ?_)); conv => whnf))) | fail)
  all_goals first
    | (exfalso; omega)
    | (exfalso; simp only [eLen] at *; omega)
    | skip
  refine vc_loop [1, 41, 42] [1] (X := Nat × Int) (fun x gs => [(43, ATint x.1), (3, ATint x.2)]) (fun _ _ => []) (fun x => x.1 ≤ es.length ∧ R = chkL n x.2 (es.drop x.1)) (fun x => es.length - x.1) _ (Ghost.refl _) (0, -1) ⟨Nat.zero_le _, hR⟩ ?_ ?_
  · (refine And.intro rfl (And.intro rfl ?_)); (repeat' (first | exact trivial | exact rfl | apply And.intro | (refine congrArg (Value.int .i64) (w64_nat ?_); omega)))
  rintro gs ⟨k, last⟩ ⟨hk, he⟩
  dsimp only at hk he ⊢
  clear hb hR
  (conv => whnf); repeat ((first | refine And.intro DrawOk.go ?_ | refine And.intro rfl ?_ | refine And.intro (fun _ => ?_) (fun h => Bool.noConfusion h) | refine And.intro (fun h => Bool.noConfusion h) (fun _ => ?_)); conv => whnf)
  refine And.intro (fun h => ?_) (fun h => ?_)
  · have hlt : k < es.length := by have := of_decide_eq_true h; rw [eLen] at this; omega
    have hstep := chkL_at (next := n) (last := last) hlt
    rw [← he] at hstep
    have hit := eItem hlt
    clear he h
    (conv => whnf); repeat ((first | refine And.intro DrawOk.go ?_ | refine And.intro rfl ?_ | refine And.intro (fun _ => ?_) (fun h => Bool.noConfusion h) | refine And.intro (fun h => Bool.noConfusion h) (fun _ => ?_)); conv => whnf)
    refine ⟨by omega, _, hit, rfl, ?_⟩
    generalize es[k] = e at hstep hit ⊢
    by_cases q1 : e.k = 1
    rotate_left
    · rw [chkE_3 q1, if_pos (by decide)] at hstep
      obtain ⟨eb, ek, ev, em, ez, eo⟩ := e
      dsimp only at q1
      subst hstep
      (conv => whnf); repeat ((first | refine And.intro DrawOk.go ?_ | refine And.intro rfl ?_ | refine And.intro (fun _ => ?_) (fun h => Bool.noConfusion h) | refine And.intro (fun h => Bool.noConfusion h) (fun _ => ?_)); conv => whnf)
      repeat' (first | ((refine And.intro (fun h => ?_) (fun h => ?_)) <;> (try simp at h) <;> ((conv => whnf); repeat ((first | refine And.intro DrawOk.go ?_ | refine And.intro rfl ?_ | refine And.intro (fun _ => ?_) (fun h => Bool.noConfusion h) | refine And.intro (fun h => Bool.noConfusion h) (fun _ => ?_)); conv => whnf))) | fail)
      all_goals first
        | (exfalso; omega)
        | (refine Exists.intro [] (And.intro List.nodup_nil ?_); ((conv => whnf); repeat ((first | refine And.intro DrawOk.go ?_ | refine And.intro rfl ?_ | refine And.intro (fun _ => ?_) (fun h => Bool.noConfusion h) | refine And.intro (fun h => Bool.noConfusion h) (fun _ => ?_)); conv => whnf))
           rfl)
    by_cases q2 : e.b < 0 ∨ e.b ≥ 128 ∨ e.v < 1 ∨ e.v ≥ n ∨ e.m < 0 ∨ e.m > 255 ∨ e.z < 0 ∨ e.z ≥ 32 ∨ e.o < 0 ∨ e.o ≥ 64
    · rw [chkE_1 q1 q2, if_pos (by decide)] at hstep
      obtain ⟨eb, ek, ev, em, ez, eo⟩ := e
      dsimp only at q1 q2
      subst hstep
      (conv => whnf); repeat ((first | refine And.intro DrawOk.go ?_ | refine And.intro rfl ?_ | refine And.intro (fun _ => ?_) (fun h => Bool.noConfusion h) | refine And.intro (fun h => Bool.noConfusion h) (fun _ => ?_)); conv => whnf)
      repeat' (first | ((refine And.intro (fun h => ?_) (fun h => ?_)) <;> (try simp at h) <;> ((conv => whnf); repeat ((first | refine And.intro DrawOk.go ?_ | refine And.intro rfl ?_ | refine And.intro (fun _ => ?_) (fun h => Bool.noConfusion h) | refine And.intro (fun h => Bool.noConfusion h) (fun _ => ?_)); conv => whnf))) | fail)
      all_goals first
        | (exfalso; omega)
        | (refine Exists.intro [] (And.intro List.nodup_nil ?_); ((conv => whnf); repeat ((first | refine And.intro DrawOk.go ?_ | refine And.intro rfl ?_ | refine And.intro (fun _ => ?_) (fun h => Bool.noConfusion h) | refine And.intro (fun h => Bool.noConfusion h) (fun _ => ?_)); conv => whnf))
           rfl)
    rw [chkE_0 q1 q2, if_neg (by decide)] at hstep
    by_cases q3 : e.b ≤ last
    · rw [if_pos q3] at hstep
      obtain ⟨eb, ek, ev, em, ez, eo⟩ := e
      dsimp only at q1 q2 q3
      subst hstep
      (conv => whnf); repeat ((first | refine And.intro DrawOk.go ?_ | refine And.intro rfl ?_ | refine And.intro (fun _ => ?_) (fun h => Bool.noConfusion h) | refine And.intro (fun h => Bool.noConfusion h) (fun _ => ?_)); conv => whnf)
      repeat' (first | ((refine And.intro (fun h => ?_) (fun h => ?_)) <;> (try simp at h) <;> ((conv => whnf); repeat ((first | refine And.intro DrawOk.go ?_ | refine And.intro rfl ?_ | refine And.intro (fun _ => ?_) (fun h => Bool.noConfusion h) | refine And.intro (fun h => Bool.noConfusion h) (fun _ => ?_)); conv => whnf))) | fail)
      all_goals first
        | (exfalso; omega)
        | (refine Exists.intro [] (And.intro List.nodup_nil ?_); ((conv => whnf); repeat ((first | refine And.intro DrawOk.go ?_ | refine And.intro rfl ?_ | refine And.intro (fun _ => ?_) (fun h => Bool.noConfusion h) | refine And.intro (fun h => Bool.noConfusion h) (fun _ => ?_)); conv => whnf))
           rfl)
    · rw [if_neg q3] at hstep
      obtain ⟨eb, ek, ev, em, ez, eo⟩ := e
      dsimp only at q1 q2 q3 hstep
      (conv => whnf); repeat ((first | refine And.intro DrawOk.go ?_ | refine And.intro rfl ?_ | refine And.intro (fun _ => ?_) (fun h => Bool.noConfusion h) | refine And.intro (fun h => Bool.noConfusion h) (fun _ => ?_)); conv => whnf)
      repeat' (first | ((refine And.intro (fun h => ?_) (fun h => ?_)) <;> (try simp at h) <;> ((conv => whnf); repeat ((first | refine And.intro DrawOk.go ?_ | refine And.intro rfl ?_ | refine And.intro (fun _ => ?_) (fun h => Bool.noConfusion h) | refine And.intro (fun h => Bool.noConfusion h) (fun _ => ?_)); conv => whnf))) | fail)
      all_goals first
        | (exfalso; omega)
        | (refine again (k + 1, eb) ⟨by dsimp only; omega, hstep⟩ (by dsimp only; omega) ?_
           (refine And.intro rfl (And.intro rfl ?_)); (repeat' (first | exact trivial | exact rfl | apply And.intro | (refine congrArg (Value.int .i64) (w64_nat ?_); omega))))
  · have hge : ¬ k < es.length := by have := of_decide_eq_false h; rw [eLen] at this; omega
    rw [chkL_end hge] at he
    subst he
    (conv => whnf); repeat ((first | refine And.intro DrawOk.go ?_ | refine And.intro rfl ?_ | refine And.intro (fun _ => ?_) (fun h => Bool.noConfusion h) | refine And.intro (fun h => Bool.noConfusion h) (fun _ => ?_)); conv => whnf)
    refine Exists.intro [] (And.intro List.nodup_nil ?_); ((conv => whnf); repeat ((first | refine And.intro DrawOk.go ?_ | refine And.intro rfl ?_ | refine And.intro (fun _ => ?_) (fun h => Bool.noConfusion h) | refine And.intro (fun h => Bool.noConfusion h) (fun _ => ?_)); conv => whnf))
    rfl
set_option maxRecDepth 100000 in
set_option maxHeartbeats 16000000 in
theorem entF (b k v m z o n : Int) : Fun Try.prog 56 [eA b k v m z o, i64V n] [] (.v (i64V (chkE n ⟨b, k, v, m, z, o⟩))) := by
  by_cases q1 : k = 1
  rotate_left
  · rw [chkE_3 q1]
    refine fun_of_vc tabOk mixOk Try.func56 rfl (by rfl) (rs := [.tmp 4]) rfl rfl 67 ?_; rw [Try.ntmps56]
    (conv => whnf); repeat ((first | refine And.intro DrawOk.go ?_ | refine And.intro rfl ?_ | refine And.intro (fun _ => ?_) (fun h => Bool.noConfusion h) | refine And.intro (fun h => Bool.noConfusion h) (fun _ => ?_)); conv => whnf)
    repeat' (first | ((refine And.intro (fun h => ?_) (fun h => ?_)) <;> (try simp at h) <;> ((conv => whnf); repeat ((first | refine And.intro DrawOk.go ?_ | refine And.intro rfl ?_ | refine And.intro (fun _ => ?_) (fun h => Bool.noConfusion h) | refine And.intro (fun h => Bool.noConfusion h) (fun _ => ?_)); conv => whnf))) | fail)
    all_goals first
      | (exfalso; omega)
      | (refine Exists.intro [] (And.intro List.nodup_nil ?_); ((conv => whnf); repeat ((first | refine And.intro DrawOk.go ?_ | refine And.intro rfl ?_ | refine And.intro (fun _ => ?_) (fun h => Bool.noConfusion h) | refine And.intro (fun h => Bool.noConfusion h) (fun _ => ?_)); conv => whnf))
         rfl)
  by_cases q2 : b < 0 ∨ b ≥ 128 ∨ v < 1 ∨ v ≥ n ∨ m < 0 ∨ m > 255 ∨ z < 0 ∨ z ≥ 32 ∨ o < 0 ∨ o ≥ 64
  · rw [chkE_1 q1 q2]
    refine fun_of_vc tabOk mixOk Try.func56 rfl (by rfl) (rs := [.tmp 4]) rfl rfl 67 ?_; rw [Try.ntmps56]
    (conv => whnf); repeat ((first | refine And.intro DrawOk.go ?_ | refine And.intro rfl ?_ | refine And.intro (fun _ => ?_) (fun h => Bool.noConfusion h) | refine And.intro (fun h => Bool.noConfusion h) (fun _ => ?_)); conv => whnf)
    repeat' (first | ((refine And.intro (fun h => ?_) (fun h => ?_)) <;> (try simp at h) <;> ((conv => whnf); repeat ((first | refine And.intro DrawOk.go ?_ | refine And.intro rfl ?_ | refine And.intro (fun _ => ?_) (fun h => Bool.noConfusion h) | refine And.intro (fun h => Bool.noConfusion h) (fun _ => ?_)); conv => whnf))) | fail)
    all_goals first
      | (exfalso; omega)
      | (refine Exists.intro [] (And.intro List.nodup_nil ?_); ((conv => whnf); repeat ((first | refine And.intro DrawOk.go ?_ | refine And.intro rfl ?_ | refine And.intro (fun _ => ?_) (fun h => Bool.noConfusion h) | refine And.intro (fun h => Bool.noConfusion h) (fun _ => ?_)); conv => whnf))
         rfl)
  · rw [chkE_0 q1 q2]
    refine fun_of_vc tabOk mixOk Try.func56 rfl (by rfl) (rs := [.tmp 4]) rfl rfl 67 ?_; rw [Try.ntmps56]
    (conv => whnf); repeat ((first | refine And.intro DrawOk.go ?_ | refine And.intro rfl ?_ | refine And.intro (fun _ => ?_) (fun h => Bool.noConfusion h) | refine And.intro (fun h => Bool.noConfusion h) (fun _ => ?_)); conv => whnf)
    repeat' (first | ((refine And.intro (fun h => ?_) (fun h => ?_)) <;> (try simp at h) <;> ((conv => whnf); repeat ((first | refine And.intro DrawOk.go ?_ | refine And.intro rfl ?_ | refine And.intro (fun _ => ?_) (fun h => Bool.noConfusion h) | refine And.intro (fun h => Bool.noConfusion h) (fun _ => ?_)); conv => whnf))) | fail)
    all_goals first
      | (exfalso; omega)
      | (refine Exists.intro [] (And.intro List.nodup_nil ?_); ((conv => whnf); repeat ((first | refine And.intro DrawOk.go ?_ | refine And.intro rfl ?_ | refine And.intro (fun _ => ?_) (fun h => Bool.noConfusion h) | refine And.intro (fun h => Bool.noConfusion h) (fun _ => ?_)); conv => whnf))
         rfl)
def lastE (es : List Ety) : Nat → Int
  | 0 => -1
  | k + 1 => match es[k]? with | some e => e.b | none => -1
theorem lastE_succ {es : List Ety} {k : Nat} (h : k < es.length) : lastE es (k + 1) = es[k].b := by simp only [lastE, List.getElem?_eq_getElem h]
set_option maxRecDepth 100000 in
set_option maxHeartbeats 16000000 in
theorem cchkF' (s n c : Int) (es : List Ety) : Fun Try.prog 15 [bseA s n c es] [] (.v (i64V (cchk ⟨s, n, c, es⟩))) := by
  by_cases hb : badB ⟨s, n, c, es⟩
  · have hR := cchk_bad hb
    unfold badB at hb
    dsimp only at hb
    generalize cchk ⟨s, n, c, es⟩ = R at hR ⊢
    subst hR
    refine fun_of_vc tabOk mixOk Try.func15 rfl (by rfl) (rs := [.tmp 2]) rfl rfl 79 ?_; rw [Try.ntmps15]
    (conv => whnf); repeat ((first | refine And.intro DrawOk.go ?_ | refine And.intro rfl ?_ | refine And.intro (fun _ => ?_) (fun h => Bool.noConfusion h) | refine And.intro (fun h => Bool.noConfusion h) (fun _ => ?_)); conv => whnf)
    repeat' (first | ((refine And.intro (fun h => ?_) (fun h => ?_)) <;> (try simp at h) <;> ((conv => whnf); repeat ((first | refine And.intro DrawOk.go ?_ | refine And.intro rfl ?_ | refine And.intro (fun _ => ?_) (fun h => Bool.noConfusion h) | refine And.intro (fun h => Bool.noConfusion h) (fun _ => ?_)); conv => whnf))) | fail)
    all_goals first
      | (exfalso; omega)
      | (refine Exists.intro [] (And.intro List.nodup_nil ?_); ((conv => whnf); repeat ((first | refine And.intro DrawOk.go ?_ | refine And.intro rfl ?_ | refine And.intro (fun _ => ?_) (fun h => Bool.noConfusion h) | refine And.intro (fun h => Bool.noConfusion h) (fun _ => ?_)); conv => whnf))
         rfl)
  by_cases hlen : 128 < es.length
  · have hR := cchk_19 hb (show 128 < (Bse.mk s n c es).es.length from hlen)
    unfold badB at hb
    dsimp only at hb
    generalize cchk ⟨s, n, c, es⟩ = R at hR ⊢
    subst hR
    refine fun_of_vc tabOk mixOk Try.func15 rfl (by rfl) (rs := [.tmp 2]) rfl rfl 79 ?_; rw [Try.ntmps15]
    (conv => whnf); repeat ((first | refine And.intro DrawOk.go ?_ | refine And.intro rfl ?_ | refine And.intro (fun _ => ?_) (fun h => Bool.noConfusion h) | refine And.intro (fun h => Bool.noConfusion h) (fun _ => ?_)); conv => whnf)
    repeat' (first | ((refine And.intro (fun h => ?_) (fun h => ?_)) <;> (try simp at h) <;> ((conv => whnf); repeat ((first | refine And.intro DrawOk.go ?_ | refine And.intro rfl ?_ | refine And.intro (fun _ => ?_) (fun h => Bool.noConfusion h) | refine And.intro (fun h => Bool.noConfusion h) (fun _ => ?_)); conv => whnf))) | fail)
    all_goals first
      | (exfalso; omega)
      | (exfalso; simp only [eLen] at *; omega)
      | (refine Exists.intro [] (And.intro List.nodup_nil ?_); ((conv => whnf); repeat ((first | refine And.intro DrawOk.go ?_ | refine And.intro rfl ?_ | refine And.intro (fun _ => ?_) (fun h => Bool.noConfusion h) | refine And.intro (fun h => Bool.noConfusion h) (fun _ => ?_)); conv => whnf))
         rfl)
  have hR := cchk_go hb (show (Bse.mk s n c es).es.length ≤ 128 by dsimp only; omega)
  unfold badB at hb
  dsimp only at hb hR
  generalize cchk ⟨s, n, c, es⟩ = R at hR ⊢
  refine fun_of_vc tabOk mixOk Try.func15 rfl (by rfl) (rs := [.tmp 2]) rfl rfl 79 ?_; rw [Try.ntmps15]
  (conv => whnf); repeat ((first | refine And.intro DrawOk.go ?_ | refine And.intro rfl ?_ | refine And.intro (fun _ => ?_) (fun h => Bool.noConfusion h) | refine And.intro (fun h => Bool.noConfusion h) (fun _ => ?_)); conv => whnf)
  repeat' (first | ((refine And.intro (fun h => ?_) (fun h => ?_)) <;> (try simp at h) <;> ((conv => whnf); repeat ((first | refine And.intro DrawOk.go ?_ | refine And.intro rfl ?_ | refine And.intro (fun _ => ?_) (fun h => Bool.noConfusion h) | refine And.intro (fun h => Bool.noConfusion h) (fun _ => ?_)); conv => whnf))) | fail)
  all_goals first
    | (exfalso; omega)
    | (exfalso; simp only [eLen] at *; omega)
    | skip
  refine vc_loop [1] [1] (X := Nat) (fun x gs => [(3, ATint x)]) (fun _ _ => []) (fun x => x ≤ es.length ∧ R = chkL n (lastE es x) (es.drop x)) (fun x => es.length - x) _ (Ghost.refl _) 0 ⟨Nat.zero_le _, hR⟩ ?_ ?_
  · (refine And.intro rfl (And.intro rfl ?_)); (repeat' (first | exact trivial | exact rfl | apply And.intro | (refine congrArg (Value.int .i64) (w64_nat ?_); omega)))
  rintro gs k ⟨hk, he⟩
  clear hb hR
  (conv => whnf); repeat ((first | refine And.intro DrawOk.go ?_ | refine And.intro rfl ?_ | refine And.intro (fun _ => ?_) (fun h => Bool.noConfusion h) | refine And.intro (fun h => Bool.noConfusion h) (fun _ => ?_)); conv => whnf)
  refine And.intro (fun h => ?_) (fun h => ?_)
  · have hlt : k < es.length := by have := of_decide_eq_true h; rw [eLen] at this; omega
    have hstep := chkL_at (next := n) (last := lastE es k) hlt
    rw [← he] at hstep
    have hit := eItem hlt
    have hnext := lastE_succ hlt
    have hen := entF es[k].b es[k].k es[k].v es[k].m es[k].z es[k].o n
    clear he h
    (conv => whnf); repeat ((first | refine And.intro DrawOk.go ?_ | refine And.intro rfl ?_ | refine And.intro (fun _ => ?_) (fun h => Bool.noConfusion h) | refine And.intro (fun h => Bool.noConfusion h) (fun _ => ?_)); conv => whnf)
    refine ⟨by omega, _, hit, rfl, ?_⟩
    (conv => whnf); repeat ((first | refine And.intro DrawOk.go ?_ | refine And.intro rfl ?_ | refine And.intro (fun _ => ?_) (fun h => Bool.noConfusion h) | refine And.intro (fun h => Bool.noConfusion h) (fun _ => ?_)); conv => whnf)
    refine ⟨_, _, hen, ?_⟩
    clear hen
    rcases chkE_cases n es[k] with q | q | q
    · rw [show (⟨es[k].b, es[k].k, es[k].v, es[k].m, es[k].z, es[k].o⟩ : Ety) = es[k] from rfl, q]
      rw [q, if_pos (by decide)] at hstep
      subst hstep
      (conv => whnf); repeat ((first | refine And.intro DrawOk.go ?_ | refine And.intro rfl ?_ | refine And.intro (fun _ => ?_) (fun h => Bool.noConfusion h) | refine And.intro (fun h => Bool.noConfusion h) (fun _ => ?_)); conv => whnf)
      refine Exists.intro [] (And.intro List.nodup_nil ?_); ((conv => whnf); repeat ((first | refine And.intro DrawOk.go ?_ | refine And.intro rfl ?_ | refine And.intro (fun _ => ?_) (fun h => Bool.noConfusion h) | refine And.intro (fun h => Bool.noConfusion h) (fun _ => ?_)); conv => whnf))
      rfl
    · rw [show (⟨es[k].b, es[k].k, es[k].v, es[k].m, es[k].z, es[k].o⟩ : Ety) = es[k] from rfl, q]
      rw [q, if_pos (by decide)] at hstep
      subst hstep
      (conv => whnf); repeat ((first | refine And.intro DrawOk.go ?_ | refine And.intro rfl ?_ | refine And.intro (fun _ => ?_) (fun h => Bool.noConfusion h) | refine And.intro (fun h => Bool.noConfusion h) (fun _ => ?_)); conv => whnf)
      refine Exists.intro [] (And.intro List.nodup_nil ?_); ((conv => whnf); repeat ((first | refine And.intro DrawOk.go ?_ | refine And.intro rfl ?_ | refine And.intro (fun _ => ?_) (fun h => Bool.noConfusion h) | refine And.intro (fun h => Bool.noConfusion h) (fun _ => ?_)); conv => whnf))
      rfl
    have q0 := (chkE_no q).2.1
    rw [show (⟨es[k].b, es[k].k, es[k].v, es[k].m, es[k].z, es[k].o⟩ : Ety) = es[k] from rfl, q]
    rw [q, if_neg (by decide)] at hstep
    cases k with
    | zero =>
      rw [if_neg (by show ¬ es[0].b ≤ -1; omega)] at hstep
      (conv => whnf); repeat ((first | refine And.intro DrawOk.go ?_ | refine And.intro rfl ?_ | refine And.intro (fun _ => ?_) (fun h => Bool.noConfusion h) | refine And.intro (fun h => Bool.noConfusion h) (fun _ => ?_)); conv => whnf)
      refine again 1 ⟨by omega, by rw [hnext]; exact hstep⟩ (by omega) ?_
      (refine And.intro rfl (And.intro rfl ?_)); (repeat' (first | exact trivial | exact rfl | apply And.intro | (refine congrArg (Value.int .i64) (w64_nat ?_); omega)))
    | succ j =>
      have hlj : j < es.length := by omega
      rw [lastE_succ hlj] at hstep
      (conv => whnf); repeat ((first | refine And.intro DrawOk.go ?_ | refine And.intro rfl ?_ | refine And.intro (fun _ => ?_) (fun h => Bool.noConfusion h) | refine And.intro (fun h => Bool.noConfusion h) (fun _ => ?_)); conv => whnf)
      refine And.intro (fun h => ?_) (fun h => absurd (of_decide_eq_false h) (by omega))
      (conv => whnf); repeat ((first | refine And.intro DrawOk.go ?_ | refine And.intro rfl ?_ | refine And.intro (fun _ => ?_) (fun h => Bool.noConfusion h) | refine And.intro (fun h => Bool.noConfusion h) (fun _ => ?_)); conv => whnf)
      refine ⟨by omega, _, hit, rfl, ?_⟩
      (conv => whnf); repeat ((first | refine And.intro DrawOk.go ?_ | refine And.intro rfl ?_ | refine And.intro (fun _ => ?_) (fun h => Bool.noConfusion h) | refine And.intro (fun h => Bool.noConfusion h) (fun _ => ?_)); conv => whnf)
      rw [show iwrap .i64 (((j + 1 : Nat) : Int) - 1) = (j : Int) from (w64_in (by omega)).trans (by omega)]
      refine ⟨by omega, _, eItem hlj, rfl, ?_⟩
      (conv => whnf); repeat ((first | refine And.intro DrawOk.go ?_ | refine And.intro rfl ?_ | refine And.intro (fun _ => ?_) (fun h => Bool.noConfusion h) | refine And.intro (fun h => Bool.noConfusion h) (fun _ => ?_)); conv => whnf)
      refine And.intro (fun h4 => ?_) (fun h4 => ?_)
      · rw [if_pos (of_decide_eq_true h4)] at hstep
        subst hstep
        (conv => whnf); repeat ((first | refine And.intro DrawOk.go ?_ | refine And.intro rfl ?_ | refine And.intro (fun _ => ?_) (fun h => Bool.noConfusion h) | refine And.intro (fun h => Bool.noConfusion h) (fun _ => ?_)); conv => whnf)
        refine Exists.intro [] (And.intro List.nodup_nil ?_); ((conv => whnf); repeat ((first | refine And.intro DrawOk.go ?_ | refine And.intro rfl ?_ | refine And.intro (fun _ => ?_) (fun h => Bool.noConfusion h) | refine And.intro (fun h => Bool.noConfusion h) (fun _ => ?_)); conv => whnf))
        rfl
      · rw [if_neg (of_decide_eq_false h4)] at hstep
        (conv => whnf); repeat ((first | refine And.intro DrawOk.go ?_ | refine And.intro rfl ?_ | refine And.intro (fun _ => ?_) (fun h => Bool.noConfusion h) | refine And.intro (fun h => Bool.noConfusion h) (fun _ => ?_)); conv => whnf)
        refine again (j + 1 + 1) ⟨by omega, by rw [hnext]; exact hstep⟩ (by omega) ?_
        (refine And.intro rfl (And.intro rfl ?_)); (repeat' (first | exact trivial | exact rfl | apply And.intro | (refine congrArg (Value.int .i64) (w64_nat ?_); omega)))
  · have hge : ¬ k < es.length := by have := of_decide_eq_false h; rw [eLen] at this; omega
    rw [chkL_end hge] at he
    subst he
    (conv => whnf); repeat ((first | refine And.intro DrawOk.go ?_ | refine And.intro rfl ?_ | refine And.intro (fun _ => ?_) (fun h => Bool.noConfusion h) | refine And.intro (fun h => Bool.noConfusion h) (fun _ => ?_)); conv => whnf)
    refine Exists.intro [] (And.intro List.nodup_nil ?_); ((conv => whnf); repeat ((first | refine And.intro DrawOk.go ?_ | refine And.intro rfl ?_ | refine And.intro (fun _ => ?_) (fun h => Bool.noConfusion h) | refine And.intro (fun h => Bool.noConfusion h) (fun _ => ?_)); conv => whnf))
    rfl
end Go.Proofs.Ytkpicojhnnkibaa.Ab
namespace Go.Proofs.Ytkpicojhnnkibaa.Ab
set_option linter.unusedVariables false
set_option linter.unusedSimpArgs false
open Go.RowKit

theorem nu_le (n k : Int) : (nu n k).size ≤ 7 := by
  unfold nu sput
  split
  · rename_i h
    rw [sS_size, putB_len]
    have := h.1; have := h.2.1
    omega
  · decide
set_option maxRecDepth 100000 in
set_option maxHeartbeats 8000000 in
theorem pairF (a b k : Int) : Fun Try.prog 50 [i64V a, i64V b, i64V k] [] (.v (strV (nu a k ++ nu b k))) := by
  have h1 := nu_le a k
  have h2 := nu_le b k
  have p1 := putF a k
  have p2 := putF b k
  unfold nu at *
  refine fun_of_vc tabOk mixOk Try.func50 rfl (by rfl) (rs := [.tmp 6]) rfl rfl 30 ?_; rw [Try.ntmps50]
  (conv => whnf); repeat ((first | refine And.intro DrawOk.go ?_ | refine And.intro rfl ?_ | refine And.intro (fun _ => ?_) (fun h => Bool.noConfusion h) | refine And.intro (fun h => Bool.noConfusion h) (fun _ => ?_)); conv => whnf)
  refine ⟨_, _, p1, ?_⟩
  (conv => whnf); repeat ((first | refine And.intro DrawOk.go ?_ | refine And.intro rfl ?_ | refine And.intro (fun _ => ?_) (fun h => Bool.noConfusion h) | refine And.intro (fun h => Bool.noConfusion h) (fun _ => ?_)); conv => whnf)
  refine ⟨_, _, p2, ?_⟩
  (conv => whnf); repeat ((first | refine And.intro DrawOk.go ?_ | refine And.intro rfl ?_ | refine And.intro (fun _ => ?_) (fun h => Bool.noConfusion h) | refine And.intro (fun h => Bool.noConfusion h) (fun _ => ?_)); conv => whnf)
  refine ⟨by omega, ?_⟩
  (conv => whnf); repeat ((first | refine And.intro DrawOk.go ?_ | refine And.intro rfl ?_ | refine And.intro (fun _ => ?_) (fun h => Bool.noConfusion h) | refine And.intro (fun h => Bool.noConfusion h) (fun _ => ?_)); conv => whnf)
  refine Exists.intro [] (And.intro List.nodup_nil ?_); ((conv => whnf); repeat ((first | refine And.intro DrawOk.go ?_ | refine And.intro rfl ?_ | refine And.intro (fun _ => ?_) (fun h => Bool.noConfusion h) | refine And.intro (fun h => Bool.noConfusion h) (fun _ => ?_)); conv => whnf))
  rfl
set_option maxRecDepth 100000 in
set_option maxHeartbeats 8000000 in
theorem cnumF (a k : Int) : Fun Try.prog 52 [i64V a, i64V k] [] (.v (strV (nu a k))) := by
  have p1 := putF' a k
  unfold nu
  refine fun_of_vc tabOk mixOk Try.func52 rfl (by rfl) (rs := [.tmp 4]) rfl rfl 18 ?_; rw [Try.ntmps52]
  (conv => whnf); repeat ((first | refine And.intro DrawOk.go ?_ | refine And.intro rfl ?_ | refine And.intro (fun _ => ?_) (fun h => Bool.noConfusion h) | refine And.intro (fun h => Bool.noConfusion h) (fun _ => ?_)); conv => whnf)
  refine ⟨_, _, p1, ?_⟩
  (conv => whnf); repeat ((first | refine And.intro DrawOk.go ?_ | refine And.intro rfl ?_ | refine And.intro (fun _ => ?_) (fun h => Bool.noConfusion h) | refine And.intro (fun h => Bool.noConfusion h) (fun _ => ?_)); conv => whnf)
  refine Exists.intro [] (And.intro List.nodup_nil ?_); ((conv => whnf); repeat ((first | refine And.intro DrawOk.go ?_ | refine And.intro rfl ?_ | refine And.intro (fun _ => ?_) (fun h => Bool.noConfusion h) | refine And.intro (fun h => Bool.noConfusion h) (fun _ => ?_)); conv => whnf))
  rfl
theorem crc_snoc' (B x : List UInt8) : Crc.add crcP crcO (crcN B) (x.map UInt8.toNat) = crcN (B ++ x) := by unfold crcN; rw [List.map_append, Crc.add_append]
theorem caddC (B : List UInt8) (s : ByteArray) (hs : s.size ≤ 1000000) : Fun Try.prog 79 [u32V (crcN B), strV s] [] (.v (u32V (crcN (B ++ sL s)))) := by
  rw [← crc_snoc']
  exact fun_of_calls (args := [.int .u32 (crcN B), .string s]) (v := .int .u32 (Crc.add crcP crcO (crcN B) (crcB s) : Nat)) ⟨_, Try.func79, rfl, by rfl⟩ rfl (fun w => add_any (crcN B) s w (crcN_lt B) (by unfold maxLen; omega))
theorem bodies_snoc (rs : List Rec) (r : Rec) : bodies (rs ++ [r]) = bodies rs ++ (if rchk r = 0 then bodyL r else []) := by simp [bodies]
theorem bodies_len (rs : List Rec) : (bodies rs).length ≤ 36 * rs.length := by
  induction rs with
  | nil => simp [bodies]
  | cons r rs ih =>
    have : bodies (r :: rs) = (if rchk r = 0 then bodyL r else []) ++ bodies rs := by simp [bodies]
    rw [this, List.length_append, List.length_cons]
    split
    · rename_i h
      rw [body_len (rchk_ok h).2.2.2.2.1]
      omega
    · simp; omega
theorem enc36 {r : Rec} (h : rchk r = 0) : sL ((sS (encL r)).extract (0 : Int).toNat (36 : Int).toNat) = bodyL r := by
  have h5 := (rchk_ok h).2.2.2.2.1
  rw [ex36 (by rw [sS_size, enc_len h5]), sL_S, encL, sealL]
  exact List.take_left' (body_len h5)
theorem enc36s {r : Rec} (h : rchk r = 0) : (sS (encL r)).extract (0 : Int).toNat (36 : Int).toNat = sS (bodyL r) := sL_inj (enc36 h)
set_option maxRecDepth 100000 in
set_option maxHeartbeats 8000000 in
theorem csumF (rs : List Rec) (hl : rs.length ≤ 140737488355328) : Fun Try.prog 51 [slV (rR rs)] [] (.v (strV (sumR rs))) := by
  have hs := sumF ByteArray.empty (by decide)
  refine fun_of_vc tabOk mixOk Try.func51 rfl (by rfl) (rs := [.tmp 2]) rfl rfl 41 ?_; rw [Try.ntmps51]
  (conv => whnf); repeat ((first | refine And.intro DrawOk.go ?_ | refine And.intro rfl ?_ | refine And.intro (fun _ => ?_) (fun h => Bool.noConfusion h) | refine And.intro (fun h => Bool.noConfusion h) (fun _ => ?_)); conv => whnf)
  refine ⟨_, _, hs, ?_⟩
  (conv => whnf); repeat ((first | refine And.intro DrawOk.go ?_ | refine And.intro rfl ?_ | refine And.intro (fun _ => ?_) (fun h => Bool.noConfusion h) | refine And.intro (fun h => Bool.noConfusion h) (fun _ => ?_)); conv => whnf)
  refine vc_loop [2, 11, 12] [] (X := Nat) (fun x gs => [(13, ATint x), (3, .v (u32V (crcN (bodies (rs.take x)))))]) (fun _ _ => []) (fun x => x ≤ rs.length) (fun x => rs.length - x) _ (Ghost.refl _) 0 (Nat.zero_le _) ?_ ?_
  · (refine And.intro rfl (And.intro rfl ?_)); (repeat' (first | exact trivial | exact rfl | apply And.intro | (refine congrArg (Value.int .i64) (w64_nat ?_); omega)))
  rintro gs k hk
  (conv => whnf); repeat ((first | refine And.intro DrawOk.go ?_ | refine And.intro rfl ?_ | refine And.intro (fun _ => ?_) (fun h => Bool.noConfusion h) | refine And.intro (fun h => Bool.noConfusion h) (fun _ => ?_)); conv => whnf)
  refine And.intro (fun h => ?_) (fun h => ?_)
  · have hlt : k < rs.length := by have := of_decide_eq_true h; rw [rLen] at this; omega
    have he := rencF rs[k].k rs[k].b rs[k].v rs[k].m rs[k].p
    rw [show (⟨rs[k].k, rs[k].b, rs[k].v, rs[k].m, rs[k].p⟩ : Rec) = rs[k] from rfl] at he
    have hsn : bodies (rs.take (k + 1)) = bodies (rs.take k) ++ (if rchk rs[k] = 0 then bodyL rs[k] else []) := by rw [List.take_succ_eq_append_getElem hlt, bodies_snoc]
    have hit := rItem hlt
    (conv => whnf); repeat ((first | refine And.intro DrawOk.go ?_ | refine And.intro rfl ?_ | refine And.intro (fun _ => ?_) (fun h => Bool.noConfusion h) | refine And.intro (fun h => Bool.noConfusion h) (fun _ => ?_)); conv => whnf)
    refine ⟨by omega, _, hit, rfl, ?_⟩
    (conv => whnf); repeat ((first | refine And.intro DrawOk.go ?_ | refine And.intro rfl ?_ | refine And.intro (fun _ => ?_) (fun h => Bool.noConfusion h) | refine And.intro (fun h => Bool.noConfusion h) (fun _ => ?_)); conv => whnf)
    by_cases hc : rchk rs[k] = 0
    · have h5 := (rchk_ok hc).2.2.2.2.1
      rw [renc_yes hc] at he
      rw [if_pos hc] at hsn
      have ha := caddC (bodies (rs.take k)) (sS (bodyL rs[k])) (by rw [sS_size, body_len h5]; decide)
      rw [sL_S, ← hsn] at ha
      have hsz : (sS (encL rs[k])).size = 40 := by rw [sS_size, enc_len h5]
      have hex := enc36s hc
      refine ⟨_, _, he, ?_⟩
      generalize sS (encL rs[k]) = E at hsz hex
      (conv => whnf); repeat ((first | refine And.intro DrawOk.go ?_ | refine And.intro rfl ?_ | refine And.intro (fun _ => ?_) (fun h => Bool.noConfusion h) | refine And.intro (fun h => Bool.noConfusion h) (fun _ => ?_)); conv => whnf)
      refine And.intro (fun h2 => ?_) (fun h2 => absurd h2 (by simp [hsz]))
      (conv => whnf); repeat ((first | refine And.intro DrawOk.go ?_ | refine And.intro rfl ?_ | refine And.intro (fun _ => ?_) (fun h => Bool.noConfusion h) | refine And.intro (fun h => Bool.noConfusion h) (fun _ => ?_)); conv => whnf)
      refine ⟨by decide, by decide, by dsimp only; omega, ?_⟩
      (conv => whnf); repeat ((first | refine And.intro DrawOk.go ?_ | refine And.intro rfl ?_ | refine And.intro (fun _ => ?_) (fun h => Bool.noConfusion h) | refine And.intro (fun h => Bool.noConfusion h) (fun _ => ?_)); conv => whnf)
      rw [hex]
      refine ⟨_, _, ha, ?_⟩
      (conv => whnf); repeat ((first | refine And.intro DrawOk.go ?_ | refine And.intro rfl ?_ | refine And.intro (fun _ => ?_) (fun h => Bool.noConfusion h) | refine And.intro (fun h => Bool.noConfusion h) (fun _ => ?_)); conv => whnf)
      refine again (k + 1) hlt (by omega) ?_
      (refine And.intro rfl (And.intro rfl ?_)); (repeat' (first | exact trivial | exact rfl | apply And.intro | (refine congrArg (Value.int .i64) (w64_nat ?_); omega)))
    · rw [renc_no hc] at he
      rw [if_neg hc, List.append_nil] at hsn
      refine ⟨_, _, he, ?_⟩
      (conv => whnf); repeat ((first | refine And.intro DrawOk.go ?_ | refine And.intro rfl ?_ | refine And.intro (fun _ => ?_) (fun h => Bool.noConfusion h) | refine And.intro (fun h => Bool.noConfusion h) (fun _ => ?_)); conv => whnf)
      refine again (k + 1) hlt (by omega) ?_
      (refine And.intro rfl (And.intro rfl ?_)); (repeat' (first | exact trivial | exact rfl | apply And.intro | (refine congrArg (Value.int .i64) (w64_nat ?_); omega)))
      all_goals exact congrArg (fun z => Value.int .u32 (crcN z : Nat)) hsn.symm
  · have hge : ¬ k < rs.length := by have := of_decide_eq_false h; rw [rLen] at this; omega
    have hp := putF (crcN (bodies rs) : Nat) 4
    have hq := crc_put (bodies rs)
    have h64 := crc_i64 (bodies rs)
    rw [List.take_of_length_le (Nat.le_of_not_lt hge)]
    unfold sumR
    (conv => whnf); repeat ((first | refine And.intro DrawOk.go ?_ | refine And.intro rfl ?_ | refine And.intro (fun _ => ?_) (fun h => Bool.noConfusion h) | refine And.intro (fun h => Bool.noConfusion h) (fun _ => ?_)); conv => whnf)
    rw [h64]
    refine ⟨_, _, hp, ?_⟩
    rw [hq]
    (conv => whnf); repeat ((first | refine And.intro DrawOk.go ?_ | refine And.intro rfl ?_ | refine And.intro (fun _ => ?_) (fun h => Bool.noConfusion h) | refine And.intro (fun h => Bool.noConfusion h) (fun _ => ?_)); conv => whnf)
    refine Exists.intro [] (And.intro List.nodup_nil ?_); ((conv => whnf); repeat ((first | refine And.intro DrawOk.go ?_ | refine And.intro rfl ?_ | refine And.intro (fun _ => ?_) (fun h => Bool.noConfusion h) | refine And.intro (fun h => Bool.noConfusion h) (fun _ => ?_)); conv => whnf))
    rfl
theorem nu_nat (n k : Nat) (h1 : 1 ≤ k) (h7 : k ≤ 7) (hn : n < 256 ^ k) : nu (n : Int) k = sS (putB n k) := num_nat h1 h7 hn
theorem nu_4 (n : Nat) (hn : n < 256 ^ 4) : nu (n : Int) ((4 : Nat) : Int) = sS (putB n 4) := nu_nat n 4 (by omega) (by omega) hn
theorem cnum4 (n : Nat) (hn : n < 256 ^ 4) : Fun Try.prog 52 [i64V n, i64V ((4 : Nat) : Int)] [] (.v (strV (sS (putB n 4)))) := by
  have h := cnumF n ((4 : Nat) : Int)
  rw [nu_4 n hn] at h
  exact h
set_option maxRecDepth 100000 in
set_option maxHeartbeats 8000000 in
theorem csumF' (rs : List Rec) (hl : rs.length ≤ 20000) : Fun Try.prog 53 [slV (rR rs)] [] (.v (strV (sumR rs))) := by
  have hbl := bodies_len rs
  refine fun_of_vc tabOk mixOk Try.func53 rfl (by rfl) (rs := [.tmp 2]) rfl rfl 35 ?_; rw [Try.ntmps53]
  (conv => whnf); repeat ((first | refine And.intro DrawOk.go ?_ | refine And.intro rfl ?_ | refine And.intro (fun _ => ?_) (fun h => Bool.noConfusion h) | refine And.intro (fun h => Bool.noConfusion h) (fun _ => ?_)); conv => whnf)
  refine vc_loop [0, 2] [] (X := Nat × ByteArray) (fun x gs => [(4, ATint x.1), (3, .v (strV x.2))]) (fun _ _ => []) (fun x => x.1 ≤ rs.length ∧ x.2 = sS (bodies (rs.take x.1))) (fun x => rs.length - x.1) _ (Ghost.refl _) (0, ⟨#[]⟩) ⟨Nat.zero_le _, rfl⟩ ?_ ?_
  · (refine And.intro rfl (And.intro rfl ?_)); (repeat' (first | exact trivial | exact rfl | apply And.intro | (refine congrArg (Value.int .i64) (w64_nat ?_); omega)))
  rintro gs ⟨k, A⟩ ⟨hk, hA⟩
  dsimp only at hk hA ⊢
  (conv => whnf); repeat ((first | refine And.intro DrawOk.go ?_ | refine And.intro rfl ?_ | refine And.intro (fun _ => ?_) (fun h => Bool.noConfusion h) | refine And.intro (fun h => Bool.noConfusion h) (fun _ => ?_)); conv => whnf)
  refine And.intro (fun h => ?_) (fun h => ?_)
  · have hlt : k < rs.length := by have := of_decide_eq_true h; rw [rLen] at this; omega
    have he := rencF' rs[k].k rs[k].b rs[k].v rs[k].m rs[k].p
    rw [show (⟨rs[k].k, rs[k].b, rs[k].v, rs[k].m, rs[k].p⟩ : Rec) = rs[k] from rfl] at he
    have hsn : bodies (rs.take (k + 1)) = bodies (rs.take k) ++ (if rchk rs[k] = 0 then bodyL rs[k] else []) := by rw [List.take_succ_eq_append_getElem hlt, bodies_snoc]
    have hbk := bodies_len (rs.take k)
    rw [List.length_take] at hbk
    have hit := rItem hlt
    (conv => whnf); repeat ((first | refine And.intro DrawOk.go ?_ | refine And.intro rfl ?_ | refine And.intro (fun _ => ?_) (fun h => Bool.noConfusion h) | refine And.intro (fun h => Bool.noConfusion h) (fun _ => ?_)); conv => whnf)
    refine ⟨by omega, _, hit, rfl, ?_⟩
    (conv => whnf); repeat ((first | refine And.intro DrawOk.go ?_ | refine And.intro rfl ?_ | refine And.intro (fun _ => ?_) (fun h => Bool.noConfusion h) | refine And.intro (fun h => Bool.noConfusion h) (fun _ => ?_)); conv => whnf)
    by_cases hc : rchk rs[k] = 0
    · have h5 := (rchk_ok hc).2.2.2.2.1
      rw [renc_yes hc] at he
      rw [if_pos hc] at hsn
      have hsz : (sS (encL rs[k])).size = 40 := by rw [sS_size, enc_len h5]
      have hex := enc36s hc
      have hb36 := body_len h5
      refine ⟨_, _, he, ?_⟩
      generalize sS (encL rs[k]) = E at hsz hex
      (conv => whnf); repeat ((first | refine And.intro DrawOk.go ?_ | refine And.intro rfl ?_ | refine And.intro (fun _ => ?_) (fun h => Bool.noConfusion h) | refine And.intro (fun h => Bool.noConfusion h) (fun _ => ?_)); conv => whnf)
      refine ⟨by decide, by decide, by dsimp only; omega, ?_⟩
      (conv => whnf); repeat ((first | refine And.intro DrawOk.go ?_ | refine And.intro rfl ?_ | refine And.intro (fun _ => ?_) (fun h => Bool.noConfusion h) | refine And.intro (fun h => Bool.noConfusion h) (fun _ => ?_)); conv => whnf)
      rw [hex]
      refine ⟨by rw [hA, sS_size, sS_size]; omega, ?_⟩
      (conv => whnf); repeat ((first | refine And.intro DrawOk.go ?_ | refine And.intro rfl ?_ | refine And.intro (fun _ => ?_) (fun h => Bool.noConfusion h) | refine And.intro (fun h => Bool.noConfusion h) (fun _ => ?_)); conv => whnf)
      refine again (k + 1, A ++ sS (bodyL rs[k])) ⟨hlt, by dsimp only; rw [hsn, ← sS_append, hA]⟩ (by dsimp only; omega) ?_
      (refine And.intro rfl (And.intro rfl ?_)); (repeat' (first | exact trivial | exact rfl | apply And.intro | (refine congrArg (Value.int .i64) (w64_nat ?_); omega)))
    · rw [renc_no hc] at he
      rw [if_neg hc, List.append_nil] at hsn
      refine ⟨_, _, he, ?_⟩
      (conv => whnf); repeat ((first | refine And.intro DrawOk.go ?_ | refine And.intro rfl ?_ | refine And.intro (fun _ => ?_) (fun h => Bool.noConfusion h) | refine And.intro (fun h => Bool.noConfusion h) (fun _ => ?_)); conv => whnf)
      refine And.intro (fun h2 => absurd (by simpa using h2) hc) (fun h2 => ?_)
      (conv => whnf); repeat ((first | refine And.intro DrawOk.go ?_ | refine And.intro rfl ?_ | refine And.intro (fun _ => ?_) (fun h => Bool.noConfusion h) | refine And.intro (fun h => Bool.noConfusion h) (fun _ => ?_)); conv => whnf)
      refine again (k + 1, A) ⟨hlt, by dsimp only; rw [hsn, hA]⟩ (by dsimp only; omega) ?_
      (refine And.intro rfl (And.intro rfl ?_)); (repeat' (first | exact trivial | exact rfl | apply And.intro | (refine congrArg (Value.int .i64) (w64_nat ?_); omega)))
  · have hge : ¬ k < rs.length := by have := of_decide_eq_false h; rw [rLen] at this; omega
    have hp := cnum4 (crcN (bodies rs)) (Nat.lt_of_lt_of_le (crcN_lt _) (by decide))
    have h64 := crc_i64 (bodies rs)
    rw [List.take_of_length_le (Nat.le_of_not_lt hge)] at hA
    have hsm := sumF' A (by rw [hA, sS_size]; omega)
    rw [show sL A = bodies rs by rw [hA, sL_S]] at hsm
    clear hA hbl
    unfold sumR
    generalize crcN (bodies rs) = Z at hp hsm h64 ⊢
    (conv => whnf); repeat ((first | refine And.intro DrawOk.go ?_ | refine And.intro rfl ?_ | refine And.intro (fun _ => ?_) (fun h => Bool.noConfusion h) | refine And.intro (fun h => Bool.noConfusion h) (fun _ => ?_)); conv => whnf)
    refine ⟨_, _, hsm, ?_⟩
    (conv => whnf); repeat ((first | refine And.intro DrawOk.go ?_ | refine And.intro rfl ?_ | refine And.intro (fun _ => ?_) (fun h => Bool.noConfusion h) | refine And.intro (fun h => Bool.noConfusion h) (fun _ => ?_)); conv => whnf)
    rw [h64]
    refine ⟨_, _, hp, ?_⟩
    (conv => whnf); repeat ((first | refine And.intro DrawOk.go ?_ | refine And.intro rfl ?_ | refine And.intro (fun _ => ?_) (fun h => Bool.noConfusion h) | refine And.intro (fun h => Bool.noConfusion h) (fun _ => ?_)); conv => whnf)
    refine Exists.intro [] (And.intro List.nodup_nil ?_); ((conv => whnf); repeat ((first | refine And.intro DrawOk.go ?_ | refine And.intro rfl ?_ | refine And.intro (fun _ => ?_) (fun h => Bool.noConfusion h) | refine And.intro (fun h => Bool.noConfusion h) (fun _ => ?_)); conv => whnf))
    rfl
end Go.Proofs.Ytkpicojhnnkibaa.Ab
namespace Go.Proofs.Ytkpicojhnnkibaa.Ab
set_option linter.unusedVariables false
set_option linter.unusedSimpArgs false
open Go.RowKit

theorem rScI (l : List Rec) : ∀ e ∈ rR l, ∀ y ∈ e, isScI y = true := by
  intro e he y hy
  obtain ⟨x, _, rfl⟩ := List.mem_map.1 he
  simp [rRow] at hy
  rcases hy with h | h | h | h | h <;> subst h <;> rfl
set_option maxRecDepth 100000 in
set_option maxHeartbeats 8000000 in
theorem caddA (es more : List Rec) (hl : es.length + more.length ≤ 2000000) : FunA Try.prog 49 27 5 (rR es) [slV (rR more)] (rR (es ++ more)) := by
  have hsz := rSz more
  have hb : ((rR es).length + (rR more).length) * (tab 27).bytes ≤ 140737488355328 := bytes_le (by decide) (by rw [rLen, rLen]; exact hl)
  rw [← rApp]
  refine funA_of_vc tabOk mixOk Try.func49 rfl (by rfl) (rs := [.tmp 4]) rfl rfl 12 ?_; rw [Try.ntmps49]
  (conv => whnf); repeat ((first | refine And.intro DrawOk.go ?_ | refine And.intro rfl ?_ | refine And.intro (fun _ => ?_) (fun h => Bool.noConfusion h) | refine And.intro (fun h => Bool.noConfusion h) (fun _ => ?_)); conv => whnf)
  refine ⟨hsz, ?_⟩
  (conv => whnf); repeat ((first | refine And.intro DrawOk.go ?_ | refine And.intro rfl ?_ | refine And.intro (fun _ => ?_) (fun h => Bool.noConfusion h) | refine And.intro (fun h => Bool.noConfusion h) (fun _ => ?_)); conv => whnf)
  refine ⟨hb, ?_⟩
  (conv => whnf); repeat ((first | refine And.intro DrawOk.go ?_ | refine And.intro rfl ?_ | refine And.intro (fun _ => ?_) (fun h => Bool.noConfusion h) | refine And.intro (fun h => Bool.noConfusion h) (fun _ => ?_)); conv => whnf)
set_option maxRecDepth 100000 in
set_option maxHeartbeats 16000000 in
theorem cencF (s n c : Int) (es : List Ety) : Fun Try.prog 10 [bseA s n c es] [] (.tup [slV (rR (cencode ⟨s, n, c, es⟩).1), i64V (cencode ⟨s, n, c, es⟩).2]) := by
  have hc := cchkF s n c es
  by_cases h0 : cchk ⟨s, n, c, es⟩ = 0
  · rw [cencode_yes h0]
    have hl := (cchk_ok h0).2.1
    dsimp only at hl
    rw [h0] at hc
    clear h0
    refine fun_of_vc (tabXOk [2000049]) mixOk Try.func10 rfl (by rfl) (rs := [.tmp 2, .tmp 3]) rfl rfl 66 ?_; rw [Try.ntmps10]
    (conv => whnf); repeat ((first | refine And.intro DrawOk.go ?_ | refine And.intro rfl ?_ | refine And.intro (fun _ => ?_) (fun h => Bool.noConfusion h) | refine And.intro (fun h => Bool.noConfusion h) (fun _ => ?_)); conv => whnf)
    refine ⟨_, _, hc, ?_⟩
    (conv => whnf); repeat ((first | refine And.intro DrawOk.go ?_ | refine And.intro rfl ?_ | refine And.intro (fun _ => ?_) (fun h => Bool.noConfusion h) | refine And.intro (fun h => Bool.noConfusion h) (fun _ => ?_)); conv => whnf)
    refine ⟨_, _, pairF n c 6, ?_⟩
    (conv => whnf); repeat ((first | refine And.intro DrawOk.go ?_ | refine And.intro rfl ?_ | refine And.intro (fun _ => ?_) (fun h => Bool.noConfusion h) | refine And.intro (fun h => Bool.noConfusion h) (fun _ => ?_)); conv => whnf)
    rw [eLen es]
    refine ⟨_, _, _, caddA [] [headR ⟨s, n, c, es⟩] (by simp), rScI _, ?_⟩
    (conv => whnf); repeat ((first | refine And.intro DrawOk.go ?_ | refine And.intro rfl ?_ | refine And.intro (fun _ => ?_) (fun h => Bool.noConfusion h) | refine And.intro (fun h => Bool.noConfusion h) (fun _ => ?_)); conv => whnf)
    refine vc_loop [1, 2, 3, 5, 29, 30] [1] (X := Nat) (fun x gs => [(31, ATint x), (6, .v (.c (.own 27 (gs 27))))]) (fun x gs => [(27, .row (gs 27) 27 5 (rR (headR ⟨s, n, c, es⟩ :: (es.take x).map entR)))]) (fun x => x ≤ es.length) (fun x => es.length - x) _ (Ghost.refl _) 0 (Nat.zero_le _) ?_ ?_
    · (refine And.intro rfl (And.intro rfl ?_)); (repeat' (first | exact trivial | exact rfl | apply And.intro | (refine congrArg (Value.int .i64) (w64_nat ?_); omega)))
    rintro gs k hk
    (conv => whnf); repeat ((first | refine And.intro DrawOk.go ?_ | refine And.intro rfl ?_ | refine And.intro (fun _ => ?_) (fun h => Bool.noConfusion h) | refine And.intro (fun h => Bool.noConfusion h) (fun _ => ?_)); conv => whnf)
    refine And.intro (fun h => ?_) (fun h => ?_)
    · have hlt : k < es.length := by have := of_decide_eq_true h; (try rw [eLen] at this); omega
      (conv => whnf); repeat ((first | refine And.intro DrawOk.go ?_ | refine And.intro rfl ?_ | refine And.intro (fun _ => ?_) (fun h => Bool.noConfusion h) | refine And.intro (fun h => Bool.noConfusion h) (fun _ => ?_)); conv => whnf)
      refine ⟨by omega, _, eItem hlt, rfl, ?_⟩
      (conv => whnf); repeat ((first | refine And.intro DrawOk.go ?_ | refine And.intro rfl ?_ | refine And.intro (fun _ => ?_) (fun h => Bool.noConfusion h) | refine And.intro (fun h => Bool.noConfusion h) (fun _ => ?_)); conv => whnf)
      refine ⟨_, _, pairF es[k].z es[k].o 2, ?_⟩
      (conv => whnf); repeat ((first | refine And.intro DrawOk.go ?_ | refine And.intro rfl ?_ | refine And.intro (fun _ => ?_) (fun h => Bool.noConfusion h) | refine And.intro (fun h => Bool.noConfusion h) (fun _ => ?_)); conv => whnf)
      refine ⟨_, caddA (headR ⟨s, n, c, es⟩ :: (es.take k).map entR) [entR es[k]] (by simp; omega), rScI _, ?_⟩
      (conv => whnf); repeat ((first | refine And.intro DrawOk.go ?_ | refine And.intro rfl ?_ | refine And.intro (fun _ => ?_) (fun h => Bool.noConfusion h) | refine And.intro (fun h => Bool.noConfusion h) (fun _ => ?_)); conv => whnf)
      refine again (k + 1) hlt (by omega) ?_
      (refine And.intro rfl (And.intro rfl ?_)); (repeat' (first | exact trivial | exact rfl | apply And.intro | (refine congrArg (Value.int .i64) (w64_nat ?_); omega)))
      all_goals exact congrArg (Blk.row _ _ _) (congrArg rR (by rw [List.take_succ_eq_append_getElem hlt, List.map_append]; rfl))
    · have hge : ¬ k < es.length := by have := of_decide_eq_false h; (try rw [eLen] at this); omega
      rw [List.take_of_length_le (Nat.le_of_not_lt hge)]
      have hsum := csumF (bodyR ⟨s, n, c, es⟩) (by simp [bodyR]; omega)
      (conv => whnf); repeat ((first | refine And.intro DrawOk.go ?_ | refine And.intro rfl ?_ | refine And.intro (fun _ => ?_) (fun h => Bool.noConfusion h) | refine And.intro (fun h => Bool.noConfusion h) (fun _ => ?_)); conv => whnf)
      refine ⟨_, _, hsum, ?_⟩
      (conv => whnf); repeat ((first | refine And.intro DrawOk.go ?_ | refine And.intro rfl ?_ | refine And.intro (fun _ => ?_) (fun h => Bool.noConfusion h) | refine And.intro (fun h => Bool.noConfusion h) (fun _ => ?_)); conv => whnf)
      refine ⟨_, caddA (bodyR ⟨s, n, c, es⟩) [footR ⟨s, n, c, es⟩] (by simp [bodyR]; omega), rScI _, ?_⟩
      (conv => whnf); repeat ((first | refine And.intro DrawOk.go ?_ | refine And.intro rfl ?_ | refine And.intro (fun _ => ?_) (fun h => Bool.noConfusion h) | refine And.intro (fun h => Bool.noConfusion h) (fun _ => ?_)); conv => whnf)
      refine Exists.intro [] (And.intro List.nodup_nil ?_); ((conv => whnf); repeat ((first | refine And.intro DrawOk.go ?_ | refine And.intro rfl ?_ | refine And.intro (fun _ => ?_) (fun h => Bool.noConfusion h) | refine And.intro (fun h => Bool.noConfusion h) (fun _ => ?_)); conv => whnf))
      rfl
  · rw [cencode_no h0]
    generalize cchk ⟨s, n, c, es⟩ = R at hc h0 ⊢
    refine fun_of_vc (tabXOk [2000049]) mixOk Try.func10 rfl (by rfl) (rs := [.tmp 2, .tmp 3]) rfl rfl 66 ?_; rw [Try.ntmps10]
    (conv => whnf); repeat ((first | refine And.intro DrawOk.go ?_ | refine And.intro rfl ?_ | refine And.intro (fun _ => ?_) (fun h => Bool.noConfusion h) | refine And.intro (fun h => Bool.noConfusion h) (fun _ => ?_)); conv => whnf)
    refine ⟨_, _, hc, ?_⟩
    (conv => whnf); repeat ((first | refine And.intro DrawOk.go ?_ | refine And.intro rfl ?_ | refine And.intro (fun _ => ?_) (fun h => Bool.noConfusion h) | refine And.intro (fun h => Bool.noConfusion h) (fun _ => ?_)); conv => whnf)
    refine And.intro (fun h => ?_) (fun h => absurd h (by simp [h0]))
    (conv => whnf); repeat ((first | refine And.intro DrawOk.go ?_ | refine And.intro rfl ?_ | refine And.intro (fun _ => ?_) (fun h => Bool.noConfusion h) | refine And.intro (fun h => Bool.noConfusion h) (fun _ => ?_)); conv => whnf)
    refine Exists.intro [] (And.intro List.nodup_nil ?_); ((conv => whnf); repeat ((first | refine And.intro DrawOk.go ?_ | refine And.intro rfl ?_ | refine And.intro (fun _ => ?_) (fun h => Bool.noConfusion h) | refine And.intro (fun h => Bool.noConfusion h) (fun _ => ?_)); conv => whnf))
    rfl
set_option maxRecDepth 100000 in
set_option maxHeartbeats 16000000 in
theorem cencF' (s n c : Int) (es : List Ety) : Fun Try.prog 11 [bseA s n c es] [] (.tup [slV (rR (cencode ⟨s, n, c, es⟩).1), i64V (cencode ⟨s, n, c, es⟩).2]) := by
  have hc := cchkF' s n c es
  by_cases h0 : cchk ⟨s, n, c, es⟩ = 0
  · rw [cencode_yes h0]
    have hl := (cchk_ok h0).2.1
    dsimp only at hl
    rw [h0] at hc
    clear h0
    have hn1 := nu_le n 6
    have hn2 := nu_le c 6
    refine fun_of_vc tabOk mixOk Try.func11 rfl (by rfl) (rs := [.tmp 2, .tmp 3]) rfl rfl 71 ?_; rw [Try.ntmps11]
    (conv => whnf); repeat ((first | refine And.intro DrawOk.go ?_ | refine And.intro rfl ?_ | refine And.intro (fun _ => ?_) (fun h => Bool.noConfusion h) | refine And.intro (fun h => Bool.noConfusion h) (fun _ => ?_)); conv => whnf)
    refine ⟨_, _, hc, ?_⟩
    (conv => whnf); repeat ((first | refine And.intro DrawOk.go ?_ | refine And.intro rfl ?_ | refine And.intro (fun _ => ?_) (fun h => Bool.noConfusion h) | refine And.intro (fun h => Bool.noConfusion h) (fun _ => ?_)); conv => whnf)
    refine ⟨_, _, cnumF n 6, ?_⟩
    (conv => whnf); repeat ((first | refine And.intro DrawOk.go ?_ | refine And.intro rfl ?_ | refine And.intro (fun _ => ?_) (fun h => Bool.noConfusion h) | refine And.intro (fun h => Bool.noConfusion h) (fun _ => ?_)); conv => whnf)
    rw [eLen es]
    refine ⟨_, _, cnumF c 6, ?_⟩
    (conv => whnf); repeat ((first | refine And.intro DrawOk.go ?_ | refine And.intro rfl ?_ | refine And.intro (fun _ => ?_) (fun h => Bool.noConfusion h) | refine And.intro (fun h => Bool.noConfusion h) (fun _ => ?_)); conv => whnf)
    refine ⟨by omega, ?_⟩
    (conv => whnf); repeat ((first | refine And.intro DrawOk.go ?_ | refine And.intro rfl ?_ | refine And.intro (fun _ => ?_) (fun h => Bool.noConfusion h) | refine And.intro (fun h => Bool.noConfusion h) (fun _ => ?_)); conv => whnf)
    refine vc_loop [1, 2, 3, 5] [1] (X := Nat) (fun x gs => [(7, ATint x), (6, .v (.c (.own 28 (gs 28))))]) (fun x gs => [(28, .row (gs 28) 27 5 (rR (headR ⟨s, n, c, es⟩ :: (es.take x).map entR)))]) (fun x => x ≤ es.length) (fun x => es.length - x) _ (Ghost.refl _) 0 (Nat.zero_le _) ?_ ?_
    · (refine And.intro rfl (And.intro rfl ?_)); (repeat' (first | exact trivial | exact rfl | apply And.intro | (refine congrArg (Value.int .i64) (w64_nat ?_); omega)))
    rintro gs k hk
    (conv => whnf); repeat ((first | refine And.intro DrawOk.go ?_ | refine And.intro rfl ?_ | refine And.intro (fun _ => ?_) (fun h => Bool.noConfusion h) | refine And.intro (fun h => Bool.noConfusion h) (fun _ => ?_)); conv => whnf)
    refine And.intro (fun h => ?_) (fun h => ?_)
    · have hlt : k < es.length := by have := of_decide_eq_true h; (try rw [eLen] at this); omega
      have hm1 := nu_le es[k].z 2
      have hm2 := nu_le es[k].o 2
      (conv => whnf); repeat ((first | refine And.intro DrawOk.go ?_ | refine And.intro rfl ?_ | refine And.intro (fun _ => ?_) (fun h => Bool.noConfusion h) | refine And.intro (fun h => Bool.noConfusion h) (fun _ => ?_)); conv => whnf)
      refine ⟨by omega, _, eItem hlt, rfl, ?_⟩
      (conv => whnf); repeat ((first | refine And.intro DrawOk.go ?_ | refine And.intro rfl ?_ | refine And.intro (fun _ => ?_) (fun h => Bool.noConfusion h) | refine And.intro (fun h => Bool.noConfusion h) (fun _ => ?_)); conv => whnf)
      refine ⟨_, _, cnumF es[k].z 2, ?_⟩
      (conv => whnf); repeat ((first | refine And.intro DrawOk.go ?_ | refine And.intro rfl ?_ | refine And.intro (fun _ => ?_) (fun h => Bool.noConfusion h) | refine And.intro (fun h => Bool.noConfusion h) (fun _ => ?_)); conv => whnf)
      refine ⟨_, _, cnumF es[k].o 2, ?_⟩
      (conv => whnf); repeat ((first | refine And.intro DrawOk.go ?_ | refine And.intro rfl ?_ | refine And.intro (fun _ => ?_) (fun h => Bool.noConfusion h) | refine And.intro (fun h => Bool.noConfusion h) (fun _ => ?_)); conv => whnf)
      refine ⟨by omega, ?_⟩
      (conv => whnf); repeat ((first | refine And.intro DrawOk.go ?_ | refine And.intro rfl ?_ | refine And.intro (fun _ => ?_) (fun h => Bool.noConfusion h) | refine And.intro (fun h => Bool.noConfusion h) (fun _ => ?_)); conv => whnf)
      refine ⟨rSz [entR es[k]], ?_⟩
      (conv => whnf); repeat ((first | refine And.intro DrawOk.go ?_ | refine And.intro rfl ?_ | refine And.intro (fun _ => ?_) (fun h => Bool.noConfusion h) | refine And.intro (fun h => Bool.noConfusion h) (fun _ => ?_)); conv => whnf)
      refine ⟨bytes_le (by decide) (by simp [rR]; omega), ?_⟩
      (conv => whnf); repeat ((first | refine And.intro DrawOk.go ?_ | refine And.intro rfl ?_ | refine And.intro (fun _ => ?_) (fun h => Bool.noConfusion h) | refine And.intro (fun h => Bool.noConfusion h) (fun _ => ?_)); conv => whnf)
      refine again (k + 1) hlt (by omega) ?_
      (refine And.intro rfl (And.intro rfl ?_)); (repeat' (first | exact trivial | exact rfl | apply And.intro | (refine congrArg (Value.int .i64) (w64_nat ?_); omega)))
      all_goals exact congrArg (Blk.row _ _ _) ((rSnoc _ (entR es[k])).trans (congrArg rR (by rw [List.take_succ_eq_append_getElem hlt, List.map_append]; rfl)))
    · have hge : ¬ k < es.length := by have := of_decide_eq_false h; (try rw [eLen] at this); omega
      rw [List.take_of_length_le (Nat.le_of_not_lt hge)]
      have hsum := csumF' (bodyR ⟨s, n, c, es⟩) (by simp [bodyR]; omega)
      (conv => whnf); repeat ((first | refine And.intro DrawOk.go ?_ | refine And.intro rfl ?_ | refine And.intro (fun _ => ?_) (fun h => Bool.noConfusion h) | refine And.intro (fun h => Bool.noConfusion h) (fun _ => ?_)); conv => whnf)
      refine ⟨_, _, hsum, ?_⟩
      (conv => whnf); repeat ((first | refine And.intro DrawOk.go ?_ | refine And.intro rfl ?_ | refine And.intro (fun _ => ?_) (fun h => Bool.noConfusion h) | refine And.intro (fun h => Bool.noConfusion h) (fun _ => ?_)); conv => whnf)
      refine ⟨rSz [footR ⟨s, n, c, es⟩], ?_⟩
      (conv => whnf); repeat ((first | refine And.intro DrawOk.go ?_ | refine And.intro rfl ?_ | refine And.intro (fun _ => ?_) (fun h => Bool.noConfusion h) | refine And.intro (fun h => Bool.noConfusion h) (fun _ => ?_)); conv => whnf)
      refine ⟨bytes_le (by decide) (by simp [rR]; omega), ?_⟩
      (conv => whnf); repeat ((first | refine And.intro DrawOk.go ?_ | refine And.intro rfl ?_ | refine And.intro (fun _ => ?_) (fun h => Bool.noConfusion h) | refine And.intro (fun h => Bool.noConfusion h) (fun _ => ?_)); conv => whnf)
      refine Exists.intro [] (And.intro List.nodup_nil ?_); ((conv => whnf); repeat ((first | refine And.intro DrawOk.go ?_ | refine And.intro rfl ?_ | refine And.intro (fun _ => ?_) (fun h => Bool.noConfusion h) | refine And.intro (fun h => Bool.noConfusion h) (fun _ => ?_)); conv => whnf))
      exact congrArg (fun z => AT.tup [slV z, i64V 0]) (rSnoc (bodyR ⟨s, n, c, es⟩) (footR ⟨s, n, c, es⟩))
  · rw [cencode_no h0]
    generalize cchk ⟨s, n, c, es⟩ = R at hc h0 ⊢
    refine fun_of_vc tabOk mixOk Try.func11 rfl (by rfl) (rs := [.tmp 2, .tmp 3]) rfl rfl 71 ?_; rw [Try.ntmps11]
    (conv => whnf); repeat ((first | refine And.intro DrawOk.go ?_ | refine And.intro rfl ?_ | refine And.intro (fun _ => ?_) (fun h => Bool.noConfusion h) | refine And.intro (fun h => Bool.noConfusion h) (fun _ => ?_)); conv => whnf)
    refine ⟨_, _, hc, ?_⟩
    (conv => whnf); repeat ((first | refine And.intro DrawOk.go ?_ | refine And.intro rfl ?_ | refine And.intro (fun _ => ?_) (fun h => Bool.noConfusion h) | refine And.intro (fun h => Bool.noConfusion h) (fun _ => ?_)); conv => whnf)
    refine And.intro (fun h => ?_) (fun h => absurd h (by simp [h0]))
    (conv => whnf); repeat ((first | refine And.intro DrawOk.go ?_ | refine And.intro rfl ?_ | refine And.intro (fun _ => ?_) (fun h => Bool.noConfusion h) | refine And.intro (fun h => Bool.noConfusion h) (fun _ => ?_)); conv => whnf)
    refine Exists.intro [] (And.intro List.nodup_nil ?_); ((conv => whnf); repeat ((first | refine And.intro DrawOk.go ?_ | refine And.intro rfl ?_ | refine And.intro (fun _ => ?_) (fun h => Bool.noConfusion h) | refine And.intro (fun h => Bool.noConfusion h) (fun _ => ?_)); conv => whnf))
    rfl
end Go.Proofs.Ytkpicojhnnkibaa.Ab
