/- Checkpoints: lists of records, and the plain law. No condition. -/
import Derived.Test.YtkpicojhnnkibaaQc
import Derived.Test.YtkpicojhnnkibaaGe
import Derived.Test.YtkpicojhnnkibaaGd
namespace Go.Proofs.Ytkpicojhnnkibaa.Ab
set_option linter.unusedVariables false
set_option linter.unusedSimpArgs false
open Go.RowKit

/-! ### Lists of records -/
def rRow (r : Rec) : List IV := [.sc (.int .i64 r.k), .sc (.int .i64 r.b), .sc (.int .i64 r.v), .sc (.int .i64 r.m), .sc (.string r.p)]
def rR (rs : List Rec) : List (List IV) := rs.map rRow
theorem rLen (rs : List Rec) : (rR rs).length = rs.length := by simp [rR]
theorem rSz (rs : List Rec) : ∀ z ∈ rR rs, z.length = (tab 27).size := by
  intro z hz
  obtain ⟨x, _, rfl⟩ := List.mem_map.1 hz
  rfl
theorem rItem {rs : List Rec} {k : Nat} (h : k < rs.length) : (rR rs)[((k : Int)).toNat]? = some (rRow rs[k]) := by simp [rR, h]
theorem rSnoc (a : List Rec) (r : Rec) : rR a ++ [rRow r] = rR (a ++ [r]) := by simp [rR]
theorem rApp (a b : List Rec) : rR a ++ rR b = rR (a ++ b) := by simp [rR]
theorem rSet (rs : List Rec) (k : Nat) (r : Rec) : (rR rs).set ((k : Int)).toNat (rRow r) = rR (rs.set k r) := by simp [rR, List.map_set]
theorem eSnoc' (a : List Ety) (e : Ety) : eR a ++ [eRow e] = eR (a ++ [e]) := by simp [eR]
theorem eLen (es : List Ety) : (eR es).length = es.length := by simp [eR]
def rEq (a b : Rec) : Bool := (a.k == b.k && (a.b == b.b && (a.v == b.v && (a.m == b.m && (a.p.toList == b.p.toList && true)))))
theorem rEq_iff {a b : Rec} : rEq a b = true ↔ a = b := by
  obtain ⟨a1, a2, a3, a4, a5⟩ := a
  obtain ⟨b1, b2, b3, b4, b5⟩ := b
  simp only [rEq, Bool.and_eq_true, beq_iff_eq, and_true, Rec.mk.injEq]
  constructor
  · rintro ⟨h1, h2, h3, h4, h5⟩
    exact ⟨h1, h2, h3, h4, sL_inj (by rw [← toList_eq, ← toList_eq, h5])⟩
  · rintro ⟨h1, h2, h3, h4, h5⟩
    exact ⟨h1, h2, h3, h4, by rw [h5]⟩
instance : DecidableEq Rec := fun a b => decidable_of_iff _ rEq_iff
instance : DecidableEq Ety := fun a b => decidable_of_iff _ eEq_iff
theorem rEq_self (a : Rec) : rEq a a = true := rEq_iff.2 rfl
theorem recs_of {d : Nat} (es : List (List IV)) (h : ∀ r ∈ es, ShI tab (d + 1 + 1) 27 r) : ∃ xs : List Rec, es = rR xs ∧ ∀ r ∈ xs, r.p.size ≤ maxLen := by
  induction es with
  | nil => exact ⟨[], rfl, fun r hr => by cases hr⟩
  | cons e es ih =>
    obtain ⟨xs, rfl, hxs⟩ := ih (fun r hr => h r (List.mem_cons_of_mem _ hr))
    obtain ⟨k, b, v, m, p, rfl, hp, _⟩ := rec_of (h e List.mem_cons_self)
    exact ⟨⟨k, b, v, m, p⟩ :: xs, rfl, fun r hr => by
      rcases List.mem_cons.1 hr with rfl | hr
      · exact hp
      · exact hxs r hr⟩

/-! ### Checkpoints -/
structure Bse where
  s : Int
  n : Int
  c : Int
  es : List Ety
def bseV (b : Bse) : AV := .agg [.i (.sc (.int .i64 b.s)), .i (.sc (.int .i64 b.n)), .i (.sc (.int .i64 b.c)), .i (.sl (eR b.es))]
def b0 : Bse := ⟨0, 0, 0, []⟩
/-- The first error of an entry, but for the order. -/
def chkE (next : Int) (e : Ety) : Int :=
  if e.k ≠ 1 then 3
  else if e.b < 0 ∨ e.b ≥ 128 ∨ e.v < 1 ∨ e.v ≥ next ∨ e.m < 0 ∨ e.m > 255 ∨ e.z < 0 ∨ e.z ≥ 32 ∨ e.o < 0 ∨ e.o ≥ 64 then 1 else 0
def chkL (next : Int) : Int → List Ety → Int
  | _, [] => 0
  | last, e :: l => if chkE next e ≠ 0 then chkE next e else if e.b ≤ last then 17 else chkL next e.b l
def badB (b : Bse) : Prop := b.s < 1 ∨ b.s ≥ 1099511627776 ∨ b.n < 1 ∨ b.n > 1099511627776 ∨ b.c < 1 ∨ b.c > b.n
instance (b : Bse) : Decidable (badB b) := by unfold badB; infer_instance
def cchk (b : Bse) : Int := if badB b then 1 else if b.es.length > 128 then 19 else chkL b.n (-1) b.es
theorem chkE_no {next : Int} {e : Ety} (h : chkE next e = 0) : e.k = 1 ∧ 0 ≤ e.b ∧ e.b < 128 ∧ 1 ≤ e.v ∧ e.v < next ∧ 0 ≤ e.m ∧ e.m ≤ 255 ∧ 0 ≤ e.z ∧ e.z < 32 ∧ 0 ≤ e.o ∧ e.o < 64 := by
  unfold chkE at h
  split at h
  · cases h
  · split at h
    · cases h
    · omega
theorem chkE_cases (next : Int) (e : Ety) : chkE next e = 3 ∨ chkE next e = 1 ∨ chkE next e = 0 := by
  unfold chkE
  split
  · exact Or.inl rfl
  · split
    · exact Or.inr (Or.inl rfl)
    · exact Or.inr (Or.inr rfl)
/-- What a right list of entries is. -/
inductive EsOk (next : Int) : Int → List Ety → Prop
  | nil (last : Int) : EsOk next last []
  | cons {last : Int} {e : Ety} {l : List Ety} (h : chkE next e = 0) (h' : last < e.b) (hl : EsOk next e.b l) : EsOk next last (e :: l)
theorem chkL_iff {next : Int} {l : List Ety} : ∀ {last : Int}, chkL next last l = 0 ↔ EsOk next last l := by
  induction l with
  | nil => intro last; exact ⟨fun _ => .nil _, fun _ => rfl⟩
  | cons e l ih =>
    intro last
    simp only [chkL]
    constructor
    · intro h
      split at h
      · exact absurd h (by assumption)
      · split at h
        · cases h
        · exact .cons (by omega) (by omega) (ih.1 h)
    · rintro (_ | ⟨h, h', hl⟩)
      rw [if_neg (by omega), if_neg (by omega)]
      exact ih.2 hl
theorem EsOk.mem {next last : Int} {l : List Ety} (h : EsOk next last l) : ∀ e ∈ l, chkE next e = 0 := by
  induction h with
  | nil => intro e he; cases he
  | cons h _ _ ih =>
    intro e he
    rcases List.mem_cons.1 he with rfl | he
    · exact h
    · exact ih e he
theorem cchk_ok {b : Bse} (h : cchk b = 0) : ¬ badB b ∧ b.es.length ≤ 128 ∧ EsOk b.n (-1) b.es := by
  unfold cchk at h
  split at h
  · cases h
  · split at h
    · cases h
    · exact ⟨by assumption, by omega, chkL_iff.1 h⟩
theorem cchk_long {b : Bse} (h : 128 < b.es.length) : cchk b ≠ 0 := by
  intro h0
  have := (cchk_ok h0).2.1
  omega
def nu (n k : Int) : ByteArray := (sput n k).1
/-- What the records say that their sectors are right. -/
def bodies (rs : List Rec) : List UInt8 := (rs.map fun r => if rchk r = 0 then bodyL r else []).flatten
def sumR (rs : List Rec) : ByteArray := sS (putB (crcN (bodies rs)) 4)
def headR (b : Bse) : Rec := ⟨4, b.es.length, b.s, 0, nu b.n 6 ++ nu b.c 6⟩
def entR (e : Ety) : Rec := ⟨5, e.b, e.v, e.m, nu e.z 2 ++ nu e.o 2⟩
def bodyR (b : Bse) : List Rec := headR b :: b.es.map entR
def footR (b : Bse) : Rec := ⟨6, b.es.length, b.s, 0, sumR (bodyR b)⟩
def cenc (b : Bse) : List Rec := bodyR b ++ [footR b]
def cencode (b : Bse) : List Rec × Int := if cchk b = 0 then (cenc b, 0) else ([], cchk b)
theorem cenc_len (b : Bse) : (cenc b).length = b.es.length + 2 := by simp [cenc, bodyR]
theorem cencode_yes {b : Bse} (h : cchk b = 0) : cencode b = (cenc b, 0) := by unfold cencode; rw [if_pos h]
theorem cencode_no {b : Bse} (h : cchk b ≠ 0) : cencode b = ([], cchk b) := by unfold cencode; rw [if_neg h]
def gt (p : ByteArray) (a k : Int) : Int := (sget p a k).1
def candE (r : Rec) : Ety := ⟨r.b, 1, r.v, r.m, gt r.p 0 2, gt r.p 2 2⟩
def candB (h : Rec) (t : List Rec) : Bse := ⟨h.v, gt h.p 0 6, gt h.p 6 6, t.dropLast.map candE⟩
def cdecode (l : List Rec) : Bse × Int :=
  match l with
  | h :: t => if t.length ≥ 1 ∧ cchk (candB h t) = 0 ∧ cenc (candB h t) = l then (candB h t, 0) else (b0, 3)
  | [] => (b0, 3)
theorem cdecode_no {h : Rec} {t : List Rec} (hn : ¬ (t.length ≥ 1 ∧ cchk (candB h t) = 0 ∧ cenc (candB h t) = h :: t)) : cdecode (h :: t) = (b0, 3) := by
  unfold cdecode
  dsimp only
  rw [if_neg hn]
theorem cdecode_yes {h : Rec} {t : List Rec} (hn : t.length ≥ 1 ∧ cchk (candB h t) = 0 ∧ cenc (candB h t) = h :: t) : cdecode (h :: t) = (candB h t, 0) := by
  unfold cdecode
  dsimp only
  rw [if_pos hn]
theorem cdecode_err (l : List Rec) : (cdecode l).2 = 0 ∨ cdecode l = (b0, 3) := by
  unfold cdecode
  split
  · split
    · exact Or.inl rfl
    · exact Or.inr rfl
  · exact Or.inr rfl
theorem cdecode_short {l : List Rec} (h : l.length < 2) : cdecode l = (b0, 3) := by
  match l with
  | [] => rfl
  | h' :: t =>
    refine cdecode_no (fun hh => ?_)
    simp only [List.length_cons] at h
    have := hh.1
    omega
theorem cand_es (h : Rec) (t : List Rec) : (candB h t).es.length = t.length - 1 := by simp [candB]
theorem cdecode_long {l : List Rec} (h : 130 < l.length) : cdecode l = (b0, 3) := by
  match l with
  | [] => rfl
  | h' :: t =>
    refine cdecode_no (fun hh => ?_)
    simp at h
    exact cchk_long (by rw [cand_es]; omega) hh.2.1
theorem nu_size {n : Int} {k : Nat} (h1 : 1 ≤ k) (h7 : k ≤ 7) (h0 : 0 ≤ n) (hn : n < ((256 ^ k : Nat) : Int)) : nu n k = sS (putB n.toNat k) := by
  obtain ⟨m, rfl⟩ : ∃ m : Nat, n = m := ⟨n.toNat, by omega⟩
  unfold nu
  rw [sput_yes h1 h7 (by omega)]
  simp
theorem badB_no {b : Bse} (h : ¬ badB b) : 1 ≤ b.s ∧ b.s < 1099511627776 ∧ 1 ≤ b.n ∧ b.n ≤ 1099511627776 ∧ 1 ≤ b.c ∧ b.c ≤ b.n := by unfold badB at h; omega
theorem head_pay {b : Bse} (h : ¬ badB b) : (headR b).p = sS (putB b.n.toNat 6 ++ putB b.c.toNat 6) := by
  have := badB_no h
  show nu b.n (6 : Nat) ++ nu b.c (6 : Nat) = _
  rw [nu_size (by decide) (by decide) (by omega) (by omega), nu_size (by decide) (by decide) (by omega) (by omega), sS_append]
theorem head_size {b : Bse} (h : ¬ badB b) : (headR b).p.size = 12 := by rw [head_pay h, sS_size, List.length_append, putB_len, putB_len]
theorem ent_pay {next : Int} {e : Ety} (h : chkE next e = 0) : (entR e).p = sS (putB e.z.toNat 2 ++ putB e.o.toNat 2) := by
  have := chkE_no h
  show nu e.z (2 : Nat) ++ nu e.o (2 : Nat) = _
  rw [nu_size (by decide) (by decide) (by omega) (by omega), nu_size (by decide) (by decide) (by omega) (by omega), sS_append]
theorem ent_size {next : Int} {e : Ety} (h : chkE next e = 0) : (entR e).p.size = 4 := by rw [ent_pay h, sS_size, List.length_append, putB_len, putB_len]
/-- What is not read: a head or an entry whose payload has another length. -/
theorem cdecode_head {h : Rec} {t : List Rec} (hs : h.p.size ≠ 12) : cdecode (h :: t) = (b0, 3) := by
  refine cdecode_no (fun hh => hs ?_)
  obtain ⟨_, h2, h3⟩ := hh
  have e : headR (candB h t) = h := by
    have := congrArg List.head? h3
    simpa [cenc, bodyR] using this
  rw [← e]
  exact head_size (cchk_ok h2).1
theorem cdecode_ent {h : Rec} {t : List Rec} {k : Nat} {r : Rec} (hk : t.dropLast[k]? = some r) (hs : r.p.size ≠ 4) : cdecode (h :: t) = (b0, 3) := by
  refine cdecode_no (fun hh => hs ?_)
  obtain ⟨_, h2, h3⟩ := hh
  have hE := (cchk_ok h2).2.2.mem
  have hlt : k < t.length - 1 := by
    have := (List.getElem?_eq_some_iff.1 hk).1
    simpa using this
  have e1 : (cenc (candB h t))[k + 1]? = some (entR (candE r)) := by
    simp only [cenc, bodyR, List.cons_append, List.getElem?_cons_succ]
    rw [List.getElem?_append_left (by simp [candB]; omega), List.getElem?_map]
    simp only [candB, List.getElem?_map, hk, Option.map_some]
  rw [h3, List.getElem?_cons_succ] at e1
  have e2 : t[k]? = some r := by
    rw [List.getElem?_dropLast, if_pos hlt] at hk
    exact hk
  rw [e2] at e1
  injection e1 with e1
  rw [e1]
  exact ent_size (hE _ (List.mem_map.2 ⟨r, List.mem_of_getElem? hk, rfl⟩))
theorem gt_left {x y k : Nat} (h1 : 1 ≤ k) (h7 : k ≤ 7) (hx : x < 256 ^ k) : gt (sS (putB x k ++ putB y k)) 0 k = x := by
  unfold gt
  have := sget_ok (b := sS (putB x k ++ putB y k)) (a := 0) h1 h7 (by rw [sS_size, List.length_append, putB_len, putB_len]; omega)
  rw [show ((0 : Nat) : Int) = 0 from rfl] at this
  rw [this, sL_S, List.drop_zero, List.take_left' (putB_len _ _), getN_putB k _ hx]
theorem gt_right {x y k : Nat} (h1 : 1 ≤ k) (h7 : k ≤ 7) (hy : y < 256 ^ k) : gt (sS (putB x k ++ putB y k)) k k = y := by
  unfold gt
  rw [sget_ok (b := sS (putB x k ++ putB y k)) (a := k) h1 h7 (by rw [sS_size, List.length_append, putB_len, putB_len]; omega)]
  rw [sL_S, List.drop_left' (putB_len _ _), List.take_of_length_le (by rw [putB_len]; exact Nat.le_refl _), getN_putB k _ hy]
theorem candE_ent {next : Int} {e : Ety} (h : chkE next e = 0) : candE (entR e) = e := by
  have hh := chkE_no h
  have hp := ent_pay h
  have g1 := gt_left (x := e.z.toNat) (y := e.o.toNat) (k := 2) (by decide) (by decide) (by omega)
  have g2 := gt_right (x := e.z.toNat) (y := e.o.toNat) (k := 2) (by decide) (by decide) (by omega)
  unfold candE
  rw [hp]
  rw [show gt (sS (putB e.z.toNat 2 ++ putB e.o.toNat 2)) 0 2 = _ from g1, show gt (sS (putB e.z.toNat 2 ++ putB e.o.toNat 2)) 2 2 = _ from g2]
  obtain ⟨b, k, v, m, z, o⟩ := e
  simp only [entR, Ety.mk.injEq, true_and]
  dsimp only at hh
  omega
/-- A checkpoint is read back. -/
theorem cdec_enc {b : Bse} (h : cchk b = 0) : cdecode (cenc b) = (b, 0) := by
  obtain ⟨h1, h2, h3⟩ := cchk_ok h
  have hb := badB_no h1
  have hp := head_pay h1
  have g1 := gt_left (x := b.n.toNat) (y := b.c.toNat) (k := 6) (by decide) (by decide) (by omega)
  have g2 := gt_right (x := b.n.toNat) (y := b.c.toNat) (k := 6) (by decide) (by decide) (by omega)
  have e : candB (headR b) (b.es.map entR ++ [footR b]) = b := by
    unfold candB
    rw [hp, show gt (sS (putB b.n.toNat 6 ++ putB b.c.toNat 6)) 0 6 = _ from g1, show gt (sS (putB b.n.toNat 6 ++ putB b.c.toNat 6)) 6 6 = _ from g2, List.dropLast_concat]
    have hm : (b.es.map entR).map candE = b.es := by
      rw [List.map_map]
      conv => rhs; rw [← List.map_id b.es]
      exact List.map_congr_left (fun e he => candE_ent (h3.mem e he))
    rw [hm]
    obtain ⟨s, n, c, es⟩ := b
    simp only [headR, Bse.mk.injEq, true_and, and_true]
    dsimp only at hb
    omega
  have := cdecode_yes (h := headR b) (t := b.es.map entR ++ [footR b]) (by rw [e]; exact ⟨by simp, h, rfl⟩)
  rw [e] at this
  exact this
/-- A checkpoint of which a record is left out is none. -/
theorem cdec_less {b : Bse} (h : cchk b = 0) {k : Nat} (hk : k < (cenc b).length) : cdecode ((cenc b).take k ++ (cenc b).drop (k + 1)) = (b0, 3) := by
  rw [cenc_len] at hk
  cases k with
  | zero =>
    simp only [List.take_zero, List.nil_append, cenc, bodyR, List.cons_append, Nat.zero_add, List.drop_succ_cons, List.drop_zero]
    cases he : b.es with
    | nil => exact cdecode_short (by simp)
    | cons e es =>
      refine cdecode_head ?_
      rw [ent_size ((cchk_ok h).2.2.mem e (by rw [he]; exact List.mem_cons_self))]
      decide
  | succ k =>
    generalize hX : (cenc b).take (k + 1) ++ (cenc b).drop (k + 1 + 1) = X
    have hlen : X.length = b.es.length + 1 := by
      rw [← hX, List.length_append, List.length_take, List.length_drop, cenc_len]
      omega
    have hhd : X[0]? = some (headR b) := by
      rw [← hX]
      simp [cenc, bodyR]
    match X, hlen, hhd with
    | h' :: t, hlen, hhd =>
      have e1 : h' = headR b := by simpa using hhd
      subst e1
      refine cdecode_no (fun hh => ?_)
      obtain ⟨h4, h5, h6⟩ := hh
      have e2 : headR (candB (headR b) t) = headR b := by
        have := congrArg List.head? h6
        simpa [cenc, bodyR] using this
      have e3 := congrArg Rec.b e2
      have e4 : ((candB (headR b) t).es.length : Int) = b.es.length := e3
      rw [cand_es] at e4
      simp at hlen
      omega
def bsame (a b : Bse) : Bool := decide (a.s = b.s ∧ a.n = b.n ∧ a.c = b.c ∧ a.es = b.es)
theorem bsame_iff {a b : Bse} : bsame a b = true ↔ a = b := by
  obtain ⟨a1, a2, a3, a4⟩ := a
  obtain ⟨b1, b2, b3, b4⟩ := b
  simp [bsame]
end Go.Proofs.Ytkpicojhnnkibaa.Ab
