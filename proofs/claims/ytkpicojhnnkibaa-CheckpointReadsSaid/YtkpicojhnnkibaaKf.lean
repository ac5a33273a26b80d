/- Checkpoints made of numbers; CheckpointBack. No condition. -/
import Derived.Test.YtkpicojhnnkibaaKe
namespace Go.Proofs.Ytkpicojhnnkibaa.Ab
set_option linter.unusedVariables false
set_option linter.unusedSimpArgs false
open Go.RowKit

theorem EsOk.snoc {next : Int} {e : Ety} {l : List Ety} : ∀ {last : Int}, EsOk next last l → chkE next e = 0 → last < e.b → (∀ x ∈ l, x.b < e.b) → EsOk next last (l ++ [e]) := by
  induction l with
  | nil => intro last _ h1 h2 _; exact .cons h1 h2 (.nil _)
  | cons x l ih =>
    intro last h h1 h2 h3
    cases h with
    | cons g1 g2 g3 => exact .cons g1 g2 (ih g3 h1 (h3 x List.mem_cons_self) (fun y hy => h3 y (List.mem_cons_of_mem _ hy)))
def mkE (L : List Int) (k : Nat) (i : Nat) : Ety := ⟨i, 1, 1 + dval L k 48, dval L (dnx L k) 4, dval L (dnx L (dnx L k)) 9, dval L (dnx L (dnx L (dnx L k))) 5⟩
def mkN (L : List Int) (k : Nat) : Nat := dnx L (dnx L (dnx L (dnx L k)))
def mstep (L : List Int) (i : Nat) (st : Nat × List Ety) : Nat × List Ety :=
  if dval L st.1 3 > 0 then (mkN L (dnx L st.1), st.2 ++ [mkE L (dnx L st.1) i]) else (dnx L st.1, st.2)
def mrun (L : List Int) (k : Nat) : Nat → Nat × List Ety
  | 0 => (k, [])
  | i + 1 => mstep L i (mrun L k i)
theorem mrun_succ (L : List Int) (k i : Nat) : mrun L k (i + 1) = mstep L i (mrun L k i) := rfl
theorem mrun_inv (L : List Int) (k : Nat) (i : Nat) (hi : i ≤ 128) (hk : k ≤ L.length) : (mrun L k i).1 ≤ L.length ∧ (mrun L k i).2.length ≤ i ∧ EsOk 50 (-1) (mrun L k i).2 ∧ ∀ e ∈ (mrun L k i).2, e.b < i := by
  induction i with
  | zero => exact ⟨hk, Nat.le_refl _, .nil _, fun e he => by cases he⟩
  | succ i ih =>
    obtain ⟨h1, h2, h3, h4⟩ := ih (by omega)
    rw [mrun_succ, mstep]
    split
    · have v1 := dval_in L (dnx L (mrun L k i).1) (n := 48) (by omega) (by omega)
      have v2 := dval_in L (dnx L (dnx L (mrun L k i).1)) (n := 4) (by omega) (by omega)
      have v3 := dval_in L (dnx L (dnx L (dnx L (mrun L k i).1))) (n := 9) (by omega) (by omega)
      have v4 := dval_in L (dnx L (dnx L (dnx L (dnx L (mrun L k i).1)))) (n := 5) (by omega) (by omega)
      refine ⟨dnx_le (dnx_le (dnx_le (dnx_le (dnx_le h1)))), by rw [List.length_append, List.length_singleton]; omega, h3.snoc ?_ (by show (-1 : Int) < (i : Int); omega) (fun x hx => h4 x hx), fun e he => ?_⟩
      · refine chkE_0 rfl ?_
        unfold mkE
        dsimp only
        omega
      · rcases List.mem_append.1 he with he | he
        · have := h4 e he; omega
        · rw [List.mem_singleton] at he
          subst he
          show (i : Int) < _
          omega
    · exact ⟨dnx_le h1, by dsimp only; omega, h3, fun e he => by have := h4 e he; omega⟩
theorem EsOk.weak {next next' : Int} (h : next ≤ next') {l : List Ety} : ∀ {last : Int}, EsOk next last l → EsOk next' last l := by
  induction l with
  | nil => intro last _; exact .nil _
  | cons x l ih =>
    intro last hh
    cases hh with
    | cons g1 g2 g3 =>
      refine .cons ?_ g2 (ih g3)
      have := chkE_no g1
      exact chkE_0 this.1 (by omega)
/-- A checkpoint made of numbers. -/
def cmade (L : List Int) (k : Nat) (n : Nat) : Bse :=
  ⟨1 + dval L k 9, 50 + dval L (dnx L k) 9, 50 + dval L (dnx L k) 9 - dval L (dnx L (dnx L k)) 5, (mrun L (dnx L (dnx L (dnx L k))) n).2⟩
def cmadeK (L : List Int) (k : Nat) (n : Nat) : Nat := (mrun L (dnx L (dnx L (dnx L k))) n).1
theorem cmade_ok {L : List Int} {k n : Nat} (hn : n ≤ 128) (hk : k ≤ L.length) : cchk (cmade L k n) = 0 ∧ cmadeK L k n ≤ L.length ∧ (cmade L k n).es.length ≤ n ∧ ∀ e ∈ (cmade L k n).es, e.b < n := by
  have v1 := dval_in L k (n := 9) (by omega) (by omega)
  have v2 := dval_in L (dnx L k) (n := 9) (by omega) (by omega)
  have v3 := dval_in L (dnx L (dnx L k)) (n := 5) (by omega) (by omega)
  obtain ⟨h1, h2, h3, h4⟩ := mrun_inv L (dnx L (dnx L (dnx L k))) n hn (dnx_le (dnx_le (dnx_le hk)))
  refine ⟨?_, h1, h2, h4⟩
  have hb : ¬ badB (cmade L k n) := by
    unfold badB cmade
    dsimp only
    omega
  rw [cchk_go hb (by show (mrun L _ n).2.length ≤ 128; omega)]
  exact chkL_iff.2 (h3.weak (by show (50 : Int) ≤ 50 + dval L (dnx L k) 9; omega))
set_option maxRecDepth 100000 in
set_option maxHeartbeats 16000000 in
theorem cmadeF (L : List Int) (k n : Nat) (hl : L.length ≤ 1000000) (hn : n ≤ 128) (hk : k ≤ L.length) : FunP Try.prog 19 (dcs L k) [i64V n] (dcs L (cmadeK L k n)) (.v (bseV (cmade L k n))) := by
  have hinv := fun i (hi : i ≤ n) => mrun_inv L (dnx L (dnx L (dnx L k))) i (by omega) (dnx_le (dnx_le (dnx_le hk)))
  have v1 := dval_in L k (n := 9) (by omega) (by omega)
  have v2 := dval_in L (dnx L k) (n := 9) (by omega) (by omega)
  have v3 := dval_in L (dnx L (dnx L k)) (n := 5) (by omega) (by omega)
  have n1 := nextF L k 9 hl
  have n2 := nextF L (dnx L k) 9 hl
  have n3 := nextF L (dnx L (dnx L k)) 5 hl
  unfold cmade cmadeK bseV
  dsimp only
  generalize dval L k 9 = x1 at n1 v1 ⊢
  generalize dval L (dnx L k) 9 = x2 at n2 v2 ⊢
  generalize dval L (dnx L (dnx L k)) 5 = x3 at n3 v3 ⊢
  generalize dnx L (dnx L (dnx L k)) = k3 at n3 hinv ⊢
  generalize dnx L (dnx L k) = k2 at n2 n3
  generalize dnx L k = k1 at n1 n2
  have w1 : iwrap .i64 (1 + x1) = 1 + x1 := w64_in (by omega)
  have w2 : iwrap .i64 (50 + x2) = 50 + x2 := w64_in (by omega)
  have w3 : iwrap .i64 (50 + x2 - x3) = 50 + x2 - x3 := w64_in (by omega)
  refine funP_of_vc tabOk mixOk Try.func19 rfl (by rfl) (rs := [.cell 4 24]) rfl rfl rfl rfl rfl 50 ?_; rw [Try.ntmps19]
  (conv => whnf); repeat ((first | refine And.intro DrawOk.go ?_ | refine And.intro rfl ?_ | refine And.intro (fun _ => ?_) (fun h => Bool.noConfusion h) | refine And.intro (fun h => Bool.noConfusion h) (fun _ => ?_)); conv => whnf)
  refine ⟨_, _, n1, ?_⟩
  (conv => whnf); repeat ((first | refine And.intro DrawOk.go ?_ | refine And.intro rfl ?_ | refine And.intro (fun _ => ?_) (fun h => Bool.noConfusion h) | refine And.intro (fun h => Bool.noConfusion h) (fun _ => ?_)); conv => whnf)
  refine ⟨_, _, n2, ?_⟩
  (conv => whnf); repeat ((first | refine And.intro DrawOk.go ?_ | refine And.intro rfl ?_ | refine And.intro (fun _ => ?_) (fun h => Bool.noConfusion h) | refine And.intro (fun h => Bool.noConfusion h) (fun _ => ?_)); conv => whnf)
  rw [w1, w2]
  refine ⟨_, _, n3, ?_⟩
  (conv => whnf); repeat ((first | refine And.intro DrawOk.go ?_ | refine And.intro rfl ?_ | refine And.intro (fun _ => ?_) (fun h => Bool.noConfusion h) | refine And.intro (fun h => Bool.noConfusion h) (fun _ => ?_)); conv => whnf)
  rw [w3]
  refine vc_loop [0, 1, 4, 5] [4] (X := Nat × Nat × List Ety) (fun x gs => [(6, ATint x.1)]) (fun x gs => [(0, .var 0 (dcs L x.2.1)), (5, .var 1 [.i (.sc (.int .i64 (1 + x1))), .i (.sc (.int .i64 (50 + x2))), .i (.sc (.int .i64 (50 + x2 - x3))), .own 43 (gs 43)]), (43, .row (gs 43) 84 6 (eR x.2.2))]) (fun x => x.1 ≤ n ∧ mrun L k3 x.1 = x.2) (fun x => n - x.1) _ (Ghost.ownNilV 5 3 43 84 6 1 _ rfl rfl (Nat.le_of_ble_eq_true rfl) (by decide)) (0, k3, []) ⟨Nat.zero_le _, rfl⟩ ?_ ?_
  · (refine And.intro rfl (And.intro rfl ?_)); (repeat' (first | exact trivial | exact rfl | apply And.intro | (refine congrArg (Value.int .i64) (w64_nat ?_); omega)))
  rintro gs ⟨i, kk, es⟩ ⟨hi, he⟩
  dsimp only at hi he ⊢
  obtain ⟨q1, q2, q3, q4⟩ := hinv i hi
  rw [he] at q1 q2
  dsimp only at q1 q2
  clear hinv q3 q4
  have hs := mrun_succ L k3 i
  rw [he, mstep] at hs
  dsimp only at hs
  (conv => whnf); repeat ((first | refine And.intro DrawOk.go ?_ | refine And.intro rfl ?_ | refine And.intro (fun _ => ?_) (fun h => Bool.noConfusion h) | refine And.intro (fun h => Bool.noConfusion h) (fun _ => ?_)); conv => whnf)
  refine And.intro (fun h => ?_) (fun h => ?_)
  · have hlt : i < n := by have := of_decide_eq_true h; omega
    (conv => whnf); repeat ((first | refine And.intro DrawOk.go ?_ | refine And.intro rfl ?_ | refine And.intro (fun _ => ?_) (fun h => Bool.noConfusion h) | refine And.intro (fun h => Bool.noConfusion h) (fun _ => ?_)); conv => whnf)
    refine ⟨_, _, nextF L kk 3 hl, ?_⟩
    (conv => whnf); repeat ((first | refine And.intro DrawOk.go ?_ | refine And.intro rfl ?_ | refine And.intro (fun _ => ?_) (fun h => Bool.noConfusion h) | refine And.intro (fun h => Bool.noConfusion h) (fun _ => ?_)); conv => whnf)
    refine And.intro (fun h3 => ?_) (fun h3 => ?_)
    · rw [if_pos (of_decide_eq_true h3), mkE, mkN] at hs
      have a1 := nextF L (dnx L kk) 48 hl
      have a2 := nextF L (dnx L (dnx L kk)) 4 hl
      have a3 := nextF L (dnx L (dnx L (dnx L kk))) 9 hl
      have a4 := nextF L (dnx L (dnx L (dnx L (dnx L kk)))) 5 hl
      have r1 := dval_in L (dnx L kk) (n := 48) (by omega) (by omega)
      generalize dval L (dnx L kk) 48 = y1 at hs a1 r1
      generalize dval L (dnx L (dnx L kk)) 4 = y2 at hs a2
      generalize dval L (dnx L (dnx L (dnx L kk))) 9 = y3 at hs a3
      generalize dval L (dnx L (dnx L (dnx L (dnx L kk)))) 5 = y4 at hs a4
      generalize dnx L (dnx L (dnx L (dnx L (dnx L kk)))) = m5 at hs a4
      generalize dnx L (dnx L (dnx L (dnx L kk))) = m4 at a3 a4
      generalize dnx L (dnx L (dnx L kk)) = m3 at a2 a3
      generalize dnx L (dnx L kk) = m2 at a1 a2
      generalize dnx L kk = m1 at a1 ⊢
      have z1 : iwrap .i64 (1 + y1) = 1 + y1 := w64_in (by omega)
      (conv => whnf); repeat ((first | refine And.intro DrawOk.go ?_ | refine And.intro rfl ?_ | refine And.intro (fun _ => ?_) (fun h => Bool.noConfusion h) | refine And.intro (fun h => Bool.noConfusion h) (fun _ => ?_)); conv => whnf)
      refine ⟨_, _, a1, ?_⟩
      (conv => whnf); repeat ((first | refine And.intro DrawOk.go ?_ | refine And.intro rfl ?_ | refine And.intro (fun _ => ?_) (fun h => Bool.noConfusion h) | refine And.intro (fun h => Bool.noConfusion h) (fun _ => ?_)); conv => whnf)
      rw [z1]
      refine ⟨_, _, a2, ?_⟩
      (conv => whnf); repeat ((first | refine And.intro DrawOk.go ?_ | refine And.intro rfl ?_ | refine And.intro (fun _ => ?_) (fun h => Bool.noConfusion h) | refine And.intro (fun h => Bool.noConfusion h) (fun _ => ?_)); conv => whnf)
      refine ⟨_, _, a3, ?_⟩
      (conv => whnf); repeat ((first | refine And.intro DrawOk.go ?_ | refine And.intro rfl ?_ | refine And.intro (fun _ => ?_) (fun h => Bool.noConfusion h) | refine And.intro (fun h => Bool.noConfusion h) (fun _ => ?_)); conv => whnf)
      refine ⟨_, _, a4, ?_⟩
      (conv => whnf); repeat ((first | refine And.intro DrawOk.go ?_ | refine And.intro rfl ?_ | refine And.intro (fun _ => ?_) (fun h => Bool.noConfusion h) | refine And.intro (fun h => Bool.noConfusion h) (fun _ => ?_)); conv => whnf)
      refine ⟨eSz [⟨i, 1, 1 + y1, y2, y3, y4⟩], ?_⟩
      (conv => whnf); repeat ((first | refine And.intro DrawOk.go ?_ | refine And.intro rfl ?_ | refine And.intro (fun _ => ?_) (fun h => Bool.noConfusion h) | refine And.intro (fun h => Bool.noConfusion h) (fun _ => ?_)); conv => whnf)
      refine ⟨bytes_le (by decide) (by rw [eLen]; simp; omega), ?_⟩
      (conv => whnf); repeat ((first | refine And.intro DrawOk.go ?_ | refine And.intro rfl ?_ | refine And.intro (fun _ => ?_) (fun h => Bool.noConfusion h) | refine And.intro (fun h => Bool.noConfusion h) (fun _ => ?_)); conv => whnf)
      refine again (i + 1, m5, es ++ [⟨i, 1, 1 + y1, y2, y3, y4⟩]) ⟨hlt, hs⟩ (by dsimp only; omega) ?_
      (refine And.intro rfl (And.intro rfl ?_)); (repeat' (first | exact trivial | exact rfl | apply And.intro | (refine congrArg (Value.int .i64) (w64_nat ?_); omega)))
      all_goals exact congrArg (Blk.row _ _ _) (eSnoc' es ⟨i, 1, 1 + y1, y2, y3, y4⟩)
    · rw [if_neg (of_decide_eq_false h3)] at hs
      (conv => whnf); repeat ((first | refine And.intro DrawOk.go ?_ | refine And.intro rfl ?_ | refine And.intro (fun _ => ?_) (fun h => Bool.noConfusion h) | refine And.intro (fun h => Bool.noConfusion h) (fun _ => ?_)); conv => whnf)
      refine again (i + 1, dnx L kk, es) ⟨hlt, hs⟩ (by dsimp only; omega) ?_
      (refine And.intro rfl (And.intro rfl ?_)); (repeat' (first | exact trivial | exact rfl | apply And.intro | (refine congrArg (Value.int .i64) (w64_nat ?_); omega)))
  · have hge : i = n := by have := of_decide_eq_false h; omega
    subst hge
    rw [he]
    (conv => whnf); repeat ((first | refine And.intro DrawOk.go ?_ | refine And.intro rfl ?_ | refine And.intro (fun _ => ?_) (fun h => Bool.noConfusion h) | refine And.intro (fun h => Bool.noConfusion h) (fun _ => ?_)); conv => whnf)
    rfl
theorem cenc_pay {B : Bse} : ∀ r ∈ cenc B, r.p.size ≤ 9223372036854775807 := by
  intro r hr
  simp only [cenc, bodyR, List.mem_append, List.mem_cons, List.mem_map, List.not_mem_nil, or_false] at hr
  have h2 : ∀ a b : ByteArray, a.size ≤ 7 → b.size ≤ 7 → (a ++ b).size ≤ 9223372036854775807 := fun a b ha hb => by rw [size_append]; omega
  rcases hr with (rfl | ⟨e, _, rfl⟩) | rfl
  · exact h2 _ _ (nu_le _ _) (nu_le _ _)
  · exact h2 _ _ (nu_le _ _) (nu_le _ _)
  · show (sS (putB _ 4)).size ≤ _
    rw [sS_size, putB_len]
    decide
set_option maxRecDepth 100000 in
set_option maxHeartbeats 16000000 in
theorem ckBackF (L : List Int) (a y : Int) (hb : L.length ≤ 140737488355328) : Fun Try.prog 4 [slV (wV L), i64V a, i64V y] [] (ATbool true) := by
  have hlight := lightF L hb
  have aw := ckAwake
  by_cases hL : L.length ≤ 300
  rotate_left
  · rw [decide_eq_false hL] at hlight
    refine fun_of_vc tabOk mixOk Try.func4 rfl (by rfl) (rs := [.tmp 6]) rfl rfl 123 ?_; rw [Try.ntmps4]
    (conv => whnf); repeat ((first | refine And.intro DrawOk.go ?_ | refine And.intro rfl ?_ | refine And.intro (fun _ => ?_) (fun h => Bool.noConfusion h) | refine And.intro (fun h => Bool.noConfusion h) (fun _ => ?_)); conv => whnf)
    refine ⟨_, _, hlight, ?_⟩
    (conv => whnf); repeat ((first | refine And.intro DrawOk.go ?_ | refine And.intro rfl ?_ | refine And.intro (fun _ => ?_) (fun h => Bool.noConfusion h) | refine And.intro (fun h => Bool.noConfusion h) (fun _ => ?_)); conv => whnf)
    refine ⟨_, _, aw, ?_⟩
    (conv => whnf); repeat ((first | refine And.intro DrawOk.go ?_ | refine And.intro rfl ?_ | refine And.intro (fun _ => ?_) (fun h => Bool.noConfusion h) | refine And.intro (fun h => Bool.noConfusion h) (fun _ => ?_)); conv => whnf)
    refine Exists.intro [] (And.intro List.nodup_nil ?_); ((conv => whnf); repeat ((first | refine And.intro DrawOk.go ?_ | refine And.intro rfl ?_ | refine And.intro (fun _ => ?_) (fun h => Bool.noConfusion h) | refine And.intro (fun h => Bool.noConfusion h) (fun _ => ?_)); conv => whnf))
    rfl
  rw [decide_eq_true hL] at hlight
  have hroll := rollF L (by omega)
  have hmade := cmadeF L 0 20 (by omega) (by omega) (Nat.zero_le _)
  obtain ⟨hok, _, hlen, _⟩ := cmade_ok (L := L) (k := 0) (n := 20) (by omega) (Nat.zero_le _)
  generalize cmadeK L 0 20 = kk at hmade
  generalize cmade L 0 20 = B at hmade hok hlen
  have henc := cencF B.s B.n B.c B.es
  rw [show (⟨B.s, B.n, B.c, B.es⟩ : Bse) = B from rfl, cencode_yes hok] at henc
  dsimp only at henc
  have hMl := cenc_len B
  have hMp := cenc_pay (B := B)
  have hless := fun k (hk : k < (cenc B).length) => cdec_less hok hk
  have hdec := cdecF (cenc B) (by omega) hMp
  rw [cdec_enc hok] at hdec
  dsimp only at hdec
  have hsame := csameF B.s B.n B.c B.es B.s B.n B.c B.es (by omega) (by omega)
  rw [bsame_iff.2 rfl] at hsame
  clear hok
  generalize cenc B = M at henc hMl hMp hless hdec
  obtain ⟨bs, bn, bc, bes⟩ := B
  dsimp only at hlen henc hMl hdec hsame
  have hmod := modF a ((rR M).length : Int)
  have hin := dmod_in (x := a) (n := ((rR M).length : Int)) (by rw [rLen]; omega) (by rw [rLen]; omega)
  obtain ⟨k, hk⟩ : ∃ k : Nat, dmod a ((rR M).length : Int) = k := ⟨(dmod a ((rR M).length : Int)).toNat, by omega⟩
  rw [hk] at hmod hin
  have hkM : k < M.length := by have := hin.2; rw [rLen] at this; omega
  have hmod5 := modF y 5
  refine fun_of_vc tabOk mixOk Try.func4 rfl (by rfl) (rs := [.tmp 6]) rfl rfl 123 ?_; rw [Try.ntmps4]
  (conv => whnf); repeat ((first | refine And.intro DrawOk.go ?_ | refine And.intro rfl ?_ | refine And.intro (fun _ => ?_) (fun h => Bool.noConfusion h) | refine And.intro (fun h => Bool.noConfusion h) (fun _ => ?_)); conv => whnf)
  refine ⟨_, _, hlight, ?_⟩
  (conv => whnf); repeat ((first | refine And.intro DrawOk.go ?_ | refine And.intro rfl ?_ | refine And.intro (fun _ => ?_) (fun h => Bool.noConfusion h) | refine And.intro (fun h => Bool.noConfusion h) (fun _ => ?_)); conv => whnf)
  refine ⟨_, _, hroll, ?_⟩
  (conv => whnf); repeat ((first | refine And.intro DrawOk.go ?_ | refine And.intro rfl ?_ | refine And.intro (fun _ => ?_) (fun h => Bool.noConfusion h) | refine And.intro (fun h => Bool.noConfusion h) (fun _ => ?_)); conv => whnf)
  refine ⟨_, _, hmade, ?_⟩
  (conv => whnf); repeat ((first | refine And.intro DrawOk.go ?_ | refine And.intro rfl ?_ | refine And.intro (fun _ => ?_) (fun h => Bool.noConfusion h) | refine And.intro (fun h => Bool.noConfusion h) (fun _ => ?_)); conv => whnf)
  refine ⟨_, _, henc, ?_⟩
  (conv => whnf); repeat ((first | refine And.intro DrawOk.go ?_ | refine And.intro rfl ?_ | refine And.intro (fun _ => ?_) (fun h => Bool.noConfusion h) | refine And.intro (fun h => Bool.noConfusion h) (fun _ => ?_)); conv => whnf)
  refine ⟨_, _, hdec, ?_⟩
  (conv => whnf); repeat ((first | refine And.intro DrawOk.go ?_ | refine And.intro rfl ?_ | refine And.intro (fun _ => ?_) (fun h => Bool.noConfusion h) | refine And.intro (fun h => Bool.noConfusion h) (fun _ => ?_)); conv => whnf)
  refine ⟨_, _, hsame, ?_⟩
  (conv => whnf); repeat ((first | refine And.intro DrawOk.go ?_ | refine And.intro rfl ?_ | refine And.intro (fun _ => ?_) (fun h => Bool.noConfusion h) | refine And.intro (fun h => Bool.noConfusion h) (fun _ => ?_)); conv => whnf)
  have hw2 : iwrap .i64 (((eR bes).length : Int) + 2) = ((rR M).length : Int) := by
    rw [eLen, rLen, hMl]
    exact (w64_in (by omega)).trans (by omega)
  rw [hw2]
  refine And.intro (fun h => absurd h (by simp)) (fun _ => ?_)
  (conv => whnf); repeat ((first | refine And.intro DrawOk.go ?_ | refine And.intro rfl ?_ | refine And.intro (fun _ => ?_) (fun h => Bool.noConfusion h) | refine And.intro (fun h => Bool.noConfusion h) (fun _ => ?_)); conv => whnf)
  refine ⟨_, _, hmod, ?_⟩
  (conv => whnf); repeat ((first | refine And.intro DrawOk.go ?_ | refine And.intro rfl ?_ | refine And.intro (fun _ => ?_) (fun h => Bool.noConfusion h) | refine And.intro (fun h => Bool.noConfusion h) (fun _ => ?_)); conv => whnf)
  refine ⟨rSz M, ?_⟩
  (conv => whnf); repeat ((first | refine And.intro DrawOk.go ?_ | refine And.intro rfl ?_ | refine And.intro (fun _ => ?_) (fun h => Bool.noConfusion h) | refine And.intro (fun h => Bool.noConfusion h) (fun _ => ?_)); conv => whnf)
  refine ⟨by decide, by omega, by rw [rLen]; omega, ?_⟩
  (conv => whnf); repeat ((first | refine And.intro DrawOk.go ?_ | refine And.intro rfl ?_ | refine And.intro (fun _ => ?_) (fun h => Bool.noConfusion h) | refine And.intro (fun h => Bool.noConfusion h) (fun _ => ?_)); conv => whnf)
  have hm1 : (List.take ((k : Int)).toNat (rR M)).drop (0 : Int).toNat = rR (M.take k) := by
    rw [Int.toNat_natCast, show (0 : Int).toNat = 0 from rfl, List.drop_zero, rR, rR, List.map_take]
  have hw3 : iwrap .i64 ((k : Int) + 1) = ((k + 1 : Nat) : Int) := w64_nat (by omega)
  rw [hm1]
  refine ⟨rSz _, ?_⟩
  (conv => whnf); repeat ((first | refine And.intro DrawOk.go ?_ | refine And.intro rfl ?_ | refine And.intro (fun _ => ?_) (fun h => Bool.noConfusion h) | refine And.intro (fun h => Bool.noConfusion h) (fun _ => ?_)); conv => whnf)
  refine ⟨bytes_le (by decide) (by simp [rR]; omega), ?_⟩
  (conv => whnf); repeat ((first | refine And.intro DrawOk.go ?_ | refine And.intro rfl ?_ | refine And.intro (fun _ => ?_) (fun h => Bool.noConfusion h) | refine And.intro (fun h => Bool.noConfusion h) (fun _ => ?_)); conv => whnf)
  rw [hw3]
  refine ⟨rSz M, ?_⟩
  (conv => whnf); repeat ((first | refine And.intro DrawOk.go ?_ | refine And.intro rfl ?_ | refine And.intro (fun _ => ?_) (fun h => Bool.noConfusion h) | refine And.intro (fun h => Bool.noConfusion h) (fun _ => ?_)); conv => whnf)
  refine ⟨by omega, by rw [rLen]; omega, by omega, ?_⟩
  (conv => whnf); repeat ((first | refine And.intro DrawOk.go ?_ | refine And.intro rfl ?_ | refine And.intro (fun _ => ?_) (fun h => Bool.noConfusion h) | refine And.intro (fun h => Bool.noConfusion h) (fun _ => ?_)); conv => whnf)
  have hm2 : (List.take (((rR M).length : Int)).toNat (rR M)).drop ((k + 1 : Nat) : Int).toNat = rR (M.drop (k + 1)) := by
    rw [Int.toNat_natCast, Int.toNat_natCast, List.take_length, rR, rR, List.map_drop]
  rw [hm2]
  refine ⟨rSz _, ?_⟩
  (conv => whnf); repeat ((first | refine And.intro DrawOk.go ?_ | refine And.intro rfl ?_ | refine And.intro (fun _ => ?_) (fun h => Bool.noConfusion h) | refine And.intro (fun h => Bool.noConfusion h) (fun _ => ?_)); conv => whnf)
  refine ⟨bytes_le (by decide) (by simp [rR]; omega), ?_⟩
  (conv => whnf); repeat ((first | refine And.intro DrawOk.go ?_ | refine And.intro rfl ?_ | refine And.intro (fun _ => ?_) (fun h => Bool.noConfusion h) | refine And.intro (fun h => Bool.noConfusion h) (fun _ => ?_)); conv => whnf)
  rw [List.nil_append, rApp]
  have hd2 := cdecF (M.take k ++ M.drop (k + 1)) (by rw [List.length_append, List.length_take, List.length_drop]; omega) (fun r hr => by
    rcases List.mem_append.1 hr with hr | hr
    · exact hMp r (List.mem_of_mem_take hr)
    · exact hMp r (List.mem_of_mem_drop hr))
  rw [hless k hkM] at hd2
  refine ⟨_, _, hd2, ?_⟩
  (conv => whnf); repeat ((first | refine And.intro DrawOk.go ?_ | refine And.intro rfl ?_ | refine And.intro (fun _ => ?_) (fun h => Bool.noConfusion h) | refine And.intro (fun h => Bool.noConfusion h) (fun _ => ?_)); conv => whnf)
  refine ⟨rSz M, ?_⟩
  (conv => whnf); repeat ((first | refine And.intro DrawOk.go ?_ | refine And.intro rfl ?_ | refine And.intro (fun _ => ?_) (fun h => Bool.noConfusion h) | refine And.intro (fun h => Bool.noConfusion h) (fun _ => ?_)); conv => whnf)
  refine ⟨bytes_le (by decide) (by simp [rR]; omega), ?_⟩
  (conv => whnf); repeat ((first | refine And.intro DrawOk.go ?_ | refine And.intro rfl ?_ | refine And.intro (fun _ => ?_) (fun h => Bool.noConfusion h) | refine And.intro (fun h => Bool.noConfusion h) (fun _ => ?_)); conv => whnf)
  rw [List.nil_append]
  refine ⟨by omega, by rw [Int.toNat_natCast, rLen]; exact hkM, ?_⟩
  (conv => whnf); repeat ((first | refine And.intro DrawOk.go ?_ | refine And.intro rfl ?_ | refine And.intro (fun _ => ?_) (fun h => Bool.noConfusion h) | refine And.intro (fun h => Bool.noConfusion h) (fun _ => ?_)); conv => whnf)
  refine ⟨_, rItem hkM, ?_⟩
  (conv => whnf); repeat ((first | refine And.intro DrawOk.go ?_ | refine And.intro rfl ?_ | refine And.intro (fun _ => ?_) (fun h => Bool.noConfusion h) | refine And.intro (fun h => Bool.noConfusion h) (fun _ => ?_)); conv => whnf)
  refine ⟨_, _, hmod5, ?_⟩
  (conv => whnf); repeat ((first | refine And.intro DrawOk.go ?_ | refine And.intro rfl ?_ | refine And.intro (fun _ => ?_) (fun h => Bool.noConfusion h) | refine And.intro (fun h => Bool.noConfusion h) (fun _ => ?_)); conv => whnf)
  refine ⟨by omega, by rw [Int.toNat_natCast, rLen]; exact hkM, ?_⟩
  (conv => whnf); repeat ((first | refine And.intro DrawOk.go ?_ | refine And.intro rfl ?_ | refine And.intro (fun _ => ?_) (fun h => Bool.noConfusion h) | refine And.intro (fun h => Bool.noConfusion h) (fun _ => ?_)); conv => whnf)
  refine ⟨_, rItem hkM, ?_⟩
  (conv => whnf); repeat ((first | refine And.intro DrawOk.go ?_ | refine And.intro rfl ?_ | refine And.intro (fun _ => ?_) (fun h => Bool.noConfusion h) | refine And.intro (fun h => Bool.noConfusion h) (fun _ => ?_)); conv => whnf)
  have hM2 : ∀ r ∈ M.set k ⟨M[k].k, M[k].b, iwrap .i64 (iwrap .i64 (M[k].v + 1) + dmod y 5), M[k].m, M[k].p⟩, r.p.size ≤ 9223372036854775807 := fun r hr => by
    rcases List.mem_or_eq_of_mem_set hr with hr | hr
    · exact hMp r hr
    · rw [hr]
      exact hMp M[k] (List.getElem_mem hkM)
  have hset := rSet M k ⟨M[k].k, M[k].b, iwrap .i64 (iwrap .i64 (M[k].v + 1) + dmod y 5), M[k].m, M[k].p⟩
  have hlen2 : (M.set k ⟨M[k].k, M[k].b, iwrap .i64 (iwrap .i64 (M[k].v + 1) + dmod y 5), M[k].m, M[k].p⟩).length = M.length := List.length_set
  unfold rRow at hset
  dsimp only at hset
  rw [hset]
  generalize M.set k ⟨M[k].k, M[k].b, iwrap .i64 (iwrap .i64 (M[k].v + 1) + dmod y 5), M[k].m, M[k].p⟩ = M2 at hM2 hlen2 ⊢
  have u1 := cdecF M2 (by omega) hM2
  have u2 := cdecF' M2 (by omega) hM2
  have hD : (cdecode M2).1.es.length ≤ 140737488355328 := by
    unfold cdecode
    split
    · split
      · rw [cand_es]
        simp only [List.length_cons] at hlen2
        omega
      · simp [b0]
    · simp [b0]
  have u3 := csameF (cdecode M2).1.s (cdecode M2).1.n (cdecode M2).1.c (cdecode M2).1.es (cdecode M2).1.s (cdecode M2).1.n (cdecode M2).1.c (cdecode M2).1.es hD hD
  rw [bsame_iff.2 rfl] at u3
  clear hset hD hM2 hlen2 hless hMp
  generalize cdecode M2 = D at u1 u2 u3
  obtain ⟨⟨ds, dn, dc, des⟩, d⟩ := D
  dsimp only at u1 u2 u3
  refine ⟨_, _, u1, ?_⟩
  (conv => whnf); repeat ((first | refine And.intro DrawOk.go ?_ | refine And.intro rfl ?_ | refine And.intro (fun _ => ?_) (fun h => Bool.noConfusion h) | refine And.intro (fun h => Bool.noConfusion h) (fun _ => ?_)); conv => whnf)
  refine ⟨_, _, u2, ?_⟩
  (conv => whnf); repeat ((first | refine And.intro DrawOk.go ?_ | refine And.intro rfl ?_ | refine And.intro (fun _ => ?_) (fun h => Bool.noConfusion h) | refine And.intro (fun h => Bool.noConfusion h) (fun _ => ?_)); conv => whnf)
  repeat' (first | ((refine And.intro (fun h => ?_) (fun h => ?_)) <;> (try simp at h) <;> ((conv => whnf); repeat ((first | refine And.intro DrawOk.go ?_ | refine And.intro rfl ?_ | refine And.intro (fun _ => ?_) (fun h => Bool.noConfusion h) | refine And.intro (fun h => Bool.noConfusion h) (fun _ => ?_)); conv => whnf))) | (refine ⟨_, _, u3, ?_⟩; ((conv => whnf); repeat ((first | refine And.intro DrawOk.go ?_ | refine And.intro rfl ?_ | refine And.intro (fun _ => ?_) (fun h => Bool.noConfusion h) | refine And.intro (fun h => Bool.noConfusion h) (fun _ => ?_)); conv => whnf))) | (refine ⟨_, _, aw, ?_⟩; ((conv => whnf); repeat ((first | refine And.intro DrawOk.go ?_ | refine And.intro rfl ?_ | refine And.intro (fun _ => ?_) (fun h => Bool.noConfusion h) | refine And.intro (fun h => Bool.noConfusion h) (fun _ => ?_)); conv => whnf))) | fail)
  all_goals first
    | (refine Exists.intro [] (And.intro List.nodup_nil ?_); ((conv => whnf); repeat ((first | refine And.intro DrawOk.go ?_ | refine And.intro rfl ?_ | refine And.intro (fun _ => ?_) (fun h => Bool.noConfusion h) | refine And.intro (fun h => Bool.noConfusion h) (fun _ => ?_)); conv => whnf))
       rfl)
    | (exfalso; simp at *; done)
end Go.Proofs.Ytkpicojhnnkibaa.Ab
namespace Go.Proofs.Ytkpicojhnnkibaa
set_option linter.unusedVariables false
set_option linter.unusedSimpArgs false
open Ab
set_option maxRecDepth 100000 in
theorem checkpointBack.walk {H : Type} {enc : TypeId × Value → H} {W : World} {base : Nat} (v : Value) (d : DataW H) (p : List MemPlace) (hv : Value.okWide Try.prog W .any base 38 v)
    (h : DataW.Trod enc Try.prog W 0 (fun _ => true) true 38 v d p) (hw : ∀ n ∈ d.weights Try.prog 38, n ≤ 140737488351232)
    (a1 : Int) (_w1 : (Lit.int .i64 a1).wf = true) (a2 : Int) (_w2 : (Lit.int .i64 a2).wf = true)
    (W' : World) (hW : W' = W := by rfl) : Calls Try.prog 4 #[v, .int .i64 a1, .int .i64 a2] W' (True1 W') := by
  subst hW
  obtain ⟨es, _, q1, q2⟩ := open_sl tabOk 3 (t := 38) (by decide +kernel) rfl hv h
  obtain ⟨xs, rfl⟩ := ints_of (d := 2) es (fun r hr => (q1 r hr).2)
  have b3 := slice_bound tabOk (e := 3) rfl h hw (q2 (fun _ _ => undef) (fun _ => 0))
  rw [bytesOf_eq tabOk (fun h => TK.noConfusion h)] at b3
  have b3' : (wV xs).length * 8 ≤ 140737488351232 := b3
  exact law_of_fun (ckBackF xs a1 a2 (by simp [wV] at b3'; omega)) rfl (reps_get (vs := [_, _, _]) ⟨q2 _ _, .sc _ rfl, .sc _ rfl, trivial⟩)
end Go.Proofs.Ytkpicojhnnkibaa
