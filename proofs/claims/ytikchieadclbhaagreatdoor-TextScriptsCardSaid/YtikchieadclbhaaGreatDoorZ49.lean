/- A row that is appended to more than once: it is nothing, or it has room, or it grows each time. No condition. -/
import Derived.Test.YtikchieadclbhaaGreatDoorZ48
import Derived.Test.YtikchieadclbhaaGreatDoorZ45
import Derived.Test.YtikchieadclbhaaGreatDoorZ39
import Derived.Test.YtikchieadclbhaaGreatDoorZ43
import Derived.Test.YtikchieadclbhaaGreatDoorZ23
namespace Go.Proofs.YtikchieadclbhaaGreatDoor.Ab
set_option linter.unusedVariables false
set_option linter.unusedSimpArgs false
open Go.RowKit

set_option maxRecDepth 100000 in
set_option maxHeartbeats 16000000 in
theorem agreeF (s : List UInt8) (hs : s.length ≤ 1000000) (hg : goodH (firstL s)) (hl : (tparse s).l.length ≤ 100000) (hkp : ∀ a ∈ (tparse s).l, a.kp.length ≤ 1000000) : Fun Tryz.prog 14 [strV (sS s)] [] (ATbool true) := by
  have h1 := parseF s (by omega)
  have h2 := parseR s (by omega)
  rw [← parse_same hg] at h2
  generalize tparse s = T at h1 h2 hl hkp
  obtain ⟨c, l, n, e⟩ := T
  dsimp only at hl hkp
  unfold txV at h1 h2
  dsimp only at h1 h2
  have hc : cfV c = .agg (cfC c) := rfl
  refine fun_of_vc tabOk mixOk Tryz.func14 rfl (by rfl) (rs := [.tmp 2]) rfl rfl 66 ?_; rw [Tryz.ntmps14]
  (conv=>whnf);repeat((first|refine zD ?_|refine zA ?_|refine zT ?_|refine zF ?_);conv=>whnf)
  refine ⟨_, _, h1, ?_⟩
  (conv=>whnf);repeat((first|refine zD ?_|refine zA ?_|refine zT ?_|refine zF ?_);conv=>whnf)
  refine ⟨_, _, h2, ?_⟩
  (conv=>whnf);repeat((first|refine zD ?_|refine zA ?_|refine zT ?_|refine zF ?_);conv=>whnf)
  refine And.intro (fun g => absurd g (by simp)) (fun _ => ?_)
  (conv=>whnf);repeat((first|refine zD ?_|refine zA ?_|refine zT ?_|refine zF ?_);conv=>whnf)
  refine And.intro (fun g => absurd g (by simp)) (fun _ => ?_)
  (conv=>whnf);repeat((first|refine zD ?_|refine zA ?_|refine zT ?_|refine zF ?_);conv=>whnf)
  refine And.intro (fun g => absurd g (by simp)) (fun _ => ?_)
  (conv=>whnf);repeat((first|refine zD ?_|refine zA ?_|refine zT ?_|refine zF ?_);conv=>whnf)
  refine And.intro (fun g => absurd g (by simp)) (fun _ => ?_)
  (conv=>whnf);repeat((first|refine zD ?_|refine zA ?_|refine zT ?_|refine zF ?_);conv=>whnf)
  refine vc_loop [4, 8] [] (X := Nat) (fun i gs => [(11, ATint i)]) (fun i gs => []) (fun i => i ≤ l.length) (fun i => l.length - i) _ (Ghost.refl _) 0 (Nat.zero_le _) ?_ ?_
  · (refine zA (zA ?_));(repeat' (first|exact trivial|with_reducible exact cvB_refl _|exact rfl|apply And.intro))
  intro gs i hi
  have hi : i ≤ l.length := hi
  (conv=>whnf);repeat((first|refine zD ?_|refine zA ?_|refine zT ?_|refine zF ?_);conv=>whnf)
  refine And.intro (fun h => ?_) (fun h => ?_)
  · have hlt : i < l.length := by simpa [acLen] using h
    have hsm := sameL_yes l[i].k l[i].n l[i].ck l[i].cb (sS l[i].cd) l[i].kp (hkp _ (List.getElem_mem hlt))
    (conv=>whnf);repeat((first|refine zD ?_|refine zA ?_|refine zT ?_|refine zF ?_);conv=>whnf)
    refine ⟨by omega, _, acItem hlt, rfl, ?_⟩
    (conv=>whnf);repeat((first|refine zD ?_|refine zA ?_|refine zT ?_|refine zF ?_);conv=>whnf)
    refine ⟨by omega, _, acItem hlt, rfl, ?_⟩
    (conv=>whnf);repeat((first|refine zD ?_|refine zA ?_|refine zT ?_|refine zF ?_);conv=>whnf)
    refine ⟨_, _, hsm, ?_⟩
    (conv=>whnf);repeat((first|refine zD ?_|refine zA ?_|refine zT ?_|refine zF ?_);conv=>whnf)
    refine again (i + 1) hlt (Nat.sub_lt_sub_left hlt (Nat.lt_succ_self i)) ?_
    (refine zA (zA ?_));(repeat' (first|exact trivial|with_reducible exact cvB_refl _|exact rfl|apply And.intro))
    all_goals exact congrArg (Value.int .i64) (w64_nat (by omega))
  · (conv=>whnf);repeat((first|refine zD ?_|refine zA ?_|refine zT ?_|refine zF ?_);conv=>whnf)
    refine Exists.intro [] (And.intro List.nodup_nil ?_); ((conv=>whnf);repeat((first|refine zD ?_|refine zA ?_|refine zT ?_|refine zF ?_);conv=>whnf))
    rfl
end Go.Proofs.YtikchieadclbhaaGreatDoor.Ab
namespace Go.Proofs.YtikchieadclbhaaGreatDoor.Ab
set_option linter.unusedVariables false
set_option linter.unusedSimpArgs false
open Go.RowKit

theorem plines_ok {B : Nat} (c : Cf) : ∀ (ls : List (List UInt8)) (k : Int) (out : List Ac), out.length ≤ 2000 → (∀ a ∈ out, a.kp.length ≤ B + 1) → (∀ p ∈ ls, p.length ≤ B) →
    (plines c ls k out).l.length ≤ 2000 ∧ ∀ a ∈ (plines c ls k out).l, a.kp.length ≤ B + 1
  | [], k, out, h1, h2, h3 => ⟨Nat.zero_le _, fun a ha => by cases ha⟩
  | p :: ls, k, out, h1, h2, h3 => by
    unfold plines
    split
    · split
      · exact ⟨h1, h2⟩
      · exact ⟨Nat.zero_le _, fun a ha => by cases ha⟩
    split
    · split
      · exact ⟨Nat.zero_le _, fun a ha => by cases ha⟩
      · rename_i hne
        refine plines_ok c ls _ _ (by rw [List.length_append, List.length_singleton]; omega) (fun a ha => ?_) (fun q hq => h3 q (List.mem_cons_of_mem _ hq))
        rcases List.mem_append.1 ha with ha | ha
        · exact h2 a ha
        · rw [List.mem_singleton.1 ha]
          exact Nat.le_trans (tread_kp p) (Nat.succ_le_succ (h3 p List.mem_cons_self))
    · exact ⟨Nat.zero_le _, fun a ha => by cases ha⟩
theorem tparse_ok (s : List UInt8) : (tparse s).l.length ≤ 2000 ∧ ∀ a ∈ (tparse s).l, a.kp.length ≤ s.length + 1 := by
  have no : ∀ {c : Cf} {n e : Int}, (⟨c, [], n, e⟩ : Tx).l.length ≤ 2000 ∧ ∀ a ∈ (⟨c, [], n, e⟩ : Tx).l, a.kp.length ≤ s.length + 1 := ⟨Nat.zero_le _, fun a ha => by cases ha⟩
  unfold tparse parse
  split
  · exact no
  have hs := (spl_len 10 s).1
  generalize spl 10 s = ls at hs
  unfold pall
  split
  · exact no
  · split
    · exact no
    split
    · exact plines_ok _ _ _ _ (Nat.zero_le _) (fun a ha => by cases ha) (fun q hq => hs q (List.mem_cons_of_mem _ hq))
    · exact no
theorem itoa_lt : ∀ n : Fin 100, (Lib.itoa ((n.val : Nat) : Int)).length ≤ 2 := by decide +kernel
theorem itoa_2 {n : Int} (h0 : 0 ≤ n) (h : n < 100) : (Lib.itoa n).length ≤ 2 := by
  have := itoa_lt ⟨n.toNat, by omega⟩
  rwa [show ((n.toNat : Nat) : Int) = n by omega] at this
theorem small_line {c : Cf} (h : smallP c) : (cLine c).length ≤ 24 := by
  obtain ⟨_, f1, f2, f3, f4, f5⟩ := small_facts h
  obtain ⟨⟨s1, s2⟩, ⟨b1, b2⟩, ⟨q1, q2⟩, ⟨d1, d2⟩, ⟨h1, h2⟩, _⟩ := h
  rw [cLine_size]
  have g1 := itoa_2 (n := c.z) (by omega) (by omega)
  have g2 := itoa_2 (n := c.s) (by omega) (by omega)
  have g3 := itoa_2 (n := c.b) (by omega) (by omega)
  have g4 := itoa_2 (n := c.q) (by omega) (by omega)
  have g5 := itoa_2 (n := c.d) (by omega) (by omega)
  have g6 := itoa_2 (n := c.h) (by omega) (by omega)
  omega
theorem fmt_ok {c : Cf} {x : List Ac} (h : (fmt c x).2 = 0) : (fmt c x).1 = txt c x ∧ (txt c x).length ≤ 65536 ∧ x.all (fun a => decide (tline a ≠ [])) = true := by
  unfold fmt at h ⊢
  split at h
  case isFalse hc => exact absurd h hc
  rename_i hc
  rw [if_pos hc]
  split at h
  · cases h
  rename_i h1
  rw [if_neg h1]
  split at h
  case isFalse => cases h
  rename_i h2
  rw [if_pos h2]
  split at h
  · cases h
  rename_i h3
  rw [if_neg h3]
  exact ⟨rfl, by omega, h2⟩
theorem sBytes_bI (l : List UInt8) : sBytes (sS l) = cVb (bI l) := by simp [sBytes, cVb, bI, sS]
theorem bI_set (l : List UInt8) (i : Nat) (b : UInt8) : (cVb (bI l)).set i [.sc (.int .u8 b.toNat)] = cVb (bI (l.set i b)) := by simp [cVb, bI, List.map_set]
theorem sS_take (l : List UInt8) (i : Nat) : (sS l).extract 0 i = sS (l.take i) := sL_inj (by
  rw [sL_extract]
  rfl)
theorem sS_drop (l : List UInt8) (i : Nat) : (sS l).extract i (sS l).size = sS (l.drop i) := sL_inj (by
  rw [sL_extract]
  show (l.take l.length).drop i = l.drop i
  rw [List.take_length])
/-- The odd actions that are let in. -/
def oddOk (odd : List Ac) : Prop := odd.length ≤ 10 ∧ ∀ a ∈ odd, a.kp.length ≤ 60
/-- What the law needs of a script that can be written. -/
structure Writ (c : Cf) (x : List Ac) (b : UInt8) (at_ : Int) (F : ByteArray) (i : Nat) (B1 B2 B3 : ByteArray) : Prop where
  size : F.size ≤ 65536
  lt : i < F.size
  parse : Fun Tryz.prog 11 [strV F] [] (.tup [cfV c, slV (acR x), i64V 0, i64V 0])
  mod : Fun Tryz.prog 13 [i64V at_, i64V ((sBytes F).length : Int)] [] (.v (i64V (i : Int)))
  bytes : ∃ ws ws', sBytes F = cVb ws ∧ i < ws.length ∧ ws.length = F.size ∧ (cVb ws).set i [.sc (.int .u8 b.toNat)] = cVb ws' ∧ bytesStr ws' = B1
  take : F.extract 0 i = B2
  cut : B2 ++ F.extract (i + 1) F.size = B3
  sizes : B2.size + (F.extract (i + 1) F.size).size ≤ 9223372036854775807
  a1 : Fun Tryz.prog 14 [strV B1] [] (ATbool true)
  a2 : Fun Tryz.prog 14 [strV B2] [] (ATbool true)
  a3 : Fun Tryz.prog 14 [strV B3] [] (ATbool true)
theorem writ {c : Cf} {x : List Ac} (hc : cfChk c = 0) (hl : (cLine c).length ≤ 24) (h : (fmt c x).2 = 0) (b : UInt8) (at_ : Int) : ∃ i B1 B2 B3, Writ c x b at_ (sS (fmt c x).1) i B1 B2 B3 := by
  obtain ⟨h1, h2, h3⟩ := fmt_ok h
  obtain ⟨_, hp⟩ := parse_back (cfL_small hc) h
  rw [h1]
  have hpos : 1 ≤ (txt c x).length := by unfold txt; rw [List.length_append, List.length_cons]; omega
  obtain ⟨m1, m2⟩ := dmod_in (x := at_) (n := ((txt c x).length : Int)) (by omega) (by omega)
  obtain ⟨i, hi⟩ : ∃ i : Nat, dmod at_ ((txt c x).length : Int) = i := ⟨_, (Int.toNat_of_nonneg m1).symm⟩
  rw [hi] at m2
  have hil : i < (txt c x).length := by omega
  have ag : ∀ s : List UInt8, s.length ≤ 65536 → goodH (firstL s) → Fun Tryz.prog 14 [strV (sS s)] [] (ATbool true) := fun s hs hg => by
    obtain ⟨t1, t2⟩ := tparse_ok s
    exact agreeF s (by omega) hg (by omega) (fun a ha => Nat.le_trans (t2 a ha) (by omega))
  refine ⟨i, sS ((txt c x).set i b), sS ((txt c x).take i), sS ((txt c x).take i ++ (txt c x).drop (i + 1)), h2, hil, ?_, ?_, ⟨bI (txt c x), bI ((txt c x).set i b), sBytes_bI _, by simpa [bI] using hil, by simp [bI, sS_size], bI_set _ _ _, bI_str _⟩, sS_take _ _, by rw [sS_drop, sS_append], ?_, ?_, ?_, ?_⟩
  · have := parseF (txt c x) (by omega)
    rw [hp] at this
    exact this
  · have := modF at_ ((txt c x).length : Int)
    rw [hi] at this
    rw [sBytes_bI, show (cVb (bI (txt c x))).length = (txt c x).length by simp [cVb, bI]]
    exact this
  · rw [sS_drop, sS_size, sS_size, List.length_take, List.length_drop]
    omega
  · exact ag _ (by rw [List.length_set]; exact h2) (good_set hl h3 i b)
  · exact ag _ (by rw [List.length_take]; omega) (good_take hl i)
  · exact ag _ (by rw [List.length_append, List.length_take, List.length_drop]; omega) (good_cut hl h3 i)
theorem scEnv (L : List Int) (at_ : Int) (b : UInt8) (hl : L.length ≤ 300) : ∃ (c : Cf) (k1 k2 : Nat) (x : List Ac) (F1 : ByteArray) (F2 : Int),
    FunP Tryz.prog 7 (dcs L 0) [] (dcs L k1) (.v (cfV c)) ∧
    FunPR Tryz.prog 8 (dcs L k1) [cfV c, bV true] (dcs L k2) 41 6 (acR x) ∧
    Fun Tryz.prog 9 [cfV c, slV (acR x)] [] (.tup [strV F1, i64V F2]) ∧ Fun Tryz.prog 10 [cfV c, slV (acR x)] [] (.tup [strV F1, i64V F2]) ∧
    x.length ≤ 405 ∧ (∀ a ∈ x, a.kp.length ≤ 101) ∧ (F2 = 0 → ∃ i B1 B2 B3, Writ c x b at_ F1 i B1 B2 B3) ∧
    ∀ odd, oddOk odd → ∃ G1 G2, Fun Tryz.prog 9 [cfV c, slV (acR (x ++ odd))] [] (.tup [strV G1, i64V G2]) ∧ Fun Tryz.prog 10 [cfV c, slV (acR (x ++ odd))] [] (.tup [strV G1, i64V G2]) := by
  obtain ⟨c, k1, hS, hP, _, hk⟩ := mkSmallF L 0 (by omega)
  have hsl := small_line hP
  obtain ⟨hc0, f1, f2, f3, f4, f5⟩ := small_facts hP
  obtain ⟨⟨s1, s2⟩, ⟨b1, b2⟩, ⟨q1, q2⟩, _⟩ := hP
  have hsc := scriptF L c k1 (by omega) ⟨by omega, by omega⟩ ⟨by omega, by omega⟩ ⟨by omega, by omega⟩ (hk (Nat.zero_le _))
  obtain ⟨x1, x2⟩ := go_ok (L := L) (c := c) (by omega) ⟨by omega, by omega⟩ (L.length + 1) k1 [] (by simp) (fun a ha => by cases ha)
  refine ⟨c, k1, _, _, _, _, hS, hsc, formatF c _ (by omega) (fun a ha => Nat.le_trans (x2 a ha) (by decide)), formatR c _ (by omega) (fun a ha => Nat.le_trans (x2 a ha) (by decide)), x1, x2, fun h => writ hc0 hsl h b at_, fun odd ho => ?_⟩
  have hlen : ((scGo L c (L.length + 1) k1 []).2 ++ odd).length ≤ 100000 := by rw [List.length_append]; have := ho.1; omega
  have hkp : ∀ a ∈ (scGo L c (L.length + 1) k1 []).2 ++ odd, a.kp.length ≤ 1000000 := fun a ha => by
    rcases List.mem_append.1 ha with ha | ha
    · exact Nat.le_trans (x2 a ha) (by decide)
    · exact Nat.le_trans (ho.2 a ha) (by decide)
  exact ⟨_, _, formatF c _ hlen hkp, formatR c _ hlen hkp⟩
end Go.Proofs.YtikchieadclbhaaGreatDoor.Ab
namespace Go.Proofs.YtikchieadclbhaaGreatDoor.Ab
set_option linter.unusedVariables false
set_option linter.unusedSimpArgs false
open Go.RowKit

section
variable {W0 : Ent} {w : World} {ok : Nat → Prop} {σ : Nat → Nat → Value} {S : St} {a : Act}
theorem put_same {t : Nat} (hta : t < a.tmps.size) {v : Value} (hv : a.tmps[t] = v) : a.put (some t) v = a := by
  obtain ⟨tmps, defers⟩ := a
  simp only [Act.put]
  congr 1
  apply Array.ext_getElem?
  intro i
  by_cases hi : t = i
  · subst hi
    rw [Array.getElem?_setIfInBounds_self, if_pos hta, ← hv]
    exact (Array.getElem?_eq_getElem hta).symm
  · rw [Array.getElem?_setIfInBounds_ne hi]
theorem Conf.room3 (k : Nat) {t b g E sz : Nat} {es : List (List IV)} (hst : nthO S.t t = some (.v (.c (.own b g)))) (hbk : S.blk b = .row g E sz es) (hE : Nat.ble E 999999 = true) (hC : Conf W0 ok σ S a w) :
    (es = [] ∧ ∃ ok' σ', Conf W0 ok' σ' (S.put (some t) (.v (.c .nl)) []) a w) ∨
    (∃ ok' σ', Conf W0 ok' σ' (S.put (some t) (.v (.c (.osub b (g + 1) sz 0 es.length))) [(b, .rowp (g + 1) E sz es (es.length + k))]) a w) ∨
    (∃ c, c < es.length + k ∧ ∃ ok' σ', Conf W0 ok' σ' (S.put (some t) (.v (.c (.sly es c))) [(b, .froz g es)]) a w) := by
  rw [nthO_eq] at hst
  have htl := (List.getElem?_eq_some_iff.1 hst).1
  have hta : t < a.tmps.size := by rw [hC.size]; exact htl
  obtain ⟨_, hv, _⟩ : g ≤ S.G b ∧ a.tmps[t] = σ b g ∧ _ := hC.tmp t _ _ (Array.getElem?_eq_getElem hta) hst
  have hbs := blk_some hbk (fun g e => by cases e)
  have hbl : b < S.h.length := (List.getElem?_eq_some_iff.1 hbs).1
  have hgen : S.G b = g := by rw [blk_gen, hbk]; rfl
  obtain ⟨xs, e1, e2, e3, e4⟩ := hC.blk b _ hbs
  replace e1 := e1.to (Nat.lt_of_le_of_lt (Nat.le_of_ble_eq_true hE) (by decide))
  rcases e1.2 with ⟨q1, q2⟩ | ⟨m, c, cur, q1, q2, q3, q4, q5, q6, q7⟩
  · left
    refine ⟨List.eq_nil_of_length_eq_zero q2, ok, σ, ?_⟩
    have := hC.stay (dst := some t) (r := .v (.c .nl)) (v := .slice none 0 0) (grown_refl w) (fun _ h => h) hC.okb (fun _ h => Or.inl h) (show RepT w ok σ S.G (.v (.c .nl)) (.slice none 0 0) from rfl)
    rw [put_same hta (by rw [hv, q1])] at this
    exact this
  · right
    rw [q1] at e1 hv
    by_cases hc : es.length + k ≤ c
    · left
      have hσ : ∀ c' g', g' ≤ S.G c' → (if c' = b ∧ g' = g + 1 then Value.slice (some ⟨m, 0, none⟩) (es.length + k) c else σ c' g') = σ c' g' := by
        intro c' g' hg'
        rw [if_neg]
        rintro ⟨rfl, rfl⟩
        omega
      have hGd : (S.put none (.v (.c .un)) [(b, Blk.rowp (g + 1) E sz es (es.length + k))]).G b = g + 1 := by simp [St.G, St.put, hbl, Blk.gen]
      have hm : Value.ownBlock (σ b g) = some m := by rw [q1]; rfl
      refine ⟨ok, fun c' g' => if c' = b ∧ g' = g + 1 then Value.slice (some ⟨m, 0, none⟩) (es.length + k) c else σ c' g', ?_⟩
      have := hC.step (w' := w) (row := none) (ok' := ok) (σ' := fun c' g' => if c' = b ∧ g' = g + 1 then Value.slice (some ⟨m, 0, none⟩) (es.length + k) c else σ c' g') (b := b) (B' := .rowp (g + 1) E sz es (es.length + k)) (dst := some t)
        (r := .v (.c (.osub b (g + 1) sz 0 es.length))) (v := .slice (some ⟨m, 0, none⟩) es.length c) (grown_refl w) (by simp) (fun _ h => h) hC.okb (fun _ h => Or.inl h) hbl (by rw [hgen]; exact Nat.le_succ _) hσ
        ⟨m, c, xs, by simp, e1, e2, hc, e3.has m hm, e3.nok m hm, e4⟩
        (fun n hn c' C hc' hC' hn' => by
          simp only [Blk.at, and_self, if_true, Value.blkNo, Option.some.injEq] at hn
          subst hn
          exact hC.apart b c' _ C hbs hC' (fun e => hc' e.symm) m (by simp [Blk.at, q1, Value.blkNo]) hn')
        ⟨by rw [hGd]; exact Nat.le_refl _, some ⟨m, 0, none⟩, some ⟨m, 0, none⟩, es.length + k, c, by simp, Nat.zero_le _, Nat.le_add_right _ _, hc, by rw [Nat.sub_zero, Nat.sub_zero], fun _ => by rw [Nat.zero_mul]; rfl⟩
      rw [put_same hta hv] at this
      exact this
    · right
      refine ⟨c, by omega, ?_⟩
      obtain ⟨ok', hC', _, _, _⟩ := Conf.frz [(b, .froz g es)] hC (fun p hp => by
        rw [List.mem_singleton.1 hp]
        exact Or.inl ⟨g, E, sz, es, hbs, rfl⟩)
      have hR : RepI w ok' (.sl es) (σ b g) := hC'.blk b (.froz g es) (by simp [St.put, hbl])
      rw [q1] at hR
      refine ⟨ok', σ, ?_⟩
      have := hC'.stay (dst := some t) (r := .v (.c (.sly es c))) (v := .slice (some ⟨m, 0, none⟩) es.length c) (grown_refl w) (fun _ h => h) hC'.okb (fun _ h => Or.inl h) ⟨some ⟨m, 0, none⟩, rfl, hR, fun e => by cases e⟩
      rw [put_same hta hv, put_put] at this
      exact this
end
theorem vc_loopF {T : Nat → TI} {P : Program} {c : Code} {S : St} {Q : Ex → St → Prop} (kt kh : List Nat) {X : Type} (vs : X → (Nat → Nat) → List (Nat × AT)) (hs : X → (Nat → Nat) → List (Nat × Blk)) (inv : X → Prop) (μ : X → Nat)
    (hstart : ∀ (W0 : Ent) (ok : Nat → Prop) (σ : Nat → Nat → Value) (a : Act) (w : World), Conf W0 ok σ S a w → ∃ x0 S2, inv x0 ∧ (∃ ok' σ', Conf W0 ok' σ' S2 a w) ∧ Fits kt kh (vs x0 S2.G) (hs x0 S2.G) S S2)
    (hstep : ∀ gs x, inv x → layS (head kt kh gs (vs x gs) (hs x gs) S) fun S0 => vc T P c S0 fun e S' => match e with
      | .normal => ∃ m S2, Ghost S' S2 ∧ LI kt kh vs hs inv μ S m S2 ∧ m < μ x
      | .exit id => Q (.exit id) S'
      | .ret => Q .ret S') : LoopVC (fun S0 K => vc T P c S0 K) S Q := vc_loopE kt kh vs hs inv μ S hstart hstep
/-- Where a list that is appended to lies: nowhere, with room, without. -/
def roomT (b g sz : Nat) (es : List (List IV)) : Option (Option Nat) → AT
  | none => .v (.c .nl)
  | some none => .v (.c (.osub b g sz 0 es.length))
  | some (some c) => .v (.c (.sly es c))
def roomB (g E sz : Nat) (es : List (List IV)) (k : Nat) : Option (Option Nat) → Blk
  | none => .dead g
  | some none => .rowp g E sz es (es.length + k)
  | some (some _) => .dead g
def roomI (es : List (List IV)) (k : Nat) : Option (Option Nat) → Prop
  | none => es = []
  | some none => True
  | some (some c) => c < es.length + k
end Go.Proofs.YtikchieadclbhaaGreatDoor.Ab
