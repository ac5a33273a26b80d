/- The script of a text. No condition. -/
import Derived.Test.YtikchieadclbhaaGreatDoorZ46
namespace Go.Proofs.YtikchieadclbhaaGreatDoor.Ab
set_option linter.unusedVariables false
set_option linter.unusedSimpArgs false
open Go.RowKit

theorem cut_cases (s : List UInt8) : (Lib.cut s [10] = (s, [], false) ∧ spl 10 s = [s]) ∨ ∃ p r, Lib.cut s [10] = (p, r, true) ∧ spl 10 s = p :: spl 10 r ∧ p.length + r.length + 1 = s.length := by
  unfold Lib.cut
  rw [Lib.index_one]
  by_cases h : 0 ≤ Lib.indexByte s 10
  · right
    obtain ⟨i, hi⟩ : ∃ i : Nat, Lib.indexByte s 10 = i := ⟨(Lib.indexByte s 10).toNat, by omega⟩
    obtain ⟨h1, h2⟩ := idx_hit hi
    refine ⟨s.take i, s.drop (i + 1), ?_, ?_, ?_⟩
    · rw [if_pos h, hi]
      rfl
    · conv => lhs; rw [h2]
      exact spl_app h1
    · have := congrArg List.length h2
      rw [List.length_append, List.length_cons] at this
      omega
  · left
    have hm : Lib.indexByte s 10 = -1 := by
      have : ∀ (l : List UInt8) (c : UInt8), Lib.indexByte l c = -1 ∨ 0 ≤ Lib.indexByte l c := fun l c => by
        rw [← Lib.index_one]
        induction l with
        | nil => unfold Lib.index; split <;> simp
        | cons b l ih =>
          unfold Lib.index
          split
          · exact Or.inr (Int.le_refl 0)
          · split
            · exact Or.inl rfl
            · rename_i h2
              rcases ih with ih | ih
              · exact absurd (by rw [ih]; rfl) h2
              · right; omega
      exact (this s 10).resolve_right h
    refine ⟨by rw [if_neg h], ?_⟩
    exact spl_word (idx_miss hm)
/-- As fun_of_calls, where three plain values are answered and the package's variables are read. -/
theorem fun_of_calls_3 {f : FuncId} {args : List Value} {v1 v2 v3 : Value} (hE : Enters Tryz.prog f) (h1 : v1.oneCell' = true) (h2 : v2.oneCell' = true) (h3 : v3.oneCell' = true) (h : ∀ w, gP w → Calls Tryz.prog f args.toArray w fun e w' => e = .returned (.tuple #[v1, v2, v3]) ∧ Below w.heap.size w w') : Fun Tryz.prog f (args.map fun x => .c (.i (.sc x))) [] (.tup [.c (.i (.sc v1)), .c (.i (.sc v2)), .c (.i (.sc v3))]) := by
  refine ⟨hE, fun w ok argv hok hsz hrep => ?_⟩
  have ha : argv = args.toArray := by
    apply Array.ext
    · simpa using hsz
    · intro i h1 h2
      have := hrep i argv[i] (.c (.i (.sc args[i]))) (Array.getElem?_eq_getElem h1) (by simp at h2; simp [h2])
      have := RepI_sc this
      simpa using this
  rw [ha]
  refine (h w hok.2.1).mono ?_
  rintro e w' ⟨rfl, hb⟩
  refine ⟨_, ok, fun _ _ => undef, rfl, hb, fun _ h => h, fun k hk => Or.inl hk, ⟨#[v1, v2, v3], rfl, rfl, fun j u x hu hx => ?_⟩, fun b B hB => by simp at hB, fun b b' B B' hB => by simp at hB⟩
  match j, hu, hx with
  | 0, hu, hx => simp at hu hx; subst hu hx; exact .sc _ h1
  | 1, hu, hx => simp at hu hx; subst hu hx; exact .sc _ h2
  | 2, hu, hx => simp at hu hx; subst hu hx; exact .sc _ h3
theorem cutSF (s : List UInt8) (hs : s.length < 4294967281) : Fun Tryz.prog 25 [strV (sS s), strV ⟨#[10]⟩] [] (.tup [strV (sS (Lib.cut s [10]).1), strV (sS (Lib.cut s [10]).2.1), bV (Lib.cut s [10]).2.2]) :=
  fun_of_calls_3 (args := [.string (sS s), .string ⟨#[10]⟩]) ⟨_, Tryz.func25, rfl, by rfl⟩ rfl rfl rfl (fun w hg => by
    obtain ⟨m, hm⟩ := gp_max hg
    refine (Tryz.strings_Cut (sS s) ⟨#[10]⟩ m w hs hm).mono ?_
    rintro e w' ⟨rfl, n, rfl⟩
    exact ⟨rfl, below_drewN (Below.refl _ _) _⟩)
def cfC (c : Cf) : List AV1 := [.i (.sc (.int .i64 c.z)), .i (.sc (.int .i64 c.s)), .i (.sc (.int .i64 c.b)), .i (.sc (.int .i64 c.q)), .i (.sc (.int .i64 c.d)), .i (.sc (.int .i64 c.h))]
def txV (T : Tx) : AT := .tup [cfV T.c, slV (acR T.l), i64V T.n, i64V T.e]
theorem thead_ok {s : List UInt8} (h : theadE s = 0) : theadC s = tcf s := by
  unfold theadE at h
  unfold theadC
  by_cases g : (spl 32 s).length = 7 ∧ cLine (tcf s) = s
  · rw [if_pos g]
  · rw [if_neg g] at h; cases h
theorem spl10_ne (s : List UInt8) : spl 10 s ≠ [] := spl_ne 10 s
theorem tread_err (s : List UInt8) (h : ¬ (tread s).2 = 0) : (tread s).2 = 18 := by
  unfold tread at h ⊢
  split
  · rename_i g; rw [if_pos g] at h; exact absurd rfl h
  · rfl
end Go.Proofs.YtikchieadclbhaaGreatDoor.Ab
namespace Go.Proofs.YtikchieadclbhaaGreatDoor.Ab
set_option linter.unusedVariables false
set_option linter.unusedSimpArgs false
open Go.RowKit

theorem plines_1 {c : Cf} {p : List UInt8} {k : Int} {out : List Ac} : plines c [p] k out = if p = [] then ⟨c, out, 0, 0⟩ else ⟨cf0, [], k, 18⟩ := by
  rw [plines, if_pos rfl]
theorem plines_2 {c : Cf} {p : List UInt8} {ls : List (List UInt8)} {k : Int} {out : List Ac} (h : ls ≠ []) : plines c (p :: ls) k out = if (tread p).2 = 0 then (if out.length = 2000 then ⟨cf0, [], k, 19⟩ else plines c ls (k + 1) (out ++ [(tread p).1])) else ⟨cf0, [], k, 18⟩ := by
  rw [plines, if_neg h]
theorem tpall_1 {p : List UInt8} : pall theadE tcf [p] = ⟨cf0, [], 1, 18⟩ := rfl
theorem tpall_2 {p : List UInt8} {ls : List (List UInt8)} (h : ls ≠ []) : pall theadE tcf (p :: ls) = if theadE p = 0 then plines (tcf p) ls 2 [] else ⟨cf0, [], 1, theadE p⟩ := by
  unfold pall
  dsimp only
  rw [if_neg h]
set_option maxRecDepth 100000 in
set_option maxHeartbeats 16000000 in
theorem parseF (s : List UInt8) (hs : s.length ≤ 9223372036854775807) : Fun Tryz.prog 11 [strV (sS s)] [] (txV (tparse s)) := by
  by_cases hbig : 65536 < s.length
  · have e : tparse s = ⟨cf0, [], 0, 19⟩ := by unfold tparse parse; rw [if_pos hbig]
    rw [e]
    have hl : ((sS s).size : Int) > 65536 := by show ((s.length : Nat) : Int) > 65536; omega
    generalize sS s = S at hl ⊢
    refine fun_of_vc tabOk mixOk Tryz.func11 rfl (by rfl) (rs := [.cell 2 29, .tmp 3, .tmp 4, .tmp 5]) rfl rfl 79 ?_; rw [Tryz.ntmps11]
    (conv=>whnf);repeat((first|refine zD ?_|refine zA ?_|refine zT ?_|refine zF ?_);conv=>whnf)
    refine And.intro (fun _ => ?_) (fun g => absurd hl (of_decide_eq_false g))
    (conv=>whnf);repeat((first|refine zD ?_|refine zA ?_|refine zT ?_|refine zF ?_);conv=>whnf)
    refine Exists.intro [] (And.intro List.nodup_nil ?_); ((conv=>whnf);repeat((first|refine zD ?_|refine zA ?_|refine zT ?_|refine zF ?_);conv=>whnf))
    rfl
  · have hT : tparse s = pall theadE tcf (spl 10 s) := by unfold tparse parse; rw [if_neg hbig]
    generalize tparse s = T at hT ⊢
    have hl : ¬ ((sS s).size : Int) > 65536 := by show ¬ ((s.length : Nat) : Int) > 65536; omega
    refine fun_of_vc tabOk mixOk Tryz.func11 rfl (by rfl) (rs := [.cell 2 29, .tmp 3, .tmp 4, .tmp 5]) rfl rfl 79 ?_; rw [Tryz.ntmps11]
    (conv=>whnf);repeat((first|refine zD ?_|refine zA ?_|refine zT ?_|refine zF ?_);conv=>whnf)
    refine And.intro (fun g => absurd (of_decide_eq_true g) hl) (fun _ => ?_)
    (conv=>whnf);repeat((first|refine zD ?_|refine zA ?_|refine zT ?_|refine zF ?_);conv=>whnf)
    refine vc_loop [2, 6] [2] (X := Nat × List UInt8 × Cf × List Ac) (fun x gs => [(9, ATint x.1), (8, .v (strV (sS x.2.1))), (7, .v (.c (.own 72 (gs 72))))]) (fun x gs => [(6, .var (0 + 1) (cfC x.2.2.1)), (72, .row (gs 72) 41 6 (acR x.2.2.2))]) (fun x => x.1 + x.2.1.length ≤ 65537 ∧ x.2.2.2.length ≤ 2000 ∧ ((x.1 = 1 ∧ x.2.1 = s ∧ x.2.2.1 = cf0 ∧ x.2.2.2 = []) ∨ (2 ≤ x.1 ∧ plines x.2.2.1 (spl 10 x.2.1) (x.1 : Int) x.2.2.2 = T))) (fun x => x.2.1.length) _ (Ghost.ownNil 7 72 41 6 rfl (Nat.le_of_ble_eq_true rfl)) (1, s, cf0, []) ⟨by dsimp only; omega, Nat.zero_le _, Or.inl ⟨rfl, rfl, rfl, rfl⟩⟩ ?_ ?_
    · (refine zA (zA ?_));(repeat' (first|exact trivial|with_reducible exact cvB_refl _|exact rfl|apply And.intro))
    rintro gs ⟨k, r, c, out⟩ ⟨hk, ho, hinv⟩
    dsimp only at hk ho hinv ⊢
    have hcut := cutSF r (by omega)
    rcases hinv with ⟨rfl, rfl, rfl, rfl⟩ | ⟨hk2, hinv⟩
    · rcases cut_cases r with ⟨e, e2⟩ | ⟨p, q, e, e2, hlen⟩
      · rw [e] at hcut
        rw [e2, tpall_1] at hT
        subst hT
        (conv=>whnf);repeat((first|refine zD ?_|refine zA ?_|refine zT ?_|refine zF ?_);conv=>whnf)
        refine ⟨_, _, hcut, ?_⟩
        (conv=>whnf);repeat((first|refine zD ?_|refine zA ?_|refine zT ?_|refine zF ?_);conv=>whnf)
        refine Exists.intro [] (And.intro List.nodup_nil ?_); ((conv=>whnf);repeat((first|refine zD ?_|refine zA ?_|refine zT ?_|refine zF ?_);conv=>whnf))
        rfl
      · rw [e] at hcut
        rw [e2, tpall_2 (spl10_ne q)] at hT
        have hh := headF (sS p) (by show p.length ≤ 1000000; omega)
        have hh : Fun Tryz.prog 26 [strV (sS p)] [] (.tup [cfV (theadC p), i64V (theadE p)]) := hh
        have hok := @thead_ok p
        by_cases h0 : theadE p = 0
        · rw [if_pos h0] at hT
          rw [hok h0, h0] at hh
          clear hok h0
          generalize tcf p = C at hh hT
          (conv=>whnf);repeat((first|refine zD ?_|refine zA ?_|refine zT ?_|refine zF ?_);conv=>whnf)
          refine ⟨_, _, hcut, ?_⟩
          (conv=>whnf);repeat((first|refine zD ?_|refine zA ?_|refine zT ?_|refine zF ?_);conv=>whnf)
          refine ⟨_, _, hh, ?_⟩
          (conv=>whnf);repeat((first|refine zD ?_|refine zA ?_|refine zT ?_|refine zF ?_);conv=>whnf)
          refine again (2, q, C, []) ⟨by dsimp only; omega, Nat.zero_le _, Or.inr ⟨Nat.le_refl 2, hT.symm⟩⟩ (by dsimp only; omega) ?_
          (refine zA (zA ?_));(repeat' (first|exact trivial|with_reducible exact cvB_refl _|exact rfl|apply And.intro))
          all_goals exact congrArg (Value.int .i64) (w64_nat (k := 1) (by decide))
        · rw [if_neg h0] at hT
          generalize theadE p = e0 at hh hT h0
          subst hT
          (conv=>whnf);repeat((first|refine zD ?_|refine zA ?_|refine zT ?_|refine zF ?_);conv=>whnf)
          refine ⟨_, _, hcut, ?_⟩
          (conv=>whnf);repeat((first|refine zD ?_|refine zA ?_|refine zT ?_|refine zF ?_);conv=>whnf)
          refine ⟨_, _, hh, ?_⟩
          (conv=>whnf);repeat((first|refine zD ?_|refine zA ?_|refine zT ?_|refine zF ?_);conv=>whnf)
          refine And.intro (fun _ => ?_) (fun g => absurd (by simpa using g) h0)
          (conv=>whnf);repeat((first|refine zD ?_|refine zA ?_|refine zT ?_|refine zF ?_);conv=>whnf)
          refine Exists.intro [] (And.intro List.nodup_nil ?_); ((conv=>whnf);repeat((first|refine zD ?_|refine zA ?_|refine zT ?_|refine zF ?_);conv=>whnf))
          rfl
    · have hk1 : ¬ (k : Int) = 1 := by omega
      have w5 := w64_nat (k := k) (by omega)
      have hem : ((sS r).toList == (⟨#[]⟩ : ByteArray).toList) = decide (r = []) := empty_iff (sS r)
      (conv=>whnf);repeat((first|refine zD ?_|refine zA ?_|refine zT ?_|refine zF ?_);conv=>whnf)
      refine And.intro (fun g => absurd (by simpa using g) hk1) (fun _ => ?_)
      (conv=>whnf);repeat((first|refine zD ?_|refine zA ?_|refine zT ?_|refine zF ?_);conv=>whnf)
      by_cases hr : r = []
      · subst hr
        rw [decide_eq_true rfl] at hem
        rw [show spl 10 [] = [[]] from rfl, plines_1, if_pos rfl] at hinv
        subst hinv
        refine And.intro (fun g => absurd g (by rw [hem]; decide)) (fun _ => ?_)
        (conv=>whnf);repeat((first|refine zD ?_|refine zA ?_|refine zT ?_|refine zF ?_);conv=>whnf)
        refine Exists.intro [] (And.intro List.nodup_nil ?_); ((conv=>whnf);repeat((first|refine zD ?_|refine zA ?_|refine zT ?_|refine zF ?_);conv=>whnf))
        rfl
      rw [decide_eq_false hr] at hem
      refine And.intro (fun _ => ?_) (fun g => absurd g (by rw [hem]; decide))
      rcases cut_cases r with ⟨e, e2⟩ | ⟨p, q, e, e2, hlen⟩
      · rw [e] at hcut
        rw [e2, plines_1, if_neg hr] at hinv
        subst hinv
        (conv=>whnf);repeat((first|refine zD ?_|refine zA ?_|refine zT ?_|refine zF ?_);conv=>whnf)
        refine ⟨_, _, hcut, ?_⟩
        (conv=>whnf);repeat((first|refine zD ?_|refine zA ?_|refine zT ?_|refine zF ?_);conv=>whnf)
        refine Exists.intro [] (And.intro List.nodup_nil ?_); ((conv=>whnf);repeat((first|refine zD ?_|refine zA ?_|refine zT ?_|refine zF ?_);conv=>whnf))
        rfl
      · rw [e] at hcut
        rw [e2, plines_2 (spl10_ne q)] at hinv
        have hh := readF (sS p) (by show p.length ≤ 1000000; omega)
        have hh : Fun Tryz.prog 15 [strV (sS p)] [] (.tup [acV (tread p).1, i64V (tread p).2]) := hh
        have her := tread_err p
        generalize tread p = A at hh hinv her
        obtain ⟨a, e0⟩ := A
        dsimp only at her hinv
        by_cases h0 : e0 = 0
        · subst h0
          rw [if_pos rfl] at hinv
          by_cases hfull : out.length = 2000
          · rw [if_pos hfull] at hinv
            subst hinv
            (conv=>whnf);repeat((first|refine zD ?_|refine zA ?_|refine zT ?_|refine zF ?_);conv=>whnf)
            refine ⟨_, _, hcut, ?_⟩
            (conv=>whnf);repeat((first|refine zD ?_|refine zA ?_|refine zT ?_|refine zF ?_);conv=>whnf)
            refine And.intro (fun g => absurd (by simpa using g) hk1) (fun _ => ?_)
            (conv=>whnf);repeat((first|refine zD ?_|refine zA ?_|refine zT ?_|refine zF ?_);conv=>whnf)
            refine ⟨_, _, hh, ?_⟩
            (conv=>whnf);repeat((first|refine zD ?_|refine zA ?_|refine zT ?_|refine zF ?_);conv=>whnf)
            refine And.intro (fun _ => ?_) (fun g => absurd (show ((acR out).length : Int) = 2000 by rw [acLen, hfull]; rfl) (by simpa only [beq_eq_false_iff_ne] using g))
            (conv=>whnf);repeat((first|refine zD ?_|refine zA ?_|refine zT ?_|refine zF ?_);conv=>whnf)
            refine Exists.intro [] (And.intro List.nodup_nil ?_); ((conv=>whnf);repeat((first|refine zD ?_|refine zA ?_|refine zT ?_|refine zF ?_);conv=>whnf))
            rfl
          · rw [if_neg hfull] at hinv
            (conv=>whnf);repeat((first|refine zD ?_|refine zA ?_|refine zT ?_|refine zF ?_);conv=>whnf)
            refine ⟨_, _, hcut, ?_⟩
            (conv=>whnf);repeat((first|refine zD ?_|refine zA ?_|refine zT ?_|refine zF ?_);conv=>whnf)
            refine And.intro (fun g => absurd (by simpa using g) hk1) (fun _ => ?_)
            (conv=>whnf);repeat((first|refine zD ?_|refine zA ?_|refine zT ?_|refine zF ?_);conv=>whnf)
            refine ⟨_, _, hh, ?_⟩
            (conv=>whnf);repeat((first|refine zD ?_|refine zA ?_|refine zT ?_|refine zF ?_);conv=>whnf)
            refine And.intro (fun g => absurd (by
              have : ((acR out).length : Int) = 2000 := by simpa only [beq_iff_eq] using g
              rw [acLen] at this
              omega) hfull) (fun _ => ?_)
            (conv=>whnf);repeat((first|refine zD ?_|refine zA ?_|refine zT ?_|refine zF ?_);conv=>whnf)
            refine ⟨acSz [a], ?_⟩
            (conv=>whnf);repeat((first|refine zD ?_|refine zA ?_|refine zT ?_|refine zF ?_);conv=>whnf)
            refine ⟨bytes_le (by decide) (ac_b (a := out) (b := [a]) (by omega) (by simp)), ?_⟩
            (conv=>whnf);repeat((first|refine zD ?_|refine zA ?_|refine zT ?_|refine zF ?_);conv=>whnf)
            refine again (k + 1, q, c, out ++ [a]) ⟨by dsimp only; omega, by simp; omega, Or.inr ⟨by dsimp only; omega, by rw [← hinv]; rfl⟩⟩ (by dsimp only; omega) ?_
            (refine zA (zA ?_));(repeat' (first|exact trivial|with_reducible exact cvB_refl _|exact rfl|apply And.intro))
            all_goals first
              | exact congrArg (Value.int .i64) w5
              | exact congrArg (Blk.row _ _ _) (acApp out [a])
        · rw [if_neg h0] at hinv
          have h18 := her h0
          subst h18
          subst hinv
          (conv=>whnf);repeat((first|refine zD ?_|refine zA ?_|refine zT ?_|refine zF ?_);conv=>whnf)
          refine ⟨_, _, hcut, ?_⟩
          (conv=>whnf);repeat((first|refine zD ?_|refine zA ?_|refine zT ?_|refine zF ?_);conv=>whnf)
          refine And.intro (fun g => absurd (by simpa using g) hk1) (fun _ => ?_)
          (conv=>whnf);repeat((first|refine zD ?_|refine zA ?_|refine zT ?_|refine zF ?_);conv=>whnf)
          refine ⟨_, _, hh, ?_⟩
          (conv=>whnf);repeat((first|refine zD ?_|refine zA ?_|refine zT ?_|refine zF ?_);conv=>whnf)
          refine Exists.intro [] (And.intro List.nodup_nil ?_); ((conv=>whnf);repeat((first|refine zD ?_|refine zA ?_|refine zT ?_|refine zF ?_);conv=>whnf))
          rfl
end Go.Proofs.YtikchieadclbhaaGreatDoor.Ab
