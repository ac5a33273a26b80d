/- The layout of a configuration, for the abstract walk. -/
import Derived.Test.YtikchieadclbhaaGreatDoorZ37
import Derived.Test.YtikchieadclbhaaGreatDoorZ25
import Derived.Test.YtikchieadclbhaaGreatDoorZ22
namespace Go.Proofs.YtikchieadclbhaaGreatDoor.Ab
set_option linter.unusedVariables false
set_option linter.unusedSimpArgs false
open Go.RowKit

theorem tline_len (a : Ac) : (tline a).length ≤ 1000 := by
  obtain ⟨k, n, ck, cb, cd, kp⟩ := a
  cases hf : fit n with
  | false => rw [tline_unfit hf]; simp
  | true =>
    have hn := itoa_len (fit_iff.1 hf)
    by_cases h1 : k = 1
    · subst h1
      by_cases hk : kp = []
      · subst hk
        cases hr : cRight ck cb cd with
        | false => rw [tline_wrong (Or.inr hr)]; simp
        | true =>
          rw [tline_sub hf hr]
          have hr := of_decide_eq_true hr
          have hb := itoa_len (fit_iff.1 hr.2.2.1)
          have hkl : (kW ck).length ≤ 5 := by
            rcases kW_cases hr.1 with rfl | rfl | rfl | rfl <;> decide
          have hx : (hexL cd).length = 2 * cd.length := hex_len cd
          have hc := hr.2.1
          have hcl : cd.length ≤ 16 := by split at hc <;> omega
          have h := joinW_len (M := 32) 32 (ws := cWs ck cb cd [Lib.itoa n]) (fun w hw => by
            unfold cWs at hw
            simp only [List.mem_cons, List.mem_append, List.mem_nil_iff, or_false] at hw
            rcases hw with rfl | rfl | hw | hw
            · omega
            · omega
            · split at hw
              · simp at hw
              · obtain rfl := List.mem_singleton.1 hw; omega
            · split at hw
              · obtain rfl := List.mem_singleton.1 hw; omega
              · simp at hw)
          have hl : (cWs ck cb cd [Lib.itoa n]).length ≤ 4 := by
            have g1 : (if ck = 4 then [] else [Lib.itoa cb]).length ≤ 1 := by split <;> simp
            have g2 : (if ck = 2 then [hexL cd] else []).length ≤ 1 := by split <;> simp
            unfold cWs
            simp only [List.length_cons, List.length_append, List.length_nil]
            omega
          have := Nat.mul_le_mul hl (Nat.le_refl (32 + 1))
          omega
      · rw [tline_wrong (Or.inl hk)]; simp
    by_cases hc : ck = 0 ∧ cb = 0 ∧ cd = []
    · obtain ⟨rfl, rfl, rfl⟩ := hc
      by_cases h4 : k = 4
      · subst h4
        rw [tline_crash hf]
        split
        · unfold crL
          split
          · rename_i hkp
            split
            · decide
            · have hj := kpS_size hkp.2 hkp.1
              have hj : (joinW 44 (kp.map Lib.itoa)).length ≤ 480 := hj
              show (wCrash ++ 32 :: joinW 44 (kp.map Lib.itoa)).length ≤ 1000
              rw [List.length_append, List.length_cons]
              have : wCrash.length = 5 := rfl
              omega
          · simp
        · simp
      · by_cases hk : kp = []
        · subst hk
          rw [tline_rest hf h1 h4]
          split
          · rw [List.length_append, List.length_cons]
            have : wStep.length = 4 := rfl
            omega
          · split
            · simp
            · split
              · decide
              · split
                · decide
                · simp
        · rw [tline_keep h1 h4 hk]; simp
    · rw [tline_cmd h1 hc]; simp
theorem tread_kp (l : List UInt8) : (tread l).1.kp.length ≤ l.length + 1 := by
  unfold tread
  split
  · show (tcand l).kp.length ≤ _
    unfold tcand
    have hm := (spl_len 32 l).1
    generalize spl 32 l = ws at hm
    cases ws with
    | nil => exact Nat.zero_le _
    | cons w r =>
      rw [tcandW]
      split
      · exact Nat.zero_le _
      · split
        · exact Nat.zero_le _
        · split
          · exact Nat.zero_le _
          · split
            · exact Nat.zero_le _
            · split
              · dsimp only
                split
                · rename_i h1
                  obtain ⟨x, rfl⟩ : ∃ x, r = [x] := List.length_eq_one_iff.1 h1
                  have h2 := hm x (by simp)
                  have h3 := (spl_len 44 x).2
                  show ((spl 44 x).map num).length ≤ _
                  rw [List.length_map]
                  omega
                · exact Nat.zero_le _
              · exact Nat.zero_le _
  · exact Nat.zero_le _
theorem same_lists {a b : ByteArray} (h : a = b) : (a.toList == b.toList) = true := by subst h; simp
def acC : Ac := ⟨4, 0, 0, 0, [], [2]⟩
theorem acC_line : tline acC = [99, 114, 97, 115, 104, 32, 50] := by
  unfold acC
  rw [tline_crash (by decide), if_pos rfl]
  have h2 : Lib.itoa 2 = [50] := by
    unfold Lib.itoa
    rw [if_neg (by decide)]
    show Lib.decDigits 2 = [50]
    rw [dec_app]
    rfl
  unfold crL
  rw [if_pos (by decide), if_neg (by decide), List.map_cons, List.map_nil, h2]
  rfl
set_option maxRecDepth 100000 in
set_option maxHeartbeats 16000000 in
theorem awakeF : Fun Tryz.prog 5 [] [] (ATbool true) := by
  have h1 := readF ⟨#[99, 114, 97, 115, 104, 32, 50]⟩ (by decide)
  have e1 : tread (⟨#[99, 114, 97, 115, 104, 32, 50]⟩ : ByteArray).data.toList = (acC, 0) := by
    have := read_line (a := acC) (by rw [acC_line]; simp)
    rw [acC_line] at this
    exact this
  rw [e1] at h1
  have h2 := lineF acC
  rw [acC_line] at h2
  refine fun_of_vc tabOk mixOk Tryz.func5 rfl (by rfl) (rs := [.tmp 0]) rfl rfl 39 ?_; rw [Tryz.ntmps5]
  (conv=>whnf);repeat((first|refine zD ?_|refine zA ?_|refine zT ?_|refine zF ?_);conv=>whnf)
  refine ⟨_, _, h1, ?_⟩
  (conv=>whnf);repeat((first|refine zD ?_|refine zA ?_|refine zT ?_|refine zF ?_);conv=>whnf)
  refine ⟨_, _, h2, ?_⟩
  (conv=>whnf);repeat((first|refine zD ?_|refine zA ?_|refine zT ?_|refine zF ?_);conv=>whnf)
  refine And.intro (fun _ => ?_) (fun h => absurd h (by rw [eqS]; decide))
  (conv=>whnf);repeat((first|refine zD ?_|refine zA ?_|refine zT ?_|refine zF ?_);conv=>whnf)
  refine ⟨by decide, _, rfl, rfl, ?_⟩
  (conv=>whnf);repeat((first|refine zD ?_|refine zA ?_|refine zT ?_|refine zF ?_);conv=>whnf)
  refine Exists.intro [] (And.intro List.nodup_nil ?_); ((conv=>whnf);repeat((first|refine zD ?_|refine zA ?_|refine zT ?_|refine zF ?_);conv=>whnf))
  rfl
theorem lensOver {a b c : Nat} (ha : a ≤ 300000000000000) (hb : b ≤ 300000000000000) (hc : c ≤ 300000000000000) : iwrap .i64 (iwrap .i64 ((a : Int) + (b : Int)) + (c : Int)) = ((a + b + c : Nat) : Int) := by
  have h1 : iwrap .i64 ((a : Int) + (b : Int)) = ((a + b : Nat) : Int) := (w64_in (by omega)).trans (by omega)
  rw [h1]
  exact (w64_in (by omega)).trans (by omega)
end Go.Proofs.YtikchieadclbhaaGreatDoor.Ab
namespace Go.Proofs.YtikchieadclbhaaGreatDoor.Ab
set_option linter.unusedVariables false
set_option linter.unusedSimpArgs false
open Go.RowKit Go.WideShapes
section
variable {H : Type} {enc : TypeId × Value → H} {P : Program} {T : Nat → TI} {w : World} {base : Nat} {spare : Nat → Bool} {held : Bool}
theorem part_trod (hT : TabOk P T) {t o g fuel : Nat} {fs : List (Nat × Nat)} (hk : (T t).k = .struct fs) (hm : (o, g) ∈ fs) (hg : (T g).k ≠ .none) {cs : List Value} {x : DataW H × List MemPlace}
    (h : DataW.trod enc P w base spare held fuel t cs = some x) {B : Nat} (hw : ∀ n ∈ x.1.weights P t, n ≤ B) :
    ∃ fuel' y, DataW.trod enc P w base spare held fuel' g ((cs.drop o).take (T g).size) = some y ∧ ∀ n ∈ y.1.weights P g, n ≤ B := by
  have hd := hT.desc t
  rw [hk] at hd
  obtain ⟨Fs, hFs, hfs⟩ := hd
  obtain ⟨xs, n, _, hx, hcl, hxl, hxs⟩ := DataW.trod_struct hFs h
  rw [← hfs] at hm
  obtain ⟨G, hG, hGe⟩ := List.mem_map.1 hm
  obtain ⟨i, hi, hgi⟩ := List.getElem_of_mem hG
  have hi' : i < Fs.size := by simpa using hi
  have hgi' : Fs[i]? = some G := by rw [Array.getElem?_eq_getElem hi', ← hgi]; simp
  have h1 := hxs i G hgi'
  injection hGe with g1 g2
  have hc := cellsOf_eq hT (t := g) hg
  rw [g1, g2, hc, List.getElem?_eq_getElem (by omega)] at h1
  refine ⟨_, _, h1, fun m hm => hw m ?_⟩
  have hd1 : x.1 = .agg (xs.map (·.1)) := by rw [hx]
  rw [hd1]
  simp only [DataW.weights, hFs]
  exact DataW.weights_mem_each (j := i) (t := g) (d := xs[i].1) (by simp [hgi', g2]) (by rw [List.getElem?_map, List.getElem?_eq_getElem (by omega)]; rfl) m hm
theorem str_trod (hT : TabOk P T) {g fuel : Nat} (hg : (T g).k = .str) {s : ByteArray} {y : DataW H × List MemPlace} (h : DataW.trod enc P w base spare held fuel g [.string s] = some y) {B : Nat} (hw : ∀ n ∈ y.1.weights P g, n ≤ B) : s.size ≤ B := by
  have hd := hT.desc g
  rw [hg] at hd
  obtain ⟨s', q1, q2, _⟩ := DataW.trod_string hd h
  simp only [List.cons.injEq, Value.string.injEq, and_true] at q1
  subst q1
  rw [q2] at hw
  exact hw s.size (by simp [DataW.weights])
end
theorem action_of {d : Nat} {e : List IV} (h : ShI tab (d + 1 + 1 + 1) 41 e) : ∃ (k n ck cb : Int) (s : ByteArray) (kp : List Int), e = [.sc (.int .i64 k), .sc (.int .i64 n), .sc (.int .i64 ck), .sc (.int .i64 cb), .sc (.string s), .sl (wV kp)] ∧ s.size ≤ maxLen := by
  obtain ⟨_, _, rfl, ⟨k, rfl, _⟩, _, _, rfl, ⟨n, rfl, _⟩, _, _, rfl, hc, _, _, rfl, ⟨es, rfl, _, hes⟩, rfl⟩ := h
  obtain ⟨_, _, rfl, ⟨ck, rfl, _⟩, _, _, rfl, ⟨cb, rfl, _⟩, _, _, rfl, ⟨s, rfl, hs⟩, rfl⟩ := hc
  obtain ⟨kp, rfl⟩ := ints_of (d := d) es (fun r hr => (hes r hr).2)
  exact ⟨k, n, ck, cb, s, kp, rfl, hs⟩
end Go.Proofs.YtikchieadclbhaaGreatDoor.Ab
namespace Go.Proofs.YtikchieadclbhaaGreatDoor
set_option linter.unusedVariables false
set_option linter.unusedSimpArgs false
open Ab
end Go.Proofs.YtikchieadclbhaaGreatDoor
namespace Go.Proofs.YtikchieadclbhaaGreatDoor.Ab
set_option linter.unusedVariables false
set_option linter.unusedSimpArgs false
open Go.RowKit

structure Cf where
  z : Int
  s : Int
  b : Int
  q : Int
  d : Int
  h : Int
def cfV (c : Cf) : AV := .agg [.i (.sc (.int .i64 c.z)), .i (.sc (.int .i64 c.s)), .i (.sc (.int .i64 c.b)), .i (.sc (.int .i64 c.q)), .i (.sc (.int .i64 c.d)), .i (.sc (.int .i64 c.h))]
def cfOk (c : Cf) : Bool := decide ((3 ≤ c.s ∧ c.s ≤ 64) ∧ (1 ≤ c.z ∧ c.z ≤ 32) ∧ (1 ≤ c.b ∧ c.b ≤ 128) ∧ (1 ≤ c.q ∧ c.q ≤ 4) ∧ (1 ≤ c.d ∧ c.d ≤ 8) ∧ (1 ≤ c.h ∧ c.h ≤ 8))
def lySlot (c : Cf) : Int := iwrap .i64 (Int.tdiv (iwrap .i64 (iwrap .i64 (iwrap .i64 (c.b + 2) + c.s) - 1)) c.s)
def lyFirst (c : Cf) : Int := iwrap .i64 (2 * lySlot c)
def lyData (c : Cf) : Int := iwrap .i64 (c.z - lyFirst c)
def lyCap (c : Cf) : Int := iwrap .i64 (iwrap .i64 (iwrap .i64 (iwrap .i64 (lyData c - 3) * iwrap .i64 (c.s - 1)) - c.q) - 1)
def lyV (c : Cf) : AV := .agg [.i (.sc (.int .i64 (lySlot c))), .i (.sc (.int .i64 (lyFirst c))), .i (.sc (.int .i64 (lyData c))), .i (.sc (.int .i64 (lyCap c)))]
def ly0 : AV := .agg [.i (.sc (.int .i64 0)), .i (.sc (.int .i64 0)), .i (.sc (.int .i64 0)), .i (.sc (.int .i64 0))]
def cfChk (c : Cf) : Int := if cfOk c = true then (if lyData c < 6 ∨ lyCap c < 1 then 11 else 0) else 1
def lyOf (c : Cf) : AV := if cfChk c = 0 then lyV c else ly0
def isData (c : Cf) (n : Int) : Bool := decide (cfChk c = 0 ∧ lyFirst c ≤ n ∧ n < c.z)
theorem cfOk_iff {c : Cf} : cfOk c = true ↔ ((3 ≤ c.s ∧ c.s ≤ 64) ∧ (1 ≤ c.z ∧ c.z ≤ 32) ∧ (1 ≤ c.b ∧ c.b ≤ 128) ∧ (1 ≤ c.q ∧ c.q ≤ 4) ∧ (1 ≤ c.d ∧ c.d ≤ 8) ∧ (1 ≤ c.h ∧ c.h ≤ 8)) := by unfold cfOk; exact decide_eq_true_iff
set_option maxRecDepth 100000 in
set_option maxHeartbeats 16000000 in
theorem shapeF (c : Cf) (hs : ¬ c.s = 0) : Fun Tryz.prog 37 [cfV c] [] (.v (lyV c)) := by
  obtain ⟨z, s, b, q, d, h⟩ := c
  dsimp only at hs
  refine fun_of_vc tabOk mixOk Tryz.func37 rfl (by rfl) (rs := [.cell 2 74]) rfl rfl 41 ?_; rw [Tryz.ntmps37]
  (conv=>whnf);repeat((first|refine zD ?_|refine zA ?_|refine zT ?_|refine zF ?_);conv=>whnf)
  refine ⟨hs, ?_⟩
  (conv=>whnf);repeat((first|refine zD ?_|refine zA ?_|refine zT ?_|refine zF ?_);conv=>whnf)
  refine Exists.intro [] (And.intro List.nodup_nil ?_); ((conv=>whnf);repeat((first|refine zD ?_|refine zA ?_|refine zT ?_|refine zF ?_);conv=>whnf))
  rfl
set_option maxRecDepth 100000 in
set_option maxHeartbeats 16000000 in
theorem shapeF' (c : Cf) (hs : ¬ c.s = 0) : Fun Tryz.prog 39 [cfV c] [] (.v (lyV c)) := by
  obtain ⟨z, s, b, q, d, h⟩ := c
  dsimp only at hs
  refine fun_of_vc tabOk mixOk Tryz.func39 rfl (by rfl) (rs := [.cell 2 74]) rfl rfl 39 ?_; rw [Tryz.ntmps39]
  (conv=>whnf);repeat((first|refine zD ?_|refine zA ?_|refine zT ?_|refine zF ?_);conv=>whnf)
  refine ⟨hs, ?_⟩
  (conv=>whnf);repeat((first|refine zD ?_|refine zA ?_|refine zT ?_|refine zF ?_);conv=>whnf)
  refine Exists.intro [] (And.intro List.nodup_nil ?_); ((conv=>whnf);repeat((first|refine zD ?_|refine zA ?_|refine zT ?_|refine zF ?_);conv=>whnf))
  rfl
set_option maxRecDepth 100000 in
set_option maxHeartbeats 16000000 in
theorem cfChkF' (c : Cf) : Fun Tryz.prog 22 [cfV c] [] (.v (i64V (cfChk c))) := by
  by_cases hc : cfOk c = true
  · have sh := shapeF' c (by have := cfOk_iff.1 hc; omega)
    have hb := cfOk_iff.1 hc
    have hs : cfChk c = if lyData c < 6 ∨ lyCap c < 1 then 11 else 0 := by unfold cfChk; rw [if_pos hc]
    unfold lyV at sh
    generalize lySlot c = x1 at sh
    generalize lyFirst c = x2 at sh
    generalize lyData c = x3 at sh hs
    generalize lyCap c = x4 at sh hs
    generalize cfChk c = R at hs ⊢
    obtain ⟨z, s, b, q, d, h⟩ := c
    dsimp only at hb
    refine fun_of_vc tabOk mixOk Tryz.func22 rfl (by rfl) (rs := [.tmp 2]) rfl rfl 76 ?_; rw [Tryz.ntmps22]
    (conv=>whnf);repeat((first|refine zD ?_|refine zA ?_|refine zT ?_|refine zF ?_);conv=>whnf)
    repeat' (first | ((refine And.intro (fun h => ?_) (fun h => ?_)) <;> (try simp at h) <;> ((conv=>whnf);repeat((first|refine zD ?_|refine zA ?_|refine zT ?_|refine zF ?_);conv=>whnf))) | (refine ⟨_, _, sh, ?_⟩; ((conv=>whnf);repeat((first|refine zD ?_|refine zA ?_|refine zT ?_|refine zF ?_);conv=>whnf))) | fail)
    all_goals first
      | (exfalso; omega)
      | (refine Exists.intro [] (And.intro List.nodup_nil ?_); ((conv=>whnf);repeat((first|refine zD ?_|refine zA ?_|refine zT ?_|refine zF ?_);conv=>whnf))
         first
           | (rw [hs, if_pos (by omega)]; rfl)
           | (rw [hs, if_neg (by omega)]; rfl))
  · have hs : cfChk c = 1 := by unfold cfChk; rw [if_neg hc]
    have hb : ¬ ((3 ≤ c.s ∧ c.s ≤ 64) ∧ (1 ≤ c.z ∧ c.z ≤ 32) ∧ (1 ≤ c.b ∧ c.b ≤ 128) ∧ (1 ≤ c.q ∧ c.q ≤ 4) ∧ (1 ≤ c.d ∧ c.d ≤ 8) ∧ (1 ≤ c.h ∧ c.h ≤ 8)) := fun h => hc (cfOk_iff.2 h)
    rw [hs]
    obtain ⟨z, s, b, q, d, h⟩ := c
    dsimp only at hb
    refine fun_of_vc tabOk mixOk Tryz.func22 rfl (by rfl) (rs := [.tmp 2]) rfl rfl 76 ?_; rw [Tryz.ntmps22]
    (conv=>whnf);repeat((first|refine zD ?_|refine zA ?_|refine zT ?_|refine zF ?_);conv=>whnf)
    repeat' (first | ((refine And.intro (fun h => ?_) (fun h => ?_)) <;> (try simp at h) <;> ((conv=>whnf);repeat((first|refine zD ?_|refine zA ?_|refine zT ?_|refine zF ?_);conv=>whnf))) | fail)
    all_goals first
      | (refine Exists.intro [] (And.intro List.nodup_nil ?_); ((conv=>whnf);repeat((first|refine zD ?_|refine zA ?_|refine zT ?_|refine zF ?_);conv=>whnf))
         rfl)
      | (exfalso; omega)
end Go.Proofs.YtikchieadclbhaaGreatDoor.Ab
