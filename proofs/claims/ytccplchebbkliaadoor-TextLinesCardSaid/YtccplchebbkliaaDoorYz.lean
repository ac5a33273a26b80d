/- The law TextLines, whatever its arguments. No condition. -/
import Derived.Test.YtccplchebbkliaaDoorYx
namespace Go.Proofs.YtccplchebbkliaaDoor.Ab
set_option linter.unusedVariables false
set_option linter.unusedSimpArgs false
open Go.RowKit

theorem tline_len (a : Ac) : (tline a).length ≤ 1000 := by
  obtain ⟨k, n, ck, cb, cd, kp⟩ := a
  cases hf : fit n with
  | false => rw [tline_unfit hf]; simp
  | true =>
    have hn := itoa_len (fit_iff.1 hf)
    by_cases h1 : k = 1
    · subst h1
      by_cases hk : kp = []
      · subst hk
        cases hr : cRight ck cb cd with
        | false => rw [tline_wrong (Or.inr hr)]; simp
        | true =>
          rw [tline_sub hf hr]
          have hr := of_decide_eq_true hr
          have hb := itoa_len (fit_iff.1 hr.2.2.1)
          have hkl : (kW ck).length ≤ 5 := by
            rcases kW_cases hr.1 with rfl | rfl | rfl | rfl <;> decide
          have hx : (hexL cd).length = 2 * cd.length := hex_len cd
          have hc := hr.2.1
          have hcl : cd.length ≤ 16 := by split at hc <;> omega
          have h := joinW_len (M := 32) 32 (ws := cWs ck cb cd [Lib.itoa n]) (fun w hw => by
            unfold cWs at hw
            simp only [List.mem_cons, List.mem_append, List.mem_nil_iff, or_false] at hw
            rcases hw with rfl | rfl | hw | hw
            · omega
            · omega
            · split at hw
              · simp at hw
              · obtain rfl := List.mem_singleton.1 hw; omega
            · split at hw
              · obtain rfl := List.mem_singleton.1 hw; omega
              · simp at hw)
          have hl : (cWs ck cb cd [Lib.itoa n]).length ≤ 4 := by
            have g1 : (if ck = 4 then [] else [Lib.itoa cb]).length ≤ 1 := by split <;> simp
            have g2 : (if ck = 2 then [hexL cd] else []).length ≤ 1 := by split <;> simp
            unfold cWs
            simp only [List.length_cons, List.length_append, List.length_nil]
            omega
          have := Nat.mul_le_mul hl (Nat.le_refl (32 + 1))
          omega
      · rw [tline_wrong (Or.inl hk)]; simp
    by_cases hc : ck = 0 ∧ cb = 0 ∧ cd = []
    · obtain ⟨rfl, rfl, rfl⟩ := hc
      by_cases h4 : k = 4
      · subst h4
        rw [tline_crash hf]
        split
        · unfold crL
          split
          · rename_i hkp
            split
            · decide
            · have hj := kpS_size hkp.2 hkp.1
              have hj : (joinW 44 (kp.map Lib.itoa)).length ≤ 480 := hj
              show (wCrash ++ 32 :: joinW 44 (kp.map Lib.itoa)).length ≤ 1000
              rw [List.length_append, List.length_cons]
              have : wCrash.length = 5 := rfl
              omega
          · simp
        · simp
      · by_cases hk : kp = []
        · subst hk
          rw [tline_rest hf h1 h4]
          split
          · rw [List.length_append, List.length_cons]
            have : wStep.length = 4 := rfl
            omega
          · split
            · simp
            · split
              · decide
              · split
                · decide
                · simp
        · rw [tline_keep h1 h4 hk]; simp
    · rw [tline_cmd h1 hc]; simp
theorem tread_kp (l : List UInt8) : (tread l).1.kp.length ≤ l.length + 1 := by
  unfold tread
  split
  · show (tcand l).kp.length ≤ _
    unfold tcand
    have hm := (spl_len 32 l).1
    generalize spl 32 l = ws at hm
    cases ws with
    | nil => exact Nat.zero_le _
    | cons w r =>
      rw [tcandW]
      split
      · exact Nat.zero_le _
      · split
        · exact Nat.zero_le _
        · split
          · exact Nat.zero_le _
          · split
            · exact Nat.zero_le _
            · split
              · dsimp only
                split
                · rename_i h1
                  obtain ⟨x, rfl⟩ : ∃ x, r = [x] := List.length_eq_one_iff.1 h1
                  have h2 := hm x (by simp)
                  have h3 := (spl_len 44 x).2
                  show ((spl 44 x).map num).length ≤ _
                  rw [List.length_map]
                  omega
                · exact Nat.zero_le _
              · exact Nat.zero_le _
  · exact Nat.zero_le _
theorem same_lists {a b : ByteArray} (h : a = b) : (a.toList == b.toList) = true := by subst h; simp
def acC : Ac := ⟨4, 0, 0, 0, [], [2]⟩
theorem acC_line : tline acC = [99, 114, 97, 115, 104, 32, 50] := by
  unfold acC
  rw [tline_crash (by decide), if_pos rfl]
  have h2 : Lib.itoa 2 = [50] := by
    unfold Lib.itoa
    rw [if_neg (by decide)]
    show Lib.decDigits 2 = [50]
    rw [dec_app]
    rfl
  unfold crL
  rw [if_pos (by decide), if_neg (by decide), List.map_cons, List.map_nil, h2]
  rfl
set_option maxRecDepth 100000 in
set_option maxHeartbeats 16000000 in
theorem awakeF : Fun Tryd.prog 4 [] [] (ATbool true) := by
  have h1 := readF ⟨#[99, 114, 97, 115, 104, 32, 50]⟩ (by decide)
  have e1 : tread (⟨#[99, 114, 97, 115, 104, 32, 50]⟩ : ByteArray).data.toList = (acC, 0) := by
    have := read_line (a := acC) (by rw [acC_line]; simp)
    rw [acC_line] at this
    exact this
  rw [e1] at h1
  have h2 := lineF acC
  rw [acC_line] at h2
  refine fun_of_vc tabOk mixOk Tryd.func4 rfl (by rfl) (rs := [.tmp 0]) rfl rfl 39 ?_; rw [Tryd.ntmps4]
  (conv => whnf); repeat ((first | refine And.intro DrawOk.go ?_ | refine And.intro rfl ?_ | refine And.intro (fun _ => ?_) (fun h => Bool.noConfusion h) | refine And.intro (fun h => Bool.noConfusion h) (fun _ => ?_)); conv => whnf)
  refine ⟨_, _, h1, ?_⟩
  (conv => whnf); repeat ((first | refine And.intro DrawOk.go ?_ | refine And.intro rfl ?_ | refine And.intro (fun _ => ?_) (fun h => Bool.noConfusion h) | refine And.intro (fun h => Bool.noConfusion h) (fun _ => ?_)); conv => whnf)
  refine ⟨_, _, h2, ?_⟩
  (conv => whnf); repeat ((first | refine And.intro DrawOk.go ?_ | refine And.intro rfl ?_ | refine And.intro (fun _ => ?_) (fun h => Bool.noConfusion h) | refine And.intro (fun h => Bool.noConfusion h) (fun _ => ?_)); conv => whnf)
  refine And.intro (fun _ => ?_) (fun h => absurd h (by rw [eqS]; decide))
  (conv => whnf); repeat ((first | refine And.intro DrawOk.go ?_ | refine And.intro rfl ?_ | refine And.intro (fun _ => ?_) (fun h => Bool.noConfusion h) | refine And.intro (fun h => Bool.noConfusion h) (fun _ => ?_)); conv => whnf)
  refine ⟨by decide, _, rfl, rfl, ?_⟩
  (conv => whnf); repeat ((first | refine And.intro DrawOk.go ?_ | refine And.intro rfl ?_ | refine And.intro (fun _ => ?_) (fun h => Bool.noConfusion h) | refine And.intro (fun h => Bool.noConfusion h) (fun _ => ?_)); conv => whnf)
  refine Exists.intro [] (And.intro List.nodup_nil ?_); ((conv => whnf); repeat ((first | refine And.intro DrawOk.go ?_ | refine And.intro rfl ?_ | refine And.intro (fun _ => ?_) (fun h => Bool.noConfusion h) | refine And.intro (fun h => Bool.noConfusion h) (fun _ => ?_)); conv => whnf))
  rfl
theorem lensOver {a b c : Nat} (ha : a ≤ 300000000000000) (hb : b ≤ 300000000000000) (hc : c ≤ 300000000000000) : iwrap .i64 (iwrap .i64 ((a : Int) + (b : Int)) + (c : Int)) = ((a + b + c : Nat) : Int) := by
  have h1 : iwrap .i64 ((a : Int) + (b : Int)) = ((a + b : Nat) : Int) := (w64_in (by omega)).trans (by omega)
  rw [h1]
  exact (w64_in (by omega)).trans (by omega)
set_option maxRecDepth 100000 in
set_option maxHeartbeats 16000000 in
theorem linesF (k n ck cb : Int) (d : ByteArray) (kp : List Int) (s : ByteArray) (hd : d.size ≤ 300000000000000) (hk : kp.length ≤ 300000000000000) (hs : s.size ≤ 300000000000000) : Fun Tryd.prog 3 [acB k n ck cb d kp, strV s] [] (ATbool true) := by
  have ha := awakeF
  have hkl : (wV kp).length = kp.length := by simp [wV]
  have hw : iwrap .i64 (iwrap .i64 ((d.size : Int) + ((wV kp).length : Int)) + (s.size : Int)) = ((d.size + kp.length + s.size : Nat) : Int) := by rw [hkl]; exact lensOver hd hk hs
  by_cases h : d.size + kp.length + s.size ≤ 300
  · have h1 := readF s (by omega)
    have h2 := readR s (by omega)
    rw [← read_same] at h2
    have hX := tread_kp s.data.toList
    have hl : s.data.toList.length = s.size := rfl
    have hX : (tread s.data.toList).1.kp.length ≤ 1000000 := by omega
    have h3 := lineB k n ck cb d kp
    have h4 := lineRB k n ck cb d kp (by omega)
    have hL : (sS (tline ⟨k, n, ck, cb, d.data.toList, kp⟩)).size ≤ 1000 := tline_len _
    have h5 := readF (sS (tline ⟨k, n, ck, cb, d.data.toList, kp⟩)) (by omega)
    have hs2 := sameL_yes k n ck cb d kp (by omega)
    generalize tread s.data.toList = X at h1 h2 hX
    obtain ⟨⟨xk, xn, xck, xcb, xcd, xkp⟩, xe⟩ := X
    have hs1 := sameL_yes xk xn xck xcb (sS xcd) xkp hX
    have hne : tline ⟨k, n, ck, cb, d.data.toList, kp⟩ ≠ [] → tread (sS (tline ⟨k, n, ck, cb, d.data.toList, kp⟩)).data.toList = (⟨k, n, ck, cb, d.data.toList, kp⟩, 0) := fun hh => read_line hh
    have hem := empty_iff (sS (tline ⟨k, n, ck, cb, d.data.toList, kp⟩))
    have hem2 : (sS (tline ⟨k, n, ck, cb, d.data.toList, kp⟩)).data.toList = tline ⟨k, n, ck, cb, d.data.toList, kp⟩ := rfl
    rw [hem2] at hem
    generalize hq : tline ⟨k, n, ck, cb, d.data.toList, kp⟩ = q at hne hem hem2 h3 h4 h5 hL
    generalize sS q = L at h3 h4 h5 hL hne hem hem2
    generalize tread L.data.toList = Y at h5 hne
    obtain ⟨⟨yk, yn, yck, ycb, ycd, ykp⟩, ye⟩ := Y
    have hem : (L.toList == (⟨#[]⟩ : ByteArray).toList) = decide (q = []) := hem
    by_cases hq0 : q = []
    · rw [decide_eq_true hq0] at hem
      clear hne
      refine fun_of_vc tabOk mixOk Tryd.func3 rfl (by rfl) (rs := [.tmp 4]) rfl rfl 76 ?_; rw [Tryd.ntmps3]
      (conv => whnf); repeat ((first | refine And.intro DrawOk.go ?_ | refine And.intro rfl ?_ | refine And.intro (fun _ => ?_) (fun h => Bool.noConfusion h) | refine And.intro (fun h => Bool.noConfusion h) (fun _ => ?_)); conv => whnf)
      rw [hw]
      refine And.intro (fun g => by have := of_decide_eq_true g; omega) (fun _ => ?_)
      (conv => whnf); repeat ((first | refine And.intro DrawOk.go ?_ | refine And.intro rfl ?_ | refine And.intro (fun _ => ?_) (fun h => Bool.noConfusion h) | refine And.intro (fun h => Bool.noConfusion h) (fun _ => ?_)); conv => whnf)
      refine ⟨_, _, h1, ?_⟩
      (conv => whnf); repeat ((first | refine And.intro DrawOk.go ?_ | refine And.intro rfl ?_ | refine And.intro (fun _ => ?_) (fun h => Bool.noConfusion h) | refine And.intro (fun h => Bool.noConfusion h) (fun _ => ?_)); conv => whnf)
      refine ⟨_, _, h2, ?_⟩
      (conv => whnf); repeat ((first | refine And.intro DrawOk.go ?_ | refine And.intro rfl ?_ | refine And.intro (fun _ => ?_) (fun h => Bool.noConfusion h) | refine And.intro (fun h => Bool.noConfusion h) (fun _ => ?_)); conv => whnf)
      refine ⟨_, _, h3, ?_⟩
      (conv => whnf); repeat ((first | refine And.intro DrawOk.go ?_ | refine And.intro rfl ?_ | refine And.intro (fun _ => ?_) (fun h => Bool.noConfusion h) | refine And.intro (fun h => Bool.noConfusion h) (fun _ => ?_)); conv => whnf)
      refine ⟨_, _, h5, ?_⟩
      (conv => whnf); repeat ((first | refine And.intro DrawOk.go ?_ | refine And.intro rfl ?_ | refine And.intro (fun _ => ?_) (fun h => Bool.noConfusion h) | refine And.intro (fun h => Bool.noConfusion h) (fun _ => ?_)); conv => whnf)
      refine And.intro (fun _ => ?_) (fun g => absurd g (by simp))
      (conv => whnf); repeat ((first | refine And.intro DrawOk.go ?_ | refine And.intro rfl ?_ | refine And.intro (fun _ => ?_) (fun h => Bool.noConfusion h) | refine And.intro (fun h => Bool.noConfusion h) (fun _ => ?_)); conv => whnf)
      refine ⟨_, _, hs1, ?_⟩
      (conv => whnf); repeat ((first | refine And.intro DrawOk.go ?_ | refine And.intro rfl ?_ | refine And.intro (fun _ => ?_) (fun h => Bool.noConfusion h) | refine And.intro (fun h => Bool.noConfusion h) (fun _ => ?_)); conv => whnf)
      refine ⟨_, _, h4, ?_⟩
      (conv => whnf); repeat ((first | refine And.intro DrawOk.go ?_ | refine And.intro rfl ?_ | refine And.intro (fun _ => ?_) (fun h => Bool.noConfusion h) | refine And.intro (fun h => Bool.noConfusion h) (fun _ => ?_)); conv => whnf)
      refine And.intro (fun _ => ?_) (fun g => absurd g (by simp))
      (conv => whnf); repeat ((first | refine And.intro DrawOk.go ?_ | refine And.intro rfl ?_ | refine And.intro (fun _ => ?_) (fun h => Bool.noConfusion h) | refine And.intro (fun h => Bool.noConfusion h) (fun _ => ?_)); conv => whnf)
      refine And.intro (fun _ => ?_) (fun g => absurd g (by rw [hem]; decide))
      (conv => whnf); repeat ((first | refine And.intro DrawOk.go ?_ | refine And.intro rfl ?_ | refine And.intro (fun _ => ?_) (fun h => Bool.noConfusion h) | refine And.intro (fun h => Bool.noConfusion h) (fun _ => ?_)); conv => whnf)
      refine ⟨_, _, ha, ?_⟩
      (conv => whnf); repeat ((first | refine And.intro DrawOk.go ?_ | refine And.intro rfl ?_ | refine And.intro (fun _ => ?_) (fun h => Bool.noConfusion h) | refine And.intro (fun h => Bool.noConfusion h) (fun _ => ?_)); conv => whnf)
      refine Exists.intro [] (And.intro List.nodup_nil ?_); ((conv => whnf); repeat ((first | refine And.intro DrawOk.go ?_ | refine And.intro rfl ?_ | refine And.intro (fun _ => ?_) (fun h => Bool.noConfusion h) | refine And.intro (fun h => Bool.noConfusion h) (fun _ => ?_)); conv => whnf))
      rfl
    · rw [decide_eq_false hq0] at hem
      have hn := hne hq0
      simp only [Prod.mk.injEq, Ac.mk.injEq] at hn
      obtain ⟨⟨rfl, rfl, rfl, rfl, rfl, rfl⟩, rfl⟩ := hn
      clear hne
      refine fun_of_vc tabOk mixOk Tryd.func3 rfl (by rfl) (rs := [.tmp 4]) rfl rfl 76 ?_; rw [Tryd.ntmps3]
      (conv => whnf); repeat ((first | refine And.intro DrawOk.go ?_ | refine And.intro rfl ?_ | refine And.intro (fun _ => ?_) (fun h => Bool.noConfusion h) | refine And.intro (fun h => Bool.noConfusion h) (fun _ => ?_)); conv => whnf)
      rw [hw]
      refine And.intro (fun g => by have := of_decide_eq_true g; omega) (fun _ => ?_)
      (conv => whnf); repeat ((first | refine And.intro DrawOk.go ?_ | refine And.intro rfl ?_ | refine And.intro (fun _ => ?_) (fun h => Bool.noConfusion h) | refine And.intro (fun h => Bool.noConfusion h) (fun _ => ?_)); conv => whnf)
      refine ⟨_, _, h1, ?_⟩
      (conv => whnf); repeat ((first | refine And.intro DrawOk.go ?_ | refine And.intro rfl ?_ | refine And.intro (fun _ => ?_) (fun h => Bool.noConfusion h) | refine And.intro (fun h => Bool.noConfusion h) (fun _ => ?_)); conv => whnf)
      refine ⟨_, _, h2, ?_⟩
      (conv => whnf); repeat ((first | refine And.intro DrawOk.go ?_ | refine And.intro rfl ?_ | refine And.intro (fun _ => ?_) (fun h => Bool.noConfusion h) | refine And.intro (fun h => Bool.noConfusion h) (fun _ => ?_)); conv => whnf)
      refine ⟨_, _, h3, ?_⟩
      (conv => whnf); repeat ((first | refine And.intro DrawOk.go ?_ | refine And.intro rfl ?_ | refine And.intro (fun _ => ?_) (fun h => Bool.noConfusion h) | refine And.intro (fun h => Bool.noConfusion h) (fun _ => ?_)); conv => whnf)
      refine ⟨_, _, h5, ?_⟩
      (conv => whnf); repeat ((first | refine And.intro DrawOk.go ?_ | refine And.intro rfl ?_ | refine And.intro (fun _ => ?_) (fun h => Bool.noConfusion h) | refine And.intro (fun h => Bool.noConfusion h) (fun _ => ?_)); conv => whnf)
      refine And.intro (fun _ => ?_) (fun g => absurd g (by simp))
      (conv => whnf); repeat ((first | refine And.intro DrawOk.go ?_ | refine And.intro rfl ?_ | refine And.intro (fun _ => ?_) (fun h => Bool.noConfusion h) | refine And.intro (fun h => Bool.noConfusion h) (fun _ => ?_)); conv => whnf)
      refine ⟨_, _, hs1, ?_⟩
      (conv => whnf); repeat ((first | refine And.intro DrawOk.go ?_ | refine And.intro rfl ?_ | refine And.intro (fun _ => ?_) (fun h => Bool.noConfusion h) | refine And.intro (fun h => Bool.noConfusion h) (fun _ => ?_)); conv => whnf)
      refine ⟨_, _, h4, ?_⟩
      (conv => whnf); repeat ((first | refine And.intro DrawOk.go ?_ | refine And.intro rfl ?_ | refine And.intro (fun _ => ?_) (fun h => Bool.noConfusion h) | refine And.intro (fun h => Bool.noConfusion h) (fun _ => ?_)); conv => whnf)
      refine And.intro (fun _ => ?_) (fun g => absurd g (by simp))
      (conv => whnf); repeat ((first | refine And.intro DrawOk.go ?_ | refine And.intro rfl ?_ | refine And.intro (fun _ => ?_) (fun h => Bool.noConfusion h) | refine And.intro (fun h => Bool.noConfusion h) (fun _ => ?_)); conv => whnf)
      refine And.intro (fun g => absurd g (by rw [hem]; decide)) (fun _ => ?_)
      (conv => whnf); repeat ((first | refine And.intro DrawOk.go ?_ | refine And.intro rfl ?_ | refine And.intro (fun _ => ?_) (fun h => Bool.noConfusion h) | refine And.intro (fun h => Bool.noConfusion h) (fun _ => ?_)); conv => whnf)
      refine ⟨_, _, hs2, ?_⟩
      (conv => whnf); repeat ((first | refine And.intro DrawOk.go ?_ | refine And.intro rfl ?_ | refine And.intro (fun _ => ?_) (fun h => Bool.noConfusion h) | refine And.intro (fun h => Bool.noConfusion h) (fun _ => ?_)); conv => whnf)
      refine ⟨_, _, ha, ?_⟩
      (conv => whnf); repeat ((first | refine And.intro DrawOk.go ?_ | refine And.intro rfl ?_ | refine And.intro (fun _ => ?_) (fun h => Bool.noConfusion h) | refine And.intro (fun h => Bool.noConfusion h) (fun _ => ?_)); conv => whnf)
      refine Exists.intro [] (And.intro List.nodup_nil ?_); ((conv => whnf); repeat ((first | refine And.intro DrawOk.go ?_ | refine And.intro rfl ?_ | refine And.intro (fun _ => ?_) (fun h => Bool.noConfusion h) | refine And.intro (fun h => Bool.noConfusion h) (fun _ => ?_)); conv => whnf))
      rfl
  · refine fun_of_vc tabOk mixOk Tryd.func3 rfl (by rfl) (rs := [.tmp 4]) rfl rfl 76 ?_; rw [Tryd.ntmps3]
    (conv => whnf); repeat ((first | refine And.intro DrawOk.go ?_ | refine And.intro rfl ?_ | refine And.intro (fun _ => ?_) (fun h => Bool.noConfusion h) | refine And.intro (fun h => Bool.noConfusion h) (fun _ => ?_)); conv => whnf)
    rw [hw]
    refine And.intro (fun _ => ?_) (fun g => by have := of_decide_eq_false g; omega)
    (conv => whnf); repeat ((first | refine And.intro DrawOk.go ?_ | refine And.intro rfl ?_ | refine And.intro (fun _ => ?_) (fun h => Bool.noConfusion h) | refine And.intro (fun h => Bool.noConfusion h) (fun _ => ?_)); conv => whnf)
    refine ⟨_, _, ha, ?_⟩
    (conv => whnf); repeat ((first | refine And.intro DrawOk.go ?_ | refine And.intro rfl ?_ | refine And.intro (fun _ => ?_) (fun h => Bool.noConfusion h) | refine And.intro (fun h => Bool.noConfusion h) (fun _ => ?_)); conv => whnf)
    refine Exists.intro [] (And.intro List.nodup_nil ?_); ((conv => whnf); repeat ((first | refine And.intro DrawOk.go ?_ | refine And.intro rfl ?_ | refine And.intro (fun _ => ?_) (fun h => Bool.noConfusion h) | refine And.intro (fun h => Bool.noConfusion h) (fun _ => ?_)); conv => whnf))
    rfl
end Go.Proofs.YtccplchebbkliaaDoor.Ab
namespace Go.Proofs.YtccplchebbkliaaDoor.Ab
set_option linter.unusedVariables false
set_option linter.unusedSimpArgs false
open Go.RowKit Go.WideShapes
section
variable {H : Type} {enc : TypeId × Value → H} {P : Program} {T : Nat → TI} {w : World} {base : Nat} {spare : Nat → Bool} {held : Bool}
theorem part_trod (hT : TabOk P T) {t o g fuel : Nat} {fs : List (Nat × Nat)} (hk : (T t).k = .struct fs) (hm : (o, g) ∈ fs) (hg : (T g).k ≠ .none) {cs : List Value} {x : DataW H × List MemPlace}
    (h : DataW.trod enc P w base spare held fuel t cs = some x) {B : Nat} (hw : ∀ n ∈ x.1.weights P t, n ≤ B) :
    ∃ fuel' y, DataW.trod enc P w base spare held fuel' g ((cs.drop o).take (T g).size) = some y ∧ ∀ n ∈ y.1.weights P g, n ≤ B := by
  have hd := hT.desc t
  rw [hk] at hd
  obtain ⟨Fs, hFs, hfs⟩ := hd
  obtain ⟨xs, n, _, hx, hcl, hxl, hxs⟩ := DataW.trod_struct hFs h
  rw [← hfs] at hm
  obtain ⟨G, hG, hGe⟩ := List.mem_map.1 hm
  obtain ⟨i, hi, hgi⟩ := List.getElem_of_mem hG
  have hi' : i < Fs.size := by simpa using hi
  have hgi' : Fs[i]? = some G := by rw [Array.getElem?_eq_getElem hi', ← hgi]; simp
  have h1 := hxs i G hgi'
  injection hGe with g1 g2
  have hc := cellsOf_eq hT (t := g) hg
  rw [g1, g2, hc, List.getElem?_eq_getElem (by omega)] at h1
  refine ⟨_, _, h1, fun m hm => hw m ?_⟩
  have hd1 : x.1 = .agg (xs.map (·.1)) := by rw [hx]
  rw [hd1]
  simp only [DataW.weights, hFs]
  exact DataW.weights_mem_each (j := i) (t := g) (d := xs[i].1) (by simp [hgi', g2]) (by rw [List.getElem?_map, List.getElem?_eq_getElem (by omega)]; rfl) m hm
theorem str_trod (hT : TabOk P T) {g fuel : Nat} (hg : (T g).k = .str) {s : ByteArray} {y : DataW H × List MemPlace} (h : DataW.trod enc P w base spare held fuel g [.string s] = some y) {B : Nat} (hw : ∀ n ∈ y.1.weights P g, n ≤ B) : s.size ≤ B := by
  have hd := hT.desc g
  rw [hg] at hd
  obtain ⟨s', q1, q2, _⟩ := DataW.trod_string hd h
  simp only [List.cons.injEq, Value.string.injEq, and_true] at q1
  subst q1
  rw [q2] at hw
  exact hw s.size (by simp [DataW.weights])
end
theorem action_of {d : Nat} {e : List IV} (h : ShI tab (d + 1 + 1 + 1) 26 e) : ∃ (k n ck cb : Int) (s : ByteArray) (kp : List Int), e = [.sc (.int .i64 k), .sc (.int .i64 n), .sc (.int .i64 ck), .sc (.int .i64 cb), .sc (.string s), .sl (wV kp)] ∧ s.size ≤ maxLen := by
  obtain ⟨_, _, rfl, ⟨k, rfl, _⟩, _, _, rfl, ⟨n, rfl, _⟩, _, _, rfl, hc, _, _, rfl, ⟨es, rfl, _, hes⟩, rfl⟩ := h
  obtain ⟨_, _, rfl, ⟨ck, rfl, _⟩, _, _, rfl, ⟨cb, rfl, _⟩, _, _, rfl, ⟨s, rfl, hs⟩, rfl⟩ := hc
  obtain ⟨kp, rfl⟩ := ints_of (d := d) es (fun r hr => (hes r hr).2)
  exact ⟨k, n, ck, cb, s, kp, rfl, hs⟩
end Go.Proofs.YtccplchebbkliaaDoor.Ab
namespace Go.Proofs.YtccplchebbkliaaDoor
set_option linter.unusedVariables false
set_option linter.unusedSimpArgs false
open Ab
set_option maxRecDepth 100000 in
theorem textLines.walk {H : Type} {enc : TypeId × Value → H} {W : World} {base : Nat} (hg : gP W ∧ gN ≤ W.heap.size)
    (v : Value) (d : DataW H) (p : List MemPlace) (hv : Value.okWide Tryd.prog W .any base 26 v) (h : DataW.Trod enc Tryd.prog W 0 (fun _ => true) true 26 v d p) (hw : ∀ n ∈ d.weights Tryd.prog 26, n ≤ 140737488351232)
    (a1 : ByteArray) (w1 : a1.size ≤ 140737488351232)
    (W' : World) (hW : W' = W := by rfl) : Calls Tryd.prog 3 #[v, .string a1] W' (True1 W') := by
  subst hW
  obtain ⟨r, s1, s2⟩ := open_agg tabOk 6 (t := 26) (by decide +kernel) (by rfl) hv h
  obtain ⟨k, n, ck, cb, s, kp, rfl, hs⟩ := action_of (d := 3) s1
  obtain ⟨arr, rfl, hsz, hcells⟩ := s2 (fun _ _ => undef) (fun _ => 0)
  have hsz' : arr.size = 6 := hsz
  have c0 := field_bound tabOk (t := 26) (o := 5) (g := 24) (e := 3) rfl (by decide) rfl rfl h hw (Array.getElem?_eq_getElem (by omega)) (hcells 5 _ _ (Array.getElem?_eq_getElem (by omega)) rfl).1
  rw [bytesOf_eq tabOk (fun h => TK.noConfusion h)] at c0
  have c0' : (wV kp).length * 8 ≤ 140737488351232 := c0
  have hm : s.size ≤ 140737488351232 := by
    obtain ⟨fuel, ht⟩ := h
    obtain ⟨f2, y, hy, hyw⟩ := part_trod tabOk (t := 26) (o := 2) (g := 23) rfl (by decide) (fun h => TK.noConfusion h) ht hw
    obtain ⟨f3, z, hz, hzw⟩ := part_trod tabOk (t := 23) (o := 2) (g := 9) rfl (by decide) (fun h => TK.noConfusion h) hy hyw
    have h4 := (hcells 4 _ _ (Array.getElem?_eq_getElem (by omega)) rfl).1
    have e4 : arr[4] = .string s := RepI_sc h4
    have e : ((((Value.agg arr).cells.toList.drop 2).take (tab 23).size).drop 2).take (tab 9).size = [.string s] := by
      show (((arr.toList.drop 2).take 3).drop 2).take 1 = [.string s]
      rw [← e4]
      apply List.ext_getElem?
      intro i
      match i with
      | 0 => simp [hsz']
      | i + 1 => simp; omega
    rw [e] at hz
    exact str_trod tabOk rfl hz hzw
  exact law_of_fun (linesF k n ck cb s kp a1 (by omega) (by simp [wV] at c0'; omega) (by omega)) rfl (reps_get (vs := [_, _]) ⟨s2 _ _, .sc _ rfl, trivial⟩) hg
end Go.Proofs.YtccplchebbkliaaDoor
