/- Texts of scripts in which a byte is changed or left out. No condition. -/
import Derived.Test.YtikchieadclbhaaGreatDoorZ38
namespace Go.Proofs.YtikchieadclbhaaGreatDoor.Ab
set_option linter.unusedVariables false
set_option linter.unusedSimpArgs false
open Go.RowKit

def wConfig : List UInt8 := [99, 111, 110, 102, 105, 103]
def cfL (c : Cf) : List Int := [c.z, c.s, c.b, c.q, c.d, c.h]
def cfW (c : Cf) : List (List UInt8) := wConfig :: (cfL c).map Lib.itoa
def cLine (c : Cf) : List UInt8 := joinW 32 (cfW c)
def cf0 : Cf := ⟨0, 0, 0, 0, 0, 0⟩
def cfOf (f : List UInt8 → Int) (ws : List (List UInt8)) : Cf := ⟨f (ws.getD 1 []), f (ws.getD 2 []), f (ws.getD 3 []), f (ws.getD 4 []), f (ws.getD 5 []), f (ws.getD 6 [])⟩
/-- What the text's package makes of a first line. -/
def tcf (s : List UInt8) : Cf := cfOf num (spl 32 s)
def theadE (s : List UInt8) : Int := if (spl 32 s).length = 7 ∧ cLine (tcf s) = s then cfChk (tcf s) else 18
/-- What the document makes of it. -/
def rcf (s : List UInt8) : Cf := cfOf rnum (spl 32 s)
def rok (s : List UInt8) : Bool := (cfL (rcf s)).all fit && decide (cLine (rcf s) = s)
def rheadE (s : List UInt8) : Int := if rok s = true then cfChk (rcf s) else 18
/-- A first line that is no configuration of numbers that are too great. -/
def goodH (s : List UInt8) : Prop := ∀ c : Cf, cLine c = s → (cfL c).all fit = true

theorem cfW_no (c : Cf) : ∀ w ∈ cfW c, (32 : UInt8) ∉ w := by
  intro w hw
  rcases List.mem_cons.1 hw with rfl | hw
  · decide
  · obtain ⟨n, _, rfl⟩ := List.mem_map.1 hw
    exact itoa_32 n
theorem cLine_spl (c : Cf) : spl 32 (cLine c) = cfW c := spl_join (by simp [cfW]) (cfW_no c)
theorem cfOf_line {f : List UInt8 → Int} {c : Cf} (h : ∀ n ∈ cfL c, f (Lib.itoa n) = n) : cfOf f (cfW c) = c := by
  obtain ⟨z, s, b, q, d, e⟩ := c
  simp only [cfL, List.mem_cons, List.mem_nil_iff, or_false, forall_eq_or_imp, forall_eq] at h
  simp only [cfOf, cfW, cfL, List.map_cons, List.map_nil, List.getD_cons_succ, List.getD_cons_zero, h]
theorem head_same {s : List UInt8} (hg : goodH s) : theadE s = rheadE s ∧ (theadE s = 0 → tcf s = rcf s) := by
  by_cases h : (spl 32 s).length = 7 ∧ cLine (tcf s) = s
  · have hf := hg _ h.2
    have hs : spl 32 s = cfW (tcf s) := by rw [← cLine_spl, h.2]
    have hr : rcf s = tcf s := by
      unfold rcf
      rw [hs]
      exact cfOf_line (fun n hn => rnum_itoa (fit_iff.1 (List.all_eq_true.1 hf n hn)))
    have hk : rok s = true := by
      unfold rok
      rw [hr, hf, h.2]
      simp
    refine ⟨?_, fun _ => hr.symm⟩
    unfold theadE rheadE
    rw [if_pos h, if_pos hk, hr]
  · have hk : rok s = false := by
      cases hk : rok s with
      | false => rfl
      | true =>
        unfold rok at hk
        simp only [Bool.and_eq_true, decide_eq_true_eq] at hk
        have hs : spl 32 s = cfW (rcf s) := by rw [← cLine_spl, hk.2]
        have ht : tcf s = rcf s := by
          unfold tcf
          rw [hs]
          exact cfOf_line (fun n hn => num_itoa (fit_iff.1 (List.all_eq_true.1 hk.1 n hn)))
        exact absurd ⟨by rw [hs]; rfl, by rw [ht]; exact hk.2⟩ h
    have e : theadE s = 18 := by unfold theadE; rw [if_neg h]
    refine ⟨?_, fun h0 => by rw [e] at h0; cases h0⟩
    rw [e]
    unfold rheadE
    rw [hk]
    rfl
/-! ### Whole texts -/
structure Tx where
  c : Cf
  l : List Ac
  n : Int
  e : Int
def plines (c : Cf) : List (List UInt8) → Int → List Ac → Tx
  | [], k, _ => ⟨cf0, [], k, 18⟩
  | p :: ls, k, out => if ls = [] then (if p = [] then ⟨c, out, 0, 0⟩ else ⟨cf0, [], k, 18⟩)
    else if (tread p).2 = 0 then (if out.length = 2000 then ⟨cf0, [], k, 19⟩ else plines c ls (k + 1) (out ++ [(tread p).1]))
    else ⟨cf0, [], k, 18⟩
def pall (hE : List UInt8 → Int) (hC : List UInt8 → Cf) : List (List UInt8) → Tx
  | [] => ⟨cf0, [], 1, 18⟩
  | p :: ls => if ls = [] then ⟨cf0, [], 1, 18⟩ else if hE p = 0 then plines (hC p) ls 2 [] else ⟨cf0, [], 1, hE p⟩
def parse (hE : List UInt8 → Int) (hC : List UInt8 → Cf) (s : List UInt8) : Tx := if 65536 < s.length then ⟨cf0, [], 0, 19⟩ else pall hE hC (spl 10 s)
def tparse (s : List UInt8) : Tx := parse theadE tcf s
def rparse (s : List UInt8) : Tx := parse rheadE rcf s
def firstL (s : List UInt8) : List UInt8 := s.takeWhile (· != 10)
theorem spl_first : ∀ s : List UInt8, ∃ ls, spl 10 s = firstL s :: ls
  | [] => ⟨[], rfl⟩
  | x :: l => by
    obtain ⟨ls, h⟩ := spl_first l
    by_cases hx : x = 10
    · refine ⟨spl 10 l, ?_⟩
      rw [spl, if_pos hx]
      unfold firstL
      rw [List.takeWhile_cons, if_neg (by simp [hx])]
    · refine ⟨ls, ?_⟩
      rw [spl, if_neg hx, h]
      unfold firstL
      rw [List.takeWhile_cons, if_pos (by simp [hx])]
theorem parse_same {s : List UInt8} (h : goodH (firstL s)) : tparse s = rparse s := by
  unfold tparse rparse parse
  split
  · rfl
  · obtain ⟨ls, e⟩ := spl_first s
    rw [e]
    obtain ⟨h1, h2⟩ := head_same h
    unfold pall
    dsimp only
    rw [h1]
    by_cases hl : ls = []
    · rw [if_pos hl, if_pos hl]
    · rw [if_neg hl, if_neg hl]
      by_cases h0 : rheadE (firstL s) = 0
      · rw [if_pos h0, if_pos h0, h2 (h1.trans h0)]
      · rw [if_neg h0, if_neg h0]
/-- The text of a script. -/
def body (x : List Ac) : List UInt8 := (x.map fun a => tline a ++ [10]).flatten
def txt (c : Cf) (x : List Ac) : List UInt8 := cLine c ++ 10 :: body x
def fmt (c : Cf) (x : List Ac) : List UInt8 × Int :=
  if cfChk c = 0 then (if 2000 < x.length then ([], 19) else if x.all (fun a => decide (tline a ≠ [])) = true then (if 65536 < (txt c x).length then ([], 19) else (txt c x, 0)) else ([], 18)) else ([], cfChk c)
theorem word_10 {c : UInt8} (hc : c ≠ 10) {ws : List (List UInt8)} (h : ∀ w ∈ ws, (10 : UInt8) ∉ w) : (10 : UInt8) ∉ joinW c ws := joinW_no (c := 10) (d := c) (fun e => hc e.symm) h
theorem itoa_10 (n : Int) : (10 : UInt8) ∉ Lib.itoa n := itoa_no (by decide) (by decide)
theorem cLine_10 (c : Cf) : (10 : UInt8) ∉ cLine c := by
  refine word_10 (by decide) (fun w hw => ?_)
  rcases List.mem_cons.1 hw with rfl | hw
  · decide
  · obtain ⟨n, _, rfl⟩ := List.mem_map.1 hw
    exact itoa_10 n
theorem kW_10 (k : Int) : (10 : UInt8) ∉ kW k := by
  unfold kW
  split
  · decide
  · split
    · decide
    · split
      · decide
      · split
        · decide
        · simp
/-- A line has no end of line in it, and begins with a letter. -/
theorem tline_shape (a : Ac) : (10 : UInt8) ∉ tline a ∧ (tline a ≠ [] → ∃ x l, tline a = x :: l ∧ 97 ≤ x.toNat) := by
  obtain ⟨k, n, ck, cb, cd, kp⟩ := a
  have nil : ∀ {t : List UInt8}, t = [] → (10 : UInt8) ∉ t ∧ (t ≠ [] → ∃ x l, t = x :: l ∧ 97 ≤ x.toNat) := fun h => by subst h; exact ⟨by simp, fun g => absurd rfl g⟩
  cases hf : fit n with
  | false => exact nil (tline_unfit hf)
  | true =>
    by_cases h1 : k = 1
    · subst h1
      by_cases hk : kp = []
      · subst hk
        cases hr : cRight ck cb cd with
        | false => exact nil (tline_wrong (Or.inr hr))
        | true =>
          rw [tline_sub hf hr]
          have hr := (of_decide_eq_true hr).1
          constructor
          · refine word_10 (by decide) (fun w hw => ?_)
            unfold cWs at hw
            simp only [List.mem_cons, List.mem_append, List.mem_nil_iff, or_false] at hw
            rcases hw with rfl | rfl | hw | hw
            · exact kW_10 ck
            · exact itoa_10 n
            · split at hw
              · simp at hw
              · obtain rfl := List.mem_singleton.1 hw; exact itoa_10 cb
            · split at hw
              · obtain rfl := List.mem_singleton.1 hw; exact (hex_no cd).2
              · simp at hw
          · intro _
            show ∃ x l, kW ck ++ 32 :: _ = x :: l ∧ _
            rcases kW_cases hr with rfl | rfl | rfl | rfl
            · exact ⟨114, _, rfl, by decide⟩
            · exact ⟨119, _, rfl, by decide⟩
            · exact ⟨116, _, rfl, by decide⟩
            · exact ⟨102, _, rfl, by decide⟩
      · exact nil (tline_wrong (Or.inl hk))
    by_cases hc : ck = 0 ∧ cb = 0 ∧ cd = []
    · obtain ⟨rfl, rfl, rfl⟩ := hc
      by_cases h4 : k = 4
      · subst h4
        rw [tline_crash hf]
        split
        · unfold crL
          split
          · split
            · exact ⟨by decide, fun _ => ⟨99, _, rfl, by decide⟩⟩
            · refine ⟨word_10 (by decide) (fun w hw => ?_), fun _ => ⟨99, _, rfl, by decide⟩⟩
              simp only [List.mem_cons, List.mem_nil_iff, or_false] at hw
              rcases hw with rfl | rfl
              · decide
              · refine word_10 (by decide) (fun w hw => ?_)
                obtain ⟨m, _, rfl⟩ := List.mem_map.1 hw
                exact itoa_10 m
          · exact nil rfl
        · exact nil rfl
      · by_cases hk : kp = []
        · subst hk
          rw [tline_rest hf h1 h4]
          split
          · refine ⟨fun h => ?_, fun _ => ⟨115, _, rfl, by decide⟩⟩
            rcases List.mem_append.1 h with h | h
            · exact absurd h (by decide)
            · rcases List.mem_cons.1 h with h | h
              · exact absurd h (by decide)
              · exact itoa_10 n h
          · split
            · exact nil rfl
            · split
              · exact ⟨by decide, fun _ => ⟨115, _, rfl, by decide⟩⟩
              · split
                · exact ⟨by decide, fun _ => ⟨99, _, rfl, by decide⟩⟩
                · exact nil rfl
        · exact nil (tline_keep h1 h4 hk)
    · exact nil (tline_cmd h1 hc)
theorem spl_body : ∀ x : List Ac, spl 10 (body x) = x.map tline ++ [[]]
  | [] => rfl
  | a :: x => by
    have e : body (a :: x) = tline a ++ 10 :: body x := by simp [body]
    rw [e, spl_app (tline_shape a).1, spl_body x]
    rfl
theorem spl_txt (c : Cf) (x : List Ac) : spl 10 (txt c x) = cLine c :: (x.map tline ++ [[]]) := by
  unfold txt
  rw [spl_app (cLine_10 c), spl_body]
theorem plines_back (c : Cf) : ∀ (x : List Ac) (k : Int) (out : List Ac), x.all (fun a => decide (tline a ≠ [])) = true → out.length + x.length ≤ 2000 → plines c (x.map tline ++ [[]]) k out = ⟨c, out ++ x, 0, 0⟩
  | [], k, out, _, _ => by simp [plines]
  | a :: x, k, out, h, hl => by
    rw [List.all_cons, Bool.and_eq_true] at h
    have ha := of_decide_eq_true h.1
    have hr := read_line ha
    rw [List.length_cons] at hl
    have ih := plines_back c x (k + 1) (out ++ [a]) h.2 (by simp; omega)
    rw [List.map_cons, List.cons_append, plines, if_neg (by simp), hr, if_pos rfl, if_neg (by omega), ih]
    simp
theorem parse_back {c : Cf} {x : List Ac} (hf : (cfL c).all fit = true) (h : (fmt c x).2 = 0) : (fmt c x).1 = txt c x ∧ tparse (txt c x) = ⟨c, x, 0, 0⟩ := by
  unfold fmt at h ⊢
  by_cases h1 : cfChk c = 0
  · rw [if_pos h1] at h ⊢
    by_cases h2 : 2000 < x.length
    · rw [if_pos h2] at h; cases h
    · rw [if_neg h2] at h ⊢
      cases h3 : x.all (fun a => decide (tline a ≠ [])) with
      | false => rw [h3] at h; cases h
      | true =>
        rw [h3] at h
        rw [if_pos rfl] at h ⊢
        by_cases h4 : 65536 < (txt c x).length
        · rw [if_pos h4] at h; cases h
        · rw [if_neg h4]
          refine ⟨rfl, ?_⟩
          unfold tparse parse
          rw [if_neg h4, spl_txt]
          have ht : tcf (cLine c) = c := by
            unfold tcf
            rw [cLine_spl]
            exact cfOf_line (fun n hn => num_itoa (fit_iff.1 (List.all_eq_true.1 hf n hn)))
          have he : theadE (cLine c) = 0 := by
            unfold theadE
            rw [if_pos ⟨by rw [cLine_spl]; rfl, by rw [ht]⟩, ht]
            exact h1
          unfold pall
          dsimp only
          rw [if_neg (by simp), if_pos he, ht, plines_back c x 2 [] h3 (by simp; omega)]
          rfl
  · rw [if_neg h1] at h
    exact absurd h h1
end Go.Proofs.YtikchieadclbhaaGreatDoor.Ab
namespace Go.Proofs.YtikchieadclbhaaGreatDoor.Ab
set_option linter.unusedVariables false
set_option linter.unusedSimpArgs false
open Go.RowKit

theorem dec_ge : ∀ (k u : Nat), 10 ^ k ≤ u → k + 1 ≤ (Lib.decDigits u).length
  | 0, u, _ => List.length_pos_iff.2 (dec_ne u)
  | k + 1, u, h => by
    have hp : 10 ^ (k + 1) = 10 ^ k * 10 := Nat.pow_succ ..
    have h1 : 10 ≤ u := by
      have : 1 ≤ 10 ^ k := Nat.pow_pos (by decide)
      omega
    have ih := dec_ge k (u / 10) (by omega)
    rw [dec_app, if_neg (by omega), List.length_append]
    simp
    omega
theorem itoa_pos (n : Int) : 1 ≤ (Lib.itoa n).length := List.length_pos_iff.2 (itoa_ne n)
theorem itoa_long {n : Int} (h : fit n = false) : 13 ≤ (Lib.itoa n).length := by
  have h : ¬ (-1099511627776 ≤ n ∧ n ≤ 1099511627776) := fun g => by rw [fit_iff.2 g] at h; cases h
  unfold Lib.itoa
  split
  · have := dec_ge 12 (-n).toNat (by omega)
    have e : n.natAbs = (-n).toNat := by omega
    rw [List.length_cons]
    first
      | omega
      | (rw [e]; omega)
  · have := dec_ge 12 n.toNat (by omega)
    omega
theorem cLine_eq (c : Cf) : cLine c = wConfig ++ 32 :: (Lib.itoa c.z ++ 32 :: (Lib.itoa c.s ++ 32 :: (Lib.itoa c.b ++ 32 :: (Lib.itoa c.q ++ 32 :: (Lib.itoa c.d ++ 32 :: Lib.itoa c.h))))) := rfl
theorem cLine_size (c : Cf) : (cLine c).length = 12 + ((Lib.itoa c.z).length + (Lib.itoa c.s).length + (Lib.itoa c.b).length + (Lib.itoa c.q).length + (Lib.itoa c.d).length + (Lib.itoa c.h).length) := by
  rw [cLine_eq]
  simp only [List.length_append, List.length_cons]
  have : wConfig.length = 6 := rfl
  omega
theorem good_short {s : List UInt8} (h : s.length < 30) : goodH s := by
  rintro c rfl
  rw [cLine_size] at h
  have h1 := itoa_pos c.z; have h2 := itoa_pos c.s; have h3 := itoa_pos c.b; have h4 := itoa_pos c.q; have h5 := itoa_pos c.d; have h6 := itoa_pos c.h
  refine List.all_eq_true.2 fun n hn => ?_
  cases hf : fit n with
  | true => rfl
  | false =>
    have h7 := itoa_long hf
    simp only [cfL, List.mem_cons, List.mem_nil_iff, or_false] at hn
    exfalso
    rcases hn with rfl | rfl | rfl | rfl | rfl | rfl <;> omega
theorem cLine_low (c : Cf) {b : UInt8} (h : b ∈ (cLine c).drop 6) : b.toNat ≤ 57 := by
  have e : (cLine c).drop 6 = 32 :: (Lib.itoa c.z ++ 32 :: (Lib.itoa c.s ++ 32 :: (Lib.itoa c.b ++ 32 :: (Lib.itoa c.q ++ 32 :: (Lib.itoa c.d ++ 32 :: Lib.itoa c.h))))) := rfl
  rw [e] at h
  have hi : ∀ n : Int, b ∈ Lib.itoa n → b.toNat ≤ 57 := fun n hn => by have := itoa_mem hn; omega
  have h32 : b = 32 → b.toNat ≤ 57 := fun h => by subst h; decide
  simp only [List.mem_cons, List.mem_append] at h
  rcases h with h | h | h | h | h | h | h | h | h | h | h | h
  all_goals first
    | exact h32 h
    | exact hi _ h
theorem good_letter {s : List UInt8} {j : Nat} {b : UInt8} (hj : 6 ≤ j) (h : s[j]? = some b) (hb : 97 ≤ b.toNat) : goodH s := by
  rintro c rfl
  have : b ∈ (cLine c).drop 6 := by
    refine List.mem_of_getElem? (i := j - 6) ?_
    rw [List.getElem?_drop, show 6 + (j - 6) = j by omega]
    exact h
  have := cLine_low c this
  omega
/-- A first line ends where an end of line stands. -/
theorem first_le : ∀ {s : List UInt8} {j : Nat}, s[j]? = some 10 → (firstL s).length ≤ j
  | [], j, h => by simp at h
  | x :: l, 0, h => by
    simp at h
    subst h
    simp [firstL]
  | x :: l, j + 1, h => by
    have ih := first_le (s := l) (j := j) (by simpa using h)
    unfold firstL at ih ⊢
    rw [List.takeWhile_cons]
    split
    · rw [List.length_cons]; omega
    · simp
theorem first_len (s : List UInt8) : (firstL s).length ≤ s.length := (List.takeWhile_sublist _).length_le
theorem first_app {s t : List UInt8} (h : (10 : UInt8) ∉ s) : firstL (s ++ t) = s ++ firstL t := by
  unfold firstL
  rw [List.takeWhile_append_of_pos]
  intro x hx
  simp only [bne_iff_ne, ne_eq]
  rintro rfl
  exact h hx
theorem body_first {x : List Ac} (h : x.all (fun a => decide (tline a ≠ [])) = true) (hne : x ≠ []) : ∃ b l, firstL (body x) = b :: l ∧ 97 ≤ b.toNat := by
  cases x with
  | nil => exact absurd rfl hne
  | cons a x =>
    rw [List.all_cons, Bool.and_eq_true] at h
    obtain ⟨b, l, e, hb⟩ := (tline_shape a).2 (of_decide_eq_true h.1)
    have hn := (tline_shape a).1
    have e2 : body (a :: x) = tline a ++ 10 :: body x := by simp [body]
    refine ⟨b, l ++ firstL (10 :: body x), ?_, hb⟩
    rw [e2, first_app hn, e]
    rfl
/-- The first line of a text whose head is short and in which a piece behind the head stands next. -/
theorem good_join {H m : List UInt8} {x : List Ac} (h10 : (10 : UInt8) ∉ H ++ m) (h6 : 6 ≤ H.length) (hl : (H ++ m).length < 30) (hx : x.all (fun a => decide (tline a ≠ [])) = true) : goodH (firstL (H ++ m ++ body x)) := by
  by_cases hne : x = []
  · subst hne
    refine good_short (Nat.lt_of_le_of_lt (first_len _) ?_)
    simpa [body] using hl
  · obtain ⟨b, l, e, hb⟩ := body_first hx hne
    rw [first_app h10, e]
    refine good_letter (j := (H ++ m).length) (by rw [List.length_append]; omega) ?_ hb
    rw [List.getElem?_append_right (Nat.le_refl _), Nat.sub_self]
    rfl
theorem good_set {c : Cf} {x : List Ac} (hc : (cLine c).length ≤ 24) (hx : x.all (fun a => decide (tline a ≠ [])) = true) (i : Nat) (b : UInt8) : goodH (firstL ((txt c x).set i b)) := by
  have h6 : 6 ≤ (cLine c).length := by rw [cLine_size]; omega
  rcases Nat.lt_trichotomy i (cLine c).length with h | h | h
  · refine good_short (Nat.lt_of_le_of_lt (first_le (j := (cLine c).length) ?_) (by omega))
    rw [List.getElem?_set_ne (by omega)]
    unfold txt
    rw [List.getElem?_append_right (Nat.le_refl _), Nat.sub_self]
    rfl
  · have e : (txt c x).set i b = cLine c ++ b :: body x := by
      unfold txt
      rw [h, List.set_append_right _ _ (Nat.le_refl _), Nat.sub_self]
      rfl
    rw [e]
    by_cases hb : b = 10
    · subst hb
      refine good_short (Nat.lt_of_le_of_lt (first_le (j := (cLine c).length) ?_) (by omega))
      rw [List.getElem?_append_right (Nat.le_refl _), Nat.sub_self]
      rfl
    · have := good_join (H := cLine c) (m := [b]) (x := x) (by
        intro g
        rcases List.mem_append.1 g with g | g
        · exact cLine_10 c g
        · exact hb (List.mem_singleton.1 g).symm) h6 (by simp; omega) hx
      rwa [List.append_assoc] at this
  · refine good_short (Nat.lt_of_le_of_lt (first_le (j := (cLine c).length) ?_) (by omega))
    rw [List.getElem?_set_ne (by omega)]
    unfold txt
    rw [List.getElem?_append_right (Nat.le_refl _), Nat.sub_self]
    rfl
theorem good_take {c : Cf} {x : List Ac} (hc : (cLine c).length ≤ 24) (i : Nat) : goodH (firstL ((txt c x).take i)) := by
  by_cases h : i ≤ (cLine c).length
  · refine good_short (Nat.lt_of_le_of_lt (first_len _) ?_)
    rw [List.length_take]
    omega
  · refine good_short (Nat.lt_of_le_of_lt (first_le (j := (cLine c).length) ?_) (by omega))
    rw [List.getElem?_take_of_lt (by omega)]
    unfold txt
    rw [List.getElem?_append_right (Nat.le_refl _), Nat.sub_self]
    rfl
theorem good_cut {c : Cf} {x : List Ac} (hc : (cLine c).length ≤ 24) (hx : x.all (fun a => decide (tline a ≠ [])) = true) (i : Nat) : goodH (firstL ((txt c x).take i ++ (txt c x).drop (i + 1))) := by
  have h6 : 6 ≤ (cLine c).length := by rw [cLine_size]; omega
  rcases Nat.lt_trichotomy i (cLine c).length with h | h | h
  · refine good_short (Nat.lt_of_le_of_lt (first_le (j := (cLine c).length - 1) ?_) (by omega))
    have hl : ((txt c x).take i).length = i := by rw [List.length_take]; unfold txt; rw [List.length_append]; omega
    rw [List.getElem?_append_right (by omega), hl, List.getElem?_drop, show i + 1 + ((cLine c).length - 1 - i) = (cLine c).length by omega]
    unfold txt
    rw [List.getElem?_append_right (Nat.le_refl _), Nat.sub_self]
    rfl
  · have e : (txt c x).take i ++ (txt c x).drop (i + 1) = cLine c ++ [] ++ body x := by
      unfold txt
      rw [h, List.take_left, List.drop_append, List.drop_of_length_le (by omega)]
      simp
    rw [e]
    exact good_join (by simpa using cLine_10 c) h6 (by simp; omega) hx
  · refine good_short (Nat.lt_of_le_of_lt (first_le (j := (cLine c).length) ?_) (by omega))
    have hl : (cLine c).length < ((txt c x).take i).length ∨ (txt c x).length ≤ i := by
      rw [List.length_take]
      rcases Nat.lt_or_ge i (txt c x).length with g | g
      · exact Or.inl (by omega)
      · exact Or.inr g
    have h0 : (txt c x)[(cLine c).length]? = some 10 := by
      unfold txt
      rw [List.getElem?_append_right (Nat.le_refl _), Nat.sub_self]
      rfl
    have hlt : (cLine c).length < (txt c x).length := (List.getElem?_eq_some_iff.1 h0).1
    rw [List.getElem?_append_left (by rw [List.length_take]; omega), List.getElem?_take_of_lt (by omega)]
    exact h0
end Go.Proofs.YtikchieadclbhaaGreatDoor.Ab
