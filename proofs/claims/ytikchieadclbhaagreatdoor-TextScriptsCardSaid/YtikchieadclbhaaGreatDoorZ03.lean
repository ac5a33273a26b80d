/- What the package's variables hold. No condition. -/
import Derived.Test.YtikchieadclbhaaGreatDoorZ02
import Derived.Lib.SplitLaws
import Derived.Lib.IndexBytes
import Derived.Test.YtikchieadclbhaaGreatDoorZ01
import Derived.WalkKit
import Derived.Lib.LaidTab
import Derived.Lib.ItoaNum
namespace Go.Proofs.YtikchieadclbhaaGreatDoor.Ab
set_option linter.unusedVariables false
set_option linter.unusedSimpArgs false

/-- A hexadecimal digit. -/
def hdg (n : UInt8) : UInt8 := if n < 10 then 48 + n else 87 + n
def hexL : List UInt8 → List UInt8
  | [] => []
  | b :: l => hdg (b / 16) :: hdg (b % 16) :: hexL l
/-- The number of a digit, as the text's package looks it up. -/
def uvl (c : UInt8) : Option UInt8 := if 48 ≤ c ∧ c ≤ 57 then some (c - 48) else if 97 ≤ c ∧ c ≤ 102 then some (c - 87) else none
def unhx : List UInt8 → Option (List UInt8)
  | a :: b :: r => match uvl a, uvl b with
    | some x, some y => (unhx r).map fun l => (x * 16 + y) :: l
    | _, _ => none
  | _ => some []
def unhxS (l : List UInt8) : List UInt8 := (unhx l).getD []
/-- The document's way. -/
def nib (c : UInt8) : UInt8 := if 97 ≤ c ∧ c ≤ 102 then c - 97 + 10 else c - 48
def rbyte (a b : UInt8) : UInt8 := (nib a <<< 4) ||| (nib b &&& 15)
def rbytes : List UInt8 → List UInt8
  | a :: b :: r => rbyte a b :: rbytes r
  | _ => []
theorem byte_all {p : UInt8 → Prop} [DecidablePred p] (h : ∀ n < 256, p (UInt8.ofNat n)) (b : UInt8) : p b := by
  have := h b.toNat b.toNat_lt
  rwa [UInt8.ofNat_toNat] at this
theorem hdg_uv (b : UInt8) : uvl (hdg (b / 16)) = some (b / 16) ∧ uvl (hdg (b % 16)) = some (b % 16) ∧ b / 16 * 16 + b % 16 = b ∧ rbyte (hdg (b / 16)) (hdg (b % 16)) = b := by
  refine byte_all (p := fun b => uvl (hdg (b / 16)) = some (b / 16) ∧ uvl (hdg (b % 16)) = some (b % 16) ∧ b / 16 * 16 + b % 16 = b ∧ rbyte (hdg (b / 16)) (hdg (b % 16)) = b) ?_ b
  decide +kernel
theorem hdg_no (b : UInt8) : (hdg (b / 16) ≠ 32 ∧ hdg (b / 16) ≠ 44 ∧ hdg (b / 16) ≠ 10) ∧ hdg (b % 16) ≠ 32 ∧ hdg (b % 16) ≠ 44 ∧ hdg (b % 16) ≠ 10 := by
  refine byte_all (p := fun b => (hdg (b / 16) ≠ 32 ∧ hdg (b / 16) ≠ 44 ∧ hdg (b / 16) ≠ 10) ∧ hdg (b % 16) ≠ 32 ∧ hdg (b % 16) ≠ 44 ∧ hdg (b % 16) ≠ 10) ?_ b
  decide +kernel
theorem unhx_hex : ∀ l : List UInt8, unhx (hexL l) = some l
  | [] => rfl
  | b :: l => by
    have h := hdg_uv b
    rw [hexL, unhx, h.1, h.2.1]
    dsimp only
    rw [unhx_hex l, h.2.2.1]
    rfl
theorem rbytes_hex : ∀ l : List UInt8, rbytes (hexL l) = l
  | [] => rfl
  | b :: l => by rw [hexL, rbytes, (hdg_uv b).2.2.2, rbytes_hex l]
theorem hex_no : ∀ (l : List UInt8), (32 : UInt8) ∉ hexL l ∧ (10 : UInt8) ∉ hexL l
  | [] => by simp [hexL]
  | b :: l => by
    have h := hdg_no b
    have ih := hex_no l
    rw [hexL]
    simp only [List.mem_cons, not_or]
    exact ⟨⟨fun e => h.1.1 e.symm, fun e => h.2.1 e.symm, ih.1⟩, ⟨fun e => h.1.2.2 e.symm, fun e => h.2.2.2 e.symm, ih.2⟩⟩
/-- An action. -/
structure Ac where
  k : Int
  n : Int
  ck : Int
  cb : Int
  cd : List UInt8
  kp : List Int
def ac0 : Ac := ⟨0, 0, 0, 0, [], []⟩
def fit (n : Int) : Bool := decide (-1099511627776 ≤ n ∧ n ≤ 1099511627776)
theorem fit_iff {n : Int} : fit n = true ↔ -1099511627776 ≤ n ∧ n ≤ 1099511627776 := by unfold fit; rw [decide_eq_true_eq]
def wRead : List UInt8 := [114, 101, 97, 100]
def wWrite : List UInt8 := [119, 114, 105, 116, 101]
def wTrim : List UInt8 := [116, 114, 105, 109]
def wFlush : List UInt8 := [102, 108, 117, 115, 104]
def wStep : List UInt8 := [115, 116, 101, 112]
def wSave : List UInt8 := [115, 97, 118, 101]
def wClose : List UInt8 := [99, 108, 111, 115, 101]
def wCrash : List UInt8 := [99, 114, 97, 115, 104]
/-- The word of a command's kind. -/
def kW (k : Int) : List UInt8 := if k = 1 then wRead else if k = 2 then wWrite else if k = 3 then wTrim else if k = 4 then wFlush else []
/-- The kind of a word. -/
def kN (w : List UInt8) : Int := if w = wRead then 1 else if w = wWrite then 2 else if w = wTrim then 3 else if w = wFlush then 4 else 0
/-- The words of a command, with others behind its kind. -/
def cWs (ck cb : Int) (cd : List UInt8) (bet : List (List UInt8)) : List (List UInt8) := kW ck :: (bet ++ ((if ck = 4 then [] else [Lib.itoa cb]) ++ (if ck = 2 then [hexL cd] else [])))
def cRight (ck cb : Int) (cd : List UInt8) : Bool := decide (kW ck ≠ [] ∧ cd.length = (if ck = 2 then 16 else 0) ∧ fit cb = true ∧ (ck ≠ 4 ∨ cb = 0))
/-- The line of an action, nothing if it has none. -/
def tline (a : Ac) : List UInt8 :=
  if fit a.n = false then []
  else if a.k = 1 then (if a.kp = [] ∧ cRight a.ck a.cb a.cd = true then joinW 32 (cWs a.ck a.cb a.cd [Lib.itoa a.n]) else [])
  else if ¬ (a.ck = 0 ∧ a.cb = 0 ∧ a.cd = []) then []
  else if a.k = 4 then (if a.n = 0 ∧ a.kp.length ≤ 32 ∧ a.kp.all fit = true then (if a.kp = [] then wCrash else joinW 32 [wCrash, joinW 44 (a.kp.map Lib.itoa)]) else [])
  else if a.kp ≠ [] then []
  else if a.k = 2 then joinW 32 [wStep, Lib.itoa a.n]
  else if a.n ≠ 0 then []
  else if a.k = 3 then wSave
  else if a.k = 5 then wClose
  else []
/-- What the text's package makes of a line's words. -/
def tcandW : List (List UInt8) → Ac
  | [] => ac0
  | w :: r => if kN w > 0 ∧ r ≠ [] then ⟨1, num (r.getD 0 []), kN w, (match r[1]? with | some x => num x | none => 0), (match r[2]? with | some x => unhxS x | none => []), []⟩
    else if w = wStep ∧ r.length = 1 then ⟨2, num (r.getD 0 []), 0, 0, [], []⟩
    else if w = wSave then ⟨3, 0, 0, 0, [], []⟩
    else if w = wClose then ⟨5, 0, 0, 0, [], []⟩
    else if w = wCrash then ⟨4, 0, 0, 0, [], if r.length = 1 then (spl 44 (r.getD 0 [])).map num else []⟩
    else ac0
def tcand (s : List UInt8) : Ac := tcandW (spl 32 s)
/-- What the document makes of them. -/
def rcandW (l : List (List UInt8)) : Ac :=
  if l.getD 0 [] = wStep then ⟨2, rnum (l.getD 1 []), 0, 0, [], []⟩
  else if l.getD 0 [] = wSave then ⟨3, 0, 0, 0, [], []⟩
  else if l.getD 0 [] = wClose then ⟨5, 0, 0, 0, [], []⟩
  else if l.getD 0 [] = wCrash then ⟨4, 0, 0, 0, [], if l.getD 1 [] = [] then [] else (spl 44 (l.getD 1 [])).map rnum⟩
  else if kN (l.getD 0 []) > 0 then ⟨1, rnum (l.getD 1 []), kN (l.getD 0 []), rnum (l.getD 2 []), if l.getD 0 [] = wWrite then rbytes (l.getD 3 []) else [], []⟩
  else ac0
def rcand (s : List UInt8) : Ac := rcandW (spl 32 s)
theorem kN_W {k : Int} (h : kW k ≠ []) : kN (kW k) = k ∧ k > 0 := by
  unfold kW at h ⊢
  split
  · rename_i h1; subst h1; exact ⟨by rfl, by decide⟩
  · split
    · rename_i h1; subst h1; exact ⟨by rfl, by decide⟩
    · split
      · rename_i h1; subst h1; exact ⟨by rfl, by decide⟩
      · split
        · rename_i h1; subst h1; exact ⟨by rfl, by decide⟩
        · rename_i a b c d
          rw [if_neg a, if_neg b, if_neg c, if_neg d] at h
          exact absurd rfl h
theorem kW_cases {k : Int} (h : kW k ≠ []) : k = 1 ∨ k = 2 ∨ k = 3 ∨ k = 4 := by
  unfold kW at h
  split at h
  · omega
  · split at h
    · omega
    · split at h
      · omega
      · split at h
        · omega
        · exact absurd rfl h
theorem itoa_32 (n : Int) : (32 : UInt8) ∉ Lib.itoa n := itoa_no (by decide) (by decide)
theorem itoa_44 (n : Int) : (44 : UInt8) ∉ Lib.itoa n := itoa_no (by decide) (by decide)
theorem joinW_no {c d : UInt8} (hcd : c ≠ d) : ∀ {ws : List (List UInt8)}, (∀ w ∈ ws, c ∉ w) → c ∉ joinW d ws
  | [], _ => by simp [joinW]
  | [w], h => h w List.mem_cons_self
  | w :: v :: ws, h => by
    rw [joinW]
    simp only [List.mem_append, List.mem_cons, not_or]
    exact ⟨h w List.mem_cons_self, hcd, joinW_no hcd (fun x hx => h x (List.mem_cons_of_mem _ hx))⟩
theorem joinW_ne {c : UInt8} {ws : List (List UInt8)} (h : ws ≠ []) (h2 : ∀ w ∈ ws, w ≠ []) : joinW c ws ≠ [] := by
  match ws, h with
  | [w], _ => exact h2 w List.mem_cons_self
  | w :: v :: ws, _ =>
    rw [joinW]
    intro e
    have := (List.append_eq_nil_iff.1 e).2
    cases this
theorem map_num {l : List Int} (h : l.all fit = true) : (l.map Lib.itoa).map num = l ∧ (l.map Lib.itoa).map rnum = l := by
  induction l with
  | nil => exact ⟨rfl, rfl⟩
  | cons n l ih =>
    rw [List.all_cons, Bool.and_eq_true] at h
    have hn := fit_iff.1 h.1
    have := ih h.2
    simp only [List.map_cons]
    rw [num_itoa hn, rnum_itoa hn, this.1, this.2]
    exact ⟨rfl, rfl⟩
/-- The words of a line. -/
theorem line_words {a : Ac} (h : tline a ≠ []) : (∃ ws, spl 32 (tline a) = ws ∧ tcandW ws = a ∧ rcandW ws = a) := by
  obtain ⟨k, n, ck, cb, cd, kp⟩ := a
  refine ⟨_, rfl, ?_⟩
  unfold tline at h ⊢
  dsimp only at h ⊢
  split at h
  · exact absurd rfl h
  rename_i hf
  rw [if_neg hf]
  have hn := fit_iff.1 (by simpa using hf)
  split at h
  · rename_i hk
    rw [if_pos hk]
    subst hk
    split at h
    · rename_i hc
      rw [if_pos hc]
      obtain ⟨rfl, hc⟩ := hc
      unfold cRight at hc
      obtain ⟨c1, c2, c3, c4⟩ := of_decide_eq_true hc
      have hb := fit_iff.1 c3
      have hx := hex_no cd
      have hu : unhxS (hexL cd) = cd := by unfold unhxS; rw [unhx_hex]; rfl
      have hr := rbytes_hex cd
      rcases kW_cases c1 with rfl | rfl | rfl | rfl
      · rw [if_neg (by decide)] at c2
        obtain rfl := List.length_eq_zero_iff.1 c2
        rw [show cWs 1 cb [] [Lib.itoa n] = [wRead, Lib.itoa n, Lib.itoa cb] from rfl, spl_join (by simp) (by
          intro w hw
          simp only [List.mem_cons, List.not_mem_nil, or_false] at hw
          rcases hw with rfl | rfl | rfl
          · decide
          · exact itoa_32 n
          · exact itoa_32 cb)]
        constructor
        · show (⟨1, num (Lib.itoa n), 1, num (Lib.itoa cb), [], []⟩ : Ac) = _
          rw [num_itoa hn, num_itoa hb]
        · show (⟨1, rnum (Lib.itoa n), 1, rnum (Lib.itoa cb), [], []⟩ : Ac) = _
          rw [rnum_itoa hn, rnum_itoa hb]
      · rw [show cWs 2 cb cd [Lib.itoa n] = [wWrite, Lib.itoa n, Lib.itoa cb, hexL cd] from rfl, spl_join (by simp) (by
          intro w hw
          simp only [List.mem_cons, List.not_mem_nil, or_false] at hw
          rcases hw with rfl | rfl | rfl | rfl
          · decide
          · exact itoa_32 n
          · exact itoa_32 cb
          · exact hx.1)]
        constructor
        · show (⟨1, num (Lib.itoa n), 2, num (Lib.itoa cb), unhxS (hexL cd), []⟩ : Ac) = _
          rw [num_itoa hn, num_itoa hb, hu]
        · show (⟨1, rnum (Lib.itoa n), 2, rnum (Lib.itoa cb), rbytes (hexL cd), []⟩ : Ac) = _
          rw [rnum_itoa hn, rnum_itoa hb, hr]
      · rw [if_neg (by decide)] at c2
        obtain rfl := List.length_eq_zero_iff.1 c2
        rw [show cWs 3 cb [] [Lib.itoa n] = [wTrim, Lib.itoa n, Lib.itoa cb] from rfl, spl_join (by simp) (by
          intro w hw
          simp only [List.mem_cons, List.not_mem_nil, or_false] at hw
          rcases hw with rfl | rfl | rfl
          · decide
          · exact itoa_32 n
          · exact itoa_32 cb)]
        constructor
        · show (⟨1, num (Lib.itoa n), 3, num (Lib.itoa cb), [], []⟩ : Ac) = _
          rw [num_itoa hn, num_itoa hb]
        · show (⟨1, rnum (Lib.itoa n), 3, rnum (Lib.itoa cb), [], []⟩ : Ac) = _
          rw [rnum_itoa hn, rnum_itoa hb]
      · rw [if_neg (by decide)] at c2
        obtain rfl := List.length_eq_zero_iff.1 c2
        obtain rfl : cb = 0 := c4.resolve_left (fun h => h rfl)
        rw [show cWs 4 0 [] [Lib.itoa n] = [wFlush, Lib.itoa n] from rfl, spl_join (by simp) (by
          intro w hw
          simp only [List.mem_cons, List.not_mem_nil, or_false] at hw
          rcases hw with rfl | rfl
          · decide
          · exact itoa_32 n)]
        constructor
        · show (⟨1, num (Lib.itoa n), 4, 0, [], []⟩ : Ac) = _
          rw [num_itoa hn]
        · show (⟨1, rnum (Lib.itoa n), 4, rnum [], [], []⟩ : Ac) = _
          rw [rnum_itoa hn]
          rfl
    · exact absurd rfl h
  rename_i hk
  rw [if_neg hk]
  split at h
  · exact absurd rfl h
  rename_i hcm
  rw [if_neg hcm]
  obtain ⟨rfl, rfl, rfl⟩ := Classical.not_not.1 hcm
  split at h
  · rename_i hk4
    subst hk4
    rw [if_pos rfl]
    split at h
    · rename_i hc
      rw [if_pos hc]
      obtain ⟨rfl, _, hall⟩ := hc
      have hm := map_num hall
      cases kp with
      | nil => exact ⟨by rfl, by rfl⟩
      | cons x kp =>
        rw [if_neg (by simp)]
        have hj : joinW 44 ((x :: kp).map Lib.itoa) ≠ [] := joinW_ne (by simp) (by
          intro w hw
          obtain ⟨y, _, rfl⟩ := List.mem_map.1 hw
          exact itoa_ne y)
        have hs : spl 44 (joinW 44 ((x :: kp).map Lib.itoa)) = (x :: kp).map Lib.itoa := spl_join (by simp) (by
          intro w hw
          obtain ⟨y, _, rfl⟩ := List.mem_map.1 hw
          exact itoa_44 y)
        have h32 : (32 : UInt8) ∉ joinW 44 ((x :: kp).map Lib.itoa) := joinW_no (by decide) (by
          intro w hw
          obtain ⟨y, _, rfl⟩ := List.mem_map.1 hw
          exact itoa_32 y)
        generalize joinW 44 ((x :: kp).map Lib.itoa) = J at hj hs h32
        rw [spl_join (by simp) (by
          intro w hw
          simp only [List.mem_cons, List.not_mem_nil, or_false] at hw
          rcases hw with rfl | rfl
          · decide
          · exact h32)]
        constructor
        · show (⟨4, 0, 0, 0, [], (spl 44 J).map num⟩ : Ac) = _
          rw [hs, hm.1]
        · show (⟨4, 0, 0, 0, [], if J = [] then [] else (spl 44 J).map rnum⟩ : Ac) = _
          rw [if_neg hj, hs, hm.2]
    · exact absurd rfl h
  rename_i hk4
  rw [if_neg hk4]
  split at h
  · exact absurd rfl h
  rename_i hkp
  rw [if_neg hkp]
  obtain rfl := Classical.not_not.1 hkp
  split at h
  · rename_i hk2
    subst hk2
    rw [if_pos rfl, spl_join (by simp) (by
      intro w hw
      simp only [List.mem_cons, List.not_mem_nil, or_false] at hw
      rcases hw with rfl | rfl
      · decide
      · exact itoa_32 n)]
    constructor
    · show (⟨2, num (Lib.itoa n), 0, 0, [], []⟩ : Ac) = _
      rw [num_itoa hn]
    · show (⟨2, rnum (Lib.itoa n), 0, 0, [], []⟩ : Ac) = _
      rw [rnum_itoa hn]
  rename_i hk2
  rw [if_neg hk2]
  split at h
  · exact absurd rfl h
  rename_i hn0
  rw [if_neg hn0]
  obtain rfl := Classical.not_not.1 hn0
  split at h
  · rename_i hk3
    subst hk3
    rw [if_pos rfl]
    exact ⟨by rfl, by rfl⟩
  rename_i hk3
  rw [if_neg hk3]
  split at h
  · rename_i hk5
    subst hk5
    rw [if_pos rfl]
    exact ⟨by rfl, by rfl⟩
  · exact absurd rfl h
theorem tcand_line {a : Ac} (h : tline a ≠ []) : tcand (tline a) = a := by
  obtain ⟨ws, h1, h2, h3⟩ := line_words h
  unfold tcand
  rw [h1, h2]
theorem rcand_line {a : Ac} (h : tline a ≠ []) : rcand (tline a) = a := by
  obtain ⟨ws, h1, h2, h3⟩ := line_words h
  unfold rcand
  rw [h1, h3]
theorem line_k {a : Ac} (h : tline a ≠ []) : a.k ≠ 0 := by
  intro h0
  apply h
  unfold tline
  rw [h0]
  split
  · rfl
  · rw [if_neg (by decide)]
    split
    · rfl
    · rw [if_neg (by decide)]
      split
      · rfl
      · rw [if_neg (by decide)]
        split
        · rfl
        · rw [if_neg (by decide), if_neg (by decide)]
/-- How a line is read. -/
def tread (s : List UInt8) : Ac × Int := if s ≠ [] ∧ tline (tcand s) = s then (tcand s, 0) else (ac0, 18)
def rread (s : List UInt8) : Ac × Int := if (rcand s).k ≠ 0 ∧ tline (rcand s) = s then (rcand s, 0) else (ac0, 18)
theorem read_same (s : List UInt8) : tread s = rread s := by
  unfold tread rread
  by_cases h : s ≠ [] ∧ tline (tcand s) = s
  · have hne : tline (tcand s) ≠ [] := by rw [h.2]; exact h.1
    have hr := rcand_line hne
    rw [h.2] at hr
    rw [if_pos h, hr, if_pos ⟨line_k hne, h.2⟩]
  · rw [if_neg h]
    split
    · rename_i h2
      exfalso
      have hne : tline (rcand s) ≠ [] := by
        intro e
        have hs : s = [] := by rw [← h2.2, e]
        subst hs
        exact h2.1 (by rfl)
      have ht := tcand_line hne
      rw [h2.2] at ht
      refine h ⟨fun e => hne (by rw [h2.2, e]), ?_⟩
      rw [ht, h2.2]
    · rfl
theorem read_line {a : Ac} (h : tline a ≠ []) : tread (tline a) = (a, 0) := by
  unfold tread
  rw [tcand_line h, if_pos ⟨h, rfl⟩]
end Go.Proofs.YtikchieadclbhaaGreatDoor.Ab
namespace Go.Proofs.YtikchieadclbhaaGreatDoor.Ab
set_option linter.unusedVariables false
set_option linter.unusedSimpArgs false
open Go.Lib

theorem idx_miss {l : List UInt8} {c : UInt8} (h : indexByte l c = -1) : c ∉ l := by
  induction l with
  | nil => simp
  | cons b l ih =>
    rw [indexByte] at h
    split at h
    · cases h
    · rename_i hb
      split at h
      · rename_i hl
        intro hc
        rcases List.mem_cons.1 hc with rfl | hc
        · simp at hb
        · exact ih (by simpa using hl) hc
      · have := indexByte_ge l c
        omega
theorem idx_hit : ∀ {l : List UInt8} {c : UInt8} {i : Nat}, indexByte l c = i → c ∉ l.take i ∧ l = l.take i ++ c :: l.drop (i + 1)
  | [], c, i, h => by rw [indexByte] at h; omega
  | b :: l, c, i, h => by
    rw [indexByte] at h
    split at h
    · rename_i hb
      obtain rfl : i = 0 := by omega
      have : b = c := by simpa using hb
      subst this
      simp
    · rename_i hb
      split at h
      · omega
      · have hg := indexByte_ge l c
        obtain ⟨j, rfl⟩ : ∃ j, i = j + 1 := ⟨i - 1, by rename_i hne; simp at hne; omega⟩
        have := idx_hit (l := l) (c := c) (i := j) (by omega)
        rw [List.take_succ_cons, List.drop_succ_cons, List.cons_append, ← this.2]
        refine ⟨?_, rfl⟩
        intro hc
        rcases List.mem_cons.1 hc with rfl | hc
        · simp at hb
        · exact this.1 hc
theorem splitB_spl (c : UInt8) : ∀ (k : Nat) (s : ByteArray), countB s ⟨#[c]⟩ = k → (splitB ⟨#[c]⟩ 0 k s).map (·.data.toList) = spl c s.data.toList := by
  intro k
  induction k with
  | zero =>
    intro s hk
    rw [splitB_zero]
    have hm : indexB s ⟨#[c]⟩ = -1 := by
      rcases indexB_cases s ⟨#[c]⟩ with h | ⟨i, h, _⟩
      · exact h
      · have := countB_hit s ⟨#[c]⟩ i (Nat.le_refl 1) h
        omega
    have h2 : indexByte s.data.toList c = -1 := by rw [← index_one]; exact hm
    rw [spl_word (idx_miss h2)]
    rfl
  | succ k ih =>
    intro s hk
    rcases indexB_cases s ⟨#[c]⟩ with h | ⟨i, h, hle⟩
    · rw [countB_miss s _ h] at hk
      omega
    · have hc := countB_hit s ⟨#[c]⟩ i (Nat.le_refl 1) h
      have h2 : indexByte s.data.toList c = i := by rw [← index_one]; exact h
      have h3 := idx_hit h2
      have hd : (s.extract (i + (⟨#[c]⟩ : ByteArray).size) s.size).data.toList = s.data.toList.drop (i + 1) := by
        show (s.extract (i + 1) s.size).data.toList = _
        simp [ByteArray.data_extract, Array.toList_extract, List.extract_eq_take_drop]
        rw [List.take_of_length_le]
        rw [List.length_drop]
        simp
      rw [splitB_hit _ 0 k s i h, List.map_cons, ih _ (by omega), hd]
      conv => rhs; rw [h3.2]
      rw [spl_app h3.1, Nat.add_zero, extract_from_zero]
end Go.Proofs.YtikchieadclbhaaGreatDoor.Ab
namespace Go.Proofs.YtikchieadclbhaaGreatDoor.Ab
set_option linter.unusedVariables false
set_option linter.unusedSimpArgs false
open Go.RowKit Go.Lib

theorem sizeB : (Tryz.prog.info? 93).map (·.size) = some 2 := by kernel_rfl
theorem liesB : liesAt Tryz.prog Tryz.prog.depth 93 (2 / Tryz.prog.cellsOf 93) 0 93 1 = true := by kernel_rfl
set_option maxHeartbeats 1000000 in
set_option maxRecDepth 100000 in
theorem bUsed (b : Nat) (w : World) (h0 : w.cell? ⟨b, 0, none⟩ = some (.pointer (some ⟨b, 0, none⟩))) :
    Calls Tryz.prog 73 #[.pointer (some ⟨b, 0, none⟩)] w fun e w' => e = .returned (.tuple #[]) ∧ w' = w := by
  obtain ⟨j, hj, _⟩ := Option.map_eq_some_iff.1 sizeB
  go_enter Tryz.func73, Tryz.ntmps73
  go_wp2
  rw [Lib.run_neq_ptr_same w _ Tryz.underlying91 hj]
  go_wp2
  go_end0
  exact ⟨rfl, rfl⟩
set_option maxHeartbeats 1000000 in
set_option maxRecDepth 100000 in
theorem bFresh (b : Nat) (w : World) (h0 : w.cell? ⟨b, 0, none⟩ = some (.pointer none)) (hsh : w.shape? b = some (93, 2)) (hfz : w.frozen? ⟨b, 0, none⟩ = false) :
    Calls Tryz.prog 73 #[.pointer (some ⟨b, 0, none⟩)] w fun e w' => e = .returned (.tuple #[]) ∧ w' = w.setCell ⟨b, 0, none⟩ (.pointer (some ⟨b, 0, none⟩)) := by
  obtain ⟨j, hj, hjs⟩ := Option.map_eq_some_iff.1 sizeB
  go_enter Tryz.func73, Tryz.ntmps73
  go_wp2
  rw [Lib.run_to_unsafe w ⟨b, 0, none⟩ Tryz.underlying91 Tryz.underlying115 hj (by rw [hjs]; decide) hsh (Nat.zero_lt_succ 1)]
  simp only [Result.andThen]
  rw [Oper.upon_value]
  go_wp2
  rw [run_callFunc_extern Tryz.func90 (by kernel_rfl) (by kernel_rfl) (by kernel_rfl) (e := Extern.AbiNoEscape.same) (by kernel_rfl)]
  rw [Lib.run_noEscape]
  simp only [Result.andThen]
  rw [Oper.upon_value]
  go_wp2
  rw [Lib.run_from_unsafe w ⟨b, 0, none⟩ Tryz.underlying115 Tryz.underlying91 hj hsh liesB]
  simp only [Result.andThen]
  rw [Oper.upon_value]
  go_wp2
  go_end0
  exact ⟨rfl, rfl⟩
theorem bCheck (B b : Nat) (bs : List Value) (w : World) (h : Lib.IsBuilder 93 5 B b bs w) :
    Calls Tryz.prog 73 #[.pointer (some ⟨b, 0, none⟩)] w fun e w' => e = .returned (.tuple #[]) ∧ (Lib.BuilderAt 93 5 B b (.pointer (some ⟨b, 0, none⟩)) bs w' ∧ Below B w w') := by
  rcases h with h | h
  · refine (bFresh b w h.cell0 h.shape h.frozen0).mono ?_
    rintro e w' ⟨rfl, rfl⟩
    exact ⟨rfl, h.used _, (Below.refl B w).setCell (p := ⟨b, 0, none⟩) h.1 _⟩
  · refine (bUsed b w h.cell0).mono ?_
    rintro e w' ⟨rfl, rfl⟩
    exact ⟨rfl, h, Below.refl B _⟩
set_option maxHeartbeats 2000000 in
set_option maxRecDepth 100000 in
theorem bByte (B b : Nat) (bs : List Value) (c : Int) (w : World) (h : Lib.IsBuilder 93 5 B b bs w) (hlen : bs.length + 1 ≤ 140737488355328) (hBw : B ≤ w.heap.size) :
    Calls Tryz.prog 54 #[.pointer (some ⟨b, 0, none⟩), .int .u8 c] w fun e w' => e = .returned .nilIface ∧ (Lib.BuilderAt 93 5 B b (.pointer (some ⟨b, 0, none⟩)) (bs ++ [.int .u8 c]) w' ∧ Below B w w') := by
  obtain ⟨i0, hi, hz0, hz1, hz2⟩ : ∃ i0, Tryz.prog.info? 5 = some i0 ∧ i0.zero = some (.int .u8 0) ∧ i0.size = 1 ∧ i0.bytes = 1 := by
    have h : (Tryz.prog.info? 5).map (fun i => (i.zero, i.size, i.bytes)) = some (some (.int .u8 0), 1, 1) := by kernel_rfl
    obtain ⟨i, h1, h2⟩ := Option.map_eq_some_iff.1 h
    injection h2 with h2 h3
    injection h3 with h3 h4
    exact ⟨i, h1, h2, h3, h4⟩
  go_enter Tryz.func54, Tryz.ntmps54
  go_wp2_with fail
  refine (bCheck B b bs _ h).mono ?_
  rintro e w1 ⟨rfl, h1, hb1⟩
  obtain ⟨hB, v, hbk, hown, hne⟩ := h1
  have c0 : w1.cell? ⟨b, 0, none⟩ = some (.pointer (some ⟨b, 0, none⟩)) := by rw [Lib.cell_of_heap hbk]; rfl
  have c1 : w1.cell? ⟨b, 1, none⟩ = some v := by rw [Lib.cell_of_heap hbk]; rfl
  go_wp2_with (at_builtin; refine wpList_append_own _ rfl _ _ 42 rfl B 5 i0 (.int .u8 0) 1 1 Tryz.underlying42 hi hz0 hz1 hz2 rfl (by decide) _ _ _ rfl (hown.alloc _) ⟨w1.heap.size, 0, none⟩ 1 1 [.int .u8 c] rfl rfl ?c1 ?c2 ?c3 ?c4 ?c5 ?_)
  case c1 =>
    intro j u hj
    match j, hj with
    | 0, hj => simp at hj; subst hj; simp [Addr.add]
  case c2 => intro u hu; simp at hu; subst hu; rfl
  case c3 => unfold maxLen; omega
  case c4 => omega
  case c5 => have := hb1.size; simp; omega
  intro v' w2 hown' hgrow _
  have hlt : b < w1.heap.size := by
    rcases Nat.lt_or_ge b w1.heap.size with h' | h'
    · exact h'
    · simp [Array.getElem?_eq_none h'] at hbk
  have hb2 : w2.heap[b]? = some (.cells #[.pointer (some ⟨b, 0, none⟩), v] 93 (0, 0)) := by
    rw [hgrow.block b (by simp; omega) (fun e => hne e.symm), Lib.alloc_old w1 _ b hlt]
    exact hbk
  have d0 : w2.cell? ⟨b, 0, none⟩ = some (.pointer (some ⟨b, 0, none⟩)) := by rw [Lib.cell_of_heap hb2]; rfl
  have d1 : w2.cell? ⟨b, 1, none⟩ = some v := by rw [Lib.cell_of_heap hb2]; rfl
  have f1 : w2.frozen? ⟨b, 1, none⟩ = false := Lib.frozen_of_heap hb2 1
  obtain ⟨g, cap, rfl⟩ : ∃ g cap, v' = .slice (some ⟨g, 0, none⟩) (bs.length + 1) cap := by
    rcases hown'.2 with ⟨_, h0⟩ | ⟨g, cap, cur, hv, _⟩
    · omega
    · exact ⟨g, cap, hv⟩
  go_wp2
  go_ret
  refine ⟨rfl, ?_, ?_⟩
  · exact Lib.BuilderAt.put (T := 93) (e := 5) hB hb2 (bs' := bs ++ [.int .u8 c]) (by simpa using hown') (by decide)
  · exact ((hb1.alloc (by have := hb1.size; omega) _).grown hgrow (by have := hb1.size; simp; omega) (fun k hk => (hown.lt k hk).1)).setCell (p := ⟨b, 1, none⟩) hB _
end Go.Proofs.YtikchieadclbhaaGreatDoor.Ab
namespace Go.Proofs.YtikchieadclbhaaGreatDoor.Ab
set_option linter.unusedVariables false
/-- How many blocks the package's variables are. -/
noncomputable def gN : Nat := Tryz.prog.globals.size
/-- What they hold when the call begins. -/
def gQ (w : World) : Prop := (∃ m, w.var? Tryz.prog "internal/bytealg.MaxLen" = some #[.int .i64 m]) ∧ Lib.TabIs Tryz.prog w "internal/strconv.uint64pow10" .u64 Lib.pow10Tab ∧
  (∃ a b, w.var? Tryz.prog "strconv.ErrSyntax" = some #[.iface a b]) ∧ (∃ a b, w.var? Tryz.prog "strconv.ErrRange" = some #[.iface a b])
/-- They hold it still. -/
def gP (w : World) : Prop := ∃ w0, gQ w0 ∧ ∀ k, k < gN → w.heap[k]? = w0.heap[k]?
theorem gP_local {w w' : World} (h : ∀ k, k < gN → w'.heap[k]? = w.heap[k]?) (hw : gP w) : gP w' := by
  obtain ⟨w0, h1, h2⟩ := hw
  exact ⟨w0, h1, fun k hk => (h k hk).trans (h2 k hk)⟩
end Go.Proofs.YtikchieadclbhaaGreatDoor.Ab
