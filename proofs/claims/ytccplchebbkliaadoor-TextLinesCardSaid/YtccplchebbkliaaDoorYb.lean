/- Lines of actions and how they are read back; plain laws. No condition. -/
import Derived.Test.YtccplchebbkliaaDoorYa
namespace Go.Proofs.YtccplchebbkliaaDoor.Ab
set_option linter.unusedVariables false
set_option linter.unusedSimpArgs false

/-- A hexadecimal digit. -/
def hdg (n : UInt8) : UInt8 := if n < 10 then 48 + n else 87 + n
def hexL : List UInt8 → List UInt8
  | [] => []
  | b :: l => hdg (b / 16) :: hdg (b % 16) :: hexL l
/-- The number of a digit, as the text's package looks it up. -/
def uvl (c : UInt8) : Option UInt8 := if 48 ≤ c ∧ c ≤ 57 then some (c - 48) else if 97 ≤ c ∧ c ≤ 102 then some (c - 87) else none
def unhx : List UInt8 → Option (List UInt8)
  | a :: b :: r => match uvl a, uvl b with
    | some x, some y => (unhx r).map fun l => (x * 16 + y) :: l
    | _, _ => none
  | _ => some []
def unhxS (l : List UInt8) : List UInt8 := (unhx l).getD []
/-- The document's way. -/
def nib (c : UInt8) : UInt8 := if 97 ≤ c ∧ c ≤ 102 then c - 97 + 10 else c - 48
def rbyte (a b : UInt8) : UInt8 := (nib a <<< 4) ||| (nib b &&& 15)
def rbytes : List UInt8 → List UInt8
  | a :: b :: r => rbyte a b :: rbytes r
  | _ => []
theorem byte_all {p : UInt8 → Prop} [DecidablePred p] (h : ∀ n < 256, p (UInt8.ofNat n)) (b : UInt8) : p b := by
  have := h b.toNat b.toNat_lt
  rwa [UInt8.ofNat_toNat] at this
theorem hdg_uv (b : UInt8) : uvl (hdg (b / 16)) = some (b / 16) ∧ uvl (hdg (b % 16)) = some (b % 16) ∧ b / 16 * 16 + b % 16 = b ∧ rbyte (hdg (b / 16)) (hdg (b % 16)) = b := by
  refine byte_all (p := fun b => uvl (hdg (b / 16)) = some (b / 16) ∧ uvl (hdg (b % 16)) = some (b % 16) ∧ b / 16 * 16 + b % 16 = b ∧ rbyte (hdg (b / 16)) (hdg (b % 16)) = b) ?_ b
  decide +kernel
theorem hdg_no (b : UInt8) : (hdg (b / 16) ≠ 32 ∧ hdg (b / 16) ≠ 44 ∧ hdg (b / 16) ≠ 10) ∧ hdg (b % 16) ≠ 32 ∧ hdg (b % 16) ≠ 44 ∧ hdg (b % 16) ≠ 10 := by
  refine byte_all (p := fun b => (hdg (b / 16) ≠ 32 ∧ hdg (b / 16) ≠ 44 ∧ hdg (b / 16) ≠ 10) ∧ hdg (b % 16) ≠ 32 ∧ hdg (b % 16) ≠ 44 ∧ hdg (b % 16) ≠ 10) ?_ b
  decide +kernel
theorem unhx_hex : ∀ l : List UInt8, unhx (hexL l) = some l
  | [] => rfl
  | b :: l => by
    have h := hdg_uv b
    rw [hexL, unhx, h.1, h.2.1]
    dsimp only
    rw [unhx_hex l, h.2.2.1]
    rfl
theorem rbytes_hex : ∀ l : List UInt8, rbytes (hexL l) = l
  | [] => rfl
  | b :: l => by rw [hexL, rbytes, (hdg_uv b).2.2.2, rbytes_hex l]
theorem hex_no : ∀ (l : List UInt8), (32 : UInt8) ∉ hexL l ∧ (10 : UInt8) ∉ hexL l
  | [] => by simp [hexL]
  | b :: l => by
    have h := hdg_no b
    have ih := hex_no l
    rw [hexL]
    simp only [List.mem_cons, not_or]
    exact ⟨⟨fun e => h.1.1 e.symm, fun e => h.2.1 e.symm, ih.1⟩, ⟨fun e => h.1.2.2 e.symm, fun e => h.2.2.2 e.symm, ih.2⟩⟩
/-- An action. -/
structure Ac where
  k : Int
  n : Int
  ck : Int
  cb : Int
  cd : List UInt8
  kp : List Int
def ac0 : Ac := ⟨0, 0, 0, 0, [], []⟩
def fit (n : Int) : Bool := decide (-1099511627776 ≤ n ∧ n ≤ 1099511627776)
theorem fit_iff {n : Int} : fit n = true ↔ -1099511627776 ≤ n ∧ n ≤ 1099511627776 := by unfold fit; rw [decide_eq_true_eq]
def wRead : List UInt8 := [114, 101, 97, 100]
def wWrite : List UInt8 := [119, 114, 105, 116, 101]
def wTrim : List UInt8 := [116, 114, 105, 109]
def wFlush : List UInt8 := [102, 108, 117, 115, 104]
def wStep : List UInt8 := [115, 116, 101, 112]
def wSave : List UInt8 := [115, 97, 118, 101]
def wClose : List UInt8 := [99, 108, 111, 115, 101]
def wCrash : List UInt8 := [99, 114, 97, 115, 104]
/-- The word of a command's kind. -/
def kW (k : Int) : List UInt8 := if k = 1 then wRead else if k = 2 then wWrite else if k = 3 then wTrim else if k = 4 then wFlush else []
/-- The kind of a word. -/
def kN (w : List UInt8) : Int := if w = wRead then 1 else if w = wWrite then 2 else if w = wTrim then 3 else if w = wFlush then 4 else 0
/-- The words of a command, with others behind its kind. -/
def cWs (ck cb : Int) (cd : List UInt8) (bet : List (List UInt8)) : List (List UInt8) := kW ck :: (bet ++ ((if ck = 4 then [] else [Lib.itoa cb]) ++ (if ck = 2 then [hexL cd] else [])))
def cRight (ck cb : Int) (cd : List UInt8) : Bool := decide (kW ck ≠ [] ∧ cd.length = (if ck = 2 then 16 else 0) ∧ fit cb = true ∧ (ck ≠ 4 ∨ cb = 0))
/-- The line of an action, nothing if it has none. -/
def tline (a : Ac) : List UInt8 :=
  if fit a.n = false then []
  else if a.k = 1 then (if a.kp = [] ∧ cRight a.ck a.cb a.cd = true then joinW 32 (cWs a.ck a.cb a.cd [Lib.itoa a.n]) else [])
  else if ¬ (a.ck = 0 ∧ a.cb = 0 ∧ a.cd = []) then []
  else if a.k = 4 then (if a.n = 0 ∧ a.kp.length ≤ 32 ∧ a.kp.all fit = true then (if a.kp = [] then wCrash else joinW 32 [wCrash, joinW 44 (a.kp.map Lib.itoa)]) else [])
  else if a.kp ≠ [] then []
  else if a.k = 2 then joinW 32 [wStep, Lib.itoa a.n]
  else if a.n ≠ 0 then []
  else if a.k = 3 then wSave
  else if a.k = 5 then wClose
  else []
/-- What the text's package makes of a line's words. -/
def tcandW : List (List UInt8) → Ac
  | [] => ac0
  | w :: r => if kN w > 0 ∧ r ≠ [] then ⟨1, num (r.getD 0 []), kN w, (match r[1]? with | some x => num x | none => 0), (match r[2]? with | some x => unhxS x | none => []), []⟩
    else if w = wStep ∧ r.length = 1 then ⟨2, num (r.getD 0 []), 0, 0, [], []⟩
    else if w = wSave then ⟨3, 0, 0, 0, [], []⟩
    else if w = wClose then ⟨5, 0, 0, 0, [], []⟩
    else if w = wCrash then ⟨4, 0, 0, 0, [], if r.length = 1 then (spl 44 (r.getD 0 [])).map num else []⟩
    else ac0
def tcand (s : List UInt8) : Ac := tcandW (spl 32 s)
/-- What the document makes of them. -/
def rcandW (l : List (List UInt8)) : Ac :=
  if l.getD 0 [] = wStep then ⟨2, rnum (l.getD 1 []), 0, 0, [], []⟩
  else if l.getD 0 [] = wSave then ⟨3, 0, 0, 0, [], []⟩
  else if l.getD 0 [] = wClose then ⟨5, 0, 0, 0, [], []⟩
  else if l.getD 0 [] = wCrash then ⟨4, 0, 0, 0, [], if l.getD 1 [] = [] then [] else (spl 44 (l.getD 1 [])).map rnum⟩
  else if kN (l.getD 0 []) > 0 then ⟨1, rnum (l.getD 1 []), kN (l.getD 0 []), rnum (l.getD 2 []), if l.getD 0 [] = wWrite then rbytes (l.getD 3 []) else [], []⟩
  else ac0
def rcand (s : List UInt8) : Ac := rcandW (spl 32 s)
theorem kN_W {k : Int} (h : kW k ≠ []) : kN (kW k) = k ∧ k > 0 := by
  unfold kW at h ⊢
  split
  · rename_i h1; subst h1; exact ⟨by rfl, by decide⟩
  · split
    · rename_i h1; subst h1; exact ⟨by rfl, by decide⟩
    · split
      · rename_i h1; subst h1; exact ⟨by rfl, by decide⟩
      · split
        · rename_i h1; subst h1; exact ⟨by rfl, by decide⟩
        · rename_i a b c d
          rw [if_neg a, if_neg b, if_neg c, if_neg d] at h
          exact absurd rfl h
theorem kW_cases {k : Int} (h : kW k ≠ []) : k = 1 ∨ k = 2 ∨ k = 3 ∨ k = 4 := by
  unfold kW at h
  split at h
  · omega
  · split at h
    · omega
    · split at h
      · omega
      · split at h
        · omega
        · exact absurd rfl h
theorem itoa_32 (n : Int) : (32 : UInt8) ∉ Lib.itoa n := itoa_no (by decide) (by decide)
theorem itoa_44 (n : Int) : (44 : UInt8) ∉ Lib.itoa n := itoa_no (by decide) (by decide)
theorem joinW_no {c d : UInt8} (hcd : c ≠ d) : ∀ {ws : List (List UInt8)}, (∀ w ∈ ws, c ∉ w) → c ∉ joinW d ws
  | [], _ => by simp [joinW]
  | [w], h => h w List.mem_cons_self
  | w :: v :: ws, h => by
    rw [joinW]
    simp only [List.mem_append, List.mem_cons, not_or]
    exact ⟨h w List.mem_cons_self, hcd, joinW_no hcd (fun x hx => h x (List.mem_cons_of_mem _ hx))⟩
theorem joinW_ne {c : UInt8} {ws : List (List UInt8)} (h : ws ≠ []) (h2 : ∀ w ∈ ws, w ≠ []) : joinW c ws ≠ [] := by
  match ws, h with
  | [w], _ => exact h2 w List.mem_cons_self
  | w :: v :: ws, _ =>
    rw [joinW]
    intro e
    have := (List.append_eq_nil_iff.1 e).2
    cases this
theorem map_num {l : List Int} (h : l.all fit = true) : (l.map Lib.itoa).map num = l ∧ (l.map Lib.itoa).map rnum = l := by
  induction l with
  | nil => exact ⟨rfl, rfl⟩
  | cons n l ih =>
    rw [List.all_cons, Bool.and_eq_true] at h
    have hn := fit_iff.1 h.1
    have := ih h.2
    simp only [List.map_cons]
    rw [num_itoa hn, rnum_itoa hn, this.1, this.2]
    exact ⟨rfl, rfl⟩
/-- The words of a line. -/
theorem line_words {a : Ac} (h : tline a ≠ []) : (∃ ws, spl 32 (tline a) = ws ∧ tcandW ws = a ∧ rcandW ws = a) := by
  obtain ⟨k, n, ck, cb, cd, kp⟩ := a
  refine ⟨_, rfl, ?_⟩
  unfold tline at h ⊢
  dsimp only at h ⊢
  split at h
  · exact absurd rfl h
  rename_i hf
  rw [if_neg hf]
  have hn := fit_iff.1 (by simpa using hf)
  split at h
  · rename_i hk
    rw [if_pos hk]
    subst hk
    split at h
    · rename_i hc
      rw [if_pos hc]
      obtain ⟨rfl, hc⟩ := hc
      unfold cRight at hc
      obtain ⟨c1, c2, c3, c4⟩ := of_decide_eq_true hc
      have hb := fit_iff.1 c3
      have hx := hex_no cd
      have hu : unhxS (hexL cd) = cd := by unfold unhxS; rw [unhx_hex]; rfl
      have hr := rbytes_hex cd
      rcases kW_cases c1 with rfl | rfl | rfl | rfl
      · rw [if_neg (by decide)] at c2
        obtain rfl := List.length_eq_zero_iff.1 c2
        rw [show cWs 1 cb [] [Lib.itoa n] = [wRead, Lib.itoa n, Lib.itoa cb] from rfl, spl_join (by simp) (by
          intro w hw
          simp only [List.mem_cons, List.not_mem_nil, or_false] at hw
          rcases hw with rfl | rfl | rfl
          · decide
          · exact itoa_32 n
          · exact itoa_32 cb)]
        constructor
        · show (⟨1, num (Lib.itoa n), 1, num (Lib.itoa cb), [], []⟩ : Ac) = _
          rw [num_itoa hn, num_itoa hb]
        · show (⟨1, rnum (Lib.itoa n), 1, rnum (Lib.itoa cb), [], []⟩ : Ac) = _
          rw [rnum_itoa hn, rnum_itoa hb]
      · rw [show cWs 2 cb cd [Lib.itoa n] = [wWrite, Lib.itoa n, Lib.itoa cb, hexL cd] from rfl, spl_join (by simp) (by
          intro w hw
          simp only [List.mem_cons, List.not_mem_nil, or_false] at hw
          rcases hw with rfl | rfl | rfl | rfl
          · decide
          · exact itoa_32 n
          · exact itoa_32 cb
          · exact hx.1)]
        constructor
        · show (⟨1, num (Lib.itoa n), 2, num (Lib.itoa cb), unhxS (hexL cd), []⟩ : Ac) = _
          rw [num_itoa hn, num_itoa hb, hu]
        · show (⟨1, rnum (Lib.itoa n), 2, rnum (Lib.itoa cb), rbytes (hexL cd), []⟩ : Ac) = _
          rw [rnum_itoa hn, rnum_itoa hb, hr]
      · rw [if_neg (by decide)] at c2
        obtain rfl := List.length_eq_zero_iff.1 c2
        rw [show cWs 3 cb [] [Lib.itoa n] = [wTrim, Lib.itoa n, Lib.itoa cb] from rfl, spl_join (by simp) (by
          intro w hw
          simp only [List.mem_cons, List.not_mem_nil, or_false] at hw
          rcases hw with rfl | rfl | rfl
          · decide
          · exact itoa_32 n
          · exact itoa_32 cb)]
        constructor
        · show (⟨1, num (Lib.itoa n), 3, num (Lib.itoa cb), [], []⟩ : Ac) = _
          rw [num_itoa hn, num_itoa hb]
        · show (⟨1, rnum (Lib.itoa n), 3, rnum (Lib.itoa cb), [], []⟩ : Ac) = _
          rw [rnum_itoa hn, rnum_itoa hb]
      · rw [if_neg (by decide)] at c2
        obtain rfl := List.length_eq_zero_iff.1 c2
        obtain rfl : cb = 0 := c4.resolve_left (fun h => h rfl)
        rw [show cWs 4 0 [] [Lib.itoa n] = [wFlush, Lib.itoa n] from rfl, spl_join (by simp) (by
          intro w hw
          simp only [List.mem_cons, List.not_mem_nil, or_false] at hw
          rcases hw with rfl | rfl
          · decide
          · exact itoa_32 n)]
        constructor
        · show (⟨1, num (Lib.itoa n), 4, 0, [], []⟩ : Ac) = _
          rw [num_itoa hn]
        · show (⟨1, rnum (Lib.itoa n), 4, rnum [], [], []⟩ : Ac) = _
          rw [rnum_itoa hn]
          rfl
    · exact absurd rfl h
  rename_i hk
  rw [if_neg hk]
  split at h
  · exact absurd rfl h
  rename_i hcm
  rw [if_neg hcm]
  obtain ⟨rfl, rfl, rfl⟩ := Classical.not_not.1 hcm
  split at h
  · rename_i hk4
    subst hk4
    rw [if_pos rfl]
    split at h
    · rename_i hc
      rw [if_pos hc]
      obtain ⟨rfl, _, hall⟩ := hc
      have hm := map_num hall
      cases kp with
      | nil => exact ⟨by rfl, by rfl⟩
      | cons x kp =>
        rw [if_neg (by simp)]
        have hj : joinW 44 ((x :: kp).map Lib.itoa) ≠ [] := joinW_ne (by simp) (by
          intro w hw
          obtain ⟨y, _, rfl⟩ := List.mem_map.1 hw
          exact itoa_ne y)
        have hs : spl 44 (joinW 44 ((x :: kp).map Lib.itoa)) = (x :: kp).map Lib.itoa := spl_join (by simp) (by
          intro w hw
          obtain ⟨y, _, rfl⟩ := List.mem_map.1 hw
          exact itoa_44 y)
        have h32 : (32 : UInt8) ∉ joinW 44 ((x :: kp).map Lib.itoa) := joinW_no (by decide) (by
          intro w hw
          obtain ⟨y, _, rfl⟩ := List.mem_map.1 hw
          exact itoa_32 y)
        generalize joinW 44 ((x :: kp).map Lib.itoa) = J at hj hs h32
        rw [spl_join (by simp) (by
          intro w hw
          simp only [List.mem_cons, List.not_mem_nil, or_false] at hw
          rcases hw with rfl | rfl
          · decide
          · exact h32)]
        constructor
        · show (⟨4, 0, 0, 0, [], (spl 44 J).map num⟩ : Ac) = _
          rw [hs, hm.1]
        · show (⟨4, 0, 0, 0, [], if J = [] then [] else (spl 44 J).map rnum⟩ : Ac) = _
          rw [if_neg hj, hs, hm.2]
    · exact absurd rfl h
  rename_i hk4
  rw [if_neg hk4]
  split at h
  · exact absurd rfl h
  rename_i hkp
  rw [if_neg hkp]
  obtain rfl := Classical.not_not.1 hkp
  split at h
  · rename_i hk2
    subst hk2
    rw [if_pos rfl, spl_join (by simp) (by
      intro w hw
      simp only [List.mem_cons, List.not_mem_nil, or_false] at hw
      rcases hw with rfl | rfl
      · decide
      · exact itoa_32 n)]
    constructor
    · show (⟨2, num (Lib.itoa n), 0, 0, [], []⟩ : Ac) = _
      rw [num_itoa hn]
    · show (⟨2, rnum (Lib.itoa n), 0, 0, [], []⟩ : Ac) = _
      rw [rnum_itoa hn]
  rename_i hk2
  rw [if_neg hk2]
  split at h
  · exact absurd rfl h
  rename_i hn0
  rw [if_neg hn0]
  obtain rfl := Classical.not_not.1 hn0
  split at h
  · rename_i hk3
    subst hk3
    rw [if_pos rfl]
    exact ⟨by rfl, by rfl⟩
  rename_i hk3
  rw [if_neg hk3]
  split at h
  · rename_i hk5
    subst hk5
    rw [if_pos rfl]
    exact ⟨by rfl, by rfl⟩
  · exact absurd rfl h
theorem tcand_line {a : Ac} (h : tline a ≠ []) : tcand (tline a) = a := by
  obtain ⟨ws, h1, h2, h3⟩ := line_words h
  unfold tcand
  rw [h1, h2]
theorem rcand_line {a : Ac} (h : tline a ≠ []) : rcand (tline a) = a := by
  obtain ⟨ws, h1, h2, h3⟩ := line_words h
  unfold rcand
  rw [h1, h3]
theorem line_k {a : Ac} (h : tline a ≠ []) : a.k ≠ 0 := by
  intro h0
  apply h
  unfold tline
  rw [h0]
  split
  · rfl
  · rw [if_neg (by decide)]
    split
    · rfl
    · rw [if_neg (by decide)]
      split
      · rfl
      · rw [if_neg (by decide)]
        split
        · rfl
        · rw [if_neg (by decide), if_neg (by decide)]
/-- How a line is read. -/
def tread (s : List UInt8) : Ac × Int := if s ≠ [] ∧ tline (tcand s) = s then (tcand s, 0) else (ac0, 18)
def rread (s : List UInt8) : Ac × Int := if (rcand s).k ≠ 0 ∧ tline (rcand s) = s then (rcand s, 0) else (ac0, 18)
theorem read_same (s : List UInt8) : tread s = rread s := by
  unfold tread rread
  by_cases h : s ≠ [] ∧ tline (tcand s) = s
  · have hne : tline (tcand s) ≠ [] := by rw [h.2]; exact h.1
    have hr := rcand_line hne
    rw [h.2] at hr
    rw [if_pos h, hr, if_pos ⟨line_k hne, h.2⟩]
  · rw [if_neg h]
    split
    · rename_i h2
      exfalso
      have hne : tline (rcand s) ≠ [] := by
        intro e
        have hs : s = [] := by rw [← h2.2, e]
        subst hs
        exact h2.1 (by rfl)
      have ht := tcand_line hne
      rw [h2.2] at ht
      refine h ⟨fun e => hne (by rw [h2.2, e]), ?_⟩
      rw [ht, h2.2]
    · rfl
theorem read_line {a : Ac} (h : tline a ≠ []) : tread (tline a) = (a, 0) := by
  unfold tread
  rw [tcand_line h, if_pos ⟨h, rfl⟩]
end Go.Proofs.YtccplchebbkliaaDoor.Ab
