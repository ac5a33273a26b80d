/- What calls, builds and every operation depend on. No condition. -/
import Derived.Test.YtikchieadclbhaaGreatDoorZ16
namespace Go.Proofs.YtikchieadclbhaaGreatDoor.Ab
set_option linter.unusedVariables false
set_option linter.unusedSimpArgs false
open Go.RowKit

section
variable {P : Program} {T : Nat → TI} {H : Nat → Blk} {K : Kont} {n : Nat} {dst : Option Tmp}

theorem rp_ids (m : Nat) : ∀ {d : Nat} {K : List (Nat × Nat) → Prop}, idsK H d m K → ∃ l, K l ∧ ∀ (H' : Nat → Blk) (K' : List (Nat × Nat) → Prop), (∀ b ∈ List.range' d m, H' b = H b) → K' l → idsK H' d m K' := by
  induction m with
  | zero => intro d K h; exact ⟨_, h, fun H' K' _ hk => hk⟩
  | succ m ih =>
    intro d K h
    simp only [idsK, genK_eq] at h
    obtain ⟨l, h1, h2⟩ := ih h
    refine ⟨_, h1, fun H' K' hd hk => ?_⟩
    simp only [idsK, genK_eq]
    rw [hd d (by simp [List.range'_succ])]
    exact h2 H' _ (fun b hb => hd b (by rw [List.range'_succ]; exact List.mem_cons_of_mem _ hb)) hk

theorem rp_after {d : Nat} {bs : List Blk} {res : AT} {rd : List Nat} {fz : List (Nat × Blk)} (h : afterCall H d bs res rd fz K) : ∃ r u d', K r u d' ∧ (∀ b ∈ rd, b ∈ d') ∧ ∀ (H' : Nat → Blk) (K' : Kont), (∀ b ∈ d', H' b = H b) → K' r u d' → afterCall H' d bs res rd fz K' := by
  unfold afterCall at h
  split at h
  · exact ⟨_, _, _, h, fun b hb => hb, fun H' K' hd hk => hk⟩
  · rename_i hne
    obtain ⟨ids, h3, h4⟩ := rp_ids _ h
    refine ⟨_, _, _, h3, fun b hb => List.mem_append_left _ hb, fun H' K' hd hk => ?_⟩
    have hfin := h4 H' (fun l => K' (relocT (idsF l) res) (fz ++ updsL bs l) (rd ++ List.range' d bs.length)) (fun b hb => hd b (List.mem_append_right _ hb)) hk
    unfold afterCall
    cases bs with
    | nil => exact (hne rfl).elim
    | cons B bs => exact hfin

theorem rp_call {f : FuncId} {l : List AT} (h : effCall P H n dst f l K) : ∃ r u d, K r u d ∧ ∀ (H' : Nat → Blk) (K' : Kont), (∀ b ∈ d, H' b = H b) → K' r u d → effCall P H' n dst f l K' := by
  unfold effCall at h
  split at h
  · exact h.elim
  rename_i d
  obtain ⟨az, t, rd, hA, bs, res, hF, h⟩ := argsIK_iff.1 h
  split at h
  · exact h.elim
  rename_i hc
  have done : ∀ {r u d'}, (∀ b ∈ rd, b ∈ d') → ∀ (H' : Nat → Blk) (K' : Kont), (∀ b ∈ d', H' b = H b) → (match t with
      | .no => afterCall H' d bs res rd [] K'
      | .rows => match scT res && bs.isEmpty with
        | true => K' res [] rd
        | false => frzK H' rd fun fz => afterCall H' d bs res rd fz K'
      | .vars => match scT res && bs.isEmpty with
        | true => K' res [] rd
        | false => False) → K' r u d' → effCall P H' n (some d) f l K' := by
    intro r u d' hsub H' K' hd hm _
    unfold effCall
    dsimp only
    refine argsIK_iff.2 ⟨az, t, rd, hA.congr (fun b hb => hd b (hsub b hb)), bs, res, hF, ?_⟩
    rw [hc]
    exact hm
  cases t with
  | no =>
    dsimp only at h
    obtain ⟨r, u, d', h1, h2, h3⟩ := rp_after h
    exact ⟨r, u, d', h1, fun H' K' hd hk => done h2 H' K' hd (h3 H' K' hd hk) hk⟩
  | rows =>
    dsimp only at h
    split at h
    · rename_i hsc
      exact ⟨_, _, _, h, fun H' K' hd hk => done (fun b hb => hb) H' K' hd (by dsimp only; rw [hsc]; exact hk) hk⟩
    · rename_i hsc
      rw [frzK_eq] at h
      obtain ⟨r, u, d', h1, h2, h3⟩ := rp_after h
      refine ⟨r, u, d', h1, fun H' K' hd hk => done h2 H' K' hd ?_ hk⟩
      dsimp only
      rw [hsc]
      dsimp only
      rw [frzK_eq, frz_congr rd (fun b hb => hd b (h2 b hb))]
      exact h3 H' K' hd hk
  | vars =>
    dsimp only at h
    split at h
    · rename_i hsc
      exact ⟨_, _, _, h, fun H' K' hd hk => done (fun b hb => hb) H' K' hd (by dsimp only; rw [hsc]; exact hk) hk⟩
    · exact h.elim

theorem rp_callP {f : FuncId} {b g : Nat} {l : List AT} (h : effCallP P H f b g l K) : ∃ r u d, K r u d ∧ ∀ (H' : Nat → Blk) (K' : Kont), (∀ b ∈ d, H' b = H b) → K' r u d → effCallP P H' f b g l K' := by
  unfold effCallP at h
  split at h
  case h_2 => exact h.elim
  rename_i g' cs hb
  obtain ⟨rfl, h⟩ := h
  obtain ⟨cs0, t0, d0, hA0, h⟩ := cellsIK_iff.1 h
  obtain ⟨az, t, rd, hA, cs', res, hF, h⟩ := argsIK_iff.1 h
  split at h
  · exact h.elim
  rename_i hc
  have done : ∀ {u d'}, (∀ b ∈ d0 ++ rd, b ∈ d') → b ∈ d' → ∀ (H' : Nat → Blk) (K' : Kont), (∀ b ∈ d', H' b = H b) → (match t0.join t with
      | .no => K' res [(b, .var g' cs')] (b :: (d0 ++ rd))
      | .rows => frzK H' (d0 ++ rd) fun fz => K' res (fz ++ [(b, .var g' cs')]) (b :: (d0 ++ rd))
      | .vars => False) → K' res u d' → effCallP P H' f b g' l K' := by
    intro u d' hsub hbm H' K' hd hm _
    unfold effCallP
    rw [hd b hbm, hb]
    refine ⟨rfl, cellsIK_iff.2 ⟨cs0, t0, d0, hA0.congr (fun c hc => hd c (hsub c (List.mem_append_left _ hc))), argsIK_iff.2 ⟨az, t, rd, hA.congr (fun c hc => hd c (hsub c (List.mem_append_right _ hc))), cs', res, hF, ?_⟩⟩⟩
    rw [hc]
    exact hm
  generalize ht : t0.join t = tt at h
  cases tt with
  | no =>
    refine ⟨_, _, _, h, fun H' K' hd hk => done (fun c hc => List.mem_cons_of_mem _ hc) List.mem_cons_self H' K' hd (by rw [ht]; exact hk) hk⟩
  | rows =>
    dsimp only at h
    rw [frzK_eq] at h
    refine ⟨_, _, _, h, fun H' K' hd hk => done (fun c hc => List.mem_cons_of_mem _ hc) List.mem_cons_self H' K' hd ?_ hk⟩
    rw [ht]
    dsimp only
    rw [frzK_eq, frz_congr _ (fun b hb => hd b (List.mem_cons_of_mem _ hb))]
    exact hk
  | vars => exact h.elim

theorem rp_callPR {f : FuncId} {x : AT} {l : List AT} (h : effCallPR P H n dst f x l K) : ∃ r u d, K r u d ∧ ∀ (H' : Nat → Blk) (K' : Kont), (∀ b ∈ d, H' b = H b) → K' r u d → effCallPR P H' n dst f x l K' := by
  unfold effCallPR at h
  split at h
  · exact h.elim
  rename_i d
  split at h
  case h_2 => exact h.elim
  rename_i b g off
  split at h
  case h_2 => exact h.elim
  rename_i g' cs hb
  obtain ⟨rfl, rfl, h⟩ := h
  obtain ⟨cs0, t0, d0, hA0, hx2⟩ := cellsIK_iff.1 h
  clear h
  obtain ⟨az, t, rd, hA, cs', E, sz, es, hF, h⟩ := argsIK_iff.1 hx2
  clear hx2
  split at h
  · exact h.elim
  rename_i hc
  split at h
  case h_2 => exact h.elim
  rename_i ht
  rw [genK_eq] at h
  refine ⟨_, _, _, h, fun H' K' hd hk => ?_⟩
  unfold effCallPR
  dsimp only
  rw [hd b List.mem_cons_self, hb]
  have hsub : ∀ c ∈ d0 ++ rd, H' c = H c := fun c hc => hd c (List.mem_cons_of_mem _ (List.mem_cons_of_mem _ hc))
  refine ⟨rfl, rfl, cellsIK_iff.2 ⟨cs0, t0, d0, hA0.congr (fun c hc => hsub c (List.mem_append_left _ hc)), argsIK_iff.2 ⟨az, t, rd, hA.congr (fun c hc => hsub c (List.mem_append_right _ hc)), cs', E, sz, es, hF, ?_⟩⟩⟩
  rw [hc, ht]
  dsimp only
  rw [genK_eq, hd d (List.mem_cons_of_mem _ List.mem_cons_self)]
  exact hk

theorem rp_callA {f : FuncId} {x : AT} {l : List AT} (h : effCallA P H n dst f x l K) : ∃ r u d, K r u d ∧ ∀ (H' : Nat → Blk) (K' : Kont), (∀ b ∈ d, H' b = H b) → K' r u d → effCallA P H' n dst f x l K' := by
  unfold effCallA at h
  split at h
  · rename_i b g
    split at h
    case h_2 => exact h.elim
    rename_i g' E sz es hb
    obtain ⟨rfl, h⟩ := h
    obtain ⟨az, t, rd, hA, es', hF, hsc, h⟩ := argsIK_iff.1 h
    split at h
    · exact h.elim
    rename_i hrd
    refine ⟨_, _, _, h, fun H' K' hd hk => ?_⟩
    unfold effCallA
    dsimp only
    rw [hd b List.mem_cons_self, hb]
    refine ⟨rfl, argsIK_iff.2 ⟨az, t, rd, hA.congr (fun c hc => hd c (List.mem_cons_of_mem _ hc)), es', hF, hsc, ?_⟩⟩
    rw [hrd]
    exact hk
  · split at h
    · exact h.elim
    rename_i d
    split at h
    case h_2 => exact h.elim
    rename_i hlt
    obtain ⟨az, t, rd, hA, E, sz, es', hF, hsc, h⟩ := argsIK_iff.1 h
    rw [genK_eq] at h
    refine ⟨_, _, _, h, fun H' K' hd hk => ?_⟩
    unfold effCallA
    dsimp only
    rw [hlt]
    refine argsIK_iff.2 ⟨az, t, rd, hA.congr (fun c hc => hd c (List.mem_cons_of_mem _ hc)), E, sz, es', hF, hsc, ?_⟩
    rw [genK_eq, hd d List.mem_cons_self]
    exact hk
  · exact h.elim

theorem rp_callS {f : FuncId} {x : AT} {l : List AT} (h : effCallS P H f x l K) : ∃ r u d, K r u d ∧ ∀ (H' : Nat → Blk) (K' : Kont), (∀ b ∈ d, H' b = H b) → K' r u d → effCallS P H' f x l K' := by
  unfold effCallS at h
  split at h
  · rename_i b g
    split at h
    case h_2 => exact h.elim
    rename_i g' E sz es hb
    obtain ⟨rfl, h⟩ := h
    obtain ⟨az, t, rd, hA, es', hF, hsc, h⟩ := argsIK_iff.1 h
    split at h
    · exact h.elim
    rename_i hrd
    refine ⟨_, _, _, h, fun H' K' hd hk => ?_⟩
    unfold effCallS
    dsimp only
    rw [hd b List.mem_cons_self, hb]
    refine ⟨rfl, argsIK_iff.2 ⟨az, t, rd, hA.congr (fun c hc => hd c (List.mem_cons_of_mem _ hc)), es', hF, hsc, ?_⟩⟩
    rw [hrd]
    exact hk
  · exact h.elim

theorem fillA_congr {place : Nat → Option (Nat × Nat)} {ρ ρ' : Operand → AT} (l : List (Nat × Operand)) (h : ∀ p ∈ l, ρ' p.2 = ρ p.2) : ∀ cs, fillA place ρ' l cs = fillA place ρ l cs := by
  induction l with
  | nil => intro cs; rfl
  | cons p l ih =>
    intro cs
    obtain ⟨i, x⟩ := p
    simp only [fillA]
    have hx : ρ' x = ρ x := h (i, x) List.mem_cons_self
    have ih' := ih (fun p hp => h p (List.mem_cons_of_mem _ hp))
    simp only [hx, ih']

theorem rp_build {ρ : Operand → AT} {t : Nat} {ps : Array (Nat × Operand)} (h : effBuild T ρ t ps K) : ∃ r u d, K r u d ∧ ∀ (ρ' : Operand → AT) (K' : Kont), (∀ p ∈ ps.toList, ρ' p.2 = ρ p.2) → K' r u d → effBuild T ρ' t ps K' := by
  unfold effBuild at h
  split at h
  case h_3 => exact h.elim
  · rename_i fs hs
    split at h
    case h_2 => exact h.elim
    rename_i hall
    split at h
    case h_2 => exact h.elim
    rename_i cs hf
    rw [lay_eq] at h
    refine ⟨_, _, _, h, fun ρ' K' hp hk => ?_⟩
    unfold effBuild
    simp only [hs, hall]
    rw [fillA_congr _ hp, hf]
    simp only [lay_eq]
    exact hk
  · rename_i m e hs
    split at h
    · exact h.elim
    rename_i hke
    split at h
    case h_2 => exact h.elim
    rename_i cs hf
    rw [lay_eq] at h
    refine ⟨_, _, _, h, fun ρ' K' hp hk => ?_⟩
    unfold effBuild
    simp only [hs]
    have hfin : (match fillA (fun i => some (i * (T e).size, (T e).size)) ρ' ps.toList (T t).zero with
      | some cs => lay cs fun cs => K' (.v (.agg cs)) [] []
      | none => False) := by
      rw [fillA_congr _ hp, hf]
      simp only [lay_eq]
      exact hk
    first
      | exact hfin
      | (split
         · rename_i e; exact (hke e).elim
         · exact hfin)

theorem rp_buildSlice {ρ : Operand → AT} {t len : Nat} {ps : Array (Nat × Operand)} (h : effBuildSlice T H n dst ρ t len ps K) :
    ∃ r u d, K r u d ∧ ∀ (ρ' : Operand → AT) (H' : Nat → Blk) (K' : Kont), (∀ p ∈ ps.toList, ρ' p.2 = ρ p.2) → (∀ b ∈ d, H' b = H b) → K' r u d → effBuildSlice T H' n dst ρ' t len ps K' := by
  unfold effBuildSlice at h
  split at h
  case h_2 => exact h.elim
  rename_i e hs
  split at h
  · exact h.elim
  rename_i hke
  split at h
  · exact h.elim
  rename_i d
  split at h
  case h_2 => exact h.elim
  rename_i c1 c2 c3
  split at h
  case h_2 => exact h.elim
  rename_i cs hf
  split at h
  case h_2 => exact h.elim
  rename_i zs hz
  rw [lay_eq, genK_eq] at h
  refine ⟨_, _, _, h, fun ρ' H' K' hp hd hk => ?_⟩
  unfold effBuildSlice
  simp only [hs]
  have hfin : (match Nat.blt d n && Nat.ble e 999999, Nat.ble (len * (T e).size) 16777216, Nat.ble 1 (T e).size with
        | true, true, true => match fillA (fun i => some (i * (T e).size, (T e).size)) ρ' ps.toList ((List.replicate len (T e).zero).flatten) with
          | some cs => match allI cs with
            | some zs => lay (rowsOf (T e).size len zs) fun es => genK (H' d) fun g => K' (.v (.c (.own d (g + 1)))) [(d, .row (g + 1) e (T e).size es)] [d]
            | none => False
          | none => False
        | _, _, _ => False) := by
    rw [c1, c2, c3]
    dsimp only
    rw [fillA_congr _ hp, hf]
    dsimp only
    rw [hz]
    dsimp only
    rw [lay_eq, genK_eq, hd d (by simp)]
    exact hk
  first
    | exact hfin
    | (split
       · rename_i e; exact (hke e).elim
       · exact hfin)

/-- Every operation. -/
theorem rp_eqFs {E : Nat → List AV1 → List AV1 → (Bool → Prop) → Prop} (hE : ∀ {t xs ys Kb}, E t xs ys Kb → ∃ b, Kb b ∧ ∀ K' : Bool → Prop, K' b → E t xs ys K') (fs : List (Nat × Nat)) : ∀ {xs ys : List AV1} {Kb : Bool → Prop}, eqFs T E fs xs ys Kb →
    ∃ b, Kb b ∧ ∀ K' : Bool → Prop, K' b → eqFs T E fs xs ys K' := by
  induction fs with
  | nil => intro xs ys Kb h; exact ⟨true, h, fun K' h => h⟩
  | cons f fs ih =>
    intro xs ys Kb h
    obtain ⟨b, h1, h2⟩ := hE h
    obtain ⟨c, h3, h4⟩ := ih h1
    exact ⟨_, h3, fun K' hk => h2 _ (h4 _ hk)⟩
theorem rp_eqK (d : Nat) : ∀ {t : Nat} {xs ys : List AV1} {Kb : Bool → Prop}, eqK T d t xs ys Kb → ∃ b, Kb b ∧ ∀ K' : Bool → Prop, K' b → eqK T d t xs ys K' := by
  induction d with
  | zero => intro t xs ys Kb h; exact h.elim
  | succ d ih =>
    intro t xs ys Kb h
    unfold eqK at h ⊢
    split at h
    · split at h
      · split at h
        · exact ⟨_, h, fun K' hk => hk⟩
        · exact h.elim
      · exact h.elim
    · split at h
      · exact ⟨_, h, fun K' hk => hk⟩
      · exact h.elim
    · split at h
      · exact ⟨_, h, fun K' hk => hk⟩
      · exact h.elim
    · split at h
      · rename_i hs
        obtain ⟨b, h1, h2⟩ := rp_eqFs (fun h => ih h) _ h
        exact ⟨b, h1, fun K' hk => h2 K' hk⟩
      · exact h.elim
    · exact h.elim

theorem rp_eff {ρ : Operand → AT} {op : Op} (h : eff T P n dst ρ H K op) : ∃ r u d, K r u d ∧ ∀ (ρ' : Operand → AT) (H' : Nat → Blk) (K' : Kont), (∀ x ∈ op.operands.toList, ρ' x = ρ x) → (∀ b ∈ d, H' b = H b) → K' r u d → eff T P n dst ρ' H' K' op := by
  unfold eff at h
  split at h
  · rename_i x; exact ⟨_, _, _, h, fun ρ' H' K' hp hd hk => by simp only [eff]; rw [hp x (by simp [Op.operands])]; exact hk⟩
  · rename_i x; exact ⟨_, _, _, h, fun ρ' H' K' hp hd hk => by simp only [eff]; rw [hp x (by simp [Op.operands])]; exact hk⟩
  · rename_i c x y
    have : ∃ r, K r [] [] ∧ ∀ K' : Kont, K' r [] [] → effPick (ρ c) (ρ x) (ρ y) K' := by
      unfold effPick at h
      split at h
      · rename_i t hc
        cases t with
        | true => exact ⟨_, h, fun K' hk => by unfold effPick; rw [hc]; exact hk⟩
        | false => exact ⟨_, h, fun K' hk => by unfold effPick; rw [hc]; exact hk⟩
      · rename_i hc; exact ⟨_, h, fun K' hk => by unfold effPick; rw [hc]; exact hk⟩
      · rename_i hc; exact ⟨_, h, fun K' hk => by unfold effPick; rw [hc]; exact hk⟩
      · exact h.elim
    obtain ⟨r, h1, h2⟩ := this
    exact ⟨_, _, _, h1, fun ρ' H' K' hp hd hk => by simp only [eff]; rw [hp c (by simp [Op.operands]), hp x (by simp [Op.operands]), hp y (by simp [Op.operands])]; exact h2 K' hk⟩
  · obtain ⟨r, u, d, h1, h2⟩ := rp_alloc h
    exact ⟨_, _, _, h1, fun ρ' H' K' hp hd hk => by simp only [eff]; exact h2 H' K' hd hk⟩
  · rename_i x
    obtain ⟨r, u, d, h1, h2⟩ := rp_box h
    exact ⟨_, _, _, h1, fun ρ' H' K' hp hd hk => by simp only [eff]; rw [hp x (by simp [Op.operands])]; exact h2 H' K' hd hk⟩
  · rename_i x
    obtain ⟨r, u, d, h1, h2⟩ := rp_load h
    exact ⟨_, _, _, h1, fun ρ' H' K' hp hd hk => by simp only [eff]; rw [hp x (by simp [Op.operands])]; exact h2 H' K' hd hk⟩
  · rename_i x y
    split at h
    · obtain ⟨r, u, d, h1, h2⟩ := rp_store h
      exact ⟨_, _, _, h1, fun ρ' H' K' hp hd hk => by simp only [eff]; rw [hp x (by simp [Op.operands]), hp y (by simp [Op.operands])]; exact h2 H' K' hd hk⟩
    · exact h.elim
  · rename_i x
    have : ∃ r, K r [] [] ∧ ∀ K' : Kont, K' r [] [] → effNil (ρ x) K' := by
      unfold effNil at h
      split at h
      · rename_i hc; exact ⟨_, h, fun K' hk => by unfold effNil; rw [hc]; exact hk⟩
      · rename_i hc; exact ⟨_, h, fun K' hk => by unfold effNil; rw [hc]; exact hk⟩
      · rename_i hc; exact ⟨_, h, fun K' hk => by unfold effNil; rw [hc]; exact hk⟩
      · exact h.elim
    obtain ⟨r, h1, h2⟩ := this
    exact ⟨_, _, _, h1, fun ρ' H' K' hp hd hk => by simp only [eff]; rw [hp x (by simp [Op.operands])]; exact h2 K' hk⟩
  · rename_i s x f
    have : ∃ r, K r [] [] ∧ ∀ K' : Kont, K' r [] [] → effField T s (ρ x) f K' := by
      unfold effField at h
      split at h
      case h_2 => exact h.elim
      rename_i fs hs
      split at h
      case h_2 => exact h.elim
      rename_i oo ft hf
      have hk0 : ∀ K' : Kont, (match ρ x with
          | .v (.c (.ptr b g off)) => K' (.v (.c (.ptr b g (off + oo)))) [] []
          | .v (.c (.eptr b g sz k off)) => K' (.v (.c (.eptr b g sz k (off + oo)))) [] []
          | .v (.c (.pim cs)) => K' (.v (.c (.pim (cs.drop oo)))) [] []
          | _ => False) → (T ft).k ≠ .none → Nat.ble 1 (T ft).size = true → effField T s (ρ x) f K' := by
        intro K' hm hne hb
        unfold effField
        simp only [hs, hf, hb]
        first
          | exact hm
          | (split <;> first | exact hm | (exfalso; simp_all; done) | contradiction)
      split at h
      · exact h.elim
      case h_3 => exact h.elim
      rename_i hb hne
      split at h
      · rename_i hx; exact ⟨_, h, fun K' hk => hk0 K' (by rw [hx]; exact hk) hne hb⟩
      · rename_i hx; exact ⟨_, h, fun K' hk => hk0 K' (by rw [hx]; exact hk) hne hb⟩
      · rename_i hx; exact ⟨_, h, fun K' hk => hk0 K' (by rw [hx]; exact hk) hne hb⟩
      · exact h.elim
    obtain ⟨r, h1, h2⟩ := this
    exact ⟨_, _, _, h1, fun ρ' H' K' hp hd hk => by simp only [eff]; rw [hp x (by simp [Op.operands])]; exact h2 K' hk⟩
  · rename_i x i
    obtain ⟨r, u, d, h1, h2⟩ := rp_index h
    exact ⟨_, _, _, h1, fun ρ' H' K' hp hd hk => by simp only [eff]; rw [hp x (by simp [Op.operands]), hp i (by simp [Op.operands])]; exact h2 H' K' hd hk⟩
  · rename_i x j
    have : ∃ r, K r [] [] ∧ ∀ K' : Kont, K' r [] [] → effExtract (ρ x) j K' := by
      unfold effExtract at h
      split at h
      case h_2 => exact h.elim
      rename_i xs hx
      split at h
      case h_2 => exact h.elim
      rename_i y hy
      exact ⟨_, h, fun K' hk => by unfold effExtract; rw [hx]; dsimp only; rw [hy]; exact hk⟩
    obtain ⟨r, h1, h2⟩ := this
    exact ⟨_, _, _, h1, fun ρ' H' K' hp hd hk => by simp only [eff]; rw [hp x (by simp [Op.operands])]; exact h2 K' hk⟩
  · rename_i op t x y yt
    have : ∃ r, K r [] [] ∧ ∀ K' : Kont, K' r [] [] → effBin T op t (ρ x) (ρ y) K' := by
      unfold effBin at h
      split at h
      · rename_i k m k' m' hx hy
        split at h
        · exact ⟨_, h.2, fun K' hk => by unfold effBin; rw [hx, hy]; exact ⟨h.1, hk⟩⟩
        · exact ⟨_, h.2, fun K' hk => by unfold effBin; rw [hx, hy]; exact ⟨h.1, hk⟩⟩
        · rename_i n1 n2
          split at h
          · rename_i hsk
            cases op <;> simp only [binInt] at h <;> first
              | exact h.elim
              | exact (n1 rfl).elim
              | exact (n2 rfl).elim
              | exact ⟨_, h.2, fun K' hk => by unfold effBin; rw [hx, hy]; dsimp only; rw [hsk]; exact ⟨h.1, hk⟩⟩
              | exact ⟨_, h, fun K' hk => by unfold effBin; rw [hx, hy]; dsimp only; rw [hsk]; exact hk⟩
          · exact h.elim
      · rename_i m m' hx hy
        split at h
        case h_2 => exact h.elim
        rename_i hs
        split at h
        · exact ⟨_, h, fun K' hk => by unfold effBin; rw [hx, hy]; dsimp only; rw [hs]; exact hk⟩
        · exact ⟨_, h, fun K' hk => by unfold effBin; rw [hx, hy]; dsimp only; rw [hs]; exact hk⟩
        · exact h.elim
      · rename_i m m' hx hy
        split at h
        · exact ⟨_, h.2, fun K' hk => by unfold effBin; rw [hx, hy]; exact ⟨h.1, hk⟩⟩
        · exact ⟨_, h, fun K' hk => by unfold effBin; rw [hx, hy]; exact hk⟩
        · exact ⟨_, h, fun K' hk => by unfold effBin; rw [hx, hy]; exact hk⟩
        · exact h.elim
      · rename_i es hx hy
        split at h
        case h_2 => exact h.elim
        rename_i e hs
        split at h
        · exact ⟨_, h, fun K' hk => by unfold effBin; rw [hx, hy]; dsimp only; rw [hs]; exact hk⟩
        · exact ⟨_, h, fun K' hk => by unfold effBin; rw [hx, hy]; dsimp only; rw [hs]; exact hk⟩
        · exact ⟨_, h, fun K' hk => by unfold effBin; rw [hx, hy]; dsimp only; rw [hs]; exact hk⟩
        · exact ⟨_, h, fun K' hk => by unfold effBin; rw [hx, hy]; dsimp only; rw [hs]; exact hk⟩
        · exact h.elim
      · rename_i hx hy
        split at h
        case h_2 => exact h.elim
        rename_i e hs
        split at h
        · exact ⟨_, h, fun K' hk => by unfold effBin; rw [hx, hy]; dsimp only; rw [hs]; exact hk⟩
        · exact ⟨_, h, fun K' hk => by unfold effBin; rw [hx, hy]; dsimp only; rw [hs]; exact hk⟩
        · exact h.elim
      · rename_i xs ys hx hy
        split at h
        case h_2 => exact h.elim
        rename_i hs
        split at h
        · obtain ⟨b, h1, h2⟩ := rp_eqK 8 h
          exact ⟨_, h1, fun K' hk => by unfold effBin; rw [hx, hy]; dsimp only; rw [hs]; exact h2 _ hk⟩
        · obtain ⟨b, h1, h2⟩ := rp_eqK 8 h
          exact ⟨_, h1, fun K' hk => by unfold effBin; rw [hx, hy]; dsimp only; rw [hs]; exact h2 _ hk⟩
        · exact h.elim
      · exact h.elim
    obtain ⟨r, h1, h2⟩ := this
    exact ⟨_, _, _, h1, fun ρ' H' K' hp hd hk => by simp only [eff]; rw [hp x (by simp [Op.operands]), hp y (by simp [Op.operands])]; exact h2 K' hk⟩
  · rename_i op _ x
    have : ∃ r, K r [] [] ∧ ∀ K' : Kont, K' r [] [] → effUn op (ρ x) K' := by
      unfold effUn at h
      split at h
      · rename_i hx; exact ⟨_, h, fun K' hk => by unfold effUn; rw [hx]; exact hk⟩
      · rename_i hx; exact ⟨_, h, fun K' hk => by unfold effUn; rw [hx]; exact hk⟩
      · exact h.elim
    obtain ⟨r, h1, h2⟩ := this
    exact ⟨_, _, _, h1, fun ρ' H' K' hp hd hk => by simp only [eff]; rw [hp x (by simp [Op.operands])]; exact h2 K' hk⟩
  · rename_i s d x
    obtain ⟨r, u, d, h1, h2⟩ := rp_convN h
    exact ⟨_, _, _, h1, fun ρ' H' K' hp hd hk => by simp only [eff]; rw [hp x (by simp [Op.operands])]; exact h2 H' K' hd hk⟩
  · rename_i t x i
    obtain ⟨r, h1, h2⟩ := rp_indexV h
    exact ⟨_, _, _, h1, fun ρ' H' K' hp hd hk => by simp only [eff]; rw [hp x (by simp [Op.operands]), hp i (by simp [Op.operands])]; exact h2 K' hk⟩
  · rename_i s x f
    obtain ⟨r, h1, h2⟩ := rp_fieldV h
    exact ⟨_, _, _, h1, fun ρ' H' K' hp hd hk => by simp only [eff]; rw [hp x (by simp [Op.operands])]; exact h2 K' hk⟩
  · rename_i f l
    obtain ⟨ps, h1, h2⟩ := rp_caps _ h
    refine ⟨_, _, _, h1, fun ρ' H' K' hp hd hk => ?_⟩
    have e2 : l.map ρ' = l.map ρ := List.map_congr_left fun y hy => hp y (by simp [Op.operands, hy])
    simp only [eff]
    rw [e2]
    exact h2 _ hk
  · rename_i t x lo hi mx
    obtain ⟨r, u, d, h1, h2⟩ := rp_slice h
    refine ⟨_, _, _, h1, fun ρ' H' K' hp hd hk => ?_⟩
    simp only [eff]
    have e1 : lo.map ρ' = lo.map ρ := by cases lo with | none => rfl | some a => simp [hp a (by simp [Op.operands])]
    have e2 : hi.map ρ' = hi.map ρ := by cases hi with | none => rfl | some a => simp [hp a (by simp [Op.operands])]
    have e3 : mx.map ρ' = mx.map ρ := by cases mx with | none => rfl | some a => simp [hp a (by simp [Op.operands])]
    rw [hp x (by simp [Op.operands]), e1, e2, e3]
    exact h2 H' K' hd hk
  · rename_i t x i cok
    obtain ⟨r, u, d, h1, h2⟩ := rp_lookup h
    exact ⟨_, _, _, h1, fun ρ' H' K' hp hd hk => by simp only [eff]; rw [hp x (by simp [Op.operands]), hp i (by simp [Op.operands])]; exact h2 H' K' hd hk⟩
  · rename_i t l c
    obtain ⟨r, u, d, h1, h2⟩ := rp_make h
    exact ⟨_, _, _, h1, fun ρ' H' K' hp hd hk => by simp only [eff]; rw [hp l (by simp [Op.operands]), hp c (by simp [Op.operands])]; exact h2 H' K' hd hk⟩
  · rename_i t ps
    obtain ⟨r, u, d, h1, h2⟩ := rp_build h
    exact ⟨_, _, _, h1, fun ρ' H' K' hp hd hk => by simp only [eff]; exact h2 ρ' K' (fun p hp' => hp p.2 (by simp only [Op.operands]; exact List.mem_map_of_mem hp')) hk⟩
  · rename_i t len ps
    obtain ⟨r, u, d, h1, h2⟩ := rp_buildSlice h
    exact ⟨_, _, _, h1, fun ρ' H' K' hp hd hk => by simp only [eff]; exact h2 ρ' H' K' (fun p hp' => hp p.2 (by simp only [Op.operands]; exact List.mem_map_of_mem hp')) hd hk⟩
  · rename_i x t
    obtain ⟨r, u, d, h1, h2⟩ := rp_len h
    exact ⟨_, _, _, h1, fun ρ' H' K' hp hd hk => by simp only [eff]; rw [hp x (by simp [Op.operands, Call.operands])]; exact h2 H' K' hd hk⟩
  · rename_i x y t t'
    have : ∃ r, K r [] [] ∧ ∀ K' : Kont, K' r [] [] → effMin false (ρ x) (ρ y) K' := by
      unfold effMin at h
      split at h
      · rename_i hx hy; exact ⟨_, h, fun K' hk => by unfold effMin; rw [hx, hy]; exact hk⟩
      · exact h.elim
    obtain ⟨r, h1, h2⟩ := this
    exact ⟨_, _, _, h1, fun ρ' H' K' hp hd hk => by simp only [eff]; rw [hp x (by simp [Op.operands, Call.operands]), hp y (by simp [Op.operands, Call.operands])]; exact h2 K' hk⟩
  · rename_i x y t t'
    have : ∃ r, K r [] [] ∧ ∀ K' : Kont, K' r [] [] → effMin true (ρ x) (ρ y) K' := by
      unfold effMin at h
      split at h
      · rename_i hx hy; exact ⟨_, h, fun K' hk => by unfold effMin; rw [hx, hy]; exact hk⟩
      · exact h.elim
    obtain ⟨r, h1, h2⟩ := this
    exact ⟨_, _, _, h1, fun ρ' H' K' hp hd hk => by simp only [eff]; rw [hp x (by simp [Op.operands, Call.operands]), hp y (by simp [Op.operands, Call.operands])]; exact h2 K' hk⟩
  · rename_i x y t t'
    obtain ⟨r, u, d, h1, h2⟩ := rp_copy h
    exact ⟨_, _, _, h1, fun ρ' H' K' hp hd hk => by simp only [eff]; rw [hp x (by simp [Op.operands, Call.operands]), hp y (by simp [Op.operands, Call.operands])]; exact h2 H' K' hd hk⟩
  · rename_i x y t t'
    split at h
    · rename_i hb
      obtain ⟨r, u, d, h1, h2⟩ := rp_append h
      exact ⟨_, _, _, h1, fun ρ' H' K' hp hd hk => by simp only [eff]; rw [hb, hp x (by simp [Op.operands, Call.operands]), hp y (by simp [Op.operands, Call.operands])]; exact h2 H' K' hd hk⟩
    · exact h.elim
  · rename_i f x l tys
    have hmap : ∀ ρ' : Operand → AT, (∀ y ∈ (Op.call { callee := .value (.func f), args := ⟨x :: l⟩, argTypes := tys }).operands.toList, ρ' y = ρ y) → ρ' x = ρ x ∧ l.map ρ' = l.map ρ := by
      intro ρ' hp
      refine ⟨hp x (by simp [Op.operands, Call.operands]), List.map_congr_left fun y hy => hp y (by simp [Op.operands, Call.operands, hy])⟩
    split at h
    · rename_i hmk
      obtain ⟨r, u, d, h1, h2⟩ := rp_callA h
      exact ⟨_, _, _, h1, fun ρ' H' K' hp hd hk => by simp only [eff, hmk]; rw [(hmap ρ' hp).1, (hmap ρ' hp).2]; exact h2 H' K' hd hk⟩
    rename_i hmk
    split at h
    · rename_i hmk2
      obtain ⟨r, u, d, h1, h2⟩ := rp_callS h
      exact ⟨_, _, _, h1, fun ρ' H' K' hp hd hk => by simp only [eff, hmk, hmk2]; rw [(hmap ρ' hp).1, (hmap ρ' hp).2]; exact h2 H' K' hd hk⟩
    rename_i hmk2
    split at h
    · rename_i hmk3
      obtain ⟨r, u, d, h1, h2⟩ := rp_callPR h
      exact ⟨_, _, _, h1, fun ρ' H' K' hp hd hk => by simp only [eff, hmk, hmk2, hmk3]; rw [(hmap ρ' hp).1, (hmap ρ' hp).2]; exact h2 H' K' hd hk⟩
    rename_i hmk3
    split at h
    · rename_i b g hx
      obtain ⟨r, u, d, h1, h2⟩ := rp_callP h
      exact ⟨_, _, _, h1, fun ρ' H' K' hp hd hk => by simp only [eff, hmk, hmk2, hmk3]; rw [(hmap ρ' hp).1, hx, (hmap ρ' hp).2]; exact h2 H' K' hd hk⟩
    · rename_i hx
      obtain ⟨r, u, d, h1, h2⟩ := rp_call h
      refine ⟨_, _, _, h1, fun ρ' H' K' hp hd hk => ?_⟩
      simp only [eff, hmk, hmk2, hmk3]
      rw [(hmap ρ' hp).1, (hmap ρ' hp).2]
      split
      · rename_i b g e; exact (hx b g e).elim
      · exact h2 H' K' hd hk
  · obtain ⟨r, u, d, h1, h2⟩ := rp_call h
    exact ⟨_, _, _, h1, fun ρ' H' K' hp hd hk => by simp only [eff]; exact h2 H' K' hd hk⟩
  · rename_i t l tys
    split at h
    · rename_i f ps hf
      obtain ⟨r, u, d, h1, h2⟩ := rp_call h
      refine ⟨_, _, _, h1, fun ρ' H' K' hp hd hk => ?_⟩
      have e1 : ρ' (.tmp t) = ρ (.tmp t) := hp _ (by simp [Op.operands, Call.operands])
      have e2 : l.map ρ' = l.map ρ := List.map_congr_left fun y hy => hp y (by simp [Op.operands, Call.operands, hy])
      simp only [eff]
      rw [e1, e2, hf]
      exact h2 H' K' hd hk
    · exact h.elim
  · exact h.elim
end
end Go.Proofs.YtikchieadclbhaaGreatDoor.Ab
