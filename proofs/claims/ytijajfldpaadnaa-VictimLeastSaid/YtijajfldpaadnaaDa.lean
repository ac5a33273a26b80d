/- Devices, in plain words. No condition. -/
import Derived.Test.YtijajfldpaadnaaBd
namespace Go.Proofs.Ytijajfldpaadnaa.Ab
set_option linter.unusedVariables false
set_option linter.unusedSimpArgs false
open Go.RowKit

structure Zn where
  st : Int
  du : Int
  ss : List ByteArray
structure Dv where
  s : Int
  mo : Int
  ma : Int
  zs : List Zn
def zRow (z : Zn) : List IV := [.sc (.int .i64 z.st), .sc (.int .i64 z.du), .sl (sV z.ss)]
def zA (st du : Int) (ss : List ByteArray) : AV := .agg [.i (.sc (.int .i64 st)), .i (.sc (.int .i64 du)), .i (.sl (sV ss))]
def zV (z : Zn) : AV := zA z.st z.du z.ss
def zR (zs : List Zn) : List (List IV) := zs.map zRow
def dvA (s mo ma : Int) (zs : List Zn) : AV := .agg [.i (.sc (.int .i64 s)), .i (.sc (.int .i64 mo)), .i (.sc (.int .i64 ma)), .i (.sl (zR zs))]
def dvV (d : Dv) : AV := dvA d.s d.mo d.ma d.zs
def z0 : Zn := ⟨0, 0, []⟩
def dv0 : Dv := ⟨0, 0, 0, []⟩
theorem zLen (zs : List Zn) : (zR zs).length = zs.length := by simp [zR]
theorem zItem {zs : List Zn} {k : Nat} (h : k < zs.length) : (zR zs)[((k : Int)).toNat]? = some (zRow zs[k]) := by simp [zR, h]
theorem zSet (zs : List Zn) (k : Nat) (z : Zn) : (zR zs).set k (zRow z) = zR (zs.set k z) := by simp [zR, List.map_set]
theorem zSz (zs : List Zn) : ∀ z ∈ zR zs, z.length = 3 := by
  intro z hz
  obtain ⟨x, _, rfl⟩ := List.mem_map.1 hz
  rfl
def openB (st : Int) : Bool := decide (st = 1 ∨ st = 2)
def actB (st : Int) : Bool := decide (st = 1 ∨ st = 2 ∨ st = 3)
def cntO (zs : List Zn) : Nat := (zs.filter fun z => openB z.st).length
def cntA (zs : List Zn) : Nat := (zs.filter fun z => actB z.st).length
theorem cntO_le (zs : List Zn) : cntO zs ≤ zs.length := List.length_filter_le _ _
theorem cntA_le (zs : List Zn) : cntA zs ≤ zs.length := List.length_filter_le _ _
theorem cntO_snoc (zs : List Zn) (z : Zn) : cntO (zs ++ [z]) = cntO zs + (if openB z.st then 1 else 0) := by unfold cntO; rw [List.filter_append, List.length_append]; congr 1; by_cases h : openB z.st <;> simp [h]
theorem cntA_snoc (zs : List Zn) (z : Zn) : cntA (zs ++ [z]) = cntA zs + (if actB z.st then 1 else 0) := by unfold cntA; rw [List.filter_append, List.length_append]; congr 1; by_cases h : actB z.st <;> simp [h]
def rightP (z : Zn) (size : Int) : Prop :=
  (0 ≤ z.st ∧ z.st ≤ 5 ∧ (z.ss.length : Int) ≤ size ∧ 0 ≤ z.du ∧ z.du ≤ z.ss.length) ∧ (∀ s ∈ z.ss, s.size = 40) ∧
    (((z.st = 0 ∨ z.st = 5) ∧ z.ss.length = 0) ∨ (z.st = 4 ∧ z.du = z.ss.length) ∨ (¬ (z.st = 0 ∨ z.st = 5 ∨ z.st = 4) ∧ (z.ss.length : Int) < size))
instance (z : Zn) (size : Int) : Decidable (rightP z size) := by unfold rightP; infer_instance
def rightB (z : Zn) (size : Int) : Bool := decide (rightP z size)
def cfgBad (d : Dv) : Prop := (d.zs.length : Int) < 1 ∨ (d.zs.length : Int) > 32 ∨ d.s < 3 ∨ d.s > 64 ∨ d.ma < 1 ∨ d.ma > d.zs.length ∨ d.mo < 1 ∨ d.mo > d.ma
instance (d : Dv) : Decidable (cfgBad d) := by unfold cfgBad; infer_instance
def dchk (d : Dv) : Int :=
  if cfgBad d then 11
  else if d.zs.all (fun z => rightB z d.s) = false then 6
  else if (cntO d.zs : Int) > d.mo ∨ (cntA d.zs : Int) > d.ma then 6 else 0
theorem dchk_ok {d : Dv} (h : dchk d = 0) : ¬ cfgBad d ∧ (∀ z ∈ d.zs, rightP z d.s) ∧ (cntO d.zs : Int) ≤ d.mo ∧ (cntA d.zs : Int) ≤ d.ma := by
  unfold dchk at h
  split at h
  · cases h
  split at h
  · cases h
  split at h
  · cases h
  rename_i h1 h2 h3
  refine ⟨h1, fun z hz => ?_, by omega, by omega⟩
  have : d.zs.all (fun z => rightB z d.s) = true := by simpa using h2
  exact of_decide_eq_true (List.all_eq_true.1 this z hz)
theorem dchk_yes {d : Dv} (h1 : ¬ cfgBad d) (h2 : ∀ z ∈ d.zs, rightP z d.s) (h3 : (cntO d.zs : Int) ≤ d.mo) (h4 : (cntA d.zs : Int) ≤ d.ma) : dchk d = 0 := by
  unfold dchk
  rw [if_neg h1, if_neg, if_neg (by omega)]
  rw [show d.zs.all (fun z => rightB z d.s) = true from List.all_eq_true.2 (fun z hz => (decide_eq_true (h2 z hz) : rightB z d.s = true))]
  decide
def dnew (zones size op ac : Int) : Dv × Int :=
  if zones < 1 ∨ zones > 32 then (dv0, 11)
  else if dchk ⟨size, op, ac, List.replicate zones.toNat z0⟩ = 0 then (⟨size, op, ac, List.replicate zones.toNat z0⟩, 0) else (dv0, dchk ⟨size, op, ac, List.replicate zones.toNat z0⟩)
theorem rightP0 {size : Int} (h : 0 ≤ size) : rightP z0 size := ⟨⟨by decide, by decide, by show ((0 : Nat) : Int) ≤ _; omega, by decide, by decide⟩, (by intro s hs; cases hs), Or.inl ⟨Or.inl rfl, rfl⟩⟩
theorem cnt_rep (n : Nat) : cntO (List.replicate n z0) = 0 ∧ cntA (List.replicate n z0) = 0 := by
  constructor
  · unfold cntO; rw [List.filter_replicate]; rfl
  · unfold cntA; rw [List.filter_replicate]; rfl
theorem dnew_ok {zones size : Int} (h1 : 3 ≤ zones ∧ zones ≤ 32) (h2 : 3 ≤ size ∧ size ≤ 64) : dnew zones size 3 3 = (⟨size, 3, 3, List.replicate zones.toNat z0⟩, 0) := by
  have hc : dchk ⟨size, 3, 3, List.replicate zones.toNat z0⟩ = 0 := by
    refine dchk_yes ?_ (fun z hz => ?_) ?_ ?_
    · unfold cfgBad
      dsimp only
      rw [List.length_replicate]
      omega
    · rw [List.eq_of_mem_replicate hz]
      exact rightP0 (by dsimp only; omega)
    · dsimp only; rw [(cnt_rep _).1]; decide
    · dsimp only; rw [(cnt_rep _).2]; decide
  unfold dnew
  rw [if_neg (by omega), if_pos hc]
def dwith (d : Dv) (k : Nat) (z : Zn) : Dv := ⟨d.s, d.mo, d.ma, d.zs.set k z⟩
def shutZ (z : Zn) : Zn := ⟨if z.ss.length = 0 then 0 else 3, z.du, z.ss⟩
/-- The first zone that an append has opened. -/
def opnAt : List Zn → Nat
  | [] => 0
  | z :: l => if z.st = 1 then 0 else opnAt l + 1
theorem opnAt_le (zs : List Zn) : opnAt zs ≤ zs.length := by
  induction zs with
  | nil => exact Nat.le_refl _
  | cons z l ih => simp only [opnAt, List.length_cons]; split <;> omega
theorem opnAt_st {zs : List Zn} : ∀ {z : Zn}, zs[opnAt zs]? = some z → z.st = 1 := by
  induction zs with
  | nil => intro z h; simp at h
  | cons y l ih =>
    intro z h
    rw [opnAt] at h
    split at h
    · rename_i h1
      simp at h
      rw [← h]
      exact h1
    · rw [List.getElem?_cons_succ] at h
      exact ih h
def droomX (d : Dv) : Option Dv := if (cntO d.zs : Int) ≥ d.mo then (match d.zs[opnAt d.zs]? with | none => none | some z => some (dwith d (opnAt d.zs) (shutZ z))) else some d
def droom (d : Dv) (act : Bool) : Dv × Int :=
  match droomX d with
  | none => (d, 8)
  | some x => if act = false ∧ (cntA x.zs : Int) ≥ d.ma then (d, 9) else (x, 0)
/-- What an append makes of the zone. -/
def dput (d : Dv) (k : Nat) (z : Zn) (s : ByteArray) : Dv :=
  dwith d k (if (z.ss.length : Int) + 1 = d.s then ⟨4, d.s, z.ss ++ [s]⟩ else ⟨if openB z.st then z.st else 1, z.du, z.ss ++ [s]⟩)
def dappGo (d : Dv) (k : Nat) (s : ByteArray) (r : Dv × Int) : Dv × Int × Int :=
  if r.2 ≠ 0 then (d, 0, r.2) else match r.1.zs[k]? with
    | none => (d, 0, 5)
    | some z => (dput r.1 k z s, z.ss.length, 0)
def dappend (d : Dv) (zone : Int) (s : ByteArray) : Dv × Int × Int :=
  if dchk d ≠ 0 then (d, 0, dchk d)
  else if zone < 0 ∨ zone ≥ d.zs.length then (d, 0, 5)
  else if s.size ≠ 40 then (d, 0, 2)
  else match d.zs[zone.toNat]? with
    | none => (d, 0, 5)
    | some z => if z.st = 5 then (d, 0, 6) else if z.st = 4 then (d, 0, 7)
      else dappGo d zone.toNat s (if openB z.st then (d, 0) else droom d (actB z.st))
end Go.Proofs.Ytijajfldpaadnaa.Ab
