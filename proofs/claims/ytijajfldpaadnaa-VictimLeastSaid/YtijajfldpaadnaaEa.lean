/- Epochs: what they are in plain lists; when they are valid; steps. -/
import Derived.Test.YtijajfldpaadnaaGd
import Derived.Test.YtijajfldpaadnaaFu
namespace Go.Proofs.Ytijajfldpaadnaa.Ab
set_option linter.unusedVariables false
set_option linter.unusedSimpArgs false
open Go.RowKit

def zpRow (x : Int × Int) : List IV := [.sc (.int .i64 x.1), .sc (.int .i64 x.2)]
def zpR (l : List (Int × Int)) : List (List IV) := l.map zpRow
def epA (g : Int) (p : List Int) (z : List (Int × Int)) : AV := .agg [.i (.sc (.int .i64 g)), .i (.sl (wV p)), .i (.sl (zpR z))]
theorem zpItem {z : List (Int × Int)} {k : Nat} (h : k < z.length) : (zpR z)[((k : Int)).toNat]? = some (zpRow z[k]) := by simp [zpR, h]
theorem zpLen (z : List (Int × Int)) : (zpR z).length = z.length := by simp [zpR]
theorem wLen (z : List Int) : (wV z).length = z.length := by simp [wV]
theorem zpSz (z : List (Int × Int)) : ∀ r ∈ zpR z, r.length = (tab 104).size := by
  intro r hr
  obtain ⟨x, _, rfl⟩ := List.mem_map.1 hr
  rfl

def pinOk (g x : Int) : Bool := decide (x = -1 ∨ (0 ≤ x ∧ (x = g ∨ x = g - 1)))
def znB (n : Int) (x : Int × Int) : Bool := x.1 == n
def zOk (g : Int) (pre : List (Int × Int)) (x : Int × Int) : Bool := decide (0 ≤ x.1 ∧ 0 ≤ x.2 ∧ x.2 ≤ g) && !(pre.any (znB x.1))
def zGo (g : Int) : List (Int × Int) → List (Int × Int) → Bool
  | _, [] => true
  | pre, x :: r => zOk g pre x && zGo g (pre ++ [x]) r
def evalid (g : Int) (p : List Int) (z : List (Int × Int)) : Bool := decide (1 ≤ p.length ∧ p.length ≤ 4 ∧ 0 ≤ g ∧ g ≤ 1099511627776) && (p.all (pinOk g) && zGo g [] z)
theorem zGo_step {g : Int} {z : List (Int × Int)} {k : Nat} (h : k < z.length) : zGo g (z.take k) (z.drop k) = (zOk g (z.take k) z[k] && zGo g (z.take (k + 1)) (z.drop (k + 1))) := by
  rw [List.drop_eq_getElem_cons h, zGo, List.take_succ_eq_append_getElem h]
theorem evalid_g {g : Int} {p : List Int} {z : List (Int × Int)} (h : evalid g p z = true) : 1 ≤ p.length ∧ p.length ≤ 4 ∧ 0 ≤ g ∧ g ≤ 1099511627776 := by
  unfold evalid at h
  rw [Bool.and_eq_true, decide_eq_true_eq] at h
  exact h.1

/-- The zones that were seen. -/
def sF (pre : List (Int × Int)) (v : Value) : Option (List IV) := match v with
  | .int .i64 s => match pre.any (znB s) with
    | true => some [.sc (.bool true)]
    | false => none
  | _ => none
theorem keyB_i64' {v : Value} {n : Int} : keyB v (.int .i64 n) = true ↔ v = .int .i64 n := by
  cases v <;> simp [keyB]
theorem sF_nil : sF [] = fun _ => none := by funext v; unfold sF; split <;> rfl
theorem sF_put (pre : List (Int × Int)) (x : Int × Int) : mput (sF pre) (.int .i64 x.1) [.sc (.bool true)] = sF (pre ++ [x]) := by
  funext v
  unfold mput
  cases hb : keyB v (.int .i64 x.1) with
  | true =>
    rw [keyB_i64'.1 hb]
    simp [sF, znB]
  | false =>
    dsimp only
    unfold sF
    split
    · rename_i m
      have hm : ¬ x.1 = m := by
        intro e
        subst e
        rw [keyB_i64'.2 rfl] at hb
        cases hb
      rw [List.any_append]
      have : [x].any (znB m) = false := by simp [znB, hm]
      rw [this, Bool.or_false]
    · rfl

def epin (g : Int) (p : List Int) (z : List (Int × Int)) (n : Int) : List Int × Bool := if evalid g p z = true ∧ 0 ≤ n ∧ n < p.length ∧ p[n.toNat]? = some (-1) then (p.set n.toNat g, true) else (p, false)
def eunp (g : Int) (p : List Int) (z : List (Int × Int)) (n : Int) : List Int × Bool := if evalid g p z = true ∧ 0 ≤ n ∧ n < p.length ∧ p[n.toNat]? ≠ some (-1) then (p.set n.toNat (-1), true) else (p, false)
def eret (g : Int) (p : List Int) (z : List (Int × Int)) (n : Int) : List (Int × Int) × Bool := if evalid g p z = true ∧ 0 ≤ n ∧ z.any (znB n) = false then (z ++ [(n, g)], true) else (z, false)
def advOk (g x : Int) : Bool := x == -1 || x == g
def eadv (g : Int) (p : List Int) (z : List (Int × Int)) : Int × Bool := if evalid g p z = true ∧ g < 1099511627776 ∧ p.all (advOk g) = true then (g + 1, true) else (g, false)
def rdy (g : Int) (x : Int × Int) : Bool := decide (x.2 ≤ g)
def erdy (g : Int) (p : List Int) (z : List (Int × Int)) : Int × Bool := if evalid g p z = true then (match z.find? (rdy (g - 2)) with | some x => (x.1, true) | none => (0, false)) else (0, false)
def zNe (n : Int) (x : Int × Int) : Bool := !(x.1 == n)
def efgt (g : Int) (p : List Int) (z : List (Int × Int)) (n : Int) : List (Int × Int) × Bool := if (erdy g p z).2 = true ∧ (erdy g p z).1 = n then (z.filter (zNe n), true) else (z, false)
end Go.Proofs.Ytijajfldpaadnaa.Ab
