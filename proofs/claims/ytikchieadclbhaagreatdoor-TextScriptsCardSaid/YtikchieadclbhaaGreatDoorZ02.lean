/- Lines of text: words, numbers, digits; plain laws. No condition. -/
import Derived.Test.YtikchieadclbhaaGreatDoorRows
import Derived.WalkKit
import Derived.WalkSpells
import Derived.WalkLawsBesides
import Derived.ProofKit
import Derived.OpenShut
import Derived.ShutString
import Derived.Lib.Hide
import Derived.SizedLaws
import Derived.Deep.CondSized
import Derived.Lib.AtoiAll
import Derived.Lib.ItoaMem
namespace Go.Proofs.YtikchieadclbhaaGreatDoor
set_option linter.unusedVariables false
set_option linter.unusedSimpArgs false
open Go.ChangeShapes Go.WideShapes Go.ChangeAt Go.RowKit
open Go.ChangeMaps (open_string shut_string)

theorem Tryz.own : ownKnob Tryz.prog.godebug = none := by kernel_rfl
theorem Tryz.laidOut : laidOutB Tryz.prog = true := by kernel_rfl

/-- What a law's call does: it returns true and nothing that was there has turned. -/
def True1 (w : World) (e : Ending) (w' : World) : Prop := e = .returned (.bool true) ∧ Below w.heap.size w w'

section
variable {H : Type} {enc : TypeId × Value → H} {P : Program}

theorem trodAll_stays (hl : laidOutB P = true) {W W' : World} {sp' : Nat → Bool} :
    ∀ {ts : List TypeId} {vs : List Value} {ds : List (DataW H)} {ps : List MemPlace}, (∀ t ∈ ts, P.readableRec t = true ∧ t < P.types.size) →
    DataW.TrodAll enc P W 0 (fun _ => true) true ts vs ds ps → (∀ p ∈ ps, W.sameAt W' p) → (∀ p ∈ ps, sp' p.block = true) → DataW.TrodAll enc P W' 0 sp' true ts vs ds ps
  | [], [], [], _, _, h, _, _ => h
  | t :: ts, v :: vs, d :: ds, ps, hr, h, hsame, hs => by
    obtain ⟨p, q, h1, h2, rfl⟩ := h
    exact ⟨p, q, WideElems.Trod_stays hl (hr t List.mem_cons_self).1 (hr t List.mem_cons_self).2 h1 (fun x hx => hsame x (List.mem_append_left _ hx)) (fun x hx => hs x (List.mem_append_left _ hx)),
      trodAll_stays hl (fun u hu => hr u (List.mem_cons_of_mem _ hu)) h2 (fun x hx => hsame x (List.mem_append_right _ hx)) (fun x hx => hs x (List.mem_append_right _ hx)), rfl⟩
  | [], _ :: _, _, _, _, h, _, _ => h.elim
  | [], [], _ :: _, _, _, h, _, _ => h.elim
  | _ :: _, [], _, _, _, h, _, _ => h.elim
  | _ :: _, _ :: _, [], _, _, h, _, _ => h.elim

theorem law_post (hl : laidOutB P = true) {f : Func} {s : ChangeSpec} {tb : TypeId} (hres : f.resultTypes = #[tb]) (hb : P.underlying tb = some .bool)
    (hr : f.params.toList.all (fun t => P.readableRec t && decide (t < P.types.size)) = true) (hv : s.vars = [])
    {W W' : World} {args : Array Value} {ds gs : List (DataW H)} {before : List MemPlace}
    (hW : DataW.Whole enc P f.params.toList s.vars false W args.toList ds gs before)
    (hfn : s.fn H (ds ++ gs) = ⟨[.lit (.bool true)], ds, []⟩) (hbel : Below W.heap.size W W') :
    s.post enc P f false true false false W args (.bool true) W' := by
  have hlt := hW.lt
  have hW' := hW
  obtain ⟨p, q, hA, hV, rfl, _, _⟩ := hW
  rw [hv] at hV
  have hgs : gs = [] ∧ q = [] := by cases gs with | nil => exact ⟨rfl, hV⟩ | cons _ _ => exact hV.elim
  obtain ⟨rfl, rfl⟩ := hgs
  have hr' : ∀ t ∈ f.params.toList, P.readableRec t = true ∧ t < P.types.size := fun t ht => by
    have := List.all_eq_true.1 hr t ht
    simpa using this
  refine ⟨ds, [], p ++ [], [], p, [], hW', ?_, ?_, ?_, World.keptBut_mono (fun _ h => h.elim) (hbel.frame (may := fun _ => False)), fun h => by cases h⟩
  · rw [hfn, hres]
    exact trodAll_cons_mk (shut_bool hb _) trodAll_mk0
  · rw [hfn]
    exact trodAll_stays hl hr' hA (fun x hx => hbel.same (hlt x (List.mem_append_left _ hx))) (fun x hx => by simpa using hlt x (List.mem_append_left _ hx))
  · rw [hfn, hv]; exact rfl

/-- The form's own reach, of a string among the arguments. -/
theorem reach_str {ts : List TypeId} {ds : List (DataW H)} (h : (DataW.weightsEach P ts ds).all (· ≤ reachBytes) = true) (j : Nat) {t : TypeId} {s : ByteArray} (ht : ts[j]? = some t) (hd : ds[j]? = some (.lit (.string s.data.toList))) :
    s.size ≤ 140737488351232 := by
  have := sized_string h ht hd
  unfold reachBytes at this
  rw [show s.data.toList.length = s.size from rfl] at this
  exact this

/-- The form's own reach, of any argument. -/
theorem reach_any {ts : List TypeId} {ds : List (DataW H)} (h : (DataW.weightsEach P ts ds).all (· ≤ reachBytes) = true) (j : Nat) {t : TypeId} {d : DataW H} (ht : ts[j]? = some t) (hd : ds[j]? = some d) :
    ∀ n ∈ d.weights P t, n ≤ 140737488351232 := by
  intro n hn
  have := List.all_eq_true.1 h n (DataW.weights_mem_each ht hd n hn)
  unfold reachBytes at this
  simpa using this
end
end Go.Proofs.YtikchieadclbhaaGreatDoor
namespace Go.Proofs.YtikchieadclbhaaGreatDoor.Ab
set_option linter.unusedVariables false
set_option linter.unusedSimpArgs false

/-- A text cut at each byte c. -/
def spl (c : UInt8) : List UInt8 → List (List UInt8)
  | [] => [[]]
  | x :: l => if x = c then [] :: spl c l else match spl c l with
    | [] => [[x]]
    | w :: ws => (x :: w) :: ws
def joinW (c : UInt8) : List (List UInt8) → List UInt8
  | [] => []
  | [w] => w
  | w :: v :: ws => w ++ c :: joinW c (v :: ws)
theorem spl_ne (c : UInt8) (l : List UInt8) : spl c l ≠ [] := by
  cases l with
  | nil => simp [spl]
  | cons x l =>
    rw [spl]
    split
    · simp
    · split <;> simp
theorem spl_word {c : UInt8} : ∀ {w : List UInt8}, c ∉ w → spl c w = [w]
  | [], _ => rfl
  | x :: w, h => by
    have hx : ¬ x = c := fun e => h (by rw [e]; exact List.mem_cons_self)
    rw [spl, if_neg hx, spl_word (fun hh => h (List.mem_cons_of_mem _ hh))]
theorem spl_app {c : UInt8} : ∀ {w : List UInt8} {l : List UInt8}, c ∉ w → spl c (w ++ c :: l) = w :: spl c l
  | [], l, _ => by rw [List.nil_append, spl, if_pos rfl]
  | x :: w, l, h => by
    have hx : ¬ x = c := fun e => h (by rw [e]; exact List.mem_cons_self)
    rw [List.cons_append, spl, if_neg hx, spl_app (fun hh => h (List.mem_cons_of_mem _ hh))]
theorem spl_join {c : UInt8} : ∀ {ws : List (List UInt8)}, ws ≠ [] → (∀ w ∈ ws, c ∉ w) → spl c (joinW c ws) = ws
  | [], h, _ => absurd rfl h
  | [w], _, h => spl_word (h w List.mem_cons_self)
  | w :: v :: ws, _, h => by
    rw [joinW, spl_app (h w List.mem_cons_self), spl_join (by simp) (fun x hx => h x (List.mem_cons_of_mem _ hx))]
theorem dec_app (u : Nat) : Lib.decDigits u = if u < 10 then [UInt8.ofNat (48 + u)] else Lib.decDigits (u / 10) ++ [UInt8.ofNat (48 + u % 10)] := by
  rw [Lib.decDigits]
  split <;> rfl
theorem dig_nat {d : Nat} (h : d < 10) : (UInt8.ofNat (48 + d)).toNat = 48 + d := by
  rw [UInt8.toNat_ofNat']
  omega
theorem dec_mem : ∀ (u : Nat) (c : UInt8), c ∈ Lib.decDigits u → 48 ≤ c.toNat ∧ c.toNat ≤ 57 := by
  intro u
  induction u using Nat.strongRecOn with
  | ind u ih =>
    intro c hc
    rw [dec_app] at hc
    split at hc
    · rename_i h
      rw [List.mem_singleton.1 hc, dig_nat h]
      omega
    · rename_i h
      rcases List.mem_append.1 hc with hc | hc
      · exact ih (u / 10) (by omega) c hc
      · rw [List.mem_singleton.1 hc, dig_nat (by omega)]
        omega
theorem dec_ne (u : Nat) : Lib.decDigits u ≠ [] := by
  rw [dec_app]
  split <;> simp
theorem itoa_mem {n : Int} {c : UInt8} (h : c ∈ Lib.itoa n) : c.toNat = 45 ∨ (48 ≤ c.toNat ∧ c.toNat ≤ 57) := by
  unfold Lib.itoa at h
  split at h
  · rcases List.mem_cons.1 h with rfl | h
    · exact Or.inl rfl
    · exact Or.inr (dec_mem _ _ h)
  · exact Or.inr (dec_mem _ _ h)
theorem itoa_ne (n : Int) : Lib.itoa n ≠ [] := by
  unfold Lib.itoa
  split
  · simp
  · exact dec_ne _
theorem itoa_no {n : Int} {c : UInt8} (h1 : c.toNat ≠ 45) (h2 : ¬ (48 ≤ c.toNat ∧ c.toNat ≤ 57)) : c ∉ Lib.itoa n := fun h => by
  rcases itoa_mem h with h | h
  · exact h1 h
  · exact h2 h
/-- The digits read from the left. -/
theorem parse_app : ∀ (l : List UInt8) (acc : Nat) (m : List UInt8) (v : Nat), Lib.parseUint10 acc l = .ok v → Lib.parseUint10 acc (l ++ m) = Lib.parseUint10 v m
  | [], acc, m, v, h => by
    rw [Lib.parseUint10] at h
    injection h with h
    rw [h]; rfl
  | c :: l, acc, m, v, h => by
    rw [Lib.parseUint10] at h
    rw [List.cons_append, Lib.parseUint10]
    split at h
    · rename_i h1
      rw [if_pos h1]
      split at h
      · cases h
      · rename_i h2
        rw [if_neg h2]
        split at h
        · cases h
        · rename_i h3
          rw [if_neg h3]
          exact parse_app l _ m v h
    · cases h
theorem parse_dec : ∀ (u : Nat), u < 1844674407370955162 → Lib.parseUint10 0 (Lib.decDigits u) = .ok u := by
  intro u
  induction u using Nat.strongRecOn with
  | ind u ih =>
    intro hu
    rw [dec_app]
    split
    · rename_i h
      rw [Lib.parseUint10, dig_nat h, if_pos (by omega), if_neg (by omega), if_neg (by omega), Lib.parseUint10]
      congr 1
      omega
    · rename_i h
      rw [parse_app _ _ _ _ (ih (u / 10) (by omega) (by omega)), Lib.parseUint10, dig_nat (by omega), if_pos (by omega), if_neg (by omega), if_neg (by omega), Lib.parseUint10]
      congr 1
      omega
/-- A word read as a number: 0 if it is none. -/
def num (w : List UInt8) : Int := match Lib.atoiAll w with
  | .ok v => v
  | _ => 0
theorem atoi_itoa {n : Int} (h : -1099511627776 ≤ n ∧ n ≤ 1099511627776) : Lib.atoiAll (Lib.itoa n) = .ok n := by
  unfold Lib.itoa
  split
  · rename_i hn
    have hp : Lib.parseMag (Lib.decDigits n.natAbs) = .ok n.natAbs := by unfold Lib.parseMag; rw [if_neg (dec_ne _), parse_dec _ (by omega)]
    have h45 : (45 : UInt8).toNat = 45 := rfl
    unfold Lib.atoiAll
    simp only [h45, or_true, if_true, hp, not_true, false_and, if_false, true_and]
    rw [if_neg (by omega)]
    congr 1
    omega
  · rename_i hn
    have hd := dec_mem n.toNat
    have hp := parse_dec n.toNat (by omega)
    have hne := dec_ne n.toNat
    generalize Lib.decDigits n.toNat = D at hd hp hne
    cases D with
    | nil => exact absurd rfl hne
    | cons c r =>
      have hc := hd c List.mem_cons_self
      have h43 : ¬ c.toNat = 43 := by omega
      have h45 : ¬ c.toNat = 45 := by omega
      have hp2 : Lib.parseMag (c :: r) = .ok n.toNat := by unfold Lib.parseMag; rw [if_neg (by simp), hp]
      unfold Lib.atoiAll
      have h9 : ¬ 9223372036854775808 ≤ n.toNat := by omega
      have h10 : ((n.toNat : Nat) : Int) = n := by omega
      simp only [h43, or_false, if_false, hp2, h45, not_false_eq_true, true_and, false_and, h9, h10]
theorem num_itoa {n : Int} (h : -1099511627776 ≤ n ∧ n ≤ 1099511627776) : num (Lib.itoa n) = n := by
  unfold num
  rw [atoi_itoa h]
/-- The document's way to read a number: at most fifteen bytes. -/
def rnumGo : List UInt8 → Int → Int
  | [], n => n
  | c :: l, n => rnumGo l (if 48 ≤ c.toNat ∧ c.toNat ≤ 57 then n * 10 + (c.toNat - 48 : Nat) else n)
def rnum (w : List UInt8) : Int := match w.take 15 with
  | [] => 0
  | c :: l => if c.toNat = 45 then -1 * rnumGo l 0 else rnumGo (c :: l) 0
theorem rnum_app : ∀ (l m : List UInt8) (n : Int), rnumGo (l ++ m) n = rnumGo m (rnumGo l n)
  | [], m, n => rfl
  | c :: l, m, n => by rw [List.cons_append, rnumGo, rnumGo, rnum_app l m]
theorem rnum_dec : ∀ (u : Nat), rnumGo (Lib.decDigits u) 0 = (u : Int) := by
  intro u
  induction u using Nat.strongRecOn with
  | ind u ih =>
    rw [dec_app]
    split
    · rename_i h
      rw [rnumGo, rnumGo, dig_nat h, if_pos (by omega)]
      omega
    · rename_i h
      rw [rnum_app, ih (u / 10) (by omega), rnumGo, rnumGo, dig_nat (by omega), if_pos (by omega)]
      omega
theorem dec_len : ∀ (k u : Nat), u < 10 ^ (k + 1) → (Lib.decDigits u).length ≤ k + 1
  | 0, u, h => by rw [dec_app, if_pos (by simpa using h)]; simp
  | k + 1, u, h => by
    rw [dec_app]
    split
    · simp
    · rw [List.length_append, List.length_singleton]
      have h1 : u / 10 < 10 ^ (k + 1) := by
        have : 10 ^ (k + 1 + 1) = 10 ^ (k + 1) * 10 := Nat.pow_succ ..
        omega
      have := dec_len k (u / 10) h1
      omega
theorem rnum_itoa {n : Int} (h : -1099511627776 ≤ n ∧ n ≤ 1099511627776) : rnum (Lib.itoa n) = n := by
  unfold Lib.itoa
  split
  · have hl := dec_len 12 n.natAbs (by omega)
    unfold rnum
    rw [List.take_of_length_le (by rw [List.length_cons]; omega)]
    show (if (45 : UInt8).toNat = 45 then _ else _) = _
    rw [if_pos (show (45 : UInt8).toNat = 45 from rfl), rnum_dec]
    omega
  · have hl := dec_len 12 n.toNat (by omega)
    unfold rnum
    rw [List.take_of_length_le (by omega)]
    have hd := dec_mem n.toNat
    have hr := rnum_dec n.toNat
    have hne := dec_ne n.toNat
    generalize Lib.decDigits n.toNat = D at hd hr hne
    cases D with
    | nil => exact absurd rfl hne
    | cons c r =>
      have hc := hd c List.mem_cons_self
      show (if c.toNat = 45 then _ else _) = _
      rw [if_neg (by omega), hr]
      omega
end Go.Proofs.YtikchieadclbhaaGreatDoor.Ab
