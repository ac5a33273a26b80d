/- Maps: all entries in order, by the library's sort; two ways to the same list. No condition. -/
import Derived.Test.YtgjcljjgifnjdaaWi
import Derived.Test.YtgjcljjgifnjdaaWs
import Derived.Test.YtgjcljjgifnjdaaSq
namespace Go.Proofs.Ytgjcljjgifnjdaa.Ab
set_option linter.unusedVariables false
set_option linter.unusedSimpArgs false
open Go.RowKit Go.Sort Go.Lib

abbrev Asc (l : List Ety) : Prop := l.Pairwise (fun a b => a.b < b.b)
theorem insP_hi {es : List Ety} {b : Int} : ∀ (n : Nat), n ≤ es.length → ∀ j (hj : j < es.length), insP es b n ≤ j → j < n → b < es[j].b := by
  intro n
  induction n with
  | zero => intro _ j hj _ h; omega
  | succ k ih =>
    intro hk j hj h1 h2
    rw [insP, List.getElem?_eq_getElem (by omega)] at h1
    dsimp only at h1
    split at h1
    · rename_i hd
      rcases Nat.lt_or_ge j k with h3 | h3
      · exact ih (by omega) j hj h1 h3
      · obtain rfl : j = k := by omega
        exact of_decide_eq_true hd
    · omega
theorem insP_lo {es : List Ety} {b : Int} : ∀ (n : Nat), n ≤ es.length → ∀ (h : insP es b n ≠ 0), ∃ hj : insP es b n - 1 < es.length, es[insP es b n - 1].b ≤ b := by
  intro n
  induction n with
  | zero => intro _ h; exact absurd rfl h
  | succ k ih =>
    intro hk
    rw [insP, List.getElem?_eq_getElem (by omega)]
    dsimp only
    split
    · exact ih (by omega)
    · rename_i hd
      intro _
      refine ⟨by omega, ?_⟩
      simp only [Nat.add_sub_cancel]
      simpa using hd
theorem mem_insB (es : List Ety) (e x : Ety) : x ∈ insB es e ↔ x = e ∨ x ∈ es := by
  unfold insB
  conv => rhs; rw [← List.take_append_drop (insP es e.b es.length) es]
  simp only [List.mem_append, List.mem_cons]
  constructor
  · rintro (h | h | h)
    · exact Or.inr (Or.inl h)
    · exact Or.inl h
    · exact Or.inr (Or.inr h)
  · rintro (h | h | h)
    · exact Or.inr (Or.inl h)
    · exact Or.inl h
    · exact Or.inr (Or.inr h)
theorem asc_at {l : List Ety} (h : Asc l) {i j : Nat} (hij : i < j) (hj : j < l.length) : (l[i]'(by omega)).b < l[j].b := List.pairwise_iff_getElem.1 h i j _ hj hij
theorem asc_insB {es : List Ety} {e : Ety} (h : Asc es) (hn : ∀ x ∈ es, x.b ≠ e.b) : Asc (insB es e) := by
  have hle := insP_le es e.b es.length
  have hhi := insP_hi (es := es) (b := e.b) es.length (Nat.le_refl _)
  have hlo := insP_lo (es := es) (b := e.b) es.length (Nat.le_refl _)
  unfold insB
  generalize insP es e.b es.length = p at hle hhi hlo
  unfold Asc
  rw [List.pairwise_append, List.pairwise_cons]
  have h1 : ∀ x ∈ es.take p, x.b < e.b := by
    intro x hx
    obtain ⟨i, hi, rfl⟩ := List.getElem_of_mem hx
    rw [List.length_take] at hi
    rw [List.getElem_take]
    obtain ⟨hj, hb⟩ := hlo (by omega)
    have hne := hn _ (List.getElem_mem hj)
    rcases Nat.lt_or_ge i (p - 1) with h2 | h2
    · have := asc_at h h2 hj
      omega
    · obtain rfl : i = p - 1 := by omega
      omega
  have h2 : ∀ x ∈ es.drop p, e.b < x.b := by
    intro x hx
    obtain ⟨i, hi, rfl⟩ := List.getElem_of_mem hx
    rw [List.length_drop] at hi
    rw [List.getElem_drop]
    exact hhi (p + i) (by omega) (by omega) (by omega)
  refine ⟨h.sublist (List.take_sublist _ _), ⟨h2, h.sublist (List.drop_sublist _ _)⟩, fun x hx y hy => ?_⟩
  rcases List.mem_cons.1 hy with rfl | hy
  · exact h1 x hx
  · have := h1 x hx
    have := h2 y hy
    omega
theorem asc_fold (l : List Ety) : ∀ acc : List Ety, Asc acc → l.Pairwise (fun a b => a.b ≠ b.b) → (∀ x ∈ acc, ∀ y ∈ l, x.b ≠ y.b) → Asc (l.foldl insB acc) ∧ ∀ x, x ∈ l.foldl insB acc ↔ x ∈ acc ∨ x ∈ l := by
  induction l with
  | nil => intro acc h _ _; exact ⟨h, by simp⟩
  | cons e l ih =>
    intro acc h hp hd
    rw [List.pairwise_cons] at hp
    have := ih (insB acc e) (asc_insB h fun x hx => hd x hx e List.mem_cons_self) hp.2 (fun x hx y hy => by
      rcases (mem_insB acc e x).1 hx with rfl | hx
      · exact hp.1 y hy
      · exact hd x hx y (List.mem_cons_of_mem _ hy))
    rw [List.foldl_cons]
    refine ⟨this.1, fun x => ?_⟩
    rw [this.2, mem_insB, List.mem_cons]
    constructor
    · rintro ((h | h) | h)
      · exact Or.inr (Or.inl h)
      · exact Or.inl h
      · exact Or.inr (Or.inr h)
    · rintro (h | h | h)
      · exact Or.inl (Or.inr h)
      · exact Or.inl (Or.inl h)
      · exact Or.inr h
/-- The entries of a valid map stand under different blocks. -/
theorem flat_diff : ∀ (M : List (List Ety)), (∀ l ∈ M, svalid l = true) → (∀ (i j : Nat) (hi : i < M.length) (hj : j < M.length), i ≠ j → ∀ x ∈ M[i], ∀ y ∈ M[j], x.b ≠ y.b) → M.flatten.Pairwise (fun a b => a.b ≠ b.b) := by
  intro M
  induction M with
  | nil => intro _ _; exact List.Pairwise.nil
  | cons l M ih =>
    intro h1 h2
    rw [List.flatten_cons, List.pairwise_append]
    refine ⟨((svalid_iff l).1 (h1 l List.mem_cons_self)).2.imp (fun {a b} h => by omega), ih (fun l hl => h1 l (List.mem_cons_of_mem _ hl)) (fun i j hi hj hne => ?_), fun x hx y hy => ?_⟩
    · exact h2 (i + 1) (j + 1) (by simpa using hi) (by simpa using hj) (by omega)
    · obtain ⟨m, hm, hy⟩ := List.mem_flatten.1 hy
      obtain ⟨j, hj, rfl⟩ := List.getElem_of_mem hm
      exact h2 0 (j + 1) (by simp) (by simpa using hj) (by omega) x hx y hy
theorem mval_diff {M : List (List Ety)} (h : mvalid M = true) : M.flatten.Pairwise (fun a b => a.b ≠ b.b) := by
  have hm := (mvalid_at h).2
  refine flat_diff M (fun l hl => ?_) (fun i j hi hj hne x hx y hy he => ?_)
  · obtain ⟨i, hi, rfl⟩ := List.getElem_of_mem hl
    exact (hm i hi).1
  · have h1 := (hm i hi).2 x hx
    have h2 := (hm j hj).2 y hy
    rw [he] at h1
    omega
theorem mval_mem {M : List (List Ety)} (h : mvalid M = true) {e : Ety} (he : e ∈ M.flatten) : rightE e = true := by
  obtain ⟨l, hl, he⟩ := List.mem_flatten.1 he
  obtain ⟨i, hi, rfl⟩ := List.getElem_of_mem hl
  exact ((svalid_iff _).1 ((mvalid_at h).2 i hi).1).1 e he
theorem mall_asc {M : List (List Ety)} (h : mvalid M = true) : Asc (mall M) ∧ ∀ x, x ∈ mall M ↔ x ∈ M.flatten := by
  have := asc_fold M.flatten [] List.Pairwise.nil (mval_diff h) (by simp)
  unfold mall
  rw [if_pos h]
  exact ⟨this.1, fun x => by rw [this.2]; simp⟩
/-- The blocks are numbers of 64 bits. -/
def mB (M : List (List Ety)) : Prop := ∀ l ∈ M, ∀ e ∈ l, e.b ≤ 9223372036854775807
theorem mval_bIn {M : List (List Ety)} (h : mvalid M = true) (hb : mB M) : ∀ e ∈ M.flatten, bIn e := by
  intro e he
  have h1 := of_decide_eq_true (mval_mem h he)
  obtain ⟨l, hl, he⟩ := List.mem_flatten.1 he
  exact ⟨h1.2.2.2.2.2.1, hb l hl e he⟩
/-- The entries as the sort takes them. -/
def toB (l : List Ety) (h : ∀ e ∈ l, bIn e) : Array EB := (l.attach.map fun x => (⟨x.1, h x.1 x.2⟩ : EB)).toArray
theorem unB_toB (l : List Ety) (h : ∀ e ∈ l, bIn e) : unB (toB l h) = l := by
  have e : ∀ l' : List {x // x ∈ l}, unB ((l'.map fun x => (⟨x.1, h x.1 x.2⟩ : EB)).toArray) = l'.map (·.1) := by
    intro l'
    induction l' with
    | nil => rfl
    | cons a l' ih => exact congrArg (a.1 :: ·) ih
  exact (e l.attach).trans (List.attach_map_subtype_val l)
theorem srt_asc {d : Array EB} (hp : (unB d).Pairwise (fun a b => a.b ≠ b.b)) : Asc (unB (srtB d)) ∧ ∀ x, x ∈ unB (srtB d) ↔ x ∈ unB d := by
  obtain ⟨⟨h1, _, h3⟩, h4⟩ := srtB_ok d
  have hperm : (srtB d).toList.Perm d.toList := by
    have e1 : (srtB d).extract 0 d.size = srtB d := by rw [← h1, Array.extract_size]
    rw [e1, Array.extract_size] at h3
    exact h3
  have hpu : (unB (srtB d)).Perm (unB d) := hperm.map _
  have hp2 : (unB (srtB d)).Pairwise (fun a b => a.b ≠ b.b) := (hpu.pairwise_iff (fun {a b} h => Ne.symm h)).2 hp
  refine ⟨?_, fun x => hpu.mem_iff⟩
  unfold Asc
  rw [List.pairwise_iff_getElem]
  intro i j hi hj hij
  have hne := List.pairwise_iff_getElem.1 hp2 i j hi hj hij
  have hj' : j < d.size := by rw [unB_len] at hj; omega
  have hi' : i < d.size := by omega
  have := h4 i j (Nat.zero_le _) hij hj'
  rw [ltB] at this
  have this := of_decide_eq_false this
  rw [← unB_get (by omega), ← unB_get (by omega)] at this
  omega
theorem srt_mall {M : List (List Ety)} (h : mvalid M = true) (hb : mB M) : unB (srtB (toB M.flatten (mval_bIn h hb))) = mall M := by
  have h1 := srt_asc (d := toB M.flatten (mval_bIn h hb)) (by rw [unB_toB]; exact mval_diff h)
  rw [unB_toB] at h1
  have h2 := mall_asc h
  exact asc_ext h1.1 h2.1 fun e => by rw [h1.2, h2.2]
theorem sortM {M : List (List Ety)} (h : mvalid M = true) (hb : mB M) (ht : tot M ≤ 1000000) : FunS Try.prog 66 34 6 (eR M.flatten) [fnV 67] (eR (mall M)) := by
  have := sortBF (toB M.flatten (mval_bIn h hb)) (by rw [← unB_len, unB_toB, ← tot_flat]; exact ht) 34 (by decide)
  rw [srt_mall h hb, unB_toB] at this
  exact this
set_option maxRecDepth 100000 in
set_option maxHeartbeats 16000000 in
theorem mallF (M : List (List Ety)) (hM : mOk M) (hb : mB M) : Fun Try.prog 43 [mpV M] [] (.v (slV (eR (mall M)))) := by
  have ho := openF M hM
  have hv := rightF M hM
  have hc := fun h => concatF M (Nat.le_trans (mvalid_at h).1.2 (by decide)) (tot_8 hM h)
  have hs := fun h => sortM (M := M) h hb (tot_8 hM h)
  have hn : mvalid M = false → mall M = [] := fun h => by unfold mall; rw [h]; rfl
  generalize mall M = A at hs hn ⊢
  generalize mvalid M = a at hv hs hn hc
  refine fun_of_vc (tabXOk [6000066]) mixOk Try.func43 rfl (by rfl) (rs := [.tmp 2]) rfl rfl 22 ?_; rw [Try.ntmps43]
  (conv => whnf); repeat ((first | refine And.intro DrawOk.go ?_ | refine And.intro rfl ?_ | refine And.intro (fun _ => ?_) (fun h => Bool.noConfusion h) | refine And.intro (fun h => Bool.noConfusion h) (fun _ => ?_)); conv => whnf)
  refine ⟨_, _, ho, ?_⟩
  (conv => whnf); repeat ((first | refine And.intro DrawOk.go ?_ | refine And.intro rfl ?_ | refine And.intro (fun _ => ?_) (fun h => Bool.noConfusion h) | refine And.intro (fun h => Bool.noConfusion h) (fun _ => ?_)); conv => whnf)
  refine ⟨_, _, hv, ?_⟩
  cases a with
  | false =>
    rw [hn rfl]
    (conv => whnf); repeat ((first | refine And.intro DrawOk.go ?_ | refine And.intro rfl ?_ | refine And.intro (fun _ => ?_) (fun h => Bool.noConfusion h) | refine And.intro (fun h => Bool.noConfusion h) (fun _ => ?_)); conv => whnf)
    refine Exists.intro [] (And.intro List.nodup_nil ?_); ((conv => whnf); repeat ((first | refine And.intro DrawOk.go ?_ | refine And.intro rfl ?_ | refine And.intro (fun _ => ?_) (fun h => Bool.noConfusion h) | refine And.intro (fun h => Bool.noConfusion h) (fun _ => ?_)); conv => whnf))
    rfl
  | true =>
    (conv => whnf); repeat ((first | refine And.intro DrawOk.go ?_ | refine And.intro rfl ?_ | refine And.intro (fun _ => ?_) (fun h => Bool.noConfusion h) | refine And.intro (fun h => Bool.noConfusion h) (fun _ => ?_)); conv => whnf)
    refine ⟨_, _, hc rfl, ?_⟩
    (conv => whnf); repeat ((first | refine And.intro DrawOk.go ?_ | refine And.intro rfl ?_ | refine And.intro (fun _ => ?_) (fun h => Bool.noConfusion h) | refine And.intro (fun h => Bool.noConfusion h) (fun _ => ?_)); conv => whnf)
    refine ⟨_, hs rfl, eScRows _, ?_⟩
    (conv => whnf); repeat ((first | refine And.intro DrawOk.go ?_ | refine And.intro rfl ?_ | refine And.intro (fun _ => ?_) (fun h => Bool.noConfusion h) | refine And.intro (fun h => Bool.noConfusion h) (fun _ => ?_)); conv => whnf)
    refine Exists.intro [] (And.intro List.nodup_nil ?_); ((conv => whnf); repeat ((first | refine And.intro DrawOk.go ?_ | refine And.intro rfl ?_ | refine And.intro (fun _ => ?_) (fun h => Bool.noConfusion h) | refine And.intro (fun h => Bool.noConfusion h) (fun _ => ?_)); conv => whnf))
    rfl
end Go.Proofs.Ytgjcljjgifnjdaa.Ab
