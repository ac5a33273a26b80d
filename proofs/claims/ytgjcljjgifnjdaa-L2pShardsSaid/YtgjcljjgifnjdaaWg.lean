/- slices.Grow and slices.Concat of shards: a row of the caller's own. No condition. -/
import Derived.Test.YtgjcljjgifnjdaaWf
import Derived.Test.YtgjcljjgifnjdaaGw
namespace Go.Proofs.Ytgjcljjgifnjdaa.Ab
set_option linter.unusedVariables false
set_option linter.unusedSimpArgs false
open Go.RowKit

theorem cx34 : ¬ CX ≤ 34 := by unfold CX; omega
theorem growFA (n : Nat) (hn : n ≤ 1000000) : FunA Try.prog 72 34 6 [] [i64V n] [] := by
  refine ⟨⟨_, Try.func72, rfl, rfl⟩, fun w ok v0 xs argv hok hown hlen hnok hcap hcell hargs hrep => ?_⟩
  obtain ⟨v, rfl⟩ : ∃ v, argv = #[v] := by
    obtain ⟨l⟩ := argv
    match l, hargs with
    | [v], _ => exact ⟨v, rfl⟩
  have hv : v = .int .i64 n := by
    have := hrep 0 v _ rfl rfl
    exact RepI_sc this
  subst hv
  obtain ⟨i0, hi0, hz0, hs0, hb0⟩ : ∃ i0, Try.prog.info? 34 = some i0 ∧ i0.zero = some (.agg #[.int .i64 0, .int .i64 0, .int .i64 0, .int .i64 0, .int .i64 0, .int .i64 0]) ∧ i0.size = 6 ∧ i0.bytes = 48 := by
    have h : (Try.prog.info? 34).map (fun i => (i.zero, i.size, i.bytes)) = some (some (.agg #[.int .i64 0, .int .i64 0, .int .i64 0, .int .i64 0, .int .i64 0, .int .i64 0]), 6, 48) := by kernel_rfl
    obtain ⟨i, h1, h2⟩ := Option.map_eq_some_iff.1 h
    injection h2 with h2 h3
    injection h3 with h3 h4
    exact ⟨i, h1, h2, h3, h4⟩
  have fresh : ∀ (base : Option Addr) (c : Nat) (cs : List Value), c < n → cs.length = c * 6 → (base = none → c = 0) → (∀ a, base = some a → ∀ j v, cs[j]? = some v → w.cell? (a.add j) = some v) →
      Calls Try.prog 72 #[.slice base 0 c, .int .i64 n] w fun e w' => ∃ v xs', e = .returned v ∧ w.grownBy w' none ∧ OwnR w' 0 34 6 v 0 xs' ∧ (∀ m, Value.ownBlock v = some m → w.heap.size ≤ m) := by
    intro base c cs hc hcs hb hce
    have h := Any8.slices_Grow_grow (P := Try.prog) (ρ := Try.growEty_ren) Try.growEty i0 _ hi0 hz0 (by rw [hs0]; decide) base 0 c n cs w (Nat.zero_le _) (by omega) (by rw [hb0]; omega) (by omega) (by rw [hs0]; exact hcs) hb hce
    refine h.mono fun e w' ⟨he, hw⟩ => ?_
    have hcur : ∃ cur : Array Value, w'.heap[w.heap.size]? = some (.cells cur 34 (0, 0)) ∧ cur.size = grownCap w (0 + n) c (Try.growEty_ren.t 25) * 6 := by
      refine ⟨cs.toArray ++ Builtin.zeroCells (Value.agg #[.int .i64 0, .int .i64 0, .int .i64 0, .int .i64 0, .int .i64 0, .int .i64 0]).cells (0 + n - c) ++ Builtin.zeroCells (Value.agg #[.int .i64 0, .int .i64 0, .int .i64 0, .int .i64 0, .int .i64 0, .int .i64 0]).cells (grownCap w (0 + n) c (Try.growEty_ren.t 25) - (0 + n)), ?_, ?_⟩
      · rw [hw]
        show (w.heap.push _)[w.heap.size]? = _
        rw [Array.getElem?_push, if_pos rfl]
        rfl
      · have hg := grownCap_ge w (0 + n) c (Try.growEty_ren.t 25)
        generalize grownCap w (0 + n) c (Try.growEty_ren.t 25) = G at hg ⊢
        have hz : (Value.agg #[.int .i64 0, .int .i64 0, .int .i64 0, .int .i64 0, .int .i64 0, .int .i64 0]).cells.size = 6 := rfl
        simp only [Array.size_append, size_zeroCells, hz, List.size_toArray, hcs]
        omega
    obtain ⟨cur, hc1, hc2⟩ := hcur
    refine ⟨_, [], he, ?_, ⟨rfl, Or.inr ⟨w.heap.size, _, cur, rfl, Nat.zero_le _, ⟨_, _, hc1, Or.inl ⟨rfl, rfl⟩⟩, Nat.zero_le _, grownCap_le_maxLen _ _ _ _ (by unfold maxLen; omega), hc2, rfl⟩⟩, ?_⟩
    · rw [hw]
      refine ⟨rfl, rfl, rfl, ?_, fun k hk _ => ?_⟩
      · show w.heap.size ≤ (w.heap.push _).size
        simp
      · show (w.heap.push _)[k]? = _
        rw [Array.getElem?_push, if_neg (by omega)]
    · intro m hm
      injection hm with hm
      exact Nat.le_of_eq hm
  have done0 : ∀ (w' : World) (v : Value) (xs' : List Value) (row : Option Nat), w.grownBy w' none → OwnR w' 0 34 6 v 0 xs' → (∀ m, Value.ownBlock v = some m → w.heap.size ≤ m) → Value.ownBlock v0 = row → ∃ v1 xs1, Ending.returned v = .returned v1 ∧ w.grownBy w' row ∧ OwnR w' 0 34 6 v1 ([] : List (List IV)).length xs1 ∧ (∀ e ∈ ([] : List (List IV)), e.length = 6) ∧ (∀ m, Value.ownBlock v1 = some m → row = some m ∨ w.heap.size ≤ m) ∧ (CX ≤ 34 → ∀ A l c, v1 = .slice A l c → c = ([] : List (List IV)).length) ∧ ∀ (k : Nat) e j x, ([] : List (List IV))[k]? = some e → e[j]? = some x → ∃ u, xs1[k * 6 + j]? = some u ∧ RepI w' (fun _ => True) x u ∧ u.oneCell' = true := by
    intro w' v xs' row h1 h2 h3 h4
    refine ⟨v, xs', rfl, ⟨h1.os, h1.tape, h1.output, h1.size, fun k hk _ => h1.block k hk (by simp)⟩, h2, by simp, fun m hm => Or.inr (h3 m hm), fun h => absurd h cx34, fun k e j x hk => by simp at hk⟩
  rcases hown.2 with ⟨rfl, h0⟩ | ⟨g, cap, cur, rfl, _, ⟨ty, fz, h3, h5⟩, h6, h7, h8, h9⟩
  · rcases Nat.eq_zero_or_pos n with rfl | hn0
    · refine (Any8.slices_Grow_room (P := Try.prog) (ρ := Try.growEty_ren) Try.growEty none 0 0 0 w (Nat.le_refl _) (by omega) (by omega) (Nat.le_refl _)).mono fun e w' ⟨he, hw⟩ => ?_
      rw [he]
      refine done0 w' _ [] _ (by rw [hw]; exact grown_refl w) ⟨rfl, Or.inl ⟨rfl, rfl⟩⟩ (fun m hm => by cases hm) rfl
    · refine (fresh none 0 [] hn0 rfl (fun _ => rfl) (fun a h => by cases h)).mono fun e w' ⟨v, xs', he, h1, h2, h3⟩ => ?_
      rw [he]
      exact done0 w' _ _ _ h1 h2 h3 rfl
  · by_cases hr : n ≤ cap
    · refine (Any8.slices_Grow_room (P := Try.prog) (ρ := Try.growEty_ren) Try.growEty (some ⟨g, 0, none⟩) 0 cap n w (Nat.zero_le _) (by unfold maxLen at h7; omega) (by omega) (by omega)).mono fun e w' ⟨he, hw⟩ => ?_
      subst hw
      refine ⟨_, xs, he, ⟨rfl, rfl, rfl, Nat.le_refl _, fun _ _ _ => rfl⟩, hown, by simp, fun m hm => Or.inl hm, fun h => absurd h cx34, fun k e j x hk => by simp at hk⟩
    · refine (fresh (some ⟨g, 0, none⟩) cap cur.toList (by omega) (by rw [Array.length_toList, h8]) (fun h => by cases h) (fun a ha j v hj => ?_)).mono fun e w' ⟨v, xs', he, h1, h2, h3⟩ => ?_
      · obtain rfl := Option.some.inj ha
        rw [Array.getElem?_toList] at hj
        have hb : ((⟨g, 0, none⟩ : Addr).add j) = ⟨g, j, none⟩ := by
          unfold Addr.add
          split
          · rename_i hj0; rw [hj0]
          · simp
        rw [hb]
        simp only [World.cell?, h3]
        exact hj
      · rw [he]
        exact done0 w' _ _ _ h1 h2 h3 rfl
theorem eScRows (l : List Ety) : ∀ e ∈ eR l, ∀ y ∈ e, isScI y = true := by
  intro e he y hy
  obtain ⟨x, _, rfl⟩ := List.mem_map.1 he
  simp [eRow] at hy
  rcases hy with h | h | h | h | h | h <;> subst h <;> rfl
theorem nilScRows : ∀ e ∈ ([] : List (List IV)), ∀ y ∈ e, isScI y = true := fun e he => by cases he
/-- How long all shards are, from one on. -/
def tot : List (List Ety) → Nat
  | [] => 0
  | l :: M => l.length + tot M
theorem tot_flat (M : List (List Ety)) : tot M = M.flatten.length := by
  induction M with
  | nil => rfl
  | cons l M ih => rw [tot, ih, List.flatten_cons, List.length_append]
theorem tot_take {M : List (List Ety)} {i : Nat} (h : i < M.length) : tot (M.take (i + 1)) = tot (M.take i) + M[i].length := by
  rw [tot_flat, tot_flat, List.take_succ_eq_append_getElem h, List.flatten_append, List.length_append]
  simp
theorem flat_take {M : List (List Ety)} {i : Nat} (h : i < M.length) : (M.take (i + 1)).flatten = (M.take i).flatten ++ M[i] := by
  rw [List.take_succ_eq_append_getElem h, List.flatten_append]
  simp
theorem tot_le {M : List (List Ety)} (i : Nat) : tot (M.take i) ≤ tot M := by
  rw [tot_flat, tot_flat]
  conv => rhs; rw [← List.take_append_drop i M, List.flatten_append, List.length_append]
  exact Nat.le_add_right _ _
theorem eR_app (l m : List Ety) : eR l ++ eR m = eR (l ++ m) := by simp [eR]
theorem tot_add {M : List (List Ety)} {i : Nat} (h : i < M.length) (ht : tot M ≤ 1000000) : iwrap .i64 ((tot (M.take i) : Nat) + ((eR M[i]).length : Int)) = ((tot (M.take (i + 1)) : Nat) : Int) := by
  have h1 := tot_take h
  have h2 := tot_le (M := M) (i + 1)
  have h3 : (eR M[i]).length = M[i].length := by simp [eR]
  rw [h3]
  exact (w64_in (by omega)).trans (by omega)
theorem tot_nn {n : Nat} : ¬ (n : Int) < 0 := by omega
theorem tot_b {M : List (List Ety)} {i : Nat} (h : i < M.length) (ht : tot M ≤ 1000000) : (eR (M.take i).flatten).length + (eR M[i]).length ≤ 1000000 := by
  have h1 := tot_take h
  have h2 := tot_le (M := M) (i + 1)
  have h3 : (eR (M.take i).flatten).length = (M.take i).flatten.length := by unfold eR; rw [List.length_map]
  have h4 : (eR M[i]).length = M[i].length := by simp [eR]
  rw [← tot_flat] at h3
  omega
set_option maxRecDepth 100000 in
set_option maxHeartbeats 16000000 in
theorem concatF (M : List (List Ety)) (hM : M.length ≤ 1000) (ht : tot M ≤ 1000000) : Fun Try.prog 65 [slV (mR M)] [.row 0 34 6 (eR M.flatten)] (.v (.c (.own 0 0))) := by
  refine fun_of_vc (tabXOk [2000072]) mixOk Try.func65 rfl (by rfl) (rs := [.tmp 2]) rfl rfl 40 ?_; rw [Try.ntmps65]
  (conv => whnf); repeat ((first | refine And.intro DrawOk.go ?_ | refine And.intro rfl ?_ | refine And.intro (fun _ => ?_) (fun h => Bool.noConfusion h) | refine And.intro (fun h => Bool.noConfusion h) (fun _ => ?_)); conv => whnf)
  refine vc_loop [0, 9, 10] [] (X := Nat) (fun i gs => [(3, ATint (tot (M.take i))), (11, ATint i)]) (fun _ _ => []) (fun i => i ≤ M.length) (fun i => M.length - i) _ (Ghost.refl _) 0 (Nat.zero_le _) ?_ ?_
  · (refine And.intro rfl (And.intro rfl ?_)); (repeat' (first | exact trivial | exact rfl | apply And.intro | (refine congrArg (Value.int .i64) (w64_nat ?_); omega)))
  intro gs i hi
  (conv => whnf); repeat ((first | refine And.intro DrawOk.go ?_ | refine And.intro rfl ?_ | refine And.intro (fun _ => ?_) (fun h => Bool.noConfusion h) | refine And.intro (fun h => Bool.noConfusion h) (fun _ => ?_)); conv => whnf)
  refine And.intro (fun h => ?_) (fun h => ?_)
  · have hlt := wa_lt h
    have hit := mItem hlt
    have hib := wa_i hlt (Nat.le_trans hM (by decide))
    have hta := tot_add hlt ht
    (conv => whnf); repeat ((first | refine And.intro DrawOk.go ?_ | refine And.intro rfl ?_ | refine And.intro (fun _ => ?_) (fun h => Bool.noConfusion h) | refine And.intro (fun h => Bool.noConfusion h) (fun _ => ?_)); conv => whnf)
    refine ⟨Int.natCast_nonneg _, _, hit, rfl, ?_⟩
    (conv => whnf); repeat ((first | refine And.intro DrawOk.go ?_ | refine And.intro rfl ?_ | refine And.intro (fun _ => ?_) (fun h => Bool.noConfusion h) | refine And.intro (fun h => Bool.noConfusion h) (fun _ => ?_)); conv => whnf)
    rw [hta]
    have hnn := tot_nn (n := tot (M.take (i + 1)))
    refine And.intro (fun h => absurd h (by simp [hnn])) (fun h => ?_)
    (conv => whnf); repeat ((first | refine And.intro DrawOk.go ?_ | refine And.intro rfl ?_ | refine And.intro (fun _ => ?_) (fun h => Bool.noConfusion h) | refine And.intro (fun h => Bool.noConfusion h) (fun _ => ?_)); conv => whnf)
    refine again (i + 1) hlt (Nat.sub_lt_sub_left hlt (Nat.lt_succ_self i)) ?_
    (refine And.intro rfl (And.intro rfl ?_)); (repeat' (first | exact trivial | exact rfl | apply And.intro | (refine congrArg (Value.int .i64) (w64_nat ?_); omega)))
    all_goals exact congrArg (Value.int .i64) (w64_nat hib)
  · obtain rfl := wa_ge h hi
    rw [List.take_length]
    have hg := growFA (tot M) ht
    (conv => whnf); repeat ((first | refine And.intro DrawOk.go ?_ | refine And.intro rfl ?_ | refine And.intro (fun _ => ?_) (fun h => Bool.noConfusion h) | refine And.intro (fun h => Bool.noConfusion h) (fun _ => ?_)); conv => whnf)
    refine ⟨_, _, _, hg, nilScRows, ?_⟩
    (conv => whnf); repeat ((first | refine And.intro DrawOk.go ?_ | refine And.intro rfl ?_ | refine And.intro (fun _ => ?_) (fun h => Bool.noConfusion h) | refine And.intro (fun h => Bool.noConfusion h) (fun _ => ?_)); conv => whnf)
    refine vc_loop [25, 26] [] (X := Nat) (fun i gs => [(6, .v (.c (.own 24 (gs 24)))), (27, ATint i)]) (fun i gs => [(24, .row (gs 24) 34 6 (eR (M.take i).flatten))]) (fun i => i ≤ M.length) (fun i => M.length - i) _ (Ghost.refl _) 0 (Nat.zero_le _) ?_ ?_
    · (refine And.intro rfl (And.intro rfl ?_)); (repeat' (first | exact trivial | exact rfl | apply And.intro | (refine congrArg (Value.int .i64) (w64_nat ?_); omega)))
    intro gs2 i hi
    (conv => whnf); repeat ((first | refine And.intro DrawOk.go ?_ | refine And.intro rfl ?_ | refine And.intro (fun _ => ?_) (fun h => Bool.noConfusion h) | refine And.intro (fun h => Bool.noConfusion h) (fun _ => ?_)); conv => whnf)
    refine And.intro (fun h2 => ?_) (fun h2 => ?_)
    · have hlt := wa_lt h2
      have hit := mItem hlt
      have hib := wa_i hlt (Nat.le_trans hM (by decide))
      have hb := tot_b hlt ht
      have hfl := (eR_app (M.take i).flatten M[i]).trans (congrArg eR (flat_take hlt).symm)
      have hsz := eSz M[i]
      generalize M[i] = l at hit hb hfl hsz
      (conv => whnf); repeat ((first | refine And.intro DrawOk.go ?_ | refine And.intro rfl ?_ | refine And.intro (fun _ => ?_) (fun h => Bool.noConfusion h) | refine And.intro (fun h => Bool.noConfusion h) (fun _ => ?_)); conv => whnf)
      refine ⟨Int.natCast_nonneg _, _, hit, rfl, ?_⟩
      (conv => whnf); repeat ((first | refine And.intro DrawOk.go ?_ | refine And.intro rfl ?_ | refine And.intro (fun _ => ?_) (fun h => Bool.noConfusion h) | refine And.intro (fun h => Bool.noConfusion h) (fun _ => ?_)); conv => whnf)
      refine ⟨hsz, ?_⟩
      (conv => whnf); repeat ((first | refine And.intro DrawOk.go ?_ | refine And.intro rfl ?_ | refine And.intro (fun _ => ?_) (fun h => Bool.noConfusion h) | refine And.intro (fun h => Bool.noConfusion h) (fun _ => ?_)); conv => whnf)
      refine ⟨bytes_le (by decide) (Nat.le_trans hb (by decide)), ?_⟩
      (conv => whnf); repeat ((first | refine And.intro DrawOk.go ?_ | refine And.intro rfl ?_ | refine And.intro (fun _ => ?_) (fun h => Bool.noConfusion h) | refine And.intro (fun h => Bool.noConfusion h) (fun _ => ?_)); conv => whnf)
      refine again (i + 1) hlt (Nat.sub_lt_sub_left hlt (Nat.lt_succ_self i)) ?_
      (refine And.intro rfl (And.intro rfl ?_)); (repeat' (first | exact trivial | exact rfl | apply And.intro | (refine congrArg (Value.int .i64) (w64_nat ?_); omega)))
      all_goals first
        | exact congrArg (Blk.row _ _ _) hfl
        | exact congrArg (Value.int .i64) (w64_nat hib)
    · obtain rfl := wa_ge h2 hi
      rw [List.take_length]
      (conv => whnf); repeat ((first | refine And.intro DrawOk.go ?_ | refine And.intro rfl ?_ | refine And.intro (fun _ => ?_) (fun h => Bool.noConfusion h) | refine And.intro (fun h => Bool.noConfusion h) (fun _ => ?_)); conv => whnf)
      refine ⟨[24], by simp, ?_⟩
      (conv => whnf); repeat ((first | refine And.intro DrawOk.go ?_ | refine And.intro rfl ?_ | refine And.intro (fun _ => ?_) (fun h => Bool.noConfusion h) | refine And.intro (fun h => Bool.noConfusion h) (fun _ => ?_)); conv => whnf)
      rfl
end Go.Proofs.Ytgjcljjgifnjdaa.Ab
