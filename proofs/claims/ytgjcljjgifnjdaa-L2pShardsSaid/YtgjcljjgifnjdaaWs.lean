/- slices.SortFunc on a row of entries of the caller's own. No condition. -/
import Derived.Test.YtgjcljjgifnjdaaSo
import Derived.Test.YtgjcljjgifnjdaaWa
import Derived.Shelf.SlSortCmp.NoneTotal
import Derived.WalkKit
namespace Go.Proofs.Ytgjcljjgifnjdaa.Ab
set_option linter.unusedVariables false
set_option linter.unusedSimpArgs false
open Go.RowKit Go.Sort Go.Lib

def encE (e : Ety) : List Value := [.int .i64 e.b, .int .i64 e.k, .int .i64 e.v, .int .i64 e.m, .int .i64 e.z, .int .i64 e.o]
def bIn (e : Ety) : Prop := 0 ≤ e.b ∧ e.b ≤ 9223372036854775807
def EB : Type := {e : Ety // bIn e}
instance : Inhabited EB := ⟨⟨⟨0, 0, 0, 0, 0, 0⟩, by unfold bIn; decide⟩⟩
def encB (x : EB) : List Value := encE x.1
def cfB (x y : EB) : Int := x.1.b - y.1.b
theorem ltB (x y : EB) : ltOf cfB x y = decide (x.1.b < y.1.b) := by
  unfold ltOf cfB
  rw [decide_eq_decide]
  omega
theorem swoB : SWO (ltOf cfB) where
  irrefl x := by rw [ltB]; simp
  trans x y z h1 h2 := by rw [ltB] at *; simp at *; omega
  ntrans x y z h1 h2 := by rw [ltB] at *; simp at *; omega
theorem subB (x y : EB) : IntKind.i64.wrap (x.1.b - y.1.b) = x.1.b - y.1.b := by
  have h1 := x.2
  have h2 := y.2
  unfold bIn at h1 h2
  rw [iwrap_eq]; exact w64_in (by omega)
set_option maxHeartbeats 1000000 in
theorem cloB (x y : EB) (W : World) : Calls Try.prog 67 (#[.agg (encB x).toArray, .agg (encB y).toArray] ++ #[]) W fun e w' => e = .returned (.int .i64 (cfB x y)) ∧ ∃ q os', w' = grow (W.drewN q) os' := by
  have hw := subB x y
  unfold cfB encB
  generalize x.1 = a at hw ⊢
  generalize y.1 = b at hw ⊢
  obtain ⟨ab, ak, av, am, az, ao⟩ := a
  obtain ⟨bb, bk, bv, bm, bz, bo⟩ := b
  dsimp only [encE] at hw ⊢
  go_enter Try.func67, Try.ntmps67
  go_wp2
  go_ret
  refine ⟨?_, 0, _, by rw [alloc_eq_grow, alloc_eq_grow, grow_grow]; rfl⟩
  first | rfl | exact congrArg (fun z => Ending.returned (.int .i64 z)) hw
theorem cmpB (blk off size : Nat) (w : World) : CmpLays Try.prog 67 #[] encB 6 cfB blk off size w := fun _ _ _ _ x y => cloB x y _
/-- The row sorted, as the library leaves it. -/
noncomputable def srtB (d : Array EB) : Array EB := Go.Sort.pdq (ltOf cfB) d 0 d.size (Go.Lib.bitLen d.size) true true
theorem srtB_ok (d : Array EB) : PermIn 0 d.size d (srtB d) ∧ SortedIn (ltOf cfB) 0 d.size (srtB d) := pdq_sorts (ltOf cfB) swoB d 0 d.size (Go.Lib.bitLen d.size) true true (Nat.zero_le _) (Nat.le_refl _) (Or.inl rfl)
def unB (d : Array EB) : List Ety := d.toList.map fun x => x.1
theorem unB_len (d : Array EB) : (unB d).length = d.size := by simp [unB]
theorem unB_get {d : Array EB} {k : Nat} (h : k < d.size) : (unB d)[k]'(by rw [unB_len]; exact h) = d[k]!.1 := by
  simp [unB, h]
theorem encE_get (e : Ety) {j : Nat} {x : IV} (h : (eRow e)[j]? = some x) : j < 6 ∧ x = .sc ((encE e)[j]!) := by
  unfold eRow at h
  rcases j with _ | _ | _ | _ | _ | _ | j
  · injection h with h; exact ⟨by omega, h.symm⟩
  · injection h with h; exact ⟨by omega, h.symm⟩
  · injection h with h; exact ⟨by omega, h.symm⟩
  · injection h with h; exact ⟨by omega, h.symm⟩
  · injection h with h; exact ⟨by omega, h.symm⟩
  · injection h with h; exact ⟨by omega, h.symm⟩
  · cases h
theorem encE_at (e : Ety) {j : Nat} (h : j < 6) : (eRow e)[j]? = some (.sc ((encE e)[j]!)) := by
  rcases j with _ | _ | _ | _ | _ | _ | j
  · rfl
  · rfl
  · rfl
  · rfl
  · rfl
  · rfl
  · omega
theorem encE_one (e : Ety) : ∀ v ∈ encE e, v.oneCell' = true := by
  intro v hv
  simp only [encE, List.mem_cons, List.not_mem_nil, or_false] at hv
  rcases hv with rfl | rfl | rfl | rfl | rfl | rfl <;> rfl
theorem eAt {l : List Ety} {k : Nat} (h : k < l.length) : (eR l)[k]? = some (eRow l[k]) := by simp [eR, h]
theorem eR_at {l : List Ety} {k : Nat} {e : List IV} (h : (eR l)[k]? = some e) : ∃ hk : k < l.length, e = eRow l[k] := by
  unfold eR at h
  rw [List.getElem?_map] at h
  obtain ⟨y, hy, rfl⟩ := Option.map_eq_some_iff.1 h
  obtain ⟨hk, rfl⟩ := List.getElem?_eq_some_iff.1 hy
  exact ⟨hk, rfl⟩
set_option maxRecDepth 100000 in
theorem sortBF (d : Array EB) (hd : d.size ≤ 1000000) (E : Nat) (hE : E < FX) : FunS Try.prog 66 E 6 (eR (unB d)) [fnV 67] (eR (unB (srtB d))) := by
  have hsz : (srtB d).size = d.size := (srtB_ok d).1.1
  refine ⟨⟨_, Try.func66, rfl, rfl⟩, fun w ok v0 xs argv hok hown hlen hnok hcell hargs hrep => ?_⟩
  have hl : (eR (unB d)).length = d.size := by simp [eR, unB_len]
  have hl' : (eR (unB (srtB d))).length = d.size := by simp [eR, unB_len, hsz]
  obtain ⟨v, rfl⟩ : ∃ v, argv = #[v] := by
    obtain ⟨l⟩ := argv
    match l, hargs with
    | [v], _ => exact ⟨v, rfl⟩
  have hv : v = .func (.func 67) #[] #[] := by
    have := hrep 0 v _ rfl rfl
    exact RepI_sc this
  subst hv
  rw [hl] at hown
  have heR : ∀ e ∈ eR (unB (srtB d)), e.length = 6 := by
    intro e he
    unfold eR at he
    obtain ⟨y, _, rfl⟩ := List.mem_map.1 he
    rfl
  rcases hown.2 with ⟨rfl, h0⟩ | ⟨g, cap, cur, rfl, _, ⟨ty, fz, h3, h5⟩, h6, h7, h8, h9⟩
  · refine (AnyF.slices_SortFunc_none Try.sortEty none 0 _ w).mono fun e w' ⟨he, hw⟩ => ?_
    subst hw
    have hnil : eR (unB (srtB d)) = [] := List.length_eq_zero_iff.1 (hl'.trans h0)
    refine ⟨[], he, grown_refl _, ?_, by rw [hl, hl'], heR, ?_⟩
    · rw [hl', h0]
      exact ⟨by simp, Or.inl ⟨rfl, rfl⟩⟩
    · intro k e j x hk
      rw [hnil] at hk
      cases hk
  have hfz : fz = (0, 0) ∧ ty = E := by
    rcases h5 with h5 | ⟨h5, _⟩
    · exact h5
    · exact absurd hE (Nat.not_lt.2 h5)
  obtain ⟨rfl, rfl⟩ := hfz
  have hg : g < w.heap.size := (Array.getElem?_eq_some_iff.1 h3).1
  have hfl : ∀ j, j < d.size * 6 → xs[j]? = some ((flatK encB 6 d)[j]!) := by
    intro j hj
    have hk : j / 6 < d.size := by omega
    have hm : j % 6 < 6 := Nat.mod_lt _ (by decide)
    have hk' : j / 6 < (unB d).length := by rw [unB_len]; exact hk
    obtain ⟨u, hu, hr, _⟩ := hcell (j / 6) (eRow (unB d)[j / 6]) (j % 6) _ (eAt hk') (encE_at _ hm)
    have hj2 : j / 6 * 6 + j % 6 = j := by omega
    rw [hj2] at hu
    rw [hu, RepI_sc hr, get_flatK _ _ _ _ hj, unB_get hk]
    rfl
  have hcl : ∀ j, j < d.size * 6 → cur[j]? = some ((flatK encB 6 d)[j]!) := by
    intro j hj
    have := hfl j hj
    rw [← h9, List.getElem?_take, if_pos hj, Array.getElem?_toList] at this
    exact this
  have hH : HoldsK encB 6 w g 0 d := by
    intro j hj
    rw [size_flatK] at hj
    refine ⟨?_, ?_⟩
    · simp only [World.cell?, h3, Nat.zero_add]
      exact hcl j hj
    · simp only [World.frozen?, h3]
      rfl
  have hS := AnyQ.slices_SortFunc_eq Try.sortEty 6 Try.isAgg34 Try.sizeOf34 encB (fun _ => rfl) (fun x => encE_one x.1) cfB swoB 67 #[] g 0 cap d w (enters_of Try.func67 (by kernel_rfl) rfl) (cmpB g 0 d.size w) hH hg (by omega)
  refine hS.mono fun e w' ⟨he, n, os, hw⟩ => ?_
  have hw2 : w' = sortWorldK encB 6 w g 0 n (srtB d) os := hw
  clear hw hS
  have hfs : (flatK encB 6 (srtB d)).size = d.size * 6 := by rw [size_flatK, hsz]
  have hheap : ∀ k, k < w.heap.size → w'.heap[k]? = if k = g then some (.cells (putCells id 0 (flatK encB 6 (srtB d)) cur) ty (0, 0)) else w.heap[k]? := by
    intro k hk
    rw [hw2]
    unfold sortWorldK
    rw [heap_grow_old _ _ (by show k < ((w.heap.modify g _)).size; rw [Array.size_modify]; exact hk)]
    show (w.heap.modify g _)[k]? = _
    rw [Array.getElem?_modify]
    by_cases hkg : g = k
    · subst hkg
      rw [if_pos rfl, if_pos rfl, h3]
      rfl
    · rw [if_neg hkg, if_neg (fun h => hkg h.symm)]
  have hws : w.heap.size ≤ w'.heap.size := by
    rw [hw2]
    unfold sortWorldK
    rw [size_grow]
    show w.heap.size ≤ (w.heap.modify g _).size + _
    rw [Array.size_modify]
    omega
  have hput : ∀ j, j < d.size * 6 → (putCells id 0 (flatK encB 6 (srtB d)) cur).toList[j]? = some ((flatK encB 6 (srtB d))[j]!) := by
    intro j hj
    rw [Array.getElem?_toList]
    unfold putCells
    rw [Array.getElem?_mapIdx, hcl j hj, Option.map_some, if_pos ⟨Nat.zero_le _, by rw [hfs]; omega⟩]
    rfl
  have hpl : (putCells id 0 (flatK encB 6 (srtB d)) cur).size = cur.size := by simp [putCells]
  have hle : d.size * 6 ≤ cap * 6 := Nat.mul_le_mul_right _ h6
  refine ⟨(putCells id 0 (flatK encB 6 (srtB d)) cur).toList.take (d.size * 6), he, ?_, ?_, by rw [hl, hl'], heR, ?_⟩
  · refine ⟨?_, ?_, ?_, hws, fun k hk hne => ?_⟩
    · rw [hw2]; rfl
    · rw [hw2]; rfl
    · rw [hw2]; rfl
    · rw [hheap k hk, if_neg]
      intro h
      subst h
      exact hne rfl
  · rw [hl']
    refine ⟨?_, Or.inr ⟨g, cap, _, rfl, Nat.zero_le _, ⟨ty, (0, 0), by rw [hheap g hg, if_pos rfl], Or.inl ⟨rfl, rfl⟩⟩, h6, h7, by rw [hpl]; exact h8, rfl⟩⟩
    rw [List.length_take, Array.length_toList, hpl, h8]
    omega
  · intro k e j x hk hj
    obtain ⟨hk1, rfl⟩ := eR_at hk
    obtain ⟨hj1, rfl⟩ := encE_get _ hj
    have hkd : k < d.size := by rw [unB_len, hsz] at hk1; exact hk1
    have hkj : k * 6 + j < d.size * 6 := by omega
    refine ⟨_, ?_, .sc _ ?_, ?_⟩
    rotate_left
    · exact encE_one _ _ (by rw [getElem!_pos _ j (by exact hj1)]; exact List.getElem_mem _)
    · exact encE_one _ _ (by rw [getElem!_pos _ j (by exact hj1)]; exact List.getElem_mem _)
    · rw [List.getElem?_take, if_pos hkj, hput _ hkj, get_flatK _ _ _ _ (by rw [hsz]; exact hkj), unB_get (by rw [hsz]; exact hkd), show (k * 6 + j) / 6 = k by omega, show (k * 6 + j) % 6 = j by omega]
      rfl
end Go.Proofs.Ytgjcljjgifnjdaa.Ab
