/- Devices: what an append does to the sectors. No condition. -/
import Derived.Test.YtkpicojhnnkibaaDd
namespace Go.Proofs.Ytkpicojhnnkibaa.Ab
set_option linter.unusedVariables false
set_option linter.unusedSimpArgs false
open Go.RowKit

/-- What an append that is taken does to the sectors. -/
theorem dapp_ok {d : Dv} {n : Int} {s : ByteArray} (h : (dappend d n s).2.2 = 0) : ∃ k : Nat, ∃ hk : k < d.zs.length, n = k ∧ s.size = 40 ∧ dchk d = 0 ∧
    (dappend d n s).1.zs.map Zn.ss = (d.zs.map Zn.ss).set k (d.zs[k].ss ++ [s]) ∧ (dappend d n s).2.1 = d.zs[k].ss.length := by
  by_cases c1 : dchk d = 0
  rotate_left
  · rw [dappend_1 c1] at h
    exact absurd h c1
  by_cases c2 : n < 0 ∨ n ≥ d.zs.length
  · rw [dappend_2 c1 c2] at h
    cases h
  by_cases c3 : s.size = 40
  rotate_left
  · rw [dappend_3 c1 c2 c3] at h
    cases h
  obtain ⟨k, rfl⟩ : ∃ k : Nat, n = k := ⟨n.toNat, by omega⟩
  have hk : k < d.zs.length := by omega
  refine ⟨k, hk, rfl, c3, c1, ?_⟩
  rw [dappend_4 c1 hk c3] at h ⊢
  split at h
  · cases h
  rename_i h5
  split at h
  · cases h
  rename_i h4
  rw [if_neg h5, if_neg h4]
  have key : ∀ x : Dv, x.zs.map Zn.ss = d.zs.map Zn.ss → (dappGo d k s (x, 0)).1.zs.map Zn.ss = (d.zs.map Zn.ss).set k (d.zs[k].ss ++ [s]) ∧ (dappGo d k s (x, 0)).2.1 = d.zs[k].ss.length := by
    intro x hx
    have hl : x.zs.length = d.zs.length := by have := congrArg List.length hx; simpa using this
    have hkx : k < x.zs.length := by omega
    have hss : x.zs[k].ss = d.zs[k].ss := by
      have := congrArg (fun l => l[k]?) hx
      simpa [List.getElem?_map, List.getElem?_eq_getElem hkx, List.getElem?_eq_getElem hk] using this
    rw [dappGo_ok hkx]
    refine ⟨?_, by dsimp only; rw [hss]⟩
    dsimp only [dput, dwith]
    rw [List.map_set, hx]
    congr 1
    split <;> (dsimp only; rw [hss])
  split at h
  · rename_i ho
    rw [if_pos ho]
    exact key d rfl
  · rename_i ho
    rw [if_neg ho]
    have hf := droom_form d (actB d.zs[k].st)
    generalize droom d (actB d.zs[k].st) = R at h hf ⊢
    obtain ⟨x, e⟩ := R
    by_cases he : e = 0
    · subst he
      exact key x hf.2
    · rw [dappGo_no he] at h
      exact absurd h he
/-- A device whose sectors are all of one length, and not too many. -/
def devL (zs : List Zn) : Prop := ∀ z ∈ zs, z.ss.length ≤ 100 ∧ ∀ y ∈ z.ss, y.size = 40
theorem devL_map {zs zs' : List Zn} (h : ∀ ss ∈ zs'.map Zn.ss, ss.length ≤ 100 ∧ ∀ y ∈ ss, y.size = 40) : devL zs' := fun z hz => h z.ss (List.mem_map.2 ⟨z, hz, rfl⟩)
theorem dapp_dev {d : Dv} {n : Int} {s : ByteArray} (h : (dappend d n s).2.2 = 0) (hd : devL d.zs) : devL (dappend d n s).1.zs ∧ (dappend d n s).1.zs.length = d.zs.length := by
  obtain ⟨k, hk, _, hs, hc, hm, _⟩ := dapp_ok h
  have hr := (dchk_ok hc).2.1 _ (List.getElem_mem hk)
  have hb := (dchk_ok hc).1
  unfold cfgBad at hb
  have hlen : d.zs[k].ss.length ≤ 64 := by have := hr.1.2.2.1; omega
  refine ⟨devL_map (zs := d.zs) (fun ss hss => ?_), by have := congrArg List.length hm; simpa using this⟩
  rw [hm] at hss
  rcases List.mem_or_eq_of_mem_set hss with hss | hss
  · obtain ⟨z, hz, rfl⟩ := List.mem_map.1 hss
    exact hd z hz
  · rw [hss]
    refine ⟨by rw [List.length_append, List.length_singleton]; omega, fun y hy => ?_⟩
    rcases List.mem_append.1 hy with hy | hy
    · exact (hd _ (List.getElem_mem hk)).2 y hy
    · rw [List.mem_singleton] at hy
      rw [hy]
      exact hs
theorem dapp_err {d : Dv} {n : Int} {s : ByteArray} (h : (dappend d n s).2.2 ≠ 0) : (dappend d n s).1 = d := by
  by_cases c1 : dchk d = 0
  rotate_left
  · rw [dappend_1 c1]
  by_cases c2 : n < 0 ∨ n ≥ d.zs.length
  · rw [dappend_2 c1 c2]
  by_cases c3 : s.size = 40
  rotate_left
  · rw [dappend_3 c1 c2 c3]
  obtain ⟨k, rfl⟩ : ∃ k : Nat, n = k := ⟨n.toNat, by omega⟩
  have hk : k < d.zs.length := by omega
  rw [dappend_4 c1 hk c3] at h ⊢
  split at h
  · rename_i h5
    rw [if_pos h5]
  rename_i h5
  split at h
  · rename_i h4
    rw [if_neg h5, if_pos h4]
  rename_i h4
  rw [if_neg h5, if_neg h4]
  have key : ∀ x : Dv, k < x.zs.length → (dappGo d k s (x, 0)).2.2 = 0 := by
    intro x hx
    rw [dappGo_ok hx]
  split at h
  · rename_i ho
    exact absurd (key d hk) h
  · rename_i ho
    rw [if_neg ho]
    have hf := droom_form d (actB d.zs[k].st)
    generalize droom d (actB d.zs[k].st) = R at h hf ⊢
    obtain ⟨x, e⟩ := R
    by_cases he : e = 0
    · subst he
      have hl : x.zs.length = d.zs.length := by have := congrArg List.length hf.2; simpa using this
      exact absurd (key x (by omega)) h
    · rw [dappGo_no he]
theorem dapp_any (d : Dv) (n : Int) (s : ByteArray) (hd : devL d.zs) : devL (dappend d n s).1.zs ∧ (dappend d n s).1.zs.length = d.zs.length := by
  by_cases h : (dappend d n s).2.2 = 0
  · exact dapp_dev h hd
  · rw [dapp_err h]
    exact ⟨hd, rfl⟩
theorem devL_new (Z : Nat) : devL (List.replicate Z z0) := fun z hz => by
  rw [(List.mem_replicate.1 hz).2]
  exact ⟨Nat.zero_le _, fun y hy => by cases hy⟩
end Go.Proofs.Ytkpicojhnnkibaa.Ab
