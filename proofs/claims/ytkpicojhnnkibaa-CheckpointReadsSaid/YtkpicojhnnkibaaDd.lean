/- Devices: appends of the reference. No condition. -/
import Derived.Test.YtkpicojhnnkibaaDc
namespace Go.Proofs.Ytkpicojhnnkibaa.Ab
set_option linter.unusedVariables false
set_option linter.unusedSimpArgs false
open Go.RowKit

theorem droom_form (d : Dv) (a : Bool) : (droom d a).1 = ⟨d.s, d.mo, d.ma, (droom d a).1.zs⟩ ∧ (droom d a).1.zs.map Zn.ss = d.zs.map Zn.ss := by
  unfold droom
  have hx : ∀ x, droomX d = some x → x = ⟨d.s, d.mo, d.ma, x.zs⟩ ∧ x.zs.map Zn.ss = d.zs.map Zn.ss := by
    intro x hx
    unfold droomX at hx
    split at hx
    · split at hx
      · cases hx
      · rename_i z hz
        injection hx with hx
        subst hx
        refine ⟨rfl, ?_⟩
        simp only [dwith, List.map_set]
        apply List.ext_getElem?
        intro i
        by_cases hi : opnAt d.zs = i
        · subst hi
          have hlt := (List.getElem?_eq_some_iff.1 hz).1
          rw [List.getElem?_set_self (by simpa using hlt), List.getElem?_map, hz]
          rfl
        · rw [List.getElem?_set_ne hi]
    · injection hx with hx
      subst hx
      exact ⟨rfl, rfl⟩
  split
  · exact ⟨rfl, rfl⟩
  · rename_i x he
    split
    · exact ⟨rfl, rfl⟩
    · exact hx x he
theorem dappend_1 {d : Dv} {n : Int} {s : ByteArray} (h : dchk d ≠ 0) : dappend d n s = (d, 0, dchk d) := by unfold dappend; rw [if_pos h]
theorem dappend_2 {d : Dv} {n : Int} {s : ByteArray} (h : dchk d = 0) (h2 : n < 0 ∨ n ≥ d.zs.length) : dappend d n s = (d, 0, 5) := by unfold dappend; rw [if_neg (fun hh => hh h), if_pos h2]
theorem dappend_3 {d : Dv} {n : Int} {s : ByteArray} (h : dchk d = 0) (h2 : ¬ (n < 0 ∨ n ≥ d.zs.length)) (h3 : s.size ≠ 40) : dappend d n s = (d, 0, 2) := by unfold dappend; rw [if_neg (fun hh => hh h), if_neg h2, if_pos h3]
theorem dappend_4 {d : Dv} {k : Nat} {s : ByteArray} (h : dchk d = 0) (hk : k < d.zs.length) (h3 : s.size = 40) : dappend d k s = if d.zs[k].st = 5 then (d, 0, 6) else if d.zs[k].st = 4 then (d, 0, 7)
      else dappGo d k s (if openB d.zs[k].st then (d, 0) else droom d (actB d.zs[k].st)) := by
  unfold dappend
  rw [if_neg (fun hh => hh h), if_neg (by omega), if_neg (fun hh => hh h3), Int.toNat_natCast, List.getElem?_eq_getElem hk]
theorem dappGo_ok {d x : Dv} {k : Nat} {s : ByteArray} (hk : k < x.zs.length) : dappGo d k s (x, 0) = (dput x k x.zs[k] s, (x.zs[k].ss.length : Int), 0) := by
  unfold dappGo
  rw [if_neg (fun h => h rfl)]
  dsimp only
  rw [List.getElem?_eq_getElem hk]
theorem dappGo_no {d x : Dv} {k : Nat} {s : ByteArray} {e : Int} (h : e ≠ 0) : dappGo d k s (x, e) = (d, 0, e) := by
  unfold dappGo
  rw [if_pos h]
set_option maxRecDepth 100000 in
set_option maxHeartbeats 32000000 in
theorem appF (s mo ma : Int) (zs : List Zn) (n : Int) (sec : ByteArray) (hl : zs.length ≤ 1000000) (hz : ∀ z ∈ zs, z.ss.length ≤ 1000000) :
    Fun Try.prog 35 [dvA s mo ma zs, i64V n, strV sec] [] (.tup [dvV (dappend ⟨s, mo, ma, zs⟩ n sec).1, i64V (dappend ⟨s, mo, ma, zs⟩ n sec).2.1, i64V (dappend ⟨s, mo, ma, zs⟩ n sec).2.2]) := by
  have hzl := zLen zs
  have hc := dchkF s mo ma zs hl hz
  by_cases c1 : dchk ⟨s, mo, ma, zs⟩ = 0
  rotate_left
  · rw [dappend_1 c1]
    generalize dchk ⟨s, mo, ma, zs⟩ = R at c1 hc ⊢
    refine fun_of_vc (tabXOk [3000099]) mixOk Try.func35 rfl (by rfl) (rs := [.cell 6 49, .tmp 7, .tmp 8]) rfl rfl 115 ?_; rw [Try.ntmps35]
    (conv => whnf); repeat ((first | refine And.intro DrawOk.go ?_ | refine And.intro rfl ?_ | refine And.intro (fun _ => ?_) (fun h => Bool.noConfusion h) | refine And.intro (fun h => Bool.noConfusion h) (fun _ => ?_)); conv => whnf)
    refine ⟨_, _, hc, ?_⟩
    (conv => whnf); repeat ((first | refine And.intro DrawOk.go ?_ | refine And.intro rfl ?_ | refine And.intro (fun _ => ?_) (fun h => Bool.noConfusion h) | refine And.intro (fun h => Bool.noConfusion h) (fun _ => ?_)); conv => whnf)
    refine And.intro (fun h => ?_) (fun h => absurd h (by simp [c1]))
    (conv => whnf); repeat ((first | refine And.intro DrawOk.go ?_ | refine And.intro rfl ?_ | refine And.intro (fun _ => ?_) (fun h => Bool.noConfusion h) | refine And.intro (fun h => Bool.noConfusion h) (fun _ => ?_)); conv => whnf)
    refine Exists.intro [] (And.intro List.nodup_nil ?_); ((conv => whnf); repeat ((first | refine And.intro DrawOk.go ?_ | refine And.intro rfl ?_ | refine And.intro (fun _ => ?_) (fun h => Bool.noConfusion h) | refine And.intro (fun h => Bool.noConfusion h) (fun _ => ?_)); conv => whnf))
    rfl
  rw [c1] at hc
  by_cases c2 : n < 0 ∨ n ≥ zs.length
  · rw [dappend_2 c1 c2]
    refine fun_of_vc (tabXOk [3000099]) mixOk Try.func35 rfl (by rfl) (rs := [.cell 6 49, .tmp 7, .tmp 8]) rfl rfl 115 ?_; rw [Try.ntmps35]
    (conv => whnf); repeat ((first | refine And.intro DrawOk.go ?_ | refine And.intro rfl ?_ | refine And.intro (fun _ => ?_) (fun h => Bool.noConfusion h) | refine And.intro (fun h => Bool.noConfusion h) (fun _ => ?_)); conv => whnf)
    repeat' (first | ((refine And.intro (fun h => ?_) (fun h => ?_)) <;> (try simp at h) <;> ((conv => whnf); repeat ((first | refine And.intro DrawOk.go ?_ | refine And.intro rfl ?_ | refine And.intro (fun _ => ?_) (fun h => Bool.noConfusion h) | refine And.intro (fun h => Bool.noConfusion h) (fun _ => ?_)); conv => whnf))) | (refine ⟨_, _, hc, ?_⟩; ((conv => whnf); repeat ((first | refine And.intro DrawOk.go ?_ | refine And.intro rfl ?_ | refine And.intro (fun _ => ?_) (fun h => Bool.noConfusion h) | refine And.intro (fun h => Bool.noConfusion h) (fun _ => ?_)); conv => whnf))) | fail)
    all_goals first
      | (exfalso; omega)
      | (refine Exists.intro [] (And.intro List.nodup_nil ?_); ((conv => whnf); repeat ((first | refine And.intro DrawOk.go ?_ | refine And.intro rfl ?_ | refine And.intro (fun _ => ?_) (fun h => Bool.noConfusion h) | refine And.intro (fun h => Bool.noConfusion h) (fun _ => ?_)); conv => whnf))
         rfl)
  by_cases c3 : sec.size = 40
  rotate_left
  · rw [dappend_3 c1 c2 c3]
    refine fun_of_vc (tabXOk [3000099]) mixOk Try.func35 rfl (by rfl) (rs := [.cell 6 49, .tmp 7, .tmp 8]) rfl rfl 115 ?_; rw [Try.ntmps35]
    (conv => whnf); repeat ((first | refine And.intro DrawOk.go ?_ | refine And.intro rfl ?_ | refine And.intro (fun _ => ?_) (fun h => Bool.noConfusion h) | refine And.intro (fun h => Bool.noConfusion h) (fun _ => ?_)); conv => whnf)
    repeat' (first | ((refine And.intro (fun h => ?_) (fun h => ?_)) <;> (try simp at h) <;> ((conv => whnf); repeat ((first | refine And.intro DrawOk.go ?_ | refine And.intro rfl ?_ | refine And.intro (fun _ => ?_) (fun h => Bool.noConfusion h) | refine And.intro (fun h => Bool.noConfusion h) (fun _ => ?_)); conv => whnf))) | (refine ⟨_, _, hc, ?_⟩; ((conv => whnf); repeat ((first | refine And.intro DrawOk.go ?_ | refine And.intro rfl ?_ | refine And.intro (fun _ => ?_) (fun h => Bool.noConfusion h) | refine And.intro (fun h => Bool.noConfusion h) (fun _ => ?_)); conv => whnf))) | fail)
    all_goals first
      | (exfalso; omega)
      | (refine Exists.intro [] (And.intro List.nodup_nil ?_); ((conv => whnf); repeat ((first | refine And.intro DrawOk.go ?_ | refine And.intro rfl ?_ | refine And.intro (fun _ => ?_) (fun h => Bool.noConfusion h) | refine And.intro (fun h => Bool.noConfusion h) (fun _ => ?_)); conv => whnf))
         rfl)
  obtain ⟨k, rfl⟩ : ∃ k : Nat, n = k := ⟨n.toNat, by omega⟩
  have hk : k < zs.length := by omega
  rw [dappend_4 c1 hk c3]
  have hit := zItem hk
  have hzk := hz _ (List.getElem_mem hk)
  have hop := openF zs[k].st
  have hrm := roomF s mo ma zs k hl hk
  have hfrm := droom_form ⟨s, mo, ma, zs⟩ (actB zs[k].st)
  have hgk := dappGo_ok (d := ⟨s, mo, ma, zs⟩) (x := ⟨s, mo, ma, zs⟩) (s := sec) hk
  dsimp only at hgk hfrm ⊢
  generalize zs[k] = z at hit hzk hop hrm hfrm hgk ⊢
  obtain ⟨st, du, ss⟩ := z
  dsimp only at hzk hop hrm hfrm hgk ⊢
  replace hit : (zR zs)[((k : Int)).toNat]? = some [IV.sc (.int .i64 st), IV.sc (.int .i64 du), IV.sl (sV ss)] := hit
  by_cases c5 : st = 5
  · rw [if_pos c5]
    clear hrm hfrm hop hgk
    refine fun_of_vc (tabXOk [3000099]) mixOk Try.func35 rfl (by rfl) (rs := [.cell 6 49, .tmp 7, .tmp 8]) rfl rfl 115 ?_; rw [Try.ntmps35]
    (conv => whnf); repeat ((first | refine And.intro DrawOk.go ?_ | refine And.intro rfl ?_ | refine And.intro (fun _ => ?_) (fun h => Bool.noConfusion h) | refine And.intro (fun h => Bool.noConfusion h) (fun _ => ?_)); conv => whnf)
    repeat' (first | ((refine And.intro (fun h => ?_) (fun h => ?_)) <;> (try simp at h) <;> ((conv => whnf); repeat ((first | refine And.intro DrawOk.go ?_ | refine And.intro rfl ?_ | refine And.intro (fun _ => ?_) (fun h => Bool.noConfusion h) | refine And.intro (fun h => Bool.noConfusion h) (fun _ => ?_)); conv => whnf))) | (refine ⟨_, _, hc, ?_⟩; ((conv => whnf); repeat ((first | refine And.intro DrawOk.go ?_ | refine And.intro rfl ?_ | refine And.intro (fun _ => ?_) (fun h => Bool.noConfusion h) | refine And.intro (fun h => Bool.noConfusion h) (fun _ => ?_)); conv => whnf))) | (refine ⟨by omega, _, hit, rfl, ?_⟩; ((conv => whnf); repeat ((first | refine And.intro DrawOk.go ?_ | refine And.intro rfl ?_ | refine And.intro (fun _ => ?_) (fun h => Bool.noConfusion h) | refine And.intro (fun h => Bool.noConfusion h) (fun _ => ?_)); conv => whnf))) | fail)
    all_goals first
      | (exfalso; omega)
      | (refine Exists.intro [] (And.intro List.nodup_nil ?_); ((conv => whnf); repeat ((first | refine And.intro DrawOk.go ?_ | refine And.intro rfl ?_ | refine And.intro (fun _ => ?_) (fun h => Bool.noConfusion h) | refine And.intro (fun h => Bool.noConfusion h) (fun _ => ?_)); conv => whnf))
         rfl)
  by_cases c4 : st = 4
  · rw [if_neg c5, if_pos c4]
    clear hrm hfrm hop hgk
    refine fun_of_vc (tabXOk [3000099]) mixOk Try.func35 rfl (by rfl) (rs := [.cell 6 49, .tmp 7, .tmp 8]) rfl rfl 115 ?_; rw [Try.ntmps35]
    (conv => whnf); repeat ((first | refine And.intro DrawOk.go ?_ | refine And.intro rfl ?_ | refine And.intro (fun _ => ?_) (fun h => Bool.noConfusion h) | refine And.intro (fun h => Bool.noConfusion h) (fun _ => ?_)); conv => whnf)
    repeat' (first | ((refine And.intro (fun h => ?_) (fun h => ?_)) <;> (try simp at h) <;> ((conv => whnf); repeat ((first | refine And.intro DrawOk.go ?_ | refine And.intro rfl ?_ | refine And.intro (fun _ => ?_) (fun h => Bool.noConfusion h) | refine And.intro (fun h => Bool.noConfusion h) (fun _ => ?_)); conv => whnf))) | (refine ⟨_, _, hc, ?_⟩; ((conv => whnf); repeat ((first | refine And.intro DrawOk.go ?_ | refine And.intro rfl ?_ | refine And.intro (fun _ => ?_) (fun h => Bool.noConfusion h) | refine And.intro (fun h => Bool.noConfusion h) (fun _ => ?_)); conv => whnf))) | (refine ⟨by omega, _, hit, rfl, ?_⟩; ((conv => whnf); repeat ((first | refine And.intro DrawOk.go ?_ | refine And.intro rfl ?_ | refine And.intro (fun _ => ?_) (fun h => Bool.noConfusion h) | refine And.intro (fun h => Bool.noConfusion h) (fun _ => ?_)); conv => whnf))) | fail)
    all_goals first
      | (exfalso; omega)
      | (refine Exists.intro [] (And.intro List.nodup_nil ?_); ((conv => whnf); repeat ((first | refine And.intro DrawOk.go ?_ | refine And.intro rfl ?_ | refine And.intro (fun _ => ?_) (fun h => Bool.noConfusion h) | refine And.intro (fun h => Bool.noConfusion h) (fun _ => ?_)); conv => whnf))
         rfl)
  rw [if_neg c5, if_neg c4]
  by_cases c6 : openB st = true
  · rw [if_pos c6, hgk]
    rw [c6] at hop
    clear hrm hfrm hgk
    have hz' : zs.length ≤ 1000000 := hl
    refine fun_of_vc (tabXOk [3000099]) mixOk Try.func35 rfl (by rfl) (rs := [.cell 6 49, .tmp 7, .tmp 8]) rfl rfl 115 ?_; rw [Try.ntmps35]
    (conv => whnf); repeat ((first | refine And.intro DrawOk.go ?_ | refine And.intro rfl ?_ | refine And.intro (fun _ => ?_) (fun h => Bool.noConfusion h) | refine And.intro (fun h => Bool.noConfusion h) (fun _ => ?_)); conv => whnf)
    repeat' (first | ((refine And.intro (fun h => ?_) (fun h => ?_)) <;> (try simp at h) <;> ((conv => whnf); repeat ((first | refine And.intro DrawOk.go ?_ | refine And.intro rfl ?_ | refine And.intro (fun _ => ?_) (fun h => Bool.noConfusion h) | refine And.intro (fun h => Bool.noConfusion h) (fun _ => ?_)); conv => whnf))) | (refine ⟨_, _, hc, ?_⟩; ((conv => whnf); repeat ((first | refine And.intro DrawOk.go ?_ | refine And.intro rfl ?_ | refine And.intro (fun _ => ?_) (fun h => Bool.noConfusion h) | refine And.intro (fun h => Bool.noConfusion h) (fun _ => ?_)); conv => whnf))) | (refine ⟨_, _, hop, ?_⟩; ((conv => whnf); repeat ((first | refine And.intro DrawOk.go ?_ | refine And.intro rfl ?_ | refine And.intro (fun _ => ?_) (fun h => Bool.noConfusion h) | refine And.intro (fun h => Bool.noConfusion h) (fun _ => ?_)); conv => whnf))) | (refine ⟨by omega, _, hit, rfl, ?_⟩; ((conv => whnf); repeat ((first | refine And.intro DrawOk.go ?_ | refine And.intro rfl ?_ | refine And.intro (fun _ => ?_) (fun h => Bool.noConfusion h) | refine And.intro (fun h => Bool.noConfusion h) (fun _ => ?_)); conv => whnf))) | fail)
    all_goals first
      | (exfalso; omega)
      | skip
    refine ⟨sSz ss, ?_⟩
    (conv => whnf); repeat ((first | refine And.intro DrawOk.go ?_ | refine And.intro rfl ?_ | refine And.intro (fun _ => ?_) (fun h => Bool.noConfusion h) | refine And.intro (fun h => Bool.noConfusion h) (fun _ => ?_)); conv => whnf)
    refine ⟨bytes_le (by decide) (by simp [sV]; omega), ?_⟩
    (conv => whnf); repeat ((first | refine And.intro DrawOk.go ?_ | refine And.intro rfl ?_ | refine And.intro (fun _ => ?_) (fun h => Bool.noConfusion h) | refine And.intro (fun h => Bool.noConfusion h) (fun _ => ?_)); conv => whnf)
    refine ⟨sSz [sec], ?_⟩
    (conv => whnf); repeat ((first | refine And.intro DrawOk.go ?_ | refine And.intro rfl ?_ | refine And.intro (fun _ => ?_) (fun h => Bool.noConfusion h) | refine And.intro (fun h => Bool.noConfusion h) (fun _ => ?_)); conv => whnf)
    refine ⟨bytes_le (by decide) (by simp [sV]; omega), ?_⟩
    (conv => whnf); repeat ((first | refine And.intro DrawOk.go ?_ | refine And.intro rfl ?_ | refine And.intro (fun _ => ?_) (fun h => Bool.noConfusion h) | refine And.intro (fun h => Bool.noConfusion h) (fun _ => ?_)); conv => whnf)
    have hsl : (sV (ss ++ [sec])).length = ss.length + 1 := by simp [sV]
    have hwl : iwrap .i64 (((ss.length + 1 : Nat) : Int) - 1) = (ss.length : Int) := (w64_in (by omega)).trans (by omega)
    rw [List.nil_append, show sV ss ++ [List.take (tabX [3000099] 9).size [IV.sc (.string sec)]] = sV (ss ++ [sec]) from sSnoc ss sec, hsl]
    unfold dput
    dsimp only
    by_cases c7 : ((ss.length + 1 : Nat) : Int) = s
    · have hw := withF s mo ma zs k 4 s (ss ++ [sec]) hl hk
      rw [if_pos (by omega)]
      refine And.intro (fun _ => ?_) (fun h => absurd c7 (by simpa using h))
      (conv => whnf); repeat ((first | refine And.intro DrawOk.go ?_ | refine And.intro rfl ?_ | refine And.intro (fun _ => ?_) (fun h => Bool.noConfusion h) | refine And.intro (fun h => Bool.noConfusion h) (fun _ => ?_)); conv => whnf)
      refine ⟨_, _, hw, ?_⟩
      (conv => whnf); repeat ((first | refine And.intro DrawOk.go ?_ | refine And.intro rfl ?_ | refine And.intro (fun _ => ?_) (fun h => Bool.noConfusion h) | refine And.intro (fun h => Bool.noConfusion h) (fun _ => ?_)); conv => whnf)
      refine Exists.intro [] (And.intro List.nodup_nil ?_); ((conv => whnf); repeat ((first | refine And.intro DrawOk.go ?_ | refine And.intro rfl ?_ | refine And.intro (fun _ => ?_) (fun h => Bool.noConfusion h) | refine And.intro (fun h => Bool.noConfusion h) (fun _ => ?_)); conv => whnf))
      rw [hsl, hwl]
      rfl
    · have hw := withF s mo ma zs k st du (ss ++ [sec]) hl hk
      rw [if_neg (by omega), if_pos c6]
      refine And.intro (fun h => absurd (by simpa using h) c7) (fun _ => ?_)
      (conv => whnf); repeat ((first | refine And.intro DrawOk.go ?_ | refine And.intro rfl ?_ | refine And.intro (fun _ => ?_) (fun h => Bool.noConfusion h) | refine And.intro (fun h => Bool.noConfusion h) (fun _ => ?_)); conv => whnf)
      refine ⟨_, _, hw, ?_⟩
      (conv => whnf); repeat ((first | refine And.intro DrawOk.go ?_ | refine And.intro rfl ?_ | refine And.intro (fun _ => ?_) (fun h => Bool.noConfusion h) | refine And.intro (fun h => Bool.noConfusion h) (fun _ => ?_)); conv => whnf)
      refine Exists.intro [] (And.intro List.nodup_nil ?_); ((conv => whnf); repeat ((first | refine And.intro DrawOk.go ?_ | refine And.intro rfl ?_ | refine And.intro (fun _ => ?_) (fun h => Bool.noConfusion h) | refine And.intro (fun h => Bool.noConfusion h) (fun _ => ?_)); conv => whnf))
      rw [hsl, hwl]
      rfl
  · have c6f : openB st = false := by simpa using c6
    rw [if_neg c6]
    rw [c6f] at hop
    clear hgk
    obtain ⟨f1, f2⟩ := hfrm
    generalize droom ⟨s, mo, ma, zs⟩ (actB st) = D at hrm f1 f2 ⊢
    obtain ⟨X, e⟩ := D
    dsimp only at hrm f1 f2 ⊢
    by_cases c8 : e = 0
    rotate_left
    · rw [dappGo_no c8]
      refine fun_of_vc (tabXOk [3000099]) mixOk Try.func35 rfl (by rfl) (rs := [.cell 6 49, .tmp 7, .tmp 8]) rfl rfl 115 ?_; rw [Try.ntmps35]
      (conv => whnf); repeat ((first | refine And.intro DrawOk.go ?_ | refine And.intro rfl ?_ | refine And.intro (fun _ => ?_) (fun h => Bool.noConfusion h) | refine And.intro (fun h => Bool.noConfusion h) (fun _ => ?_)); conv => whnf)
      repeat' (first | ((refine And.intro (fun h => ?_) (fun h => ?_)) <;> (try simp at h) <;> ((conv => whnf); repeat ((first | refine And.intro DrawOk.go ?_ | refine And.intro rfl ?_ | refine And.intro (fun _ => ?_) (fun h => Bool.noConfusion h) | refine And.intro (fun h => Bool.noConfusion h) (fun _ => ?_)); conv => whnf))) | (refine ⟨_, _, hc, ?_⟩; ((conv => whnf); repeat ((first | refine And.intro DrawOk.go ?_ | refine And.intro rfl ?_ | refine And.intro (fun _ => ?_) (fun h => Bool.noConfusion h) | refine And.intro (fun h => Bool.noConfusion h) (fun _ => ?_)); conv => whnf))) | (refine ⟨_, _, hop, ?_⟩; ((conv => whnf); repeat ((first | refine And.intro DrawOk.go ?_ | refine And.intro rfl ?_ | refine And.intro (fun _ => ?_) (fun h => Bool.noConfusion h) | refine And.intro (fun h => Bool.noConfusion h) (fun _ => ?_)); conv => whnf))) | (refine ⟨_, _, hrm, ?_⟩; ((conv => whnf); repeat ((first | refine And.intro DrawOk.go ?_ | refine And.intro rfl ?_ | refine And.intro (fun _ => ?_) (fun h => Bool.noConfusion h) | refine And.intro (fun h => Bool.noConfusion h) (fun _ => ?_)); conv => whnf))) | (refine ⟨by omega, _, hit, rfl, ?_⟩; ((conv => whnf); repeat ((first | refine And.intro DrawOk.go ?_ | refine And.intro rfl ?_ | refine And.intro (fun _ => ?_) (fun h => Bool.noConfusion h) | refine And.intro (fun h => Bool.noConfusion h) (fun _ => ?_)); conv => whnf))) | fail)
      all_goals first
        | (exfalso; omega)
        | (refine Exists.intro [] (And.intro List.nodup_nil ?_); ((conv => whnf); repeat ((first | refine And.intro DrawOk.go ?_ | refine And.intro rfl ?_ | refine And.intro (fun _ => ?_) (fun h => Bool.noConfusion h) | refine And.intro (fun h => Bool.noConfusion h) (fun _ => ?_)); conv => whnf))
           rfl)
    subst c8
    obtain ⟨zs2, hX⟩ : ∃ zs2, X = ⟨s, mo, ma, zs2⟩ := ⟨X.zs, f1⟩
    subst hX
    have hXl : zs2.length = zs.length := by have := congrArg List.length f2; simpa using this
    have hk2 : k < zs2.length := by omega
    have hl2 : zs2.length ≤ 1000000 := by omega
    have hz2 : zs2[k].ss.length ≤ 1000000 := by
      have hm : zs2[k].ss ∈ zs.map Zn.ss := by rw [← f2]; exact List.mem_map.2 ⟨_, List.getElem_mem hk2, rfl⟩
      obtain ⟨z1, hz1, e1⟩ := List.mem_map.1 hm
      rw [← e1]
      exact hz z1 hz1
    rw [dappGo_ok hk2]
    clear f2
    dsimp only at hrm hXl hk2 hl2 hz2 ⊢
    have hit2 := zItem hk2
    have hop2 := openF zs2[k].st
    generalize zs2[k] = z2 at hz2 hit2 hop2 ⊢
    obtain ⟨st2, du2, ss2⟩ := z2
    dsimp only at hz2 hop2
    replace hit2 : (zR zs2)[((k : Int)).toNat]? = some [IV.sc (.int .i64 st2), IV.sc (.int .i64 du2), IV.sl (sV ss2)] := hit2
    clear hz
    cases c9 : openB st2 with
    | true =>
      rw [c9] at hop2
      refine fun_of_vc (tabXOk [3000099]) mixOk Try.func35 rfl (by rfl) (rs := [.cell 6 49, .tmp 7, .tmp 8]) rfl rfl 115 ?_; rw [Try.ntmps35]
      (conv => whnf); repeat ((first | refine And.intro DrawOk.go ?_ | refine And.intro rfl ?_ | refine And.intro (fun _ => ?_) (fun h => Bool.noConfusion h) | refine And.intro (fun h => Bool.noConfusion h) (fun _ => ?_)); conv => whnf)
      repeat' (first | ((refine And.intro (fun h => ?_) (fun h => ?_)) <;> (try simp at h) <;> ((conv => whnf); repeat ((first | refine And.intro DrawOk.go ?_ | refine And.intro rfl ?_ | refine And.intro (fun _ => ?_) (fun h => Bool.noConfusion h) | refine And.intro (fun h => Bool.noConfusion h) (fun _ => ?_)); conv => whnf))) | (refine ⟨_, _, hc, ?_⟩; ((conv => whnf); repeat ((first | refine And.intro DrawOk.go ?_ | refine And.intro rfl ?_ | refine And.intro (fun _ => ?_) (fun h => Bool.noConfusion h) | refine And.intro (fun h => Bool.noConfusion h) (fun _ => ?_)); conv => whnf))) | (refine ⟨_, _, hop, ?_⟩; ((conv => whnf); repeat ((first | refine And.intro DrawOk.go ?_ | refine And.intro rfl ?_ | refine And.intro (fun _ => ?_) (fun h => Bool.noConfusion h) | refine And.intro (fun h => Bool.noConfusion h) (fun _ => ?_)); conv => whnf))) | (refine ⟨_, _, hrm, ?_⟩; ((conv => whnf); repeat ((first | refine And.intro DrawOk.go ?_ | refine And.intro rfl ?_ | refine And.intro (fun _ => ?_) (fun h => Bool.noConfusion h) | refine And.intro (fun h => Bool.noConfusion h) (fun _ => ?_)); conv => whnf))) | (refine ⟨_, _, hop2, ?_⟩; ((conv => whnf); repeat ((first | refine And.intro DrawOk.go ?_ | refine And.intro rfl ?_ | refine And.intro (fun _ => ?_) (fun h => Bool.noConfusion h) | refine And.intro (fun h => Bool.noConfusion h) (fun _ => ?_)); conv => whnf))) | (refine ⟨by omega, _, hit, rfl, ?_⟩; ((conv => whnf); repeat ((first | refine And.intro DrawOk.go ?_ | refine And.intro rfl ?_ | refine And.intro (fun _ => ?_) (fun h => Bool.noConfusion h) | refine And.intro (fun h => Bool.noConfusion h) (fun _ => ?_)); conv => whnf))) | (refine ⟨by omega, _, hit2, rfl, ?_⟩; ((conv => whnf); repeat ((first | refine And.intro DrawOk.go ?_ | refine And.intro rfl ?_ | refine And.intro (fun _ => ?_) (fun h => Bool.noConfusion h) | refine And.intro (fun h => Bool.noConfusion h) (fun _ => ?_)); conv => whnf))) | fail)
      all_goals first
        | (exfalso; omega)
        | skip
      refine ⟨sSz ss2, ?_⟩
      (conv => whnf); repeat ((first | refine And.intro DrawOk.go ?_ | refine And.intro rfl ?_ | refine And.intro (fun _ => ?_) (fun h => Bool.noConfusion h) | refine And.intro (fun h => Bool.noConfusion h) (fun _ => ?_)); conv => whnf)
      refine ⟨bytes_le (by decide) (by simp [sV]; omega), ?_⟩
      (conv => whnf); repeat ((first | refine And.intro DrawOk.go ?_ | refine And.intro rfl ?_ | refine And.intro (fun _ => ?_) (fun h => Bool.noConfusion h) | refine And.intro (fun h => Bool.noConfusion h) (fun _ => ?_)); conv => whnf)
      refine ⟨sSz [sec], ?_⟩
      (conv => whnf); repeat ((first | refine And.intro DrawOk.go ?_ | refine And.intro rfl ?_ | refine And.intro (fun _ => ?_) (fun h => Bool.noConfusion h) | refine And.intro (fun h => Bool.noConfusion h) (fun _ => ?_)); conv => whnf)
      refine ⟨bytes_le (by decide) (by simp [sV]; omega), ?_⟩
      (conv => whnf); repeat ((first | refine And.intro DrawOk.go ?_ | refine And.intro rfl ?_ | refine And.intro (fun _ => ?_) (fun h => Bool.noConfusion h) | refine And.intro (fun h => Bool.noConfusion h) (fun _ => ?_)); conv => whnf)
      have hsl : (sV (ss2 ++ [sec])).length = ss2.length + 1 := by simp [sV]
      have hwl : iwrap .i64 (((ss2.length + 1 : Nat) : Int) - 1) = (ss2.length : Int) := (w64_in (by omega)).trans (by omega)
      rw [List.nil_append, show sV ss2 ++ [List.take (tabX [3000099] 9).size [IV.sc (.string sec)]] = sV (ss2 ++ [sec]) from sSnoc ss2 sec, hsl]
      unfold dput
      dsimp only
      by_cases c7 : ((ss2.length + 1 : Nat) : Int) = s
      · have hw := withF s mo ma zs2 k 4 s (ss2 ++ [sec]) hl2 hk2
        rw [if_pos (by omega)]
        refine And.intro (fun _ => ?_) (fun h => absurd c7 (by simpa using h))
        (conv => whnf); repeat ((first | refine And.intro DrawOk.go ?_ | refine And.intro rfl ?_ | refine And.intro (fun _ => ?_) (fun h => Bool.noConfusion h) | refine And.intro (fun h => Bool.noConfusion h) (fun _ => ?_)); conv => whnf)
        refine ⟨_, _, hw, ?_⟩
        (conv => whnf); repeat ((first | refine And.intro DrawOk.go ?_ | refine And.intro rfl ?_ | refine And.intro (fun _ => ?_) (fun h => Bool.noConfusion h) | refine And.intro (fun h => Bool.noConfusion h) (fun _ => ?_)); conv => whnf)
        refine Exists.intro [] (And.intro List.nodup_nil ?_); ((conv => whnf); repeat ((first | refine And.intro DrawOk.go ?_ | refine And.intro rfl ?_ | refine And.intro (fun _ => ?_) (fun h => Bool.noConfusion h) | refine And.intro (fun h => Bool.noConfusion h) (fun _ => ?_)); conv => whnf))
        rw [hsl, hwl]
        rfl
      · have hw := withF s mo ma zs2 k st2 du2 (ss2 ++ [sec]) hl2 hk2
        rw [if_neg (by omega), if_pos c9]
        refine And.intro (fun h => absurd (by simpa using h) c7) (fun _ => ?_)
        (conv => whnf); repeat ((first | refine And.intro DrawOk.go ?_ | refine And.intro rfl ?_ | refine And.intro (fun _ => ?_) (fun h => Bool.noConfusion h) | refine And.intro (fun h => Bool.noConfusion h) (fun _ => ?_)); conv => whnf)
        refine ⟨_, _, hw, ?_⟩
        (conv => whnf); repeat ((first | refine And.intro DrawOk.go ?_ | refine And.intro rfl ?_ | refine And.intro (fun _ => ?_) (fun h => Bool.noConfusion h) | refine And.intro (fun h => Bool.noConfusion h) (fun _ => ?_)); conv => whnf)
        refine Exists.intro [] (And.intro List.nodup_nil ?_); ((conv => whnf); repeat ((first | refine And.intro DrawOk.go ?_ | refine And.intro rfl ?_ | refine And.intro (fun _ => ?_) (fun h => Bool.noConfusion h) | refine And.intro (fun h => Bool.noConfusion h) (fun _ => ?_)); conv => whnf))
        rw [hsl, hwl]
        rfl
    | false =>
      rw [c9] at hop2
      refine fun_of_vc (tabXOk [3000099]) mixOk Try.func35 rfl (by rfl) (rs := [.cell 6 49, .tmp 7, .tmp 8]) rfl rfl 115 ?_; rw [Try.ntmps35]
      (conv => whnf); repeat ((first | refine And.intro DrawOk.go ?_ | refine And.intro rfl ?_ | refine And.intro (fun _ => ?_) (fun h => Bool.noConfusion h) | refine And.intro (fun h => Bool.noConfusion h) (fun _ => ?_)); conv => whnf)
      repeat' (first | ((refine And.intro (fun h => ?_) (fun h => ?_)) <;> (try simp at h) <;> ((conv => whnf); repeat ((first | refine And.intro DrawOk.go ?_ | refine And.intro rfl ?_ | refine And.intro (fun _ => ?_) (fun h => Bool.noConfusion h) | refine And.intro (fun h => Bool.noConfusion h) (fun _ => ?_)); conv => whnf))) | (refine ⟨_, _, hc, ?_⟩; ((conv => whnf); repeat ((first | refine And.intro DrawOk.go ?_ | refine And.intro rfl ?_ | refine And.intro (fun _ => ?_) (fun h => Bool.noConfusion h) | refine And.intro (fun h => Bool.noConfusion h) (fun _ => ?_)); conv => whnf))) | (refine ⟨_, _, hop, ?_⟩; ((conv => whnf); repeat ((first | refine And.intro DrawOk.go ?_ | refine And.intro rfl ?_ | refine And.intro (fun _ => ?_) (fun h => Bool.noConfusion h) | refine And.intro (fun h => Bool.noConfusion h) (fun _ => ?_)); conv => whnf))) | (refine ⟨_, _, hrm, ?_⟩; ((conv => whnf); repeat ((first | refine And.intro DrawOk.go ?_ | refine And.intro rfl ?_ | refine And.intro (fun _ => ?_) (fun h => Bool.noConfusion h) | refine And.intro (fun h => Bool.noConfusion h) (fun _ => ?_)); conv => whnf))) | (refine ⟨_, _, hop2, ?_⟩; ((conv => whnf); repeat ((first | refine And.intro DrawOk.go ?_ | refine And.intro rfl ?_ | refine And.intro (fun _ => ?_) (fun h => Bool.noConfusion h) | refine And.intro (fun h => Bool.noConfusion h) (fun _ => ?_)); conv => whnf))) | (refine ⟨by omega, _, hit, rfl, ?_⟩; ((conv => whnf); repeat ((first | refine And.intro DrawOk.go ?_ | refine And.intro rfl ?_ | refine And.intro (fun _ => ?_) (fun h => Bool.noConfusion h) | refine And.intro (fun h => Bool.noConfusion h) (fun _ => ?_)); conv => whnf))) | (refine ⟨by omega, _, hit2, rfl, ?_⟩; ((conv => whnf); repeat ((first | refine And.intro DrawOk.go ?_ | refine And.intro rfl ?_ | refine And.intro (fun _ => ?_) (fun h => Bool.noConfusion h) | refine And.intro (fun h => Bool.noConfusion h) (fun _ => ?_)); conv => whnf))) | fail)
      all_goals first
        | (exfalso; omega)
        | skip
      refine ⟨sSz ss2, ?_⟩
      (conv => whnf); repeat ((first | refine And.intro DrawOk.go ?_ | refine And.intro rfl ?_ | refine And.intro (fun _ => ?_) (fun h => Bool.noConfusion h) | refine And.intro (fun h => Bool.noConfusion h) (fun _ => ?_)); conv => whnf)
      refine ⟨bytes_le (by decide) (by simp [sV]; omega), ?_⟩
      (conv => whnf); repeat ((first | refine And.intro DrawOk.go ?_ | refine And.intro rfl ?_ | refine And.intro (fun _ => ?_) (fun h => Bool.noConfusion h) | refine And.intro (fun h => Bool.noConfusion h) (fun _ => ?_)); conv => whnf)
      refine ⟨sSz [sec], ?_⟩
      (conv => whnf); repeat ((first | refine And.intro DrawOk.go ?_ | refine And.intro rfl ?_ | refine And.intro (fun _ => ?_) (fun h => Bool.noConfusion h) | refine And.intro (fun h => Bool.noConfusion h) (fun _ => ?_)); conv => whnf)
      refine ⟨bytes_le (by decide) (by simp [sV]; omega), ?_⟩
      (conv => whnf); repeat ((first | refine And.intro DrawOk.go ?_ | refine And.intro rfl ?_ | refine And.intro (fun _ => ?_) (fun h => Bool.noConfusion h) | refine And.intro (fun h => Bool.noConfusion h) (fun _ => ?_)); conv => whnf)
      have hsl : (sV (ss2 ++ [sec])).length = ss2.length + 1 := by simp [sV]
      have hwl : iwrap .i64 (((ss2.length + 1 : Nat) : Int) - 1) = (ss2.length : Int) := (w64_in (by omega)).trans (by omega)
      rw [List.nil_append, show sV ss2 ++ [List.take (tabX [3000099] 9).size [IV.sc (.string sec)]] = sV (ss2 ++ [sec]) from sSnoc ss2 sec, hsl]
      unfold dput
      dsimp only
      by_cases c7 : ((ss2.length + 1 : Nat) : Int) = s
      · have hw := withF s mo ma zs2 k 4 s (ss2 ++ [sec]) hl2 hk2
        rw [if_pos (by omega)]
        refine And.intro (fun _ => ?_) (fun h => absurd c7 (by simpa using h))
        (conv => whnf); repeat ((first | refine And.intro DrawOk.go ?_ | refine And.intro rfl ?_ | refine And.intro (fun _ => ?_) (fun h => Bool.noConfusion h) | refine And.intro (fun h => Bool.noConfusion h) (fun _ => ?_)); conv => whnf)
        refine ⟨_, _, hw, ?_⟩
        (conv => whnf); repeat ((first | refine And.intro DrawOk.go ?_ | refine And.intro rfl ?_ | refine And.intro (fun _ => ?_) (fun h => Bool.noConfusion h) | refine And.intro (fun h => Bool.noConfusion h) (fun _ => ?_)); conv => whnf)
        refine Exists.intro [] (And.intro List.nodup_nil ?_); ((conv => whnf); repeat ((first | refine And.intro DrawOk.go ?_ | refine And.intro rfl ?_ | refine And.intro (fun _ => ?_) (fun h => Bool.noConfusion h) | refine And.intro (fun h => Bool.noConfusion h) (fun _ => ?_)); conv => whnf))
        rw [hsl, hwl]
        rfl
      · have hw := withF s mo ma zs2 k 1 du2 (ss2 ++ [sec]) hl2 hk2
        rw [if_neg (by omega), if_neg (by rw [c9]; decide)]
        refine And.intro (fun h => absurd (by simpa using h) c7) (fun _ => ?_)
        (conv => whnf); repeat ((first | refine And.intro DrawOk.go ?_ | refine And.intro rfl ?_ | refine And.intro (fun _ => ?_) (fun h => Bool.noConfusion h) | refine And.intro (fun h => Bool.noConfusion h) (fun _ => ?_)); conv => whnf)
        refine ⟨_, _, hw, ?_⟩
        (conv => whnf); repeat ((first | refine And.intro DrawOk.go ?_ | refine And.intro rfl ?_ | refine And.intro (fun _ => ?_) (fun h => Bool.noConfusion h) | refine And.intro (fun h => Bool.noConfusion h) (fun _ => ?_)); conv => whnf)
        refine Exists.intro [] (And.intro List.nodup_nil ?_); ((conv => whnf); repeat ((first | refine And.intro DrawOk.go ?_ | refine And.intro rfl ?_ | refine And.intro (fun _ => ?_) (fun h => Bool.noConfusion h) | refine And.intro (fun h => Bool.noConfusion h) (fun _ => ?_)); conv => whnf))
        rw [hsl, hwl]
        rfl
end Go.Proofs.Ytkpicojhnnkibaa.Ab
