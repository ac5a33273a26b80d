/- A device in which one thing is changed. No condition. -/
import Derived.Test.YtijajfldpaadnaaDb
import Derived.Test.YtijajfldpaadnaaGv
import Derived.Test.YtijajfldpaadnaaBf
namespace Go.Proofs.Ytijajfldpaadnaa.Ab
set_option linter.unusedVariables false
set_option linter.unusedSimpArgs false
open Go.RowKit

abbrev oneX : ByteArray := ⟨#[120]⟩
/-- What becomes of the zone. -/
def oddZ (z : Zn) (w by_ : Int) : Zn :=
  if w = 0 then ⟨iwrap .i64 (dmod by_ 8 - 1), z.du, z.ss⟩ else if w = 1 then ⟨z.st, iwrap .i64 (iwrap .i64 (z.du + dmod by_ 5) - 2), z.ss⟩
  else if w = 2 then ⟨z.st, z.du, z.ss ++ [oneX]⟩ else if w = 7 then ⟨5, 0, []⟩ else z
def odd (D : Dv) (w at_ by_ : Int) : Dv :=
  match D.zs[(dmod at_ D.zs.length).toNat]? with
  | none => D
  | some z => ⟨if dmod w 9 = 3 then iwrap .i64 (iwrap .i64 (D.s + dmod by_ 5) - 2) else D.s, if dmod w 9 = 4 then dmod by_ 5 else D.mo, if dmod w 9 = 5 then dmod by_ 6 else D.ma,
    if dmod w 9 = 6 then [] else D.zs.set (dmod at_ D.zs.length).toNat (oddZ z (dmod w 9) by_)⟩
theorem odd_at {s mo ma : Int} {zs : List Zn} {w at_ by_ : Int} {k : Nat} {z : Zn} (hk : dmod at_ zs.length = k) (hz : zs[k]? = some z) :
    odd ⟨s, mo, ma, zs⟩ w at_ by_ = ⟨if dmod w 9 = 3 then iwrap .i64 (iwrap .i64 (s + dmod by_ 5) - 2) else s, if dmod w 9 = 4 then dmod by_ 5 else mo, if dmod w 9 = 5 then dmod by_ 6 else ma,
    if dmod w 9 = 6 then [] else zs.set k (oddZ z (dmod w 9) by_)⟩ := by
  unfold odd
  dsimp only
  rw [hk, Int.toNat_natCast, hz]
theorem odd_bounds {D : Dv} {w at_ by_ : Int} {M N : Nat} (hN : 1 ≤ N) (hz : ∀ x ∈ D.zs, x.ss.length ≤ M ∧ ∀ y ∈ x.ss, y.size ≤ N) : (odd D w at_ by_).zs.length ≤ D.zs.length ∧ ∀ x ∈ (odd D w at_ by_).zs, x.ss.length ≤ M + 1 ∧ ∀ y ∈ x.ss, y.size ≤ N := by
  unfold odd
  split
  · exact ⟨Nat.le_refl _, fun x hx => ⟨by have := (hz x hx).1; omega, (hz x hx).2⟩⟩
  · rename_i z hzz
    have hzm := hz z (List.mem_of_getElem? hzz)
    dsimp only
    split
    · exact ⟨Nat.zero_le _, fun x hx => by cases hx⟩
    · refine ⟨by rw [List.length_set]; exact Nat.le_refl _, fun x hx => ?_⟩
      rcases List.mem_or_eq_of_mem_set hx with hx | rfl
      · exact ⟨by have := (hz x hx).1; omega, (hz x hx).2⟩
      · unfold oddZ
        split
        · exact ⟨by dsimp only; omega, hzm.2⟩
        split
        · exact ⟨by dsimp only; omega, hzm.2⟩
        split
        · refine ⟨by dsimp only; rw [List.length_append, List.length_singleton]; omega, fun y hy => ?_⟩
          rcases List.mem_append.1 hy with hy | hy
          · exact hzm.2 y hy
          · rw [List.mem_singleton] at hy
            subst hy
            exact hN
        split
        · exact ⟨Nat.zero_le _, fun y hy => by cases hy⟩
        · exact ⟨by omega, hzm.2⟩
set_option maxRecDepth 100000 in
set_option maxHeartbeats 16000000 in
theorem oddF (s mo ma : Int) (zs : List Zn) (w at_ by_ : Int) (hl : zs.length ≤ 1000000) (hz : ∀ x ∈ zs, x.ss.length ≤ 1000000) :
    Fun Try.prog 23 [dvA s mo ma zs, i64V w, i64V at_, i64V by_] [] (.v (dvV (odd ⟨s, mo, ma, zs⟩ w at_ by_))) := by
  have hzl := zLen zs
  have mw := modF w 9
  have m8 := modF by_ 8
  have m5 := modF by_ 5
  have m6 := modF by_ 6
  have mat := modF at_ zs.length
  rw [← hzl] at mat
  by_cases h0 : zs.length = 0
  · have hnil : zs = [] := List.length_eq_zero_iff.1 h0
    subst hnil
    have ho : odd ⟨s, mo, ma, []⟩ w at_ by_ = ⟨s, mo, ma, []⟩ := by unfold odd; dsimp only; rw [List.getElem?_nil]
    rw [ho]
    refine fun_of_vc (tabXOk [3000064]) mixOk Try.func23 rfl (by rfl) (rs := [.cell 8 29]) rfl rfl 102 ?_; rw [Try.ntmps23]
    (conv => whnf); repeat (first | (refine And.intro DrawOk.go ?_; conv => whnf) | (refine And.intro rfl ?_; conv => whnf) | (refine And.intro (fun _ => ?_) (fun h => Bool.noConfusion h); conv => whnf) | (refine And.intro (fun h => Bool.noConfusion h) (fun _ => ?_); conv => whnf))
    refine ⟨zSz [], ?_⟩
    (conv => whnf); repeat (first | (refine And.intro DrawOk.go ?_; conv => whnf) | (refine And.intro rfl ?_; conv => whnf) | (refine And.intro (fun _ => ?_) (fun h => Bool.noConfusion h); conv => whnf) | (refine And.intro (fun h => Bool.noConfusion h) (fun _ => ?_); conv => whnf))
    refine ⟨bytes_le (by decide) (by simp [zR]), ?_⟩
    (conv => whnf); repeat (first | (refine And.intro DrawOk.go ?_; conv => whnf) | (refine And.intro rfl ?_; conv => whnf) | (refine And.intro (fun _ => ?_) (fun h => Bool.noConfusion h); conv => whnf) | (refine And.intro (fun h => Bool.noConfusion h) (fun _ => ?_); conv => whnf))
    refine Exists.intro [] (And.intro List.nodup_nil ?_); ((conv => whnf); repeat (first | (refine And.intro DrawOk.go ?_; conv => whnf) | (refine And.intro rfl ?_; conv => whnf) | (refine And.intro (fun _ => ?_) (fun h => Bool.noConfusion h); conv => whnf) | (refine And.intro (fun h => Bool.noConfusion h) (fun _ => ?_); conv => whnf)))
    rfl
  obtain ⟨k, hk, hkl⟩ : ∃ k : Nat, dmod at_ zs.length = (k : Int) ∧ k < zs.length := by
    have := dmod_in2 (x := at_) (n := zs.length) (by omega) (by omega)
    exact ⟨(dmod at_ zs.length).toNat, by omega, by omega⟩
  have hD := odd_at (s := s) (mo := mo) (ma := ma) (w := w) (by_ := by_) hk (List.getElem?_eq_getElem hkl)
  have hzk := hz _ (List.getElem_mem hkl)
  have hit := zItem hkl
  rw [show dmod at_ ((zR zs).length : Int) = k from by rw [hzl]; exact hk] at mat
  have hset := fun z => zSet zs k z
  have hself := List.set_getElem_self hkl
  generalize odd ⟨s, mo, ma, zs⟩ w at_ by_ = R at hD ⊢
  generalize zs[k] = z at hit hzk hD hself
  generalize dmod w 9 = W at mw hD
  obtain ⟨st, du, ss⟩ := z
  dsimp only at hzk
  replace hit : (zR zs)[((k : Int)).toNat]? = some [IV.sc (.int .i64 st), IV.sc (.int .i64 du), IV.sl (sV ss)] := hit
  replace hset : ∀ a b l, (zR zs).set ((k : Int)).toNat [IV.sc (.int .i64 a), IV.sc (.int .i64 b), IV.sl (sV l)] = zR (zs.set k ⟨a, b, l⟩) := fun a b l => hset ⟨a, b, l⟩
  have hgs : ∀ x : List IV, ((zR zs).set ((k : Int)).toNat x)[((k : Int)).toNat]? = some x := fun x => by rw [List.getElem?_set_self (by rw [zLen, Int.toNat_natCast]; exact hkl)]
  have hgs2 : ∀ x y : List IV, (((zR zs).set ((k : Int)).toNat x).set ((k : Int)).toNat y)[((k : Int)).toNat]? = some y := fun x y => by rw [List.getElem?_set_self (by rw [List.length_set, zLen, Int.toNat_natCast]; exact hkl)]
  have hsn : [] ++ sV ss ++ [[IV.sc (.string oneX)]] = sV (ss ++ [oneX]) := by simp [sV]
  by_cases hW : W = 0 ∨ W = 1 ∨ W = 2 ∨ W = 3 ∨ W = 4 ∨ W = 5 ∨ W = 6 ∨ W = 7
  · rcases hW with rfl | rfl | rfl | rfl | rfl | rfl | rfl | rfl
    all_goals
      simp only [oddZ, if_true, if_false, reduceIte, Int.reduceEq] at hD
      subst hD
      refine fun_of_vc (tabXOk [3000064]) mixOk Try.func23 rfl (by rfl) (rs := [.cell 8 29]) rfl rfl 102 ?_; rw [Try.ntmps23]
      ((conv => whnf); repeat (first | (refine And.intro DrawOk.go ?_; conv => whnf) | (refine And.intro rfl ?_; conv => whnf) | (refine And.intro (fun _ => ?_) (fun h => Bool.noConfusion h); conv => whnf) | (refine And.intro (fun h => Bool.noConfusion h) (fun _ => ?_); conv => whnf)))
      refine ⟨zSz zs, ?_⟩
      ((conv => whnf); repeat (first | (refine And.intro DrawOk.go ?_; conv => whnf) | (refine And.intro rfl ?_; conv => whnf) | (refine And.intro (fun _ => ?_) (fun h => Bool.noConfusion h); conv => whnf) | (refine And.intro (fun h => Bool.noConfusion h) (fun _ => ?_); conv => whnf)))
      refine ⟨bytes_le (by decide) (by simp [zR]; omega), ?_⟩
      ((conv => whnf); repeat (first | (refine And.intro DrawOk.go ?_; conv => whnf) | (refine And.intro rfl ?_; conv => whnf) | (refine And.intro (fun _ => ?_) (fun h => Bool.noConfusion h); conv => whnf) | (refine And.intro (fun h => Bool.noConfusion h) (fun _ => ?_); conv => whnf)))
      rw [List.nil_append]
      refine And.intro (fun h => absurd h (by simp [zR]; intro h; exact h0 (by rw [h]; rfl))) (fun _ => ?_)
      ((conv => whnf); repeat (first | (refine And.intro DrawOk.go ?_; conv => whnf) | (refine And.intro rfl ?_; conv => whnf) | (refine And.intro (fun _ => ?_) (fun h => Bool.noConfusion h); conv => whnf) | (refine And.intro (fun h => Bool.noConfusion h) (fun _ => ?_); conv => whnf)))
      refine ⟨_, _, mat, ?_⟩
      ((conv => whnf); repeat (first | (refine And.intro DrawOk.go ?_; conv => whnf) | (refine And.intro rfl ?_; conv => whnf) | (refine And.intro (fun _ => ?_) (fun h => Bool.noConfusion h); conv => whnf) | (refine And.intro (fun h => Bool.noConfusion h) (fun _ => ?_); conv => whnf)))
      refine ⟨by omega, by rw [Int.toNat_natCast, zLen]; exact hkl, ?_⟩
      ((conv => whnf); repeat (first | (refine And.intro DrawOk.go ?_; conv => whnf) | (refine And.intro rfl ?_; conv => whnf) | (refine And.intro (fun _ => ?_) (fun h => Bool.noConfusion h); conv => whnf) | (refine And.intro (fun h => Bool.noConfusion h) (fun _ => ?_); conv => whnf)))
      refine ⟨_, _, mw, ?_⟩
      ((conv => whnf); repeat (first | (refine And.intro DrawOk.go ?_; conv => whnf) | (refine And.intro rfl ?_; conv => whnf) | (refine And.intro (fun _ => ?_) (fun h => Bool.noConfusion h); conv => whnf) | (refine And.intro (fun h => Bool.noConfusion h) (fun _ => ?_); conv => whnf)))
      repeat (first
        | (refine ⟨_, _, m8, ?_⟩; ((conv => whnf); repeat (first | (refine And.intro DrawOk.go ?_; conv => whnf) | (refine And.intro rfl ?_; conv => whnf) | (refine And.intro (fun _ => ?_) (fun h => Bool.noConfusion h); conv => whnf) | (refine And.intro (fun h => Bool.noConfusion h) (fun _ => ?_); conv => whnf))))
        | (refine ⟨_, _, m5, ?_⟩; ((conv => whnf); repeat (first | (refine And.intro DrawOk.go ?_; conv => whnf) | (refine And.intro rfl ?_; conv => whnf) | (refine And.intro (fun _ => ?_) (fun h => Bool.noConfusion h); conv => whnf) | (refine And.intro (fun h => Bool.noConfusion h) (fun _ => ?_); conv => whnf))))
        | (refine ⟨_, _, m6, ?_⟩; ((conv => whnf); repeat (first | (refine And.intro DrawOk.go ?_; conv => whnf) | (refine And.intro rfl ?_; conv => whnf) | (refine And.intro (fun _ => ?_) (fun h => Bool.noConfusion h); conv => whnf) | (refine And.intro (fun h => Bool.noConfusion h) (fun _ => ?_); conv => whnf))))
        | (refine ⟨sSz ss, ?_⟩; ((conv => whnf); repeat (first | (refine And.intro DrawOk.go ?_; conv => whnf) | (refine And.intro rfl ?_; conv => whnf) | (refine And.intro (fun _ => ?_) (fun h => Bool.noConfusion h); conv => whnf) | (refine And.intro (fun h => Bool.noConfusion h) (fun _ => ?_); conv => whnf))))
        | (refine ⟨sSz [oneX], ?_⟩; ((conv => whnf); repeat (first | (refine And.intro DrawOk.go ?_; conv => whnf) | (refine And.intro rfl ?_; conv => whnf) | (refine And.intro (fun _ => ?_) (fun h => Bool.noConfusion h); conv => whnf) | (refine And.intro (fun h => Bool.noConfusion h) (fun _ => ?_); conv => whnf))))
        | (refine ⟨bytes_le (by decide) (by simp [sV]; omega), ?_⟩; ((conv => whnf); repeat (first | (refine And.intro DrawOk.go ?_; conv => whnf) | (refine And.intro rfl ?_; conv => whnf) | (refine And.intro (fun _ => ?_) (fun h => Bool.noConfusion h); conv => whnf) | (refine And.intro (fun h => Bool.noConfusion h) (fun _ => ?_); conv => whnf))))
        | (refine ⟨_, hit, ?_⟩; ((conv => whnf); repeat (first | (refine And.intro DrawOk.go ?_; conv => whnf) | (refine And.intro rfl ?_; conv => whnf) | (refine And.intro (fun _ => ?_) (fun h => Bool.noConfusion h); conv => whnf) | (refine And.intro (fun h => Bool.noConfusion h) (fun _ => ?_); conv => whnf))))
        | (refine ⟨_, hgs _, ?_⟩; ((conv => whnf); repeat (first | (refine And.intro DrawOk.go ?_; conv => whnf) | (refine And.intro rfl ?_; conv => whnf) | (refine And.intro (fun _ => ?_) (fun h => Bool.noConfusion h); conv => whnf) | (refine And.intro (fun h => Bool.noConfusion h) (fun _ => ?_); conv => whnf))))
        | (refine ⟨_, hgs2 _ _, ?_⟩; ((conv => whnf); repeat (first | (refine And.intro DrawOk.go ?_; conv => whnf) | (refine And.intro rfl ?_; conv => whnf) | (refine And.intro (fun _ => ?_) (fun h => Bool.noConfusion h); conv => whnf) | (refine And.intro (fun h => Bool.noConfusion h) (fun _ => ?_); conv => whnf)))))
      refine Exists.intro [] (And.intro List.nodup_nil ?_); ((conv => whnf); repeat (first | (refine And.intro DrawOk.go ?_; conv => whnf) | (refine And.intro rfl ?_; conv => whnf) | (refine And.intro (fun _ => ?_) (fun h => Bool.noConfusion h); conv => whnf) | (refine And.intro (fun h => Bool.noConfusion h) (fun _ => ?_); conv => whnf)))
      first
        | rfl
        | (rw [hset]; rfl)
        | (rw [hself]; rfl)
        | exact congrArg (fun x => AT.v (AV.agg [.i (.sc (.int .i64 s)), .i (.sc (.int .i64 mo)), .i (.sc (.int .i64 ma)), .i (.sl x)])) ((congrArg (fun y => (zR zs).set ((k : Int)).toNat [IV.sc (.int .i64 st), IV.sc (.int .i64 du), IV.sl y]) hsn).trans (hset st du (ss ++ [oneX])))
        | (rw [List.set_set, List.set_set]; exact congrArg (fun x => AT.v (AV.agg [.i (.sc (.int .i64 s)), .i (.sc (.int .i64 mo)), .i (.sc (.int .i64 ma)), .i (.sl x)])) (hset 5 0 []))
  · have hD2 : R = ⟨s, mo, ma, zs⟩ := by
      rw [hD]
      unfold oddZ
      rw [if_neg (by omega), if_neg (by omega), if_neg (by omega), if_neg (by omega), if_neg (by omega), if_neg (by omega), if_neg (by omega), if_neg (by omega), hself]
    rw [hD2]
    refine fun_of_vc (tabXOk [3000064]) mixOk Try.func23 rfl (by rfl) (rs := [.cell 8 29]) rfl rfl 102 ?_; rw [Try.ntmps23]
    (conv => whnf); repeat (first | (refine And.intro DrawOk.go ?_; conv => whnf) | (refine And.intro rfl ?_; conv => whnf) | (refine And.intro (fun _ => ?_) (fun h => Bool.noConfusion h); conv => whnf) | (refine And.intro (fun h => Bool.noConfusion h) (fun _ => ?_); conv => whnf))
    refine ⟨zSz zs, ?_⟩
    (conv => whnf); repeat (first | (refine And.intro DrawOk.go ?_; conv => whnf) | (refine And.intro rfl ?_; conv => whnf) | (refine And.intro (fun _ => ?_) (fun h => Bool.noConfusion h); conv => whnf) | (refine And.intro (fun h => Bool.noConfusion h) (fun _ => ?_); conv => whnf))
    refine ⟨bytes_le (by decide) (by simp [zR]; omega), ?_⟩
    (conv => whnf); repeat (first | (refine And.intro DrawOk.go ?_; conv => whnf) | (refine And.intro rfl ?_; conv => whnf) | (refine And.intro (fun _ => ?_) (fun h => Bool.noConfusion h); conv => whnf) | (refine And.intro (fun h => Bool.noConfusion h) (fun _ => ?_); conv => whnf))
    rw [List.nil_append]
    refine And.intro (fun h => absurd h (by simp [zR]; intro h; exact h0 (by rw [h]; rfl))) (fun _ => ?_)
    (conv => whnf); repeat (first | (refine And.intro DrawOk.go ?_; conv => whnf) | (refine And.intro rfl ?_; conv => whnf) | (refine And.intro (fun _ => ?_) (fun h => Bool.noConfusion h); conv => whnf) | (refine And.intro (fun h => Bool.noConfusion h) (fun _ => ?_); conv => whnf))
    refine ⟨_, _, mat, ?_⟩
    (conv => whnf); repeat (first | (refine And.intro DrawOk.go ?_; conv => whnf) | (refine And.intro rfl ?_; conv => whnf) | (refine And.intro (fun _ => ?_) (fun h => Bool.noConfusion h); conv => whnf) | (refine And.intro (fun h => Bool.noConfusion h) (fun _ => ?_); conv => whnf))
    refine ⟨by omega, by rw [Int.toNat_natCast, zLen]; exact hkl, ?_⟩
    (conv => whnf); repeat (first | (refine And.intro DrawOk.go ?_; conv => whnf) | (refine And.intro rfl ?_; conv => whnf) | (refine And.intro (fun _ => ?_) (fun h => Bool.noConfusion h); conv => whnf) | (refine And.intro (fun h => Bool.noConfusion h) (fun _ => ?_); conv => whnf))
    refine ⟨_, _, mw, ?_⟩
    (conv => whnf); repeat (first | (refine And.intro DrawOk.go ?_; conv => whnf) | (refine And.intro rfl ?_; conv => whnf) | (refine And.intro (fun _ => ?_) (fun h => Bool.noConfusion h); conv => whnf) | (refine And.intro (fun h => Bool.noConfusion h) (fun _ => ?_); conv => whnf))
    repeat' (first | ((refine And.intro (fun h => ?_) (fun h => ?_)) <;> (try simp at h) <;> ((conv => whnf); repeat (first | (refine And.intro DrawOk.go ?_; conv => whnf) | (refine And.intro rfl ?_; conv => whnf) | (refine And.intro (fun _ => ?_) (fun h => Bool.noConfusion h); conv => whnf) | (refine And.intro (fun h => Bool.noConfusion h) (fun _ => ?_); conv => whnf)))) | fail)
    all_goals first
      | (exfalso; omega)
      | (refine Exists.intro [] (And.intro List.nodup_nil ?_); ((conv => whnf); repeat (first | (refine And.intro DrawOk.go ?_; conv => whnf) | (refine And.intro rfl ?_; conv => whnf) | (refine And.intro (fun _ => ?_) (fun h => Bool.noConfusion h); conv => whnf) | (refine And.intro (fun h => Bool.noConfusion h) (fun _ => ?_); conv => whnf)))
         rfl)
end Go.Proofs.Ytijajfldpaadnaa.Ab
