/- Found records: the example; ScanMade, ScanFinds. No condition. -/
import Derived.Test.YtkpicojhnnkibaaNd
namespace Go.Proofs.Ytkpicojhnnkibaa.Ab
set_option linter.unusedVariables false
set_option linter.unusedSimpArgs false
open Go.RowKit

def ry : Rec := ⟨2, 0, 4, 0, ByteArray.empty⟩
theorem ry_ok : rchk ry = 0 := by decide
def sx1 : ByteArray := ⟨#[120]⟩
theorem goodB_enc {r : Rec} (h : rchk r = 0) (hk : r.k = 1 ∨ r.k = 2) (hv : r.v ≥ 1) : goodB (sS (encL r)) = true ∧ (rdec (sS (encL r))).1 = r := by
  have e := dec_enc h
  refine ⟨goodB_yes (by rw [e]) (by rw [e]; exact hk) (by rw [e]; exact hv), by rw [e]⟩
theorem ry_scan : scanZ [⟨0, 0, [sS (encL ry), sx1, sS (encL ry)]⟩] 0 = [⟨0, 0, ry⟩, ⟨0, 2, ry⟩] := by
  have g := goodB_enc ry_ok (Or.inr rfl) (by decide)
  have gx : goodB sx1 = false := goodB_no (by rw [rdec_len (s := sx1) (by decide)]; intro h; exact absurd h.1 (by decide))
  have e := scanZ_at (zs := [⟨0, 0, [sS (encL ry), sx1, sS (encL ry)]⟩]) (k := 0) (by simp)
  rw [show ((0 : Nat) : Int) = 0 from rfl] at e
  rw [e]
  show scanG 0 0 [sS (encL ry), sx1, sS (encL ry)] = _
  simp only [scanG, g.1, g.2, gx, if_true]
  rfl
theorem ry_agr : agrB [⟨0, 0, ry⟩, ⟨0, 2, ry⟩] = true := by
  refine decide_eq_true (fun a ha b hb _ => ?_)
  have h1 : a.r = ry := by
    rcases List.mem_cons.1 ha with rfl | ha
    · rfl
    · rw [List.mem_singleton] at ha; rw [ha]
  have h2 : b.r = ry := by
    rcases List.mem_cons.1 hb with rfl | hb
    · rfl
    · rw [List.mem_singleton] at hb; rw [hb]
  rw [h1, h2]
  exact ⟨rfl, rfl, rfl⟩
set_option maxRecDepth 100000 in
set_option maxHeartbeats 16000000 in
theorem scAwake : Fun Try.prog 22 [] [] (ATbool true) := by
  have h1 := sectorF 2 0 4 0 ByteArray.empty
  rw [show (⟨2, 0, 4, 0, ByteArray.empty⟩ : Rec) = ry from rfl, renc_yes ry_ok] at h1
  dsimp only at h1
  have hsz : (sS (encL ry)).size = 40 := by rw [sS_size, enc_len (rchk_ok ry_ok).2.2.2.2.1]
  have h2 := scanZF 0 0 0 [⟨0, 0, [sS (encL ry), sx1, sS (encL ry)]⟩] 0 (by simp) (fun x hx => by
    rw [List.mem_singleton] at hx
    subst hx
    refine ⟨by simp, fun y hy => ?_⟩
    rcases List.mem_cons.1 hy with rfl | hy
    · omega
    · rcases List.mem_cons.1 hy with rfl | hy
      · decide
      · rw [List.mem_singleton] at hy
        rw [hy]
        omega)
  rw [ry_scan] at h2
  have h3 := grtF [⟨0, 0, ry⟩, ⟨0, 2, ry⟩] (by simp)
  rw [show grt [⟨0, 0, ry⟩, ⟨0, 2, ry⟩] = 4 from rfl] at h3
  have h4 := agreeF [⟨0, 0, ry⟩, ⟨0, 2, ry⟩] (by simp)
  rw [ry_agr] at h4
  generalize sS (encL ry) = s at h1 h2
  have hi : (fR [⟨0, 0, ry⟩, ⟨0, 2, ry⟩])[((1 : Int)).toNat]? = some [IV.sc (.int .i64 0), IV.sc (.int .i64 2), IV.sc (.int .i64 2), IV.sc (.int .i64 0), IV.sc (.int .i64 4), IV.sc (.int .i64 0), IV.sc (.string ByteArray.empty)] := rfl
  have hl : (fR [⟨0, 0, ry⟩, ⟨0, 2, ry⟩]).length = 2 := rfl
  generalize fR [⟨0, 0, ry⟩, ⟨0, 2, ry⟩] = M at h2 h3 h4 hi hl
  refine fun_of_vc tabOk mixOk Try.func22 rfl (by rfl) (rs := [.tmp 0]) rfl rfl 38 ?_; rw [Try.ntmps22]
  (conv => whnf); repeat (first | (refine And.intro (DrawOk.mk (by first | (simp only [List.map_cons, List.map_nil, List.nil_append, List.cons_append, List.append_nil, updsL, List.length_cons, List.length_nil]; decide +kernel) | exact rfl)) ?_; conv => whnf) | (refine And.intro rfl ?_; conv => whnf) | (refine And.intro (fun _ => ?_) (fun h => Bool.noConfusion h); conv => whnf) | (refine And.intro (fun h => Bool.noConfusion h) (fun _ => ?_); conv => whnf))
  refine ⟨_, _, h1, ?_⟩
  (conv => whnf); repeat (first | (refine And.intro (DrawOk.mk (by first | (simp only [List.map_cons, List.map_nil, List.nil_append, List.cons_append, List.append_nil, updsL, List.length_cons, List.length_nil]; decide +kernel) | exact rfl)) ?_; conv => whnf) | (refine And.intro rfl ?_; conv => whnf) | (refine And.intro (fun _ => ?_) (fun h => Bool.noConfusion h); conv => whnf) | (refine And.intro (fun h => Bool.noConfusion h) (fun _ => ?_); conv => whnf))
  refine ⟨_, _, h2, ?_⟩
  (conv => whnf); repeat (first | (refine And.intro (DrawOk.mk (by first | (simp only [List.map_cons, List.map_nil, List.nil_append, List.cons_append, List.append_nil, updsL, List.length_cons, List.length_nil]; decide +kernel) | exact rfl)) ?_; conv => whnf) | (refine And.intro rfl ?_; conv => whnf) | (refine And.intro (fun _ => ?_) (fun h => Bool.noConfusion h); conv => whnf) | (refine And.intro (fun h => Bool.noConfusion h) (fun _ => ?_); conv => whnf))
  rw [hl]
  repeat' (first | ((refine And.intro (fun h => ?_) (fun h => ?_)) <;> (try simp at h) <;> ((conv => whnf); repeat (first | (refine And.intro (DrawOk.mk (by first | (simp only [List.map_cons, List.map_nil, List.nil_append, List.cons_append, List.append_nil, updsL, List.length_cons, List.length_nil]; decide +kernel) | exact rfl)) ?_; conv => whnf) | (refine And.intro rfl ?_; conv => whnf) | (refine And.intro (fun _ => ?_) (fun h => Bool.noConfusion h); conv => whnf) | (refine And.intro (fun h => Bool.noConfusion h) (fun _ => ?_); conv => whnf)))) | (refine ⟨_, _, h3, ?_⟩; ((conv => whnf); repeat (first | (refine And.intro (DrawOk.mk (by first | (simp only [List.map_cons, List.map_nil, List.nil_append, List.cons_append, List.append_nil, updsL, List.length_cons, List.length_nil]; decide +kernel) | exact rfl)) ?_; conv => whnf) | (refine And.intro rfl ?_; conv => whnf) | (refine And.intro (fun _ => ?_) (fun h => Bool.noConfusion h); conv => whnf) | (refine And.intro (fun h => Bool.noConfusion h) (fun _ => ?_); conv => whnf)))) | (refine ⟨_, _, h4, ?_⟩; ((conv => whnf); repeat (first | (refine And.intro (DrawOk.mk (by first | (simp only [List.map_cons, List.map_nil, List.nil_append, List.cons_append, List.append_nil, updsL, List.length_cons, List.length_nil]; decide +kernel) | exact rfl)) ?_; conv => whnf) | (refine And.intro rfl ?_; conv => whnf) | (refine And.intro (fun _ => ?_) (fun h => Bool.noConfusion h); conv => whnf) | (refine And.intro (fun h => Bool.noConfusion h) (fun _ => ?_); conv => whnf)))) | (refine ⟨by decide, _, hi, rfl, ?_⟩; ((conv => whnf); repeat (first | (refine And.intro (DrawOk.mk (by first | (simp only [List.map_cons, List.map_nil, List.nil_append, List.cons_append, List.append_nil, updsL, List.length_cons, List.length_nil]; decide +kernel) | exact rfl)) ?_; conv => whnf) | (refine And.intro rfl ?_; conv => whnf) | (refine And.intro (fun _ => ?_) (fun h => Bool.noConfusion h); conv => whnf) | (refine And.intro (fun h => Bool.noConfusion h) (fun _ => ?_); conv => whnf)))) | fail)
  all_goals first
    | (refine Exists.intro [] (And.intro List.nodup_nil ?_); ((conv => whnf); repeat (first | (refine And.intro (DrawOk.mk (by first | (simp only [List.map_cons, List.map_nil, List.nil_append, List.cons_append, List.append_nil, updsL, List.length_cons, List.length_nil]; decide +kernel) | exact rfl)) ?_; conv => whnf) | (refine And.intro rfl ?_; conv => whnf) | (refine And.intro (fun _ => ?_) (fun h => Bool.noConfusion h); conv => whnf) | (refine And.intro (fun h => Bool.noConfusion h) (fun _ => ?_); conv => whnf)))
       rfl)
    | (exfalso; simp at *; done)
set_option maxRecDepth 100000 in
set_option maxHeartbeats 16000000 in
theorem sMade0 (L : List Int) (a : Int) (hb : L.length ≤ 140737488355328) : Fun Try.prog 5 [slV (wV L), i64V a] [] (ATbool true) := by
  have hlight := lightF L hb
  have aw := scAwake
  by_cases hL : L.length ≤ 300
  rotate_left
  · rw [decide_eq_false hL] at hlight
    refine fun_of_vc tabOk mixOk Try.func5 rfl (by rfl) (rs := [.tmp 4]) rfl rfl 61 ?_; rw [Try.ntmps5]
    (conv => whnf); repeat (first | (refine And.intro (DrawOk.mk (by first | (simp only [List.map_cons, List.map_nil, List.nil_append, List.cons_append, List.append_nil, updsL, List.length_cons, List.length_nil]; decide +kernel) | exact rfl)) ?_; conv => whnf) | (refine And.intro rfl ?_; conv => whnf) | (refine And.intro (fun _ => ?_) (fun h => Bool.noConfusion h); conv => whnf) | (refine And.intro (fun h => Bool.noConfusion h) (fun _ => ?_); conv => whnf))
    refine ⟨_, _, hlight, ?_⟩
    (conv => whnf); repeat (first | (refine And.intro (DrawOk.mk (by first | (simp only [List.map_cons, List.map_nil, List.nil_append, List.cons_append, List.append_nil, updsL, List.length_cons, List.length_nil]; decide +kernel) | exact rfl)) ?_; conv => whnf) | (refine And.intro rfl ?_; conv => whnf) | (refine And.intro (fun _ => ?_) (fun h => Bool.noConfusion h); conv => whnf) | (refine And.intro (fun h => Bool.noConfusion h) (fun _ => ?_); conv => whnf))
    refine ⟨_, _, aw, ?_⟩
    (conv => whnf); repeat (first | (refine And.intro (DrawOk.mk (by first | (simp only [List.map_cons, List.map_nil, List.nil_append, List.cons_append, List.append_nil, updsL, List.length_cons, List.length_nil]; decide +kernel) | exact rfl)) ?_; conv => whnf) | (refine And.intro rfl ?_; conv => whnf) | (refine And.intro (fun _ => ?_) (fun h => Bool.noConfusion h); conv => whnf) | (refine And.intro (fun h => Bool.noConfusion h) (fun _ => ?_); conv => whnf))
    refine Exists.intro [] (And.intro List.nodup_nil ?_); ((conv => whnf); repeat (first | (refine And.intro (DrawOk.mk (by first | (simp only [List.map_cons, List.map_nil, List.nil_append, List.cons_append, List.append_nil, updsL, List.length_cons, List.length_nil]; decide +kernel) | exact rfl)) ?_; conv => whnf) | (refine And.intro rfl ?_; conv => whnf) | (refine And.intro (fun _ => ?_) (fun h => Bool.noConfusion h); conv => whnf) | (refine And.intro (fun h => Bool.noConfusion h) (fun _ => ?_); conv => whnf)))
    rfl
  rw [decide_eq_true hL] at hlight
  obtain ⟨c, D, hm, hsp, hdev, hlen⟩ := sMadeF L (by omega)
  have hzb : c.z ≤ 28 := by have := small_facts hsp; omega
  have hd1 : ∀ x ∈ D.zs, x.ss.length ≤ 1000000 ∧ ∀ y ∈ x.ss, y.size ≤ 1000000 := fun x hx => ⟨by have := (hdev x hx).1; omega, fun y hy => by have := (hdev x hx).2 y hy; omega⟩
  have hd2 : ∀ x ∈ D.zs, x.ss.length ≤ 1000 ∧ ∀ y ∈ x.ss, y.size ≤ 1000000 := fun x hx => ⟨by have := (hdev x hx).1; omega, (hd1 x hx).2⟩
  have z1 := fun z => scanZF D.s D.mo D.ma D.zs z (by omega) hd1
  have z2 := fun z => scanZF' D.s D.mo D.ma D.zs z (by omega) hd1
  have A1 := scanAF c D.s D.mo D.ma D.zs (by omega) hd2
  have A2 := scanAF' c D.s D.mo D.ma D.zs (by omega) hd2
  have hAl : (scanA c D.zs D.zs.length).length ≤ 28000 := Nat.le_trans (scanA_len (M := 1000) (fun x hx => (hd2 x hx).1) _) (by omega)
  have hzl := fun z => scanZ_len (zs := D.zs) (z := z) (M := 1000) (fun x hx => (hd2 x hx).1)
  have s1 := fun z => fsameF (scanZ D.zs z) (scanZ D.zs z) (by have := hzl z; omega) (by have := hzl z; omega)
  have s2 := fsameF (scanA c D.zs D.zs.length) (scanA c D.zs D.zs.length) (by omega) (by omega)
  have g1 := grtF (scanA c D.zs D.zs.length) (by omega)
  have g2 := grtF' (scanA c D.zs D.zs.length) (by omega)
  have a1 := agreeF (scanA c D.zs D.zs.length) (by omega)
  have a2 := agreeF' (scanA c D.zs D.zs.length) (by omega)
  have hmod := modF a (iwrap .i64 (c.z + 1))
  generalize dmod a (iwrap .i64 (c.z + 1)) = z at hmod
  replace z1 := z1 z
  replace z2 := z2 z
  replace s1 := s1 z
  rw [decide_eq_true rfl] at s1 s2
  clear hAl hzl hd1 hd2 hdev hlen hzb hsp
  generalize scanA c D.zs D.zs.length = M at A1 A2 s2 g1 g2 a1 a2
  generalize scanZ D.zs z = Z at z1 z2 s1
  generalize grt M = G at g1 g2
  generalize agrB M = B at a1 a2
  obtain ⟨cz, cs, cb, cq, cd, ch⟩ := c
  dsimp only at hmod
  refine fun_of_vc tabOk mixOk Try.func5 rfl (by rfl) (rs := [.tmp 4]) rfl rfl 61 ?_; rw [Try.ntmps5]
  (conv => whnf); repeat (first | (refine And.intro (DrawOk.mk (by first | (simp only [List.map_cons, List.map_nil, List.nil_append, List.cons_append, List.append_nil, updsL, List.length_cons, List.length_nil]; decide +kernel) | exact rfl)) ?_; conv => whnf) | (refine And.intro rfl ?_; conv => whnf) | (refine And.intro (fun _ => ?_) (fun h => Bool.noConfusion h); conv => whnf) | (refine And.intro (fun h => Bool.noConfusion h) (fun _ => ?_); conv => whnf))
  refine ⟨_, _, hlight, ?_⟩
  (conv => whnf); repeat (first | (refine And.intro (DrawOk.mk (by first | (simp only [List.map_cons, List.map_nil, List.nil_append, List.cons_append, List.append_nil, updsL, List.length_cons, List.length_nil]; decide +kernel) | exact rfl)) ?_; conv => whnf) | (refine And.intro rfl ?_; conv => whnf) | (refine And.intro (fun _ => ?_) (fun h => Bool.noConfusion h); conv => whnf) | (refine And.intro (fun h => Bool.noConfusion h) (fun _ => ?_); conv => whnf))
  refine ⟨_, _, hm, ?_⟩
  (conv => whnf); repeat (first | (refine And.intro (DrawOk.mk (by first | (simp only [List.map_cons, List.map_nil, List.nil_append, List.cons_append, List.append_nil, updsL, List.length_cons, List.length_nil]; decide +kernel) | exact rfl)) ?_; conv => whnf) | (refine And.intro rfl ?_; conv => whnf) | (refine And.intro (fun _ => ?_) (fun h => Bool.noConfusion h); conv => whnf) | (refine And.intro (fun h => Bool.noConfusion h) (fun _ => ?_); conv => whnf))
  refine ⟨_, _, hmod, ?_⟩
  (conv => whnf); repeat (first | (refine And.intro (DrawOk.mk (by first | (simp only [List.map_cons, List.map_nil, List.nil_append, List.cons_append, List.append_nil, updsL, List.length_cons, List.length_nil]; decide +kernel) | exact rfl)) ?_; conv => whnf) | (refine And.intro rfl ?_; conv => whnf) | (refine And.intro (fun _ => ?_) (fun h => Bool.noConfusion h); conv => whnf) | (refine And.intro (fun h => Bool.noConfusion h) (fun _ => ?_); conv => whnf))
  refine ⟨_, _, A1, ?_⟩
  (conv => whnf); repeat (first | (refine And.intro (DrawOk.mk (by first | (simp only [List.map_cons, List.map_nil, List.nil_append, List.cons_append, List.append_nil, updsL, List.length_cons, List.length_nil]; decide +kernel) | exact rfl)) ?_; conv => whnf) | (refine And.intro rfl ?_; conv => whnf) | (refine And.intro (fun _ => ?_) (fun h => Bool.noConfusion h); conv => whnf) | (refine And.intro (fun h => Bool.noConfusion h) (fun _ => ?_); conv => whnf))
  repeat' (first | ((refine And.intro (fun h => ?_) (fun h => ?_)) <;> (try simp at h) <;> ((conv => whnf); repeat (first | (refine And.intro (DrawOk.mk (by first | (simp only [List.map_cons, List.map_nil, List.nil_append, List.cons_append, List.append_nil, updsL, List.length_cons, List.length_nil]; decide +kernel) | exact rfl)) ?_; conv => whnf) | (refine And.intro rfl ?_; conv => whnf) | (refine And.intro (fun _ => ?_) (fun h => Bool.noConfusion h); conv => whnf) | (refine And.intro (fun h => Bool.noConfusion h) (fun _ => ?_); conv => whnf)))) | (refine ⟨_, _, z1, ?_⟩; ((conv => whnf); repeat (first | (refine And.intro (DrawOk.mk (by first | (simp only [List.map_cons, List.map_nil, List.nil_append, List.cons_append, List.append_nil, updsL, List.length_cons, List.length_nil]; decide +kernel) | exact rfl)) ?_; conv => whnf) | (refine And.intro rfl ?_; conv => whnf) | (refine And.intro (fun _ => ?_) (fun h => Bool.noConfusion h); conv => whnf) | (refine And.intro (fun h => Bool.noConfusion h) (fun _ => ?_); conv => whnf)))) | (refine ⟨_, _, z2, ?_⟩; ((conv => whnf); repeat (first | (refine And.intro (DrawOk.mk (by first | (simp only [List.map_cons, List.map_nil, List.nil_append, List.cons_append, List.append_nil, updsL, List.length_cons, List.length_nil]; decide +kernel) | exact rfl)) ?_; conv => whnf) | (refine And.intro rfl ?_; conv => whnf) | (refine And.intro (fun _ => ?_) (fun h => Bool.noConfusion h); conv => whnf) | (refine And.intro (fun h => Bool.noConfusion h) (fun _ => ?_); conv => whnf)))) | (refine ⟨_, _, s1, ?_⟩; ((conv => whnf); repeat (first | (refine And.intro (DrawOk.mk (by first | (simp only [List.map_cons, List.map_nil, List.nil_append, List.cons_append, List.append_nil, updsL, List.length_cons, List.length_nil]; decide +kernel) | exact rfl)) ?_; conv => whnf) | (refine And.intro rfl ?_; conv => whnf) | (refine And.intro (fun _ => ?_) (fun h => Bool.noConfusion h); conv => whnf) | (refine And.intro (fun h => Bool.noConfusion h) (fun _ => ?_); conv => whnf)))) | (refine ⟨_, _, A2, ?_⟩; ((conv => whnf); repeat (first | (refine And.intro (DrawOk.mk (by first | (simp only [List.map_cons, List.map_nil, List.nil_append, List.cons_append, List.append_nil, updsL, List.length_cons, List.length_nil]; decide +kernel) | exact rfl)) ?_; conv => whnf) | (refine And.intro rfl ?_; conv => whnf) | (refine And.intro (fun _ => ?_) (fun h => Bool.noConfusion h); conv => whnf) | (refine And.intro (fun h => Bool.noConfusion h) (fun _ => ?_); conv => whnf)))) | (refine ⟨_, _, s2, ?_⟩; ((conv => whnf); repeat (first | (refine And.intro (DrawOk.mk (by first | (simp only [List.map_cons, List.map_nil, List.nil_append, List.cons_append, List.append_nil, updsL, List.length_cons, List.length_nil]; decide +kernel) | exact rfl)) ?_; conv => whnf) | (refine And.intro rfl ?_; conv => whnf) | (refine And.intro (fun _ => ?_) (fun h => Bool.noConfusion h); conv => whnf) | (refine And.intro (fun h => Bool.noConfusion h) (fun _ => ?_); conv => whnf)))) | (refine ⟨_, _, g1, ?_⟩; ((conv => whnf); repeat (first | (refine And.intro (DrawOk.mk (by first | (simp only [List.map_cons, List.map_nil, List.nil_append, List.cons_append, List.append_nil, updsL, List.length_cons, List.length_nil]; decide +kernel) | exact rfl)) ?_; conv => whnf) | (refine And.intro rfl ?_; conv => whnf) | (refine And.intro (fun _ => ?_) (fun h => Bool.noConfusion h); conv => whnf) | (refine And.intro (fun h => Bool.noConfusion h) (fun _ => ?_); conv => whnf)))) | (refine ⟨_, _, g2, ?_⟩; ((conv => whnf); repeat (first | (refine And.intro (DrawOk.mk (by first | (simp only [List.map_cons, List.map_nil, List.nil_append, List.cons_append, List.append_nil, updsL, List.length_cons, List.length_nil]; decide +kernel) | exact rfl)) ?_; conv => whnf) | (refine And.intro rfl ?_; conv => whnf) | (refine And.intro (fun _ => ?_) (fun h => Bool.noConfusion h); conv => whnf) | (refine And.intro (fun h => Bool.noConfusion h) (fun _ => ?_); conv => whnf)))) | (refine ⟨_, _, a1, ?_⟩; ((conv => whnf); repeat (first | (refine And.intro (DrawOk.mk (by first | (simp only [List.map_cons, List.map_nil, List.nil_append, List.cons_append, List.append_nil, updsL, List.length_cons, List.length_nil]; decide +kernel) | exact rfl)) ?_; conv => whnf) | (refine And.intro rfl ?_; conv => whnf) | (refine And.intro (fun _ => ?_) (fun h => Bool.noConfusion h); conv => whnf) | (refine And.intro (fun h => Bool.noConfusion h) (fun _ => ?_); conv => whnf)))) | (refine ⟨_, _, a2, ?_⟩; ((conv => whnf); repeat (first | (refine And.intro (DrawOk.mk (by first | (simp only [List.map_cons, List.map_nil, List.nil_append, List.cons_append, List.append_nil, updsL, List.length_cons, List.length_nil]; decide +kernel) | exact rfl)) ?_; conv => whnf) | (refine And.intro rfl ?_; conv => whnf) | (refine And.intro (fun _ => ?_) (fun h => Bool.noConfusion h); conv => whnf) | (refine And.intro (fun h => Bool.noConfusion h) (fun _ => ?_); conv => whnf)))) | (refine ⟨_, _, aw, ?_⟩; ((conv => whnf); repeat (first | (refine And.intro (DrawOk.mk (by first | (simp only [List.map_cons, List.map_nil, List.nil_append, List.cons_append, List.append_nil, updsL, List.length_cons, List.length_nil]; decide +kernel) | exact rfl)) ?_; conv => whnf) | (refine And.intro rfl ?_; conv => whnf) | (refine And.intro (fun _ => ?_) (fun h => Bool.noConfusion h); conv => whnf) | (refine And.intro (fun h => Bool.noConfusion h) (fun _ => ?_); conv => whnf)))) | fail)
  all_goals first
    | (refine Exists.intro [] (And.intro List.nodup_nil ?_); ((conv => whnf); repeat (first | (refine And.intro (DrawOk.mk (by first | (simp only [List.map_cons, List.map_nil, List.nil_append, List.cons_append, List.append_nil, updsL, List.length_cons, List.length_nil]; decide +kernel) | exact rfl)) ?_; conv => whnf) | (refine And.intro rfl ?_; conv => whnf) | (refine And.intro (fun _ => ?_) (fun h => Bool.noConfusion h); conv => whnf) | (refine And.intro (fun h => Bool.noConfusion h) (fun _ => ?_); conv => whnf)))
       rfl)
    | (exfalso; simp at *; done)
end Go.Proofs.Ytkpicojhnnkibaa.Ab
namespace Go.Proofs.Ytkpicojhnnkibaa
set_option linter.unusedVariables false
set_option linter.unusedSimpArgs false
open Ab
set_option maxRecDepth 100000 in
theorem scanMade.walk {H : Type} {enc : TypeId × Value → H} {W : World} {base : Nat} (v : Value) (d : DataW H) (p : List MemPlace) (hv : Value.okWide Try.prog W .any base 38 v)
    (h : DataW.Trod enc Try.prog W 0 (fun _ => true) true 38 v d p) (hw : ∀ n ∈ d.weights Try.prog 38, n ≤ 140737488351232)
    (a1 : Int) (_w1 : (Lit.int .i64 a1).wf = true)
    (W' : World) (hW : W' = W := by rfl) : Calls Try.prog 5 #[v, .int .i64 a1] W' (True1 W') := by
  subst hW
  obtain ⟨es, _, q1, q2⟩ := open_sl tabOk 3 (t := 38) (by decide +kernel) rfl hv h
  obtain ⟨xs, rfl⟩ := ints_of (d := 2) es (fun r hr => (q1 r hr).2)
  have b3 := slice_bound tabOk (e := 3) rfl h hw (q2 (fun _ _ => undef) (fun _ => 0))
  rw [bytesOf_eq tabOk (fun h => TK.noConfusion h)] at b3
  have b3' : (wV xs).length * 8 ≤ 140737488351232 := b3
  exact law_of_fun (sMade0 xs a1 (by simp [wV] at b3'; omega)) rfl (reps_get (vs := [_, _]) ⟨q2 _ _, .sc _ rfl, trivial⟩)
end Go.Proofs.Ytkpicojhnnkibaa
