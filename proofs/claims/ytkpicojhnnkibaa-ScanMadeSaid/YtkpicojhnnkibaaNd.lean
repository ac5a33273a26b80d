/- Found records: devices with records made of numbers. No condition. -/
import Derived.Test.YtkpicojhnnkibaaNc
namespace Go.Proofs.Ytkpicojhnnkibaa.Ab
set_option linter.unusedVariables false
set_option linter.unusedSimpArgs false
open Go.RowKit

set_option maxRecDepth 100000 in
set_option maxHeartbeats 8000000 in
theorem sectorF (k b v m : Int) (p : ByteArray) : Fun Try.prog 36 [recV k b v m p] [] (.v (strV (renc ⟨k, b, v, m, p⟩).1)) := by
  have h := rencF' k b v m p
  generalize renc ⟨k, b, v, m, p⟩ = R at h ⊢
  obtain ⟨s, e⟩ := R
  refine fun_of_vc tabOk mixOk Try.func36 rfl (by rfl) (rs := [.tmp 2]) rfl rfl 15 ?_; rw [Try.ntmps36]
  (conv => whnf); repeat (first | (refine And.intro (DrawOk.mk (by first | (simp only [List.map_cons, List.map_nil, List.nil_append, List.cons_append, List.append_nil, updsL, List.length_cons, List.length_nil]; decide +kernel) | exact rfl)) ?_; conv => whnf) | (refine And.intro rfl ?_; conv => whnf) | (refine And.intro (fun _ => ?_) (fun h => Bool.noConfusion h); conv => whnf) | (refine And.intro (fun h => Bool.noConfusion h) (fun _ => ?_); conv => whnf))
  refine ⟨_, _, h, ?_⟩
  (conv => whnf); repeat (first | (refine And.intro (DrawOk.mk (by first | (simp only [List.map_cons, List.map_nil, List.nil_append, List.cons_append, List.append_nil, updsL, List.length_cons, List.length_nil]; decide +kernel) | exact rfl)) ?_; conv => whnf) | (refine And.intro rfl ?_; conv => whnf) | (refine And.intro (fun _ => ?_) (fun h => Bool.noConfusion h); conv => whnf) | (refine And.intro (fun h => Bool.noConfusion h) (fun _ => ?_); conv => whnf))
  refine Exists.intro [] (And.intro List.nodup_nil ?_); ((conv => whnf); repeat (first | (refine And.intro (DrawOk.mk (by first | (simp only [List.map_cons, List.map_nil, List.nil_append, List.cons_append, List.append_nil, updsL, List.length_cons, List.length_nil]; decide +kernel) | exact rfl)) ?_; conv => whnf) | (refine And.intro rfl ?_; conv => whnf) | (refine And.intro (fun _ => ?_) (fun h => Bool.noConfusion h); conv => whnf) | (refine And.intro (fun h => Bool.noConfusion h) (fun _ => ?_); conv => whnf)))
  rfl
/-- What an append that is taken does to the sectors. -/
theorem dapp_ok {d : Dv} {n : Int} {s : ByteArray} (h : (dappend d n s).2.2 = 0) : ∃ k : Nat, ∃ hk : k < d.zs.length, n = k ∧ s.size = 40 ∧ dchk d = 0 ∧
    (dappend d n s).1.zs.map Zn.ss = (d.zs.map Zn.ss).set k (d.zs[k].ss ++ [s]) ∧ (dappend d n s).2.1 = d.zs[k].ss.length := by
  by_cases c1 : dchk d = 0
  rotate_left
  · rw [dappend_1 c1] at h
    exact absurd h c1
  by_cases c2 : n < 0 ∨ n ≥ d.zs.length
  · rw [dappend_2 c1 c2] at h
    cases h
  by_cases c3 : s.size = 40
  rotate_left
  · rw [dappend_3 c1 c2 c3] at h
    cases h
  obtain ⟨k, rfl⟩ : ∃ k : Nat, n = k := ⟨n.toNat, by omega⟩
  have hk : k < d.zs.length := by omega
  refine ⟨k, hk, rfl, c3, c1, ?_⟩
  rw [dappend_4 c1 hk c3] at h ⊢
  split at h
  · cases h
  rename_i h5
  split at h
  · cases h
  rename_i h4
  rw [if_neg h5, if_neg h4]
  have key : ∀ x : Dv, x.zs.map Zn.ss = d.zs.map Zn.ss → (dappGo d k s (x, 0)).1.zs.map Zn.ss = (d.zs.map Zn.ss).set k (d.zs[k].ss ++ [s]) ∧ (dappGo d k s (x, 0)).2.1 = d.zs[k].ss.length := by
    intro x hx
    have hl : x.zs.length = d.zs.length := by have := congrArg List.length hx; simpa using this
    have hkx : k < x.zs.length := by omega
    have hss : x.zs[k].ss = d.zs[k].ss := by
      have := congrArg (fun l => l[k]?) hx
      simpa [List.getElem?_map, List.getElem?_eq_getElem hkx, List.getElem?_eq_getElem hk] using this
    rw [dappGo_ok hkx]
    refine ⟨?_, by dsimp only; rw [hss]⟩
    dsimp only [dput, dwith]
    rw [List.map_set, hx]
    congr 1
    split <;> (dsimp only; rw [hss])
  split at h
  · rename_i ho
    rw [if_pos ho]
    exact key d rfl
  · rename_i ho
    rw [if_neg ho]
    have hf := droom_form d (actB d.zs[k].st)
    generalize droom d (actB d.zs[k].st) = R at h hf ⊢
    obtain ⟨x, e⟩ := R
    by_cases he : e = 0
    · subst he
      exact key x hf.2
    · rw [dappGo_no he] at h
      exact absurd h he
/-- A device whose sectors are all of one length, and not too many. -/
def devL (zs : List Zn) : Prop := ∀ z ∈ zs, z.ss.length ≤ 100 ∧ ∀ y ∈ z.ss, y.size = 40
theorem devL_map {zs zs' : List Zn} (h : ∀ ss ∈ zs'.map Zn.ss, ss.length ≤ 100 ∧ ∀ y ∈ ss, y.size = 40) : devL zs' := fun z hz => h z.ss (List.mem_map.2 ⟨z, hz, rfl⟩)
theorem dapp_dev {d : Dv} {n : Int} {s : ByteArray} (h : (dappend d n s).2.2 = 0) (hd : devL d.zs) : devL (dappend d n s).1.zs ∧ (dappend d n s).1.zs.length = d.zs.length := by
  obtain ⟨k, hk, _, hs, hc, hm, _⟩ := dapp_ok h
  have hr := (dchk_ok hc).2.1 _ (List.getElem_mem hk)
  have hb := (dchk_ok hc).1
  unfold cfgBad at hb
  have hlen : d.zs[k].ss.length ≤ 64 := by have := hr.1.2.2.1; omega
  refine ⟨devL_map (zs := d.zs) (fun ss hss => ?_), by have := congrArg List.length hm; simpa using this⟩
  rw [hm] at hss
  rcases List.mem_or_eq_of_mem_set hss with hss | hss
  · obtain ⟨z, hz, rfl⟩ := List.mem_map.1 hss
    exact hd z hz
  · rw [hss]
    refine ⟨by rw [List.length_append, List.length_singleton]; omega, fun y hy => ?_⟩
    rcases List.mem_append.1 hy with hy | hy
    · exact (hd _ (List.getElem_mem hk)).2 y hy
    · rw [List.mem_singleton] at hy
      rw [hy]
      exact hs
def dtake (D : Dv) (A : Dv × Int × Int) : Dv := if A.2.2 = 0 then A.1 else D
theorem dtake_dev {d : Dv} (n : Int) (s : ByteArray) (hd : devL d.zs) : devL (dtake d (dappend d n s)).zs ∧ (dtake d (dappend d n s)).zs.length = d.zs.length := by
  unfold dtake
  split
  · rename_i h
    exact dapp_dev h hd
  · exact ⟨hd, rfl⟩
def sSec (L : List Int) (c : Cf) (i k : Nat) : ByteArray :=
  if dval L (nx3 L (dnx L k)) 6 = 5 then sflip (sS (encL (mkRec L (dnx L k) c.b (dval L k 40)))) i i else sS (encL (mkRec L (dnx L k) c.b (dval L k 40)))
def sStep (L : List Int) (c : Cf) (i : Nat) (st : Nat × Dv) : Nat × Dv :=
  if st.1 < L.length then (dnx L (dnx L (nx3 L (dnx L st.1))), dtake st.2 (dappend st.2 (dval L (dnx L (nx3 L (dnx L st.1))) c.z) (sSec L c i st.1))) else st
def sRun (L : List Int) (c : Cf) (k : Nat) (D : Dv) : Nat → Nat × Dv
  | 0 => (k, D)
  | i + 1 => sStep L c i (sRun L c k D i)
theorem sRun_end {L : List Int} {c : Cf} {k : Nat} {D : Dv} {i : Nat} (h : ¬ (sRun L c k D i).1 < L.length) : ∀ m, sRun L c k D (i + m) = sRun L c k D i := by
  intro m
  induction m with
  | zero => rfl
  | succ m ih =>
    rw [← Nat.add_assoc, sRun, ih, sStep, if_neg h]
set_option maxRecDepth 100000 in
set_option maxHeartbeats 32000000 in
theorem sMadeF (L : List Int) (hl : L.length ≤ 1000000) : ∃ (c : Cf) (D : Dv), Fun Try.prog 23 [slV (wV L)] [] (.tup [cfV c, dvV D]) ∧ smallP c ∧ devL D.zs ∧ (D.zs.length : Int) = c.z := by
  obtain ⟨c, k0, hsm, hsp, _, hk0⟩ := smallF L 0 hl
  have hk0 := hk0 (Nat.zero_le _)
  obtain ⟨_, _, _, _, _, hz⟩ := small_facts hsp
  have hroll := rollF L hl
  have hzb : c.z ≤ 28 := by have := small_facts hsp; omega
  have hnew := dnewF c.z c.s 3 3
  have hs1 := hsp.1
  have hb1 := hsp.2.1
  rw [dnew_ok (by omega) (by omega)] at hnew
  have hd0 : devL (List.replicate c.z.toNat z0) := fun z hz => by rw [List.eq_of_mem_replicate hz]; exact ⟨by decide, fun y hy => by cases hy⟩
  have hl0 : ((List.replicate c.z.toNat z0).length : Int) = c.z := by rw [List.length_replicate]; omega
  generalize List.replicate c.z.toNat z0 = zs0 at hnew hd0 hl0
  have hrun : ∀ i, devL (sRun L c k0 ⟨c.s, 3, 3, zs0⟩ i).2.zs ∧ ((sRun L c k0 ⟨c.s, 3, 3, zs0⟩ i).2.zs.length : Int) = c.z ∧ (sRun L c k0 ⟨c.s, 3, 3, zs0⟩ i).1 ≤ L.length := by
    intro i
    induction i with
    | zero => exact ⟨hd0, hl0, hk0⟩
    | succ i ih =>
      obtain ⟨h1, h2, h3⟩ := ih
      rw [sRun, sStep]
      split
      · obtain ⟨g1, g2⟩ := dtake_dev (dval L (dnx L (nx3 L (dnx L (sRun L c k0 ⟨c.s, 3, 3, zs0⟩ i).1))) c.z) (sSec L c i (sRun L c k0 ⟨c.s, 3, 3, zs0⟩ i).1) h1
        exact ⟨g1, by dsimp only; rw [g2]; exact h2, dnx_le (dnx_le (nx3_le (dnx_le h3)))⟩
      · exact ⟨h1, h2, h3⟩
  refine ⟨c, (sRun L c k0 ⟨c.s, 3, 3, zs0⟩ 40).2, ?_, hsp, (hrun 40).1, (hrun 40).2.1⟩
  have hend := fun i (h : ¬ (sRun L c k0 ⟨c.s, 3, 3, zs0⟩ i).1 < L.length) => sRun_end h
  have hsucc : ∀ i, sRun L c k0 ⟨c.s, 3, 3, zs0⟩ (i + 1) = sStep L c i (sRun L c k0 ⟨c.s, 3, 3, zs0⟩ i) := fun i => rfl
  have h00 : sRun L c k0 ⟨c.s, 3, 3, zs0⟩ 0 = (k0, ⟨c.s, 3, 3, zs0⟩) := rfl
  generalize sRun L c k0 ⟨c.s, 3, 3, zs0⟩ = run at hrun hend hsucc h00 ⊢
  obtain ⟨cz, cs, cb, cq, cd, ch⟩ := c
  dsimp only at hnew hs1 hb1 hz hzb hrun hsucc h00 hl0
  refine fun_of_vc tabOk mixOk Try.func23 rfl (by rfl) (rs := [.cell 2 46, .cell 3 49]) rfl rfl 68 ?_; rw [Try.ntmps23]
  (conv => whnf); repeat (first | (refine And.intro (DrawOk.mk (by first | (simp only [List.map_cons, List.map_nil, List.nil_append, List.cons_append, List.append_nil, updsL, List.length_cons, List.length_nil]; decide +kernel) | exact rfl)) ?_; conv => whnf) | (refine And.intro rfl ?_; conv => whnf) | (refine And.intro (fun _ => ?_) (fun h => Bool.noConfusion h); conv => whnf) | (refine And.intro (fun h => Bool.noConfusion h) (fun _ => ?_); conv => whnf))
  refine ⟨_, _, hroll, ?_⟩
  (conv => whnf); repeat (first | (refine And.intro (DrawOk.mk (by first | (simp only [List.map_cons, List.map_nil, List.nil_append, List.cons_append, List.append_nil, updsL, List.length_cons, List.length_nil]; decide +kernel) | exact rfl)) ?_; conv => whnf) | (refine And.intro rfl ?_; conv => whnf) | (refine And.intro (fun _ => ?_) (fun h => Bool.noConfusion h); conv => whnf) | (refine And.intro (fun h => Bool.noConfusion h) (fun _ => ?_); conv => whnf))
  refine ⟨_, _, hsm, ?_⟩
  (conv => whnf); repeat (first | (refine And.intro (DrawOk.mk (by first | (simp only [List.map_cons, List.map_nil, List.nil_append, List.cons_append, List.append_nil, updsL, List.length_cons, List.length_nil]; decide +kernel) | exact rfl)) ?_; conv => whnf) | (refine And.intro rfl ?_; conv => whnf) | (refine And.intro (fun _ => ?_) (fun h => Bool.noConfusion h); conv => whnf) | (refine And.intro (fun h => Bool.noConfusion h) (fun _ => ?_); conv => whnf))
  refine ⟨_, _, hnew, ?_⟩
  (conv => whnf); repeat (first | (refine And.intro (DrawOk.mk (by first | (simp only [List.map_cons, List.map_nil, List.nil_append, List.cons_append, List.append_nil, updsL, List.length_cons, List.length_nil]; decide +kernel) | exact rfl)) ?_; conv => whnf) | (refine And.intro rfl ?_; conv => whnf) | (refine And.intro (fun _ => ?_) (fun h => Bool.noConfusion h); conv => whnf) | (refine And.intro (fun h => Bool.noConfusion h) (fun _ => ?_); conv => whnf))
  refine vc_loop [2, 3, 4, 5, 6] [2, 3, 5] (X := Nat × Nat × Dv) (fun x gs => [(8, ATint x.1)]) (fun x gs => [(14, .var 1 (dcs L x.2.1)), (6, .var 1 [.i (.sc (.int .i64 x.2.2.s)), .i (.sc (.int .i64 x.2.2.mo)), .i (.sc (.int .i64 x.2.2.ma)), .i (.sl (zR x.2.2.zs))])]) (fun x => x.1 ≤ 40 ∧ run x.1 = x.2) (fun x => 40 - x.1) _ (Ghost.refl _) (0, k0, ⟨cs, 3, 3, zs0⟩) ⟨Nat.zero_le _, h00⟩ ?_ ?_
  · (refine And.intro rfl (And.intro rfl ?_)); (repeat' (first | exact trivial | exact rfl | apply And.intro | (refine congrArg (Value.int .i64) (w64_nat ?_); omega)))
  rintro gs ⟨i, k, D⟩ ⟨hi, he⟩
  dsimp only at hi he ⊢
  obtain ⟨hdev, hdl, hkl⟩ := hrun i
  have hsi := hsucc i
  have hei := hend i
  rw [he] at hdev hdl hkl hsi hei
  dsimp only at hdev hdl hkl hei
  clear hrun hsucc hend h00
  by_cases hk : k < L.length
  rotate_left
  · have hfin : run 40 = (k, D) := by
      have := hei hk (40 - i)
      rw [show i + (40 - i) = 40 by omega] at this
      exact this
    rw [hfin]
    (conv => whnf); repeat (first | (refine And.intro (DrawOk.mk (by first | (simp only [List.map_cons, List.map_nil, List.nil_append, List.cons_append, List.append_nil, updsL, List.length_cons, List.length_nil]; decide +kernel) | exact rfl)) ?_; conv => whnf) | (refine And.intro rfl ?_; conv => whnf) | (refine And.intro (fun _ => ?_) (fun h => Bool.noConfusion h); conv => whnf) | (refine And.intro (fun h => Bool.noConfusion h) (fun _ => ?_); conv => whnf))
    repeat' (first | ((refine And.intro (fun h => ?_) (fun h => ?_)) <;> (try simp at h) <;> ((conv => whnf); repeat (first | (refine And.intro (DrawOk.mk (by first | (simp only [List.map_cons, List.map_nil, List.nil_append, List.cons_append, List.append_nil, updsL, List.length_cons, List.length_nil]; decide +kernel) | exact rfl)) ?_; conv => whnf) | (refine And.intro rfl ?_; conv => whnf) | (refine And.intro (fun _ => ?_) (fun h => Bool.noConfusion h); conv => whnf) | (refine And.intro (fun h => Bool.noConfusion h) (fun _ => ?_); conv => whnf)))) | (refine ⟨_, _, restF L k hl hkl, ?_⟩; ((conv => whnf); repeat (first | (refine And.intro (DrawOk.mk (by first | (simp only [List.map_cons, List.map_nil, List.nil_append, List.cons_append, List.append_nil, updsL, List.length_cons, List.length_nil]; decide +kernel) | exact rfl)) ?_; conv => whnf) | (refine And.intro rfl ?_; conv => whnf) | (refine And.intro (fun _ => ?_) (fun h => Bool.noConfusion h); conv => whnf) | (refine And.intro (fun h => Bool.noConfusion h) (fun _ => ?_); conv => whnf)))) | fail)
    all_goals first
      | (exfalso; omega)
      | (refine Exists.intro [] (And.intro List.nodup_nil ?_); ((conv => whnf); repeat (first | (refine And.intro (DrawOk.mk (by first | (simp only [List.map_cons, List.map_nil, List.nil_append, List.cons_append, List.append_nil, updsL, List.length_cons, List.length_nil]; decide +kernel) | exact rfl)) ?_; conv => whnf) | (refine And.intro rfl ?_; conv => whnf) | (refine And.intro (fun _ => ?_) (fun h => Bool.noConfusion h); conv => whnf) | (refine And.intro (fun h => Bool.noConfusion h) (fun _ => ?_); conv => whnf)))
         rfl)
  by_cases hi40 : i < 40
  rotate_left
  · obtain rfl : i = 40 := by omega
    rw [he]
    (conv => whnf); repeat (first | (refine And.intro (DrawOk.mk (by first | (simp only [List.map_cons, List.map_nil, List.nil_append, List.cons_append, List.append_nil, updsL, List.length_cons, List.length_nil]; decide +kernel) | exact rfl)) ?_; conv => whnf) | (refine And.intro rfl ?_; conv => whnf) | (refine And.intro (fun _ => ?_) (fun h => Bool.noConfusion h); conv => whnf) | (refine And.intro (fun h => Bool.noConfusion h) (fun _ => ?_); conv => whnf))
    repeat' (first | ((refine And.intro (fun h => ?_) (fun h => ?_)) <;> (try simp at h) <;> ((conv => whnf); repeat (first | (refine And.intro (DrawOk.mk (by first | (simp only [List.map_cons, List.map_nil, List.nil_append, List.cons_append, List.append_nil, updsL, List.length_cons, List.length_nil]; decide +kernel) | exact rfl)) ?_; conv => whnf) | (refine And.intro rfl ?_; conv => whnf) | (refine And.intro (fun _ => ?_) (fun h => Bool.noConfusion h); conv => whnf) | (refine And.intro (fun h => Bool.noConfusion h) (fun _ => ?_); conv => whnf)))) | (refine ⟨_, _, restF L k hl hkl, ?_⟩; ((conv => whnf); repeat (first | (refine And.intro (DrawOk.mk (by first | (simp only [List.map_cons, List.map_nil, List.nil_append, List.cons_append, List.append_nil, updsL, List.length_cons, List.length_nil]; decide +kernel) | exact rfl)) ?_; conv => whnf) | (refine And.intro rfl ?_; conv => whnf) | (refine And.intro (fun _ => ?_) (fun h => Bool.noConfusion h); conv => whnf) | (refine And.intro (fun h => Bool.noConfusion h) (fun _ => ?_); conv => whnf)))) | fail)
    all_goals first
      | (exfalso; omega)
      | (refine Exists.intro [] (And.intro List.nodup_nil ?_); ((conv => whnf); repeat (first | (refine And.intro (DrawOk.mk (by first | (simp only [List.map_cons, List.map_nil, List.nil_append, List.cons_append, List.append_nil, updsL, List.length_cons, List.length_nil]; decide +kernel) | exact rfl)) ?_; conv => whnf) | (refine And.intro rfl ?_; conv => whnf) | (refine And.intro (fun _ => ?_) (fun h => Bool.noConfusion h); conv => whnf) | (refine And.intro (fun h => Bool.noConfusion h) (fun _ => ?_); conv => whnf)))
         rfl)
  rw [sStep, if_pos hk, sSec] at hsi
  dsimp only at hsi
  have a1 := nextF L k 40 hl
  have r1 := dval_in L k (n := 40) (by omega) (by omega)
  have a2 := mkRecF L (dnx L k) cb (dval L k 40) hl
  have hrok := (mkRec_ok (L := L) (k := dnx L k) (n := cb) (v := dval L k 40) (by omega) (by omega)).1
  have a3 := sectorF (mkRec L (dnx L k) cb (dval L k 40)).k (mkRec L (dnx L k) cb (dval L k 40)).b (mkRec L (dnx L k) cb (dval L k 40)).v (mkRec L (dnx L k) cb (dval L k 40)).m (mkRec L (dnx L k) cb (dval L k 40)).p
  rw [show (⟨(mkRec L (dnx L k) cb (dval L k 40)).k, (mkRec L (dnx L k) cb (dval L k 40)).b, (mkRec L (dnx L k) cb (dval L k 40)).v, (mkRec L (dnx L k) cb (dval L k 40)).m, (mkRec L (dnx L k) cb (dval L k 40)).p⟩ : Rec) = mkRec L (dnx L k) cb (dval L k 40) from rfl, renc_yes hrok] at a3
  dsimp only at a3
  have hs40 : (sS (encL (mkRec L (dnx L k) cb (dval L k 40)))).size = 40 := by rw [sS_size, enc_len (rchk_ok hrok).2.2.2.2.1]
  have a5 := flipF (sS (encL (mkRec L (dnx L k) cb (dval L k 40)))) i i (by omega) (by omega)
  generalize sS (encL (mkRec L (dnx L k) cb (dval L k 40))) = sec at a3 a5 hsi hs40
  generalize mkRec L (dnx L k) cb (dval L k 40) = r at a2 a3
  generalize dval L k 40 = v at a1 a2
  have a4 := nextF L (nx3 L (dnx L k)) 6 hl
  generalize dval L (nx3 L (dnx L k)) 6 = w at a4 hsi
  have a6 := nextF L (dnx L (nx3 L (dnx L k))) cz hl
  generalize dval L (dnx L (nx3 L (dnx L k))) cz = zz at a6 hsi
  generalize dnx L (dnx L (nx3 L (dnx L k))) = k4 at a6 hsi
  generalize dnx L (nx3 L (dnx L k)) = k3 at a4 a6
  generalize nx3 L (dnx L k) = k2 at a2 a4
  generalize dnx L k = k1 at a1 a2
  have a7 := fun (y : ByteArray) => appF D.s D.mo D.ma D.zs zz y (by omega) (fun z hz => by have := (hdev z hz).1; omega)
  have hrest := restF L k hl hkl
  obtain ⟨rk, rb, rv, rm, rp⟩ := r
  dsimp only [rV] at a2 a3
  by_cases hw : w = 5
  · subst hw
    rw [if_pos rfl] at hsi
    have a8 := a7 (sflip sec i i)
    rw [show (⟨D.s, D.mo, D.ma, D.zs⟩ : Dv) = D from rfl] at a8
    generalize dappend D zz (sflip sec i i) = A at a8 hsi
    have hp : ∀ D', dtake D A = D' → run (i + 1) = (k4, D') := fun D' h => by rw [← h]; exact hsi
    obtain ⟨Y, at_, e⟩ := A
    dsimp only at a8
    by_cases he0 : e = 0
    · have hp' := hp Y (by unfold dtake; rw [if_pos he0])
      subst he0
      (conv => whnf); repeat (first | (refine And.intro (DrawOk.mk (by first | (simp only [List.map_cons, List.map_nil, List.nil_append, List.cons_append, List.append_nil, updsL, List.length_cons, List.length_nil]; decide +kernel) | exact rfl)) ?_; conv => whnf) | (refine And.intro rfl ?_; conv => whnf) | (refine And.intro (fun _ => ?_) (fun h => Bool.noConfusion h); conv => whnf) | (refine And.intro (fun h => Bool.noConfusion h) (fun _ => ?_); conv => whnf))
      repeat' (first | ((refine And.intro (fun h => ?_) (fun h => ?_)) <;> (try simp at h) <;> ((conv => whnf); repeat (first | (refine And.intro (DrawOk.mk (by first | (simp only [List.map_cons, List.map_nil, List.nil_append, List.cons_append, List.append_nil, updsL, List.length_cons, List.length_nil]; decide +kernel) | exact rfl)) ?_; conv => whnf) | (refine And.intro rfl ?_; conv => whnf) | (refine And.intro (fun _ => ?_) (fun h => Bool.noConfusion h); conv => whnf) | (refine And.intro (fun h => Bool.noConfusion h) (fun _ => ?_); conv => whnf)))) | (refine ⟨_, _, hrest, ?_⟩; ((conv => whnf); repeat (first | (refine And.intro (DrawOk.mk (by first | (simp only [List.map_cons, List.map_nil, List.nil_append, List.cons_append, List.append_nil, updsL, List.length_cons, List.length_nil]; decide +kernel) | exact rfl)) ?_; conv => whnf) | (refine And.intro rfl ?_; conv => whnf) | (refine And.intro (fun _ => ?_) (fun h => Bool.noConfusion h); conv => whnf) | (refine And.intro (fun h => Bool.noConfusion h) (fun _ => ?_); conv => whnf)))) | (refine ⟨_, _, a1, ?_⟩; ((conv => whnf); repeat (first | (refine And.intro (DrawOk.mk (by first | (simp only [List.map_cons, List.map_nil, List.nil_append, List.cons_append, List.append_nil, updsL, List.length_cons, List.length_nil]; decide +kernel) | exact rfl)) ?_; conv => whnf) | (refine And.intro rfl ?_; conv => whnf) | (refine And.intro (fun _ => ?_) (fun h => Bool.noConfusion h); conv => whnf) | (refine And.intro (fun h => Bool.noConfusion h) (fun _ => ?_); conv => whnf)))) | (refine ⟨_, _, a2, ?_⟩; ((conv => whnf); repeat (first | (refine And.intro (DrawOk.mk (by first | (simp only [List.map_cons, List.map_nil, List.nil_append, List.cons_append, List.append_nil, updsL, List.length_cons, List.length_nil]; decide +kernel) | exact rfl)) ?_; conv => whnf) | (refine And.intro rfl ?_; conv => whnf) | (refine And.intro (fun _ => ?_) (fun h => Bool.noConfusion h); conv => whnf) | (refine And.intro (fun h => Bool.noConfusion h) (fun _ => ?_); conv => whnf)))) | (refine ⟨_, _, a3, ?_⟩; ((conv => whnf); repeat (first | (refine And.intro (DrawOk.mk (by first | (simp only [List.map_cons, List.map_nil, List.nil_append, List.cons_append, List.append_nil, updsL, List.length_cons, List.length_nil]; decide +kernel) | exact rfl)) ?_; conv => whnf) | (refine And.intro rfl ?_; conv => whnf) | (refine And.intro (fun _ => ?_) (fun h => Bool.noConfusion h); conv => whnf) | (refine And.intro (fun h => Bool.noConfusion h) (fun _ => ?_); conv => whnf)))) | (refine ⟨_, _, a4, ?_⟩; ((conv => whnf); repeat (first | (refine And.intro (DrawOk.mk (by first | (simp only [List.map_cons, List.map_nil, List.nil_append, List.cons_append, List.append_nil, updsL, List.length_cons, List.length_nil]; decide +kernel) | exact rfl)) ?_; conv => whnf) | (refine And.intro rfl ?_; conv => whnf) | (refine And.intro (fun _ => ?_) (fun h => Bool.noConfusion h); conv => whnf) | (refine And.intro (fun h => Bool.noConfusion h) (fun _ => ?_); conv => whnf)))) | (refine ⟨_, _, a5, ?_⟩; ((conv => whnf); repeat (first | (refine And.intro (DrawOk.mk (by first | (simp only [List.map_cons, List.map_nil, List.nil_append, List.cons_append, List.append_nil, updsL, List.length_cons, List.length_nil]; decide +kernel) | exact rfl)) ?_; conv => whnf) | (refine And.intro rfl ?_; conv => whnf) | (refine And.intro (fun _ => ?_) (fun h => Bool.noConfusion h); conv => whnf) | (refine And.intro (fun h => Bool.noConfusion h) (fun _ => ?_); conv => whnf)))) | (refine ⟨_, _, a6, ?_⟩; ((conv => whnf); repeat (first | (refine And.intro (DrawOk.mk (by first | (simp only [List.map_cons, List.map_nil, List.nil_append, List.cons_append, List.append_nil, updsL, List.length_cons, List.length_nil]; decide +kernel) | exact rfl)) ?_; conv => whnf) | (refine And.intro rfl ?_; conv => whnf) | (refine And.intro (fun _ => ?_) (fun h => Bool.noConfusion h); conv => whnf) | (refine And.intro (fun h => Bool.noConfusion h) (fun _ => ?_); conv => whnf)))) | (refine ⟨_, _, a8, ?_⟩; ((conv => whnf); repeat (first | (refine And.intro (DrawOk.mk (by first | (simp only [List.map_cons, List.map_nil, List.nil_append, List.cons_append, List.append_nil, updsL, List.length_cons, List.length_nil]; decide +kernel) | exact rfl)) ?_; conv => whnf) | (refine And.intro rfl ?_; conv => whnf) | (refine And.intro (fun _ => ?_) (fun h => Bool.noConfusion h); conv => whnf) | (refine And.intro (fun h => Bool.noConfusion h) (fun _ => ?_); conv => whnf)))) | fail)
      all_goals first
        | (exfalso; omega)
        | (refine again (i + 1, k4, Y) ⟨by dsimp only; omega, hp'⟩ (by dsimp only; omega) ?_
           (refine And.intro rfl (And.intro rfl ?_)); (repeat' (first | exact trivial | exact rfl | apply And.intro | (refine congrArg (Value.int .i64) (w64_nat ?_); omega))))
    · have hp' := hp D (by unfold dtake; rw [if_neg he0])
      (conv => whnf); repeat (first | (refine And.intro (DrawOk.mk (by first | (simp only [List.map_cons, List.map_nil, List.nil_append, List.cons_append, List.append_nil, updsL, List.length_cons, List.length_nil]; decide +kernel) | exact rfl)) ?_; conv => whnf) | (refine And.intro rfl ?_; conv => whnf) | (refine And.intro (fun _ => ?_) (fun h => Bool.noConfusion h); conv => whnf) | (refine And.intro (fun h => Bool.noConfusion h) (fun _ => ?_); conv => whnf))
      repeat' (first | ((refine And.intro (fun h => ?_) (fun h => ?_)) <;> (try simp at h) <;> ((conv => whnf); repeat (first | (refine And.intro (DrawOk.mk (by first | (simp only [List.map_cons, List.map_nil, List.nil_append, List.cons_append, List.append_nil, updsL, List.length_cons, List.length_nil]; decide +kernel) | exact rfl)) ?_; conv => whnf) | (refine And.intro rfl ?_; conv => whnf) | (refine And.intro (fun _ => ?_) (fun h => Bool.noConfusion h); conv => whnf) | (refine And.intro (fun h => Bool.noConfusion h) (fun _ => ?_); conv => whnf)))) | (refine ⟨_, _, hrest, ?_⟩; ((conv => whnf); repeat (first | (refine And.intro (DrawOk.mk (by first | (simp only [List.map_cons, List.map_nil, List.nil_append, List.cons_append, List.append_nil, updsL, List.length_cons, List.length_nil]; decide +kernel) | exact rfl)) ?_; conv => whnf) | (refine And.intro rfl ?_; conv => whnf) | (refine And.intro (fun _ => ?_) (fun h => Bool.noConfusion h); conv => whnf) | (refine And.intro (fun h => Bool.noConfusion h) (fun _ => ?_); conv => whnf)))) | (refine ⟨_, _, a1, ?_⟩; ((conv => whnf); repeat (first | (refine And.intro (DrawOk.mk (by first | (simp only [List.map_cons, List.map_nil, List.nil_append, List.cons_append, List.append_nil, updsL, List.length_cons, List.length_nil]; decide +kernel) | exact rfl)) ?_; conv => whnf) | (refine And.intro rfl ?_; conv => whnf) | (refine And.intro (fun _ => ?_) (fun h => Bool.noConfusion h); conv => whnf) | (refine And.intro (fun h => Bool.noConfusion h) (fun _ => ?_); conv => whnf)))) | (refine ⟨_, _, a2, ?_⟩; ((conv => whnf); repeat (first | (refine And.intro (DrawOk.mk (by first | (simp only [List.map_cons, List.map_nil, List.nil_append, List.cons_append, List.append_nil, updsL, List.length_cons, List.length_nil]; decide +kernel) | exact rfl)) ?_; conv => whnf) | (refine And.intro rfl ?_; conv => whnf) | (refine And.intro (fun _ => ?_) (fun h => Bool.noConfusion h); conv => whnf) | (refine And.intro (fun h => Bool.noConfusion h) (fun _ => ?_); conv => whnf)))) | (refine ⟨_, _, a3, ?_⟩; ((conv => whnf); repeat (first | (refine And.intro (DrawOk.mk (by first | (simp only [List.map_cons, List.map_nil, List.nil_append, List.cons_append, List.append_nil, updsL, List.length_cons, List.length_nil]; decide +kernel) | exact rfl)) ?_; conv => whnf) | (refine And.intro rfl ?_; conv => whnf) | (refine And.intro (fun _ => ?_) (fun h => Bool.noConfusion h); conv => whnf) | (refine And.intro (fun h => Bool.noConfusion h) (fun _ => ?_); conv => whnf)))) | (refine ⟨_, _, a4, ?_⟩; ((conv => whnf); repeat (first | (refine And.intro (DrawOk.mk (by first | (simp only [List.map_cons, List.map_nil, List.nil_append, List.cons_append, List.append_nil, updsL, List.length_cons, List.length_nil]; decide +kernel) | exact rfl)) ?_; conv => whnf) | (refine And.intro rfl ?_; conv => whnf) | (refine And.intro (fun _ => ?_) (fun h => Bool.noConfusion h); conv => whnf) | (refine And.intro (fun h => Bool.noConfusion h) (fun _ => ?_); conv => whnf)))) | (refine ⟨_, _, a5, ?_⟩; ((conv => whnf); repeat (first | (refine And.intro (DrawOk.mk (by first | (simp only [List.map_cons, List.map_nil, List.nil_append, List.cons_append, List.append_nil, updsL, List.length_cons, List.length_nil]; decide +kernel) | exact rfl)) ?_; conv => whnf) | (refine And.intro rfl ?_; conv => whnf) | (refine And.intro (fun _ => ?_) (fun h => Bool.noConfusion h); conv => whnf) | (refine And.intro (fun h => Bool.noConfusion h) (fun _ => ?_); conv => whnf)))) | (refine ⟨_, _, a6, ?_⟩; ((conv => whnf); repeat (first | (refine And.intro (DrawOk.mk (by first | (simp only [List.map_cons, List.map_nil, List.nil_append, List.cons_append, List.append_nil, updsL, List.length_cons, List.length_nil]; decide +kernel) | exact rfl)) ?_; conv => whnf) | (refine And.intro rfl ?_; conv => whnf) | (refine And.intro (fun _ => ?_) (fun h => Bool.noConfusion h); conv => whnf) | (refine And.intro (fun h => Bool.noConfusion h) (fun _ => ?_); conv => whnf)))) | (refine ⟨_, _, a8, ?_⟩; ((conv => whnf); repeat (first | (refine And.intro (DrawOk.mk (by first | (simp only [List.map_cons, List.map_nil, List.nil_append, List.cons_append, List.append_nil, updsL, List.length_cons, List.length_nil]; decide +kernel) | exact rfl)) ?_; conv => whnf) | (refine And.intro rfl ?_; conv => whnf) | (refine And.intro (fun _ => ?_) (fun h => Bool.noConfusion h); conv => whnf) | (refine And.intro (fun h => Bool.noConfusion h) (fun _ => ?_); conv => whnf)))) | fail)
      all_goals first
        | (exfalso; omega)
        | (refine again (i + 1, k4, D) ⟨by dsimp only; omega, hp'⟩ (by dsimp only; omega) ?_
           (refine And.intro rfl (And.intro rfl ?_)); (repeat' (first | exact trivial | exact rfl | apply And.intro | (refine congrArg (Value.int .i64) (w64_nat ?_); omega))))
  · rw [if_neg hw] at hsi
    have a8 := a7 sec
    rw [show (⟨D.s, D.mo, D.ma, D.zs⟩ : Dv) = D from rfl] at a8
    generalize dappend D zz sec = A at a8 hsi
    have hp : ∀ D', dtake D A = D' → run (i + 1) = (k4, D') := fun D' h => by rw [← h]; exact hsi
    obtain ⟨Y, at_, e⟩ := A
    dsimp only at a8
    by_cases he0 : e = 0
    · have hp' := hp Y (by unfold dtake; rw [if_pos he0])
      subst he0
      (conv => whnf); repeat (first | (refine And.intro (DrawOk.mk (by first | (simp only [List.map_cons, List.map_nil, List.nil_append, List.cons_append, List.append_nil, updsL, List.length_cons, List.length_nil]; decide +kernel) | exact rfl)) ?_; conv => whnf) | (refine And.intro rfl ?_; conv => whnf) | (refine And.intro (fun _ => ?_) (fun h => Bool.noConfusion h); conv => whnf) | (refine And.intro (fun h => Bool.noConfusion h) (fun _ => ?_); conv => whnf))
      repeat' (first | ((refine And.intro (fun h => ?_) (fun h => ?_)) <;> (try simp at h) <;> ((conv => whnf); repeat (first | (refine And.intro (DrawOk.mk (by first | (simp only [List.map_cons, List.map_nil, List.nil_append, List.cons_append, List.append_nil, updsL, List.length_cons, List.length_nil]; decide +kernel) | exact rfl)) ?_; conv => whnf) | (refine And.intro rfl ?_; conv => whnf) | (refine And.intro (fun _ => ?_) (fun h => Bool.noConfusion h); conv => whnf) | (refine And.intro (fun h => Bool.noConfusion h) (fun _ => ?_); conv => whnf)))) | (refine ⟨_, _, hrest, ?_⟩; ((conv => whnf); repeat (first | (refine And.intro (DrawOk.mk (by first | (simp only [List.map_cons, List.map_nil, List.nil_append, List.cons_append, List.append_nil, updsL, List.length_cons, List.length_nil]; decide +kernel) | exact rfl)) ?_; conv => whnf) | (refine And.intro rfl ?_; conv => whnf) | (refine And.intro (fun _ => ?_) (fun h => Bool.noConfusion h); conv => whnf) | (refine And.intro (fun h => Bool.noConfusion h) (fun _ => ?_); conv => whnf)))) | (refine ⟨_, _, a1, ?_⟩; ((conv => whnf); repeat (first | (refine And.intro (DrawOk.mk (by first | (simp only [List.map_cons, List.map_nil, List.nil_append, List.cons_append, List.append_nil, updsL, List.length_cons, List.length_nil]; decide +kernel) | exact rfl)) ?_; conv => whnf) | (refine And.intro rfl ?_; conv => whnf) | (refine And.intro (fun _ => ?_) (fun h => Bool.noConfusion h); conv => whnf) | (refine And.intro (fun h => Bool.noConfusion h) (fun _ => ?_); conv => whnf)))) | (refine ⟨_, _, a2, ?_⟩; ((conv => whnf); repeat (first | (refine And.intro (DrawOk.mk (by first | (simp only [List.map_cons, List.map_nil, List.nil_append, List.cons_append, List.append_nil, updsL, List.length_cons, List.length_nil]; decide +kernel) | exact rfl)) ?_; conv => whnf) | (refine And.intro rfl ?_; conv => whnf) | (refine And.intro (fun _ => ?_) (fun h => Bool.noConfusion h); conv => whnf) | (refine And.intro (fun h => Bool.noConfusion h) (fun _ => ?_); conv => whnf)))) | (refine ⟨_, _, a3, ?_⟩; ((conv => whnf); repeat (first | (refine And.intro (DrawOk.mk (by first | (simp only [List.map_cons, List.map_nil, List.nil_append, List.cons_append, List.append_nil, updsL, List.length_cons, List.length_nil]; decide +kernel) | exact rfl)) ?_; conv => whnf) | (refine And.intro rfl ?_; conv => whnf) | (refine And.intro (fun _ => ?_) (fun h => Bool.noConfusion h); conv => whnf) | (refine And.intro (fun h => Bool.noConfusion h) (fun _ => ?_); conv => whnf)))) | (refine ⟨_, _, a4, ?_⟩; ((conv => whnf); repeat (first | (refine And.intro (DrawOk.mk (by first | (simp only [List.map_cons, List.map_nil, List.nil_append, List.cons_append, List.append_nil, updsL, List.length_cons, List.length_nil]; decide +kernel) | exact rfl)) ?_; conv => whnf) | (refine And.intro rfl ?_; conv => whnf) | (refine And.intro (fun _ => ?_) (fun h => Bool.noConfusion h); conv => whnf) | (refine And.intro (fun h => Bool.noConfusion h) (fun _ => ?_); conv => whnf)))) | (refine ⟨_, _, a5, ?_⟩; ((conv => whnf); repeat (first | (refine And.intro (DrawOk.mk (by first | (simp only [List.map_cons, List.map_nil, List.nil_append, List.cons_append, List.append_nil, updsL, List.length_cons, List.length_nil]; decide +kernel) | exact rfl)) ?_; conv => whnf) | (refine And.intro rfl ?_; conv => whnf) | (refine And.intro (fun _ => ?_) (fun h => Bool.noConfusion h); conv => whnf) | (refine And.intro (fun h => Bool.noConfusion h) (fun _ => ?_); conv => whnf)))) | (refine ⟨_, _, a6, ?_⟩; ((conv => whnf); repeat (first | (refine And.intro (DrawOk.mk (by first | (simp only [List.map_cons, List.map_nil, List.nil_append, List.cons_append, List.append_nil, updsL, List.length_cons, List.length_nil]; decide +kernel) | exact rfl)) ?_; conv => whnf) | (refine And.intro rfl ?_; conv => whnf) | (refine And.intro (fun _ => ?_) (fun h => Bool.noConfusion h); conv => whnf) | (refine And.intro (fun h => Bool.noConfusion h) (fun _ => ?_); conv => whnf)))) | (refine ⟨_, _, a8, ?_⟩; ((conv => whnf); repeat (first | (refine And.intro (DrawOk.mk (by first | (simp only [List.map_cons, List.map_nil, List.nil_append, List.cons_append, List.append_nil, updsL, List.length_cons, List.length_nil]; decide +kernel) | exact rfl)) ?_; conv => whnf) | (refine And.intro rfl ?_; conv => whnf) | (refine And.intro (fun _ => ?_) (fun h => Bool.noConfusion h); conv => whnf) | (refine And.intro (fun h => Bool.noConfusion h) (fun _ => ?_); conv => whnf)))) | fail)
      all_goals first
        | (exfalso; omega)
        | (refine again (i + 1, k4, Y) ⟨by dsimp only; omega, hp'⟩ (by dsimp only; omega) ?_
           (refine And.intro rfl (And.intro rfl ?_)); (repeat' (first | exact trivial | exact rfl | apply And.intro | (refine congrArg (Value.int .i64) (w64_nat ?_); omega))))
    · have hp' := hp D (by unfold dtake; rw [if_neg he0])
      (conv => whnf); repeat (first | (refine And.intro (DrawOk.mk (by first | (simp only [List.map_cons, List.map_nil, List.nil_append, List.cons_append, List.append_nil, updsL, List.length_cons, List.length_nil]; decide +kernel) | exact rfl)) ?_; conv => whnf) | (refine And.intro rfl ?_; conv => whnf) | (refine And.intro (fun _ => ?_) (fun h => Bool.noConfusion h); conv => whnf) | (refine And.intro (fun h => Bool.noConfusion h) (fun _ => ?_); conv => whnf))
      repeat' (first | ((refine And.intro (fun h => ?_) (fun h => ?_)) <;> (try simp at h) <;> ((conv => whnf); repeat (first | (refine And.intro (DrawOk.mk (by first | (simp only [List.map_cons, List.map_nil, List.nil_append, List.cons_append, List.append_nil, updsL, List.length_cons, List.length_nil]; decide +kernel) | exact rfl)) ?_; conv => whnf) | (refine And.intro rfl ?_; conv => whnf) | (refine And.intro (fun _ => ?_) (fun h => Bool.noConfusion h); conv => whnf) | (refine And.intro (fun h => Bool.noConfusion h) (fun _ => ?_); conv => whnf)))) | (refine ⟨_, _, hrest, ?_⟩; ((conv => whnf); repeat (first | (refine And.intro (DrawOk.mk (by first | (simp only [List.map_cons, List.map_nil, List.nil_append, List.cons_append, List.append_nil, updsL, List.length_cons, List.length_nil]; decide +kernel) | exact rfl)) ?_; conv => whnf) | (refine And.intro rfl ?_; conv => whnf) | (refine And.intro (fun _ => ?_) (fun h => Bool.noConfusion h); conv => whnf) | (refine And.intro (fun h => Bool.noConfusion h) (fun _ => ?_); conv => whnf)))) | (refine ⟨_, _, a1, ?_⟩; ((conv => whnf); repeat (first | (refine And.intro (DrawOk.mk (by first | (simp only [List.map_cons, List.map_nil, List.nil_append, List.cons_append, List.append_nil, updsL, List.length_cons, List.length_nil]; decide +kernel) | exact rfl)) ?_; conv => whnf) | (refine And.intro rfl ?_; conv => whnf) | (refine And.intro (fun _ => ?_) (fun h => Bool.noConfusion h); conv => whnf) | (refine And.intro (fun h => Bool.noConfusion h) (fun _ => ?_); conv => whnf)))) | (refine ⟨_, _, a2, ?_⟩; ((conv => whnf); repeat (first | (refine And.intro (DrawOk.mk (by first | (simp only [List.map_cons, List.map_nil, List.nil_append, List.cons_append, List.append_nil, updsL, List.length_cons, List.length_nil]; decide +kernel) | exact rfl)) ?_; conv => whnf) | (refine And.intro rfl ?_; conv => whnf) | (refine And.intro (fun _ => ?_) (fun h => Bool.noConfusion h); conv => whnf) | (refine And.intro (fun h => Bool.noConfusion h) (fun _ => ?_); conv => whnf)))) | (refine ⟨_, _, a3, ?_⟩; ((conv => whnf); repeat (first | (refine And.intro (DrawOk.mk (by first | (simp only [List.map_cons, List.map_nil, List.nil_append, List.cons_append, List.append_nil, updsL, List.length_cons, List.length_nil]; decide +kernel) | exact rfl)) ?_; conv => whnf) | (refine And.intro rfl ?_; conv => whnf) | (refine And.intro (fun _ => ?_) (fun h => Bool.noConfusion h); conv => whnf) | (refine And.intro (fun h => Bool.noConfusion h) (fun _ => ?_); conv => whnf)))) | (refine ⟨_, _, a4, ?_⟩; ((conv => whnf); repeat (first | (refine And.intro (DrawOk.mk (by first | (simp only [List.map_cons, List.map_nil, List.nil_append, List.cons_append, List.append_nil, updsL, List.length_cons, List.length_nil]; decide +kernel) | exact rfl)) ?_; conv => whnf) | (refine And.intro rfl ?_; conv => whnf) | (refine And.intro (fun _ => ?_) (fun h => Bool.noConfusion h); conv => whnf) | (refine And.intro (fun h => Bool.noConfusion h) (fun _ => ?_); conv => whnf)))) | (refine ⟨_, _, a5, ?_⟩; ((conv => whnf); repeat (first | (refine And.intro (DrawOk.mk (by first | (simp only [List.map_cons, List.map_nil, List.nil_append, List.cons_append, List.append_nil, updsL, List.length_cons, List.length_nil]; decide +kernel) | exact rfl)) ?_; conv => whnf) | (refine And.intro rfl ?_; conv => whnf) | (refine And.intro (fun _ => ?_) (fun h => Bool.noConfusion h); conv => whnf) | (refine And.intro (fun h => Bool.noConfusion h) (fun _ => ?_); conv => whnf)))) | (refine ⟨_, _, a6, ?_⟩; ((conv => whnf); repeat (first | (refine And.intro (DrawOk.mk (by first | (simp only [List.map_cons, List.map_nil, List.nil_append, List.cons_append, List.append_nil, updsL, List.length_cons, List.length_nil]; decide +kernel) | exact rfl)) ?_; conv => whnf) | (refine And.intro rfl ?_; conv => whnf) | (refine And.intro (fun _ => ?_) (fun h => Bool.noConfusion h); conv => whnf) | (refine And.intro (fun h => Bool.noConfusion h) (fun _ => ?_); conv => whnf)))) | (refine ⟨_, _, a8, ?_⟩; ((conv => whnf); repeat (first | (refine And.intro (DrawOk.mk (by first | (simp only [List.map_cons, List.map_nil, List.nil_append, List.cons_append, List.append_nil, updsL, List.length_cons, List.length_nil]; decide +kernel) | exact rfl)) ?_; conv => whnf) | (refine And.intro rfl ?_; conv => whnf) | (refine And.intro (fun _ => ?_) (fun h => Bool.noConfusion h); conv => whnf) | (refine And.intro (fun h => Bool.noConfusion h) (fun _ => ?_); conv => whnf)))) | fail)
      all_goals first
        | (exfalso; omega)
        | (refine again (i + 1, k4, D) ⟨by dsimp only; omega, hp'⟩ (by dsimp only; omega) ?_
           (refine And.intro rfl (And.intro rfl ?_)); (repeat' (first | exact trivial | exact rfl | apply And.intro | (refine congrArg (Value.int .i64) (w64_nat ?_); omega))))
end Go.Proofs.Ytkpicojhnnkibaa.Ab
