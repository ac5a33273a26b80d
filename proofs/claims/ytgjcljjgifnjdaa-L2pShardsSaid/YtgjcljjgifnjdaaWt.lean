/- The number of shards makes no difference: relocations and drops in valid maps, and the law. -/
import Derived.Test.YtgjcljjgifnjdaaWo
namespace Go.Proofs.Ytgjcljjgifnjdaa.Ab
set_option linter.unusedVariables false
set_option linter.unusedSimpArgs false
open Go.RowKit

/-- Small valid maps. -/
def mV (c : Nat) (M : List (List Ety)) : Prop := mP c M ∧ mvalid M = true
theorem srel_mem {l : List Ety} {b v fz fo tz to m : Int} {x : Ety} (h : x ∈ (srel l b v fz fo tz to m).1) : x ∈ l ∨ (shere l b = true ∧ x.b = b) := by
  unfold srel at h
  split at h
  · cases h
  · split at h
    · rename_i h1 h2
      rw [Bool.and_eq_true] at h2
      rcases List.mem_or_eq_of_mem_set h with h | rfl
      · exact Or.inl h
      · refine Or.inr ⟨h2.1, ?_⟩
        obtain ⟨hl, h3, h4⟩ := shere_lt h2.1
        dsimp only
        rw [h4, h3]
    · exact Or.inl h
theorem svalid_rel {l : List Ety} {b v fz fo tz to m : Int} (h : svalid l = true) : svalid (srel l b v fz fo tz to m).1 = true := by
  unfold srel
  rw [if_neg (by rw [h]; decide)]
  split
  · rename_i h2
    rw [Bool.and_eq_true] at h2
    obtain ⟨h2, h3⟩ := h2
    simp only [Bool.and_eq_true, decide_eq_true_eq] at h3
    obtain ⟨hl, h4, h5⟩ := shere_lt h2
    have hr := ((svalid_iff l).1 h).1 _ (List.getElem_mem hl)
    refine svalid_set h ?_ hl ?_
    · rw [h5]
      unfold rightE at hr ⊢
      rw [decide_eq_true_eq] at hr ⊢
      dsimp only
      omega
    · dsimp only
      rw [h5]
  · exact h
theorem mV.inst {c : Nat} {M : List (List Ety)} (h : mV c M) {e : Ety} (hr : rightE e = true) (hb : e.b ≤ 8) : mV (c + 1) (minst M e).1 := ⟨h.1.inst hb, inst_valid h.2 hr⟩
theorem mV.mono {c d : Nat} {M : List (List Ety)} (h : mV c M) (hcd : c ≤ d) : mV d M := ⟨⟨h.1.1, fun l hl => ⟨Nat.le_trans (h.1.2 l hl).1 hcd, (h.1.2 l hl).2⟩⟩, h.2⟩
theorem set_P {c : Nat} {M : List (List Ety)} (h : mP c M) {k : Nat} {l : List Ety} (hl : l.length ≤ c ∧ ∀ e ∈ l, e.b ≤ 8) : mP c (M.set k l) := by
  refine ⟨by rw [List.length_set]; exact h.1, fun x hx => ?_⟩
  rcases List.mem_or_eq_of_mem_set hx with hx | rfl
  · exact h.2 x hx
  · exact hl
theorem rel_at {M : List (List Ety)} (h : mvalid M = true) {b : Int} (hb : 0 ≤ b) (v fz fo tz to m : Int) : ∃ k, ∃ hk : k < M.length, mstr M b = (k : Int) ∧ mrel M b v fz fo tz to m = (M.set k (srel M[k] b v fz fo tz to m).1, (srel M[k] b v fz fo tz to m).2) := by
  obtain ⟨k, hk, hl⟩ := mstr_at h hb
  refine ⟨k, hl, hk, ?_⟩
  unfold mrel
  rw [if_pos (by rw [mAt_iff, h, decide_eq_true hb]; rfl), shd_at hk hl, hk, Int.toNat_natCast]
theorem mV.rel {c : Nat} {M : List (List Ety)} (h : mV c M) {b : Int} (hb : 0 ≤ b) (v fz fo tz to m : Int) : mV c (mrel M b v fz fo tz to m).1 := by
  obtain ⟨k, hk, hs, he⟩ := rel_at h.2 hb v fz fo tz to m
  rw [he]
  have hm := (mvalid_at h.2).2 k hk
  have hst : ∀ x ∈ (srel M[k] b v fz fo tz to m).1, mstr M x.b = (k : Int) := fun x hx => by
    rcases srel_mem hx with hx | ⟨_, hx⟩
    · exact hm.2 x hx
    · rw [hx]; exact hs
  have h1 := h.1.2 _ (List.getElem_mem hk)
  refine ⟨set_P h.1 ⟨Nat.le_trans (srel_len _ _ _ _ _ _ _ _) h1.1, fun x hx => ?_⟩, set_valid h.2 hk (svalid_rel hm.1) hst⟩
  rcases srel_mem hx with hx | ⟨hh, hx⟩
  · exact h1.2 x hx
  · obtain ⟨hl, h3, _⟩ := shere_lt hh
    have := h1.2 _ (List.getElem_mem hl)
    omega
/-- An entry at another place. -/
def moved (o : Option Ety) (b c : Int) (tz to m : Int) (p : Option Ety) : Option Ety := if c = b then (match o with
  | none => none
  | some o => some ⟨o.b, o.k, o.v, m, tz, to⟩) else p
theorem rel_lk {M : List (List Ety)} (h : mvalid M = true) {b : Int} (hb : 0 ≤ b) {tz to m : Int} (h1 : 0 ≤ tz ∧ 0 ≤ to ∧ 0 ≤ m ∧ m ≤ 255) (c : Int) :
    mlk (mrel M b ((mlk M b).getD e0).v ((mlk M b).getD e0).z ((mlk M b).getD e0).o tz to m).1 c = moved (mlk M b) b c tz to m (mlk M c) := by
  by_cases hc : 0 ≤ c
  · obtain ⟨k, hk, hs, he⟩ := rel_at h hb ((mlk M b).getD e0).v ((mlk M b).getD e0).z ((mlk M b).getD e0).o tz to m
    rw [he]
    dsimp only
    have hm := (mvalid_at h).2 k hk
    rw [set_lk h hk (svalid_rel hm.1) (fun x hx => by
      rcases srel_mem hx with hx | ⟨_, hx⟩
      · exact hm.2 x hx
      · rw [hx]; exact hs) hc, mlk_at h hb hs hk]
    by_cases h2 : mstr M c = (k : Int)
    · rw [if_pos h2, mlk_at h hc h2 hk]
      cases hl : lk M[k] b with
      | none =>
        have hh : shere M[k] b = false := by rw [shere_lk hm.1, hl]; rfl
        have : (srel M[k] b ((none : Option Ety).getD e0).v ((none : Option Ety).getD e0).z ((none : Option Ety).getD e0).o tz to m).1 = M[k] := by
          unfold srel
          rw [if_neg (by rw [hm.1]; decide), hh, Bool.false_and, if_neg (by decide)]
        rw [this]
        unfold moved
        split
        · rename_i hcb; rw [hcb, hl]
        · rfl
      | some o =>
        have := (srel_lk hm.1 hl h1).2.2 c
        rw [Option.getD_some, this]
        rfl
    · rw [if_neg h2]
      unfold moved
      rw [if_neg]
      rintro rfl
      exact h2 hs
  · rw [mlk_neg (by omega)]
    unfold moved
    rw [if_neg (by omega), mlk_neg (by omega)]
/-- The first k shards without old trims. -/
def dropTo (M : List (List Ety)) (cut : Int) (k : Nat) : List (List Ety) := (M.take k).map (fun l => l.filter fun e => !tomb cut e) ++ M.drop k
theorem dropTo_zero (M : List (List Ety)) (cut : Int) : dropTo M cut 0 = M := by simp [dropTo]
theorem dropTo_len (M : List (List Ety)) (cut : Int) (k : Nat) : (dropTo M cut k).length = M.length := by
  unfold dropTo
  rw [List.length_append, List.length_map, List.length_take, List.length_drop]
  omega
theorem dropTo_at {M : List (List Ety)} {cut : Int} {k i : Nat} (h : i < M.length) : (dropTo M cut k)[i]'(by rw [dropTo_len]; exact h) = if i < k then M[i].filter (fun e => !tomb cut e) else M[i] := by
  unfold dropTo
  rw [List.getElem_append]
  split
  · rename_i h1
    rw [List.length_map, List.length_take] at h1
    rw [if_pos (by omega), List.getElem_map, List.getElem_take]
  · rename_i h1
    rw [List.length_map, List.length_take] at h1
    rw [if_neg (by omega), List.getElem_drop]
    congr 1
    rw [List.length_map, List.length_take]
    omega
theorem dropTo_V {c : Nat} {M : List (List Ety)} (h : mV c M) (cut : Int) (k : Nat) : mV c (dropTo M cut k) := by
  have hm := mvalid_at h.2
  refine ⟨⟨by rw [dropTo_len]; exact h.1.1, fun l hl => ?_⟩, mvalid_of (by rw [dropTo_len]; exact hm.1) fun i hi => ?_⟩
  · obtain ⟨i, hi, rfl⟩ := List.getElem_of_mem hl
    rw [dropTo_len] at hi
    have h1 := h.1.2 _ (List.getElem_mem hi)
    rw [dropTo_at hi]
    split
    · exact ⟨Nat.le_trans (List.length_filter_le _ _) h1.1, fun e he => h1.2 e (List.mem_filter.1 he).1⟩
    · exact h1
  · rw [dropTo_len] at hi
    have h1 := hm.2 i hi
    rw [dropTo_at hi]
    split
    · exact ⟨svalid_filter h1.1 _, fun e he => (mstr_len (dropTo_len _ _ _) _).trans (h1.2 e (List.mem_filter.1 he).1)⟩
    · exact ⟨h1.1, fun e he => (mstr_len (dropTo_len _ _ _) _).trans (h1.2 e he)⟩
theorem dropTo_step {c : Nat} {M : List (List Ety)} (h : mV c M) (cut : Int) (k : Nat) : (mdrop (dropTo M cut k) (k : Int) cut).1 = dropTo M cut (k + 1) := by
  have hv := (dropTo_V h cut k).2
  by_cases hk : k < M.length
  · have hk' : k < (dropTo M cut k).length := by rw [dropTo_len]; exact hk
    rw [mdrop_yes hv hk']
    dsimp only
    have hs : svalid (dropTo M cut k)[k] = true := ((mvalid_at hv).2 k hk').1
    rw [sdrop_yes hs]
    dsimp only
    refine List.ext_getElem (by rw [List.length_set, dropTo_len, dropTo_len]) fun i h1 h2 => ?_
    rw [List.length_set, dropTo_len] at h1
    have hkk : (dropTo M cut k)[k] = M[k] := by rw [dropTo_at hk, if_neg (Nat.lt_irrefl k)]
    rw [List.getElem_set, dropTo_at (k := k + 1) h1]
    split
    · rename_i hki
      subst hki
      rw [if_pos (Nat.lt_succ_self k), hkk]
    · rename_i hki
      rw [dropTo_at h1]
      by_cases hik : i < k
      · rw [if_pos hik, if_pos (by omega)]
      · rw [if_neg hik, if_neg (by omega)]
  · rw [mdrop_no]
    · dsimp only
      refine List.ext_getElem (by rw [dropTo_len, dropTo_len]) fun i h1 h2 => ?_
      rw [dropTo_len] at h1
      rw [dropTo_at h1, dropTo_at h1, if_pos (by omega), if_pos (by omega)]
    · rintro ⟨_, _, h3⟩
      rw [dropTo_len] at h3
      omega
theorem lk_filter {l : List Ety} (h : svalid l = true) (f : Ety → Bool) (b : Int) : lk (l.filter f) b = (lk l b).filter f := by
  have hv := svalid_filter h f
  cases hl : lk l b with
  | none =>
    rw [lk_none] at hl
    have : lk (l.filter f) b = none := lk_none.2 fun e he => hl e (List.mem_filter.1 he).1
    rw [this]; rfl
  | some e =>
    have h1 := (lk_iff h).1 hl
    cases hf : f e with
    | true =>
      rw [Option.filter_some, hf, if_pos rfl]
      exact (lk_iff hv).2 ⟨List.mem_filter.2 ⟨h1.1, hf⟩, h1.2⟩
    | false =>
      rw [Option.filter_some, hf, if_neg (by decide)]
      refine lk_none.2 fun y hy hyb => ?_
      have h2 := List.mem_filter.1 hy
      have := asc_uniq h h2.1 h1.1 (by omega)
      rw [this, hf] at h2
      cases h2.2
theorem drop_lk {c : Nat} {M : List (List Ety)} (h : mV c M) (cut : Int) (b : Int) : mlk (dropTo M cut 8) b = (mlk M b).filter fun e => !tomb cut e := by
  have hv := (dropTo_V h cut 8).2
  by_cases hb : 0 ≤ b
  · obtain ⟨k, hk, hl⟩ := mstr_at h.2 hb
    have h8 := (mvalid_at h.2).1.2
    rw [mlk_at hv hb (k := k) ((mstr_len (dropTo_len _ _ _) _).trans hk) (by rw [dropTo_len]; exact hl), mlk_at h.2 hb hk hl, dropTo_at hl, if_pos (by omega)]
    exact lk_filter ((mvalid_at h.2).2 k hl).1 _ b
  · rw [mlk_neg (by omega), mlk_neg (by omega)]; rfl
def mE (M N : List (List Ety)) : Prop := ∀ b, mlk M b = mlk N b
theorem mV.ok {c : Nat} {M : List (List Ety)} (h : mV c M) (hc : c ≤ 1000) : mOk M := h.1.ok hc
theorem v_new {n : Nat} (h1 : 1 ≤ n) (h8 : n ≤ 8) : mV 0 (mnew n) := ⟨mnew_P n h8 0, mnew_valid h1 h8⟩
theorem v_allF {c : Nat} {M N : List (List Ety)} (h : mV c M) (h2 : mV c N) (hc : c ≤ 1000) (he : mE M N) : ∃ l, Fun Try.prog 43 [mpV M] [] (.v (slV (eR l))) ∧ Fun Try.prog 43 [mpV N] [] (.v (slV (eR l))) ∧ Fun Try.prog 22 [slV (eR l), slV (eR l)] [] (ATbool true) := by
  refine ⟨mall M, mallF M (h.ok hc) h.1.mB, ?_, ssameG _ (mall_len (h.ok hc))⟩
  rw [mall_ext h.2 h2.2 he]
  exact mallF N (h2.ok hc) h2.1.mB
theorem v_validF {c : Nat} {M : List (List Ety)} (h : mV c M) (hc : c ≤ 1000) : Fun Try.prog 44 [mpV M] [] (ATbool true) := by
  have := mvalF M (h.ok hc)
  rw [h.2] at this
  exact this
theorem v_instF {c : Nat} {M : List (List Ety)} (h : mV c M) (hc : c ≤ 1000) (b k v m z o : Int) (hr : rightE ⟨b, k, v, m, z, o⟩ = true) (hb : b ≤ 8) : ∃ M2 old ok, Fun Try.prog 32 [mpV M, eA b k v m z o] [] (.tup [mpV M2, eV old, bV ok]) ∧ mV (c + 1) M2 ∧ ∀ x, mlk M2 x = if x = b then some (newer (mlk M x) ⟨b, k, v, m, z, o⟩) else mlk M x := ⟨_, _, _, minstF M b k v m z o (h.ok hc), h.inst hr hb, inst_lk h.2 hr⟩
theorem v_relF {c : Nat} {M : List (List Ety)} (h : mV c M) (hc : c ≤ 1000) (b z o : Int) (hb : 0 ≤ b) (hz : 0 ≤ z) (ho : 0 ≤ o) (y : Option Ety) (hy : y = mlk M b) : ∃ M2 ok, Fun Try.prog 42 [mpV M, i64V b, i64V (y.getD e0).v, plV (y.getD e0).z (y.getD e0).o, plV z o, i64V 2] [] (.tup [mpV M2, bV ok]) ∧ mV c M2 ∧ ∀ x, mlk M2 x = moved y b x z o 2 (mlk M x) := by
  subst hy
  exact ⟨_, _, mrelF M b _ _ _ z o 2 (h.ok hc), h.rel hb _ _ _ _ _ _, rel_lk h.2 hb ⟨hz, ho, by decide, by decide⟩⟩
theorem v_lookF {c : Nat} {M : List (List Ety)} (h : mV c M) (hc : c ≤ 1000) (b : Int) : Fun Try.prog 33 [mpV M, i64V b] [] (.tup [eV ((mlk M b).getD e0), bV (mlk M b).isSome]) := by
  have := mlookF M b (h.ok hc)
  rw [mlook_lk h.2] at this
  exact this
theorem v_dropF {c : Nat} {M : List (List Ety)} (h : mV c M) (hc : c ≤ 1000) (cut : Int) (k : Nat) : ∃ g, Fun Try.prog 41 [mpV (dropTo M cut k), i64V k, i64V cut] [] (.tup [mpV (dropTo M cut (k + 1)), slV (eR g)]) := by
  have := mdropF (dropTo M cut k) (k : Int) cut ((dropTo_V h cut k).ok hc)
  rw [dropTo_step h] at this
  exact ⟨_, this⟩
theorem v_dropE {c : Nat} {M N : List (List Ety)} (h : mV c M) (h2 : mV c N) (he : mE M N) (cut : Int) : mE (dropTo M cut 8) (dropTo N cut 8) := fun b => by rw [drop_lk h, drop_lk h2, he b]
theorem u8_n (s : Int) (hs : 0 ≤ s ∧ s ≤ 255) : ∃ n : Nat, 1 ≤ n ∧ n ≤ 8 ∧ iwrap .i64 (1 + iwrap .i64 (s.tmod 8)) = n := by
  have hs2 := Int.tmod_lt_of_pos s (b := 8) (by decide)
  have hs3 := Int.tmod_nonneg 8 hs.1
  have h2 : iwrap .i64 (s.tmod 8) = s.tmod 8 := w64_in (by omega)
  have h3 : iwrap .i64 (1 + s.tmod 8) = 1 + s.tmod 8 := w64_in (by omega)
  refine ⟨(1 + s.tmod 8).toNat, by omega, by omega, ?_⟩
  rw [h2, h3]
  omega
set_option maxRecDepth 100000 in
set_option maxHeartbeats 32000000 in
theorem l2pShardsF (L : List Int) (s u : Int) (hs : 0 ≤ s ∧ s ≤ 255) (hu : 0 ≤ u ∧ u ≤ 255) (hL : L.length ≤ 140737488355328) : Fun Try.prog 11 [slV (wV L), .c (.i (.sc (.int .u8 s))), .c (.i (.sc (.int .u8 u)))] [] (ATbool true) := by
  have lt := lightF L hL
  have hw := mawakeF
  by_cases hl3 : L.length ≤ 300
  rotate_left
  · rw [decide_eq_false hl3] at lt
    refine fun_of_vc tabOk mixOk Try.func11 rfl (by rfl) (rs := [.tmp 6]) rfl rfl 151 ?_; rw [Try.ntmps11]
    (conv => whnf); repeat ((first | refine And.intro DrawOk.go ?_ | refine And.intro rfl ?_ | refine And.intro (fun _ => ?_) (fun h => Bool.noConfusion h) | refine And.intro (fun h => Bool.noConfusion h) (fun _ => ?_)); conv => whnf)
    refine ⟨_, _, lt, ?_⟩
    (conv => whnf); repeat ((first | refine And.intro DrawOk.go ?_ | refine And.intro rfl ?_ | refine And.intro (fun _ => ?_) (fun h => Bool.noConfusion h) | refine And.intro (fun h => Bool.noConfusion h) (fun _ => ?_)); conv => whnf)
    refine ⟨_, _, hw, ?_⟩
    (conv => whnf); repeat ((first | refine And.intro DrawOk.go ?_ | refine And.intro rfl ?_ | refine And.intro (fun _ => ?_) (fun h => Bool.noConfusion h) | refine And.intro (fun h => Bool.noConfusion h) (fun _ => ?_)); conv => whnf)
    refine Exists.intro [] (And.intro List.nodup_nil ?_); ((conv => whnf); repeat ((first | refine And.intro DrawOk.go ?_ | refine And.intro rfl ?_ | refine And.intro (fun _ => ?_) (fun h => Bool.noConfusion h) | refine And.intro (fun h => Bool.noConfusion h) (fun _ => ?_)); conv => whnf))
    rfl
  rw [decide_eq_true hl3] at lt
  have hl : L.length ≤ 1000000 := by omega
  have hr := rollF L hl
  obtain ⟨n1, e1, e2, e3⟩ := u8_n s hs
  obtain ⟨n2, f1, f2, f3⟩ := u8_n u hu
  have hn1 := mnewF n1 e1 e2
  have hn2 := mnewF n2 f1 f2
  have hM0 := v_new e1 e2
  have hN0 := v_new f1 f2
  have hE0 : mE (mnew n1) (mnew n2) := fun b => by rw [mnew_lk, mnew_lk]
  generalize mnew n1 = M0 at hn1 hM0 hE0
  generalize mnew n2 = N0 at hn2 hN0 hE0
  refine fun_of_vc (tabXOk [5000002]) mixOk Try.func11 rfl (by rfl) (rs := [.tmp 6]) rfl rfl 151 ?_; rw [Try.ntmps11]
  (conv => whnf); repeat ((first | refine And.intro DrawOk.go ?_ | refine And.intro rfl ?_ | refine And.intro (fun _ => ?_) (fun h => Bool.noConfusion h) | refine And.intro (fun h => Bool.noConfusion h) (fun _ => ?_)); conv => whnf)
  refine ⟨_, _, lt, ?_⟩
  (conv => whnf); repeat ((first | refine And.intro DrawOk.go ?_ | refine And.intro rfl ?_ | refine And.intro (fun _ => ?_) (fun h => Bool.noConfusion h) | refine And.intro (fun h => Bool.noConfusion h) (fun _ => ?_)); conv => whnf)
  refine ⟨_, _, hr, ?_⟩
  (conv => whnf); repeat ((first | refine And.intro DrawOk.go ?_ | refine And.intro rfl ?_ | refine And.intro (fun _ => ?_) (fun h => Bool.noConfusion h) | refine And.intro (fun h => Bool.noConfusion h) (fun _ => ?_)); conv => whnf)
  refine ⟨by decide, ?_⟩
  (conv => whnf); repeat ((first | refine And.intro DrawOk.go ?_ | refine And.intro rfl ?_ | refine And.intro (fun _ => ?_) (fun h => Bool.noConfusion h) | refine And.intro (fun h => Bool.noConfusion h) (fun _ => ?_)); conv => whnf)
  rw [e3]
  refine ⟨_, _, hn1, ?_⟩
  (conv => whnf); repeat ((first | refine And.intro DrawOk.go ?_ | refine And.intro rfl ?_ | refine And.intro (fun _ => ?_) (fun h => Bool.noConfusion h) | refine And.intro (fun h => Bool.noConfusion h) (fun _ => ?_)); conv => whnf)
  refine ⟨by decide, ?_⟩
  (conv => whnf); repeat ((first | refine And.intro DrawOk.go ?_ | refine And.intro rfl ?_ | refine And.intro (fun _ => ?_) (fun h => Bool.noConfusion h) | refine And.intro (fun h => Bool.noConfusion h) (fun _ => ?_)); conv => whnf)
  rw [f3]
  refine ⟨_, _, hn2, ?_⟩
  (conv => whnf); repeat ((first | refine And.intro DrawOk.go ?_ | refine And.intro rfl ?_ | refine And.intro (fun _ => ?_) (fun h => Bool.noConfusion h) | refine And.intro (fun h => Bool.noConfusion h) (fun _ => ?_)); conv => whnf)
  refine vc_loop [7, 8, 9, 10, 11] [] (X := Nat × Nat × List (List Ety) × List (List Ety)) (fun x gs => [(12, ATint x.1)]) (fun x gs => [(23, .var 1 (dcs L x.2.1)), (8, .var 1 [.i (.sl (mR x.2.2.1))]), (10, .var 1 [.i (.sl (mR x.2.2.2))])]) (fun x => x.1 ≤ 40 ∧ x.2.1 ≤ L.length ∧ mV x.1 x.2.2.1 ∧ mV x.1 x.2.2.2 ∧ mE x.2.2.1 x.2.2.2) (fun x => 40 - x.1) _ (Ghost.refl _) (0, 0, M0, N0) ⟨Nat.zero_le _, Nat.zero_le _, hM0, hN0, hE0⟩ ?_ ?_
  · (refine And.intro rfl (And.intro rfl ?_)); (repeat' (first | exact trivial | exact rfl | apply And.intro | (refine congrArg (Value.int .i64) (w64_nat ?_); omega)))
  clear hM0 hN0 hE0 hn1 hn2 e1 e2 e3 f1 f2 f3
  rintro gs ⟨i, k, M, N⟩ ⟨hi, hk, hM, hN, hE⟩
  dsimp only at hi hk hM hN hE ⊢
  have hr2 := restF L k hl hk
  have hv1 := v_validF hM (by omega)
  have hv2 := v_validF hN (by omega)
  have hR := d9_right L k
  (conv => whnf); repeat ((first | refine And.intro DrawOk.go ?_ | refine And.intro rfl ?_ | refine And.intro (fun _ => ?_) (fun h => Bool.noConfusion h) | refine And.intro (fun h => Bool.noConfusion h) (fun _ => ?_)); conv => whnf)
  refine And.intro (fun h => ?_) (fun h => ?_)
  rotate_left
  · (conv => whnf); repeat ((first | refine And.intro DrawOk.go ?_ | refine And.intro rfl ?_ | refine And.intro (fun _ => ?_) (fun h => Bool.noConfusion h) | refine And.intro (fun h => Bool.noConfusion h) (fun _ => ?_)); conv => whnf)
    refine ⟨_, _, hv1, ?_⟩
    (conv => whnf); repeat ((first | refine And.intro DrawOk.go ?_ | refine And.intro rfl ?_ | refine And.intro (fun _ => ?_) (fun h => Bool.noConfusion h) | refine And.intro (fun h => Bool.noConfusion h) (fun _ => ?_)); conv => whnf)
    refine ⟨_, _, hv2, ?_⟩
    (conv => whnf); repeat ((first | refine And.intro DrawOk.go ?_ | refine And.intro rfl ?_ | refine And.intro (fun _ => ?_) (fun h => Bool.noConfusion h) | refine And.intro (fun h => Bool.noConfusion h) (fun _ => ?_)); conv => whnf)
    refine ⟨_, _, hw, ?_⟩
    (conv => whnf); repeat ((first | refine And.intro DrawOk.go ?_ | refine And.intro rfl ?_ | refine And.intro (fun _ => ?_) (fun h => Bool.noConfusion h) | refine And.intro (fun h => Bool.noConfusion h) (fun _ => ?_)); conv => whnf)
    refine Exists.intro [] (And.intro List.nodup_nil ?_); ((conv => whnf); repeat ((first | refine And.intro DrawOk.go ?_ | refine And.intro rfl ?_ | refine And.intro (fun _ => ?_) (fun h => Bool.noConfusion h) | refine And.intro (fun h => Bool.noConfusion h) (fun _ => ?_)); conv => whnf))
    rfl
  have hlt : i < 40 := by have := of_decide_eq_true h; omega
  (conv => whnf); repeat ((first | refine And.intro DrawOk.go ?_ | refine And.intro rfl ?_ | refine And.intro (fun _ => ?_) (fun h => Bool.noConfusion h) | refine And.intro (fun h => Bool.noConfusion h) (fun _ => ?_)); conv => whnf)
  refine ⟨_, _, hr2, ?_⟩
  (conv => whnf); repeat ((first | refine And.intro DrawOk.go ?_ | refine And.intro rfl ?_ | refine And.intro (fun _ => ?_) (fun h => Bool.noConfusion h) | refine And.intro (fun h => Bool.noConfusion h) (fun _ => ?_)); conv => whnf)
  refine And.intro (fun h4 => ?_) (fun h4 => ?_)
  rotate_left
  · (conv => whnf); repeat ((first | refine And.intro DrawOk.go ?_ | refine And.intro rfl ?_ | refine And.intro (fun _ => ?_) (fun h => Bool.noConfusion h) | refine And.intro (fun h => Bool.noConfusion h) (fun _ => ?_)); conv => whnf)
    refine ⟨_, _, hv1, ?_⟩
    (conv => whnf); repeat ((first | refine And.intro DrawOk.go ?_ | refine And.intro rfl ?_ | refine And.intro (fun _ => ?_) (fun h => Bool.noConfusion h) | refine And.intro (fun h => Bool.noConfusion h) (fun _ => ?_)); conv => whnf)
    refine ⟨_, _, hv2, ?_⟩
    (conv => whnf); repeat ((first | refine And.intro DrawOk.go ?_ | refine And.intro rfl ?_ | refine And.intro (fun _ => ?_) (fun h => Bool.noConfusion h) | refine And.intro (fun h => Bool.noConfusion h) (fun _ => ?_)); conv => whnf)
    refine ⟨_, _, hw, ?_⟩
    (conv => whnf); repeat ((first | refine And.intro DrawOk.go ?_ | refine And.intro rfl ?_ | refine And.intro (fun _ => ?_) (fun h => Bool.noConfusion h) | refine And.intro (fun h => Bool.noConfusion h) (fun _ => ?_)); conv => whnf)
    refine Exists.intro [] (And.intro List.nodup_nil ?_); ((conv => whnf); repeat ((first | refine And.intro DrawOk.go ?_ | refine And.intro rfl ?_ | refine And.intro (fun _ => ?_) (fun h => Bool.noConfusion h) | refine And.intro (fun h => Bool.noConfusion h) (fun _ => ?_)); conv => whnf))
    rfl
  clear hv1 hv2 hr2
  have hEn := m9F L k hl
  have hk2 := d9k_le hk
  generalize d9k L k = k2 at hEn hk2
  generalize d9 L k = x at hEn hR
  obtain ⟨b, kd, v, mv, z, o⟩ := x
  have hx1 := nextF L k2 5 hl
  have hx2 := nextF L (dnx L k2) 30 hl
  have hk3 := dnx_le hk2
  have hk4 := dnx_le hk3
  generalize dval L k2 5 = w at hx1
  generalize dnx L k2 = k3 at hx1 hx2 hk3 hk4
  generalize dval L k3 30 = cut at hx2
  generalize dnx L k3 = k4 at hx2 hk4
  (conv => whnf); repeat ((first | refine And.intro DrawOk.go ?_ | refine And.intro rfl ?_ | refine And.intro (fun _ => ?_) (fun h => Bool.noConfusion h) | refine And.intro (fun h => Bool.noConfusion h) (fun _ => ?_)); conv => whnf)
  refine ⟨_, _, hEn, ?_⟩
  (conv => whnf); repeat ((first | refine And.intro DrawOk.go ?_ | refine And.intro rfl ?_ | refine And.intro (fun _ => ?_) (fun h => Bool.noConfusion h) | refine And.intro (fun h => Bool.noConfusion h) (fun _ => ?_)); conv => whnf)
  refine vc_join [7, 8, 9, 10, 11, 12] [] (X := Nat × List (List Ety) × List (List Ety)) (fun _ _ => []) (fun x _ => [(23, .var 1 (dcs L x.1)), (8, .var 1 [.i (.sl (mR x.2.1))]), (10, .var 1 [.i (.sl (mR x.2.2))])]) (fun x => x.1 ≤ L.length ∧ mV (i + 1) x.2.1 ∧ mV (i + 1) x.2.2 ∧ mE x.2.1 x.2.2) ?_ ?_
  · (conv => whnf); repeat ((first | refine And.intro DrawOk.go ?_ | refine And.intro rfl ?_ | refine And.intro (fun _ => ?_) (fun h => Bool.noConfusion h) | refine And.intro (fun h => Bool.noConfusion h) (fun _ => ?_)); conv => whnf)
    refine ⟨_, _, hx1, ?_⟩
    (conv => whnf); repeat ((first | refine And.intro DrawOk.go ?_ | refine And.intro rfl ?_ | refine And.intro (fun _ => ?_) (fun h => Bool.noConfusion h) | refine And.intro (fun h => Bool.noConfusion h) (fun _ => ?_)); conv => whnf)
    refine And.intro (fun h5 => ?_) (fun h5 => ?_)
    · have hdE := v_dropE hM hN hE cut
      have hdM := dropTo_V hM cut 8
      have hdN := dropTo_V hN cut 8
      have hd1 := v_dropF hM (by omega) cut
      have hd2 := v_dropF hN (by omega) cut
      have z1 := dropTo_zero M cut
      have z2 := dropTo_zero N cut
      generalize dropTo M cut = D1 at hdE hdM hd1 z1
      generalize dropTo N cut = D2 at hdE hdN hd2 z2
      (conv => whnf); repeat ((first | refine And.intro DrawOk.go ?_ | refine And.intro rfl ?_ | refine And.intro (fun _ => ?_) (fun h => Bool.noConfusion h) | refine And.intro (fun h => Bool.noConfusion h) (fun _ => ?_)); conv => whnf)
      refine ⟨_, _, hx2, ?_⟩
      (conv => whnf); repeat ((first | refine And.intro DrawOk.go ?_ | refine And.intro rfl ?_ | refine And.intro (fun _ => ?_) (fun h => Bool.noConfusion h) | refine And.intro (fun h => Bool.noConfusion h) (fun _ => ?_)); conv => whnf)
      refine loop_abs' (fun Q' hQ' => ?_)
      refine vc_loop [7, 8, 9, 10, 11, 12, 14] [] (X := Nat) (fun j gs => [(15, ATint j)]) (fun j _ => [(23, .var 1 (dcs L k4)), (8, .var 1 [.i (.sl (mR (D1 j)))]), (10, .var 1 [.i (.sl (mR (D2 j)))])]) (fun j => j ≤ 8) (fun j => 8 - j) _ (Ghost.refl _) 0 (Nat.zero_le _) ?_ ?_
      · (refine And.intro rfl (And.intro rfl ?_)); (repeat' (first | exact trivial | exact rfl | apply And.intro | (refine congrArg (Value.int .i64) (w64_nat ?_); omega)))
        all_goals first
          | exact congrArg (fun m => AV1.i (.sl (mR m))) z1.symm
          | exact congrArg (fun m => AV1.i (.sl (mR m))) z2.symm
          | exact congrArg (fun m => IV.sl (mR m)) z1.symm
          | exact congrArg (fun m => IV.sl (mR m)) z2.symm
          | exact congrArg mR z1.symm
          | exact congrArg mR z2.symm
          | trace_state
      intro gs3 j hj
      (conv => whnf); repeat ((first | refine And.intro DrawOk.go ?_ | refine And.intro rfl ?_ | refine And.intro (fun _ => ?_) (fun h => Bool.noConfusion h) | refine And.intro (fun h => Bool.noConfusion h) (fun _ => ?_)); conv => whnf)
      refine And.intro (fun h => ?_) (fun h => ?_)
      · have hj8 : j < 8 := by have := of_decide_eq_true h; omega
        obtain ⟨g1, c1⟩ := hd1 j
        obtain ⟨g2, c2⟩ := hd2 j
        (conv => whnf); repeat ((first | refine And.intro DrawOk.go ?_ | refine And.intro rfl ?_ | refine And.intro (fun _ => ?_) (fun h => Bool.noConfusion h) | refine And.intro (fun h => Bool.noConfusion h) (fun _ => ?_)); conv => whnf)
        refine ⟨_, _, c1, ?_⟩
        (conv => whnf); repeat ((first | refine And.intro DrawOk.go ?_ | refine And.intro rfl ?_ | refine And.intro (fun _ => ?_) (fun h => Bool.noConfusion h) | refine And.intro (fun h => Bool.noConfusion h) (fun _ => ?_)); conv => whnf)
        refine ⟨_, _, c2, ?_⟩
        (conv => whnf); repeat ((first | refine And.intro DrawOk.go ?_ | refine And.intro rfl ?_ | refine And.intro (fun _ => ?_) (fun h => Bool.noConfusion h) | refine And.intro (fun h => Bool.noConfusion h) (fun _ => ?_)); conv => whnf)
        refine again (j + 1) hj8 (Nat.sub_lt_sub_left hj8 (Nat.lt_succ_self j)) ?_
        (refine And.intro rfl (And.intro rfl ?_)); (repeat' (first | exact trivial | exact rfl | apply And.intro | (refine congrArg (Value.int .i64) (w64_nat ?_); omega)))
        all_goals exact congrArg (Value.int .i64) (w64_nat (by omega))
      · obtain rfl : j = 8 := by have := of_decide_eq_false h; omega
        (conv => whnf); repeat ((first | refine And.intro DrawOk.go ?_ | refine And.intro rfl ?_ | refine And.intro (fun _ => ?_) (fun h => Bool.noConfusion h) | refine And.intro (fun h => Bool.noConfusion h) (fun _ => ?_)); conv => whnf)
        rw [hQ']
        (conv => whnf); repeat ((first | refine And.intro DrawOk.go ?_ | refine And.intro rfl ?_ | refine And.intro (fun _ => ?_) (fun h => Bool.noConfusion h) | refine And.intro (fun h => Bool.noConfusion h) (fun _ => ?_)); conv => whnf)
        refine joined (k4, D1 8, D2 8) ⟨hk4, hdM.mono (Nat.le_succ i), hdN.mono (Nat.le_succ i), hdE⟩ ?_
        (refine And.intro rfl (And.intro rfl ?_)); (repeat' (first | exact trivial | exact rfl | apply And.intro | (refine congrArg (Value.int .i64) (w64_nat ?_); omega)))
    · (conv => whnf); repeat ((first | refine And.intro DrawOk.go ?_ | refine And.intro rfl ?_ | refine And.intro (fun _ => ?_) (fun h => Bool.noConfusion h) | refine And.intro (fun h => Bool.noConfusion h) (fun _ => ?_)); conv => whnf)
      refine And.intro (fun h6 => ?_) (fun h6 => ?_)
      · have hlo := v_lookF hM (by omega) b
        obtain ⟨M2, o1, c1, c2, c3⟩ := v_relF hM (by omega) b z o hR.2.1 hR.2.2.2.1 hR.2.2.2.2.2.1 _ rfl
        obtain ⟨N2, o2, d1, d2, d3⟩ := v_relF hN (by omega) b z o hR.2.1 hR.2.2.2.1 hR.2.2.2.2.2.1 (mlk M b) (hE b)
        have hE2 : mE M2 N2 := fun x => by rw [c3, d3, hE x]
        clear c3 d3
        generalize (mlk M b).isSome = oy at hlo
        generalize (mlk M b).getD e0 = y at hlo c1 d1
        obtain ⟨yb, yk, yv, ym, yz, yo⟩ := y
        (conv => whnf); repeat ((first | refine And.intro DrawOk.go ?_ | refine And.intro rfl ?_ | refine And.intro (fun _ => ?_) (fun h => Bool.noConfusion h) | refine And.intro (fun h => Bool.noConfusion h) (fun _ => ?_)); conv => whnf)
        refine ⟨_, _, hlo, ?_⟩
        (conv => whnf); repeat ((first | refine And.intro DrawOk.go ?_ | refine And.intro rfl ?_ | refine And.intro (fun _ => ?_) (fun h => Bool.noConfusion h) | refine And.intro (fun h => Bool.noConfusion h) (fun _ => ?_)); conv => whnf)
        refine ⟨_, _, c1, ?_⟩
        (conv => whnf); repeat ((first | refine And.intro DrawOk.go ?_ | refine And.intro rfl ?_ | refine And.intro (fun _ => ?_) (fun h => Bool.noConfusion h) | refine And.intro (fun h => Bool.noConfusion h) (fun _ => ?_)); conv => whnf)
        refine ⟨_, _, d1, ?_⟩
        (conv => whnf); repeat ((first | refine And.intro DrawOk.go ?_ | refine And.intro rfl ?_ | refine And.intro (fun _ => ?_) (fun h => Bool.noConfusion h) | refine And.intro (fun h => Bool.noConfusion h) (fun _ => ?_)); conv => whnf)
        refine joined (k3, M2, N2) ⟨hk3, c2.mono (Nat.le_succ i), d2.mono (Nat.le_succ i), hE2⟩ ?_
        (refine And.intro rfl (And.intro rfl ?_)); (repeat' (first | exact trivial | exact rfl | apply And.intro | (refine congrArg (Value.int .i64) (w64_nat ?_); omega)))
      · obtain ⟨M2, y1, o1, c1, c2, c3⟩ := v_instF hM (by omega) b kd v mv z o hR.1 (by have := hR.2.2.1; dsimp only at this; omega)
        obtain ⟨N2, y2, o2, d1, d2, d3⟩ := v_instF hN (by omega) b kd v mv z o hR.1 (by have := hR.2.2.1; dsimp only at this; omega)
        have hE2 : mE M2 N2 := fun x => by rw [c3, d3, hE x]
        clear c3 d3
        (conv => whnf); repeat ((first | refine And.intro DrawOk.go ?_ | refine And.intro rfl ?_ | refine And.intro (fun _ => ?_) (fun h => Bool.noConfusion h) | refine And.intro (fun h => Bool.noConfusion h) (fun _ => ?_)); conv => whnf)
        refine ⟨_, _, c1, ?_⟩
        (conv => whnf); repeat ((first | refine And.intro DrawOk.go ?_ | refine And.intro rfl ?_ | refine And.intro (fun _ => ?_) (fun h => Bool.noConfusion h) | refine And.intro (fun h => Bool.noConfusion h) (fun _ => ?_)); conv => whnf)
        refine ⟨_, _, d1, ?_⟩
        (conv => whnf); repeat ((first | refine And.intro DrawOk.go ?_ | refine And.intro rfl ?_ | refine And.intro (fun _ => ?_) (fun h => Bool.noConfusion h) | refine And.intro (fun h => Bool.noConfusion h) (fun _ => ?_)); conv => whnf)
        refine joined (k3, M2, N2) ⟨hk3, c2, d2, hE2⟩ ?_
        (refine And.intro rfl (And.intro rfl ?_)); (repeat' (first | exact trivial | exact rfl | apply And.intro | (refine congrArg (Value.int .i64) (w64_nat ?_); omega)))
  rintro gs2 ⟨k5, M2, N2⟩ ⟨hk5, hM2, hN2, hE2⟩
  dsimp only at hk5 hM2 hN2 hE2 ⊢
  obtain ⟨l, ha1, ha2, ha3⟩ := v_allF hM2 hN2 (by omega) hE2
  (conv => whnf); repeat ((first | refine And.intro DrawOk.go ?_ | refine And.intro rfl ?_ | refine And.intro (fun _ => ?_) (fun h => Bool.noConfusion h) | refine And.intro (fun h => Bool.noConfusion h) (fun _ => ?_)); conv => whnf)
  refine ⟨_, _, ha1, ?_⟩
  (conv => whnf); repeat ((first | refine And.intro DrawOk.go ?_ | refine And.intro rfl ?_ | refine And.intro (fun _ => ?_) (fun h => Bool.noConfusion h) | refine And.intro (fun h => Bool.noConfusion h) (fun _ => ?_)); conv => whnf)
  refine ⟨_, _, ha2, ?_⟩
  (conv => whnf); repeat ((first | refine And.intro DrawOk.go ?_ | refine And.intro rfl ?_ | refine And.intro (fun _ => ?_) (fun h => Bool.noConfusion h) | refine And.intro (fun h => Bool.noConfusion h) (fun _ => ?_)); conv => whnf)
  refine ⟨_, _, ha3, ?_⟩
  (conv => whnf); repeat ((first | refine And.intro DrawOk.go ?_ | refine And.intro rfl ?_ | refine And.intro (fun _ => ?_) (fun h => Bool.noConfusion h) | refine And.intro (fun h => Bool.noConfusion h) (fun _ => ?_)); conv => whnf)
  refine again (i + 1, k5, M2, N2) ⟨hlt, hk5, hM2, hN2, hE2⟩ (Nat.sub_lt_sub_left hlt (Nat.lt_succ_self i)) ?_
  (refine And.intro rfl (And.intro rfl ?_)); (repeat' (first | exact trivial | exact rfl | apply And.intro | (refine congrArg (Value.int .i64) (w64_nat ?_); omega)))
  all_goals exact congrArg (Value.int .i64) (w64_nat (by omega))
end Go.Proofs.Ytgjcljjgifnjdaa.Ab
namespace Go.Proofs.Ytgjcljjgifnjdaa
set_option linter.unusedVariables false
set_option linter.unusedSimpArgs false
open Ab
set_option maxRecDepth 100000 in
theorem l2pShards.walk {H : Type} {enc : TypeId × Value → H} {W : World} {base : Nat} (v : Value) (d : DataW H) (p : List MemPlace) (hv : Value.okWide Try.prog W .any base 22 v)
    (h : DataW.Trod enc Try.prog W 0 (fun _ => true) true 22 v d p) (hw : ∀ n ∈ d.weights Try.prog 22, n ≤ 140737488351232)
    (a2 : Int) (w2 : (Lit.int .u8 a2).wf = true) (a3 : Int) (w3 : (Lit.int .u8 a3).wf = true)
    (W' : World) (hW : W' = W := by rfl) : Calls Try.prog 11 #[v, .int .u8 a2, .int .u8 a3] W' (True1 W') := by
  subst hW
  obtain ⟨es, _, q1, q2⟩ := open_sl tabOk 3 (t := 22) (by decide +kernel) rfl hv h
  obtain ⟨xs, rfl⟩ := ints_of (d := 2) es (fun r hr => (q1 r hr).2)
  have b3 := slice_bound tabOk (e := 3) rfl h hw (q2 (fun _ _ => undef) (fun _ => 0))
  rw [bytesOf_eq tabOk (fun h => TK.noConfusion h)] at b3
  have b3' : (wV xs).length * 8 ≤ 140737488351232 := b3
  have u2 : (decide (0 ≤ a2) && decide (a2 ≤ 255)) = true := w2
  rw [Bool.and_eq_true, decide_eq_true_eq, decide_eq_true_eq] at u2
  have u3 : (decide (0 ≤ a3) && decide (a3 ≤ 255)) = true := w3
  rw [Bool.and_eq_true, decide_eq_true_eq, decide_eq_true_eq] at u3
  exact law_of_fun (l2pShardsF xs a2 a3 u2 u3 (by simp [wV] at b3'; omega)) rfl (reps_get (vs := [_, _, _]) ⟨q2 _ _, .sc _ rfl, .sc _ rfl, trivial⟩)
end Go.Proofs.Ytgjcljjgifnjdaa
