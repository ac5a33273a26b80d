/- Maps: new ones, which are light, the two sides agree. No condition. -/
import Derived.Test.YtgjcljjgifnjdaaWk
import Derived.Test.YtgjcljjgifnjdaaGd
namespace Go.Proofs.Ytgjcljjgifnjdaa.Ab
set_option linter.unusedVariables false
set_option linter.unusedSimpArgs false
open Go.RowKit

def mnew (n : Nat) : List (List Ety) := List.replicate n []
theorem mnew_row (n : Nat) : List.replicate n [IV.sl []] = mR (mnew n) := by unfold mR mnew; rw [List.map_replicate]; rfl
set_option maxRecDepth 100000 in
set_option maxHeartbeats 4000000 in
theorem mnewF (n : Nat) (h1 : 1 ≤ n) (h8 : n ≤ 8) : Fun Try.prog 30 [i64V n] [] (.tup [mpV (mnew n), i64V 0]) := by
  have hr := mnew_row n
  unfold mpV
  rw [← hr]
  have e1 : ¬ ((n : Int) < 1) := by omega
  have e2 : ¬ ((n : Int) > 8) := by omega
  have h0 : (0 : Int) ≤ n := by omega
  have hb : 24 * ((n : Int)).toNat ≤ 140737488355328 := by omega
  have hm : (n : Int) ≤ 9223372036854775807 := by omega
  refine fun_of_vc tabOk mixOk Try.func30 rfl (by rfl) (rs := [.cell 2 52, .tmp 3]) rfl rfl 18 ?_; rw [Try.ntmps30]
  (conv => whnf); repeat ((first | refine And.intro DrawOk.go ?_ | refine And.intro rfl ?_ | refine And.intro (fun _ => ?_) (fun h => Bool.noConfusion h) | refine And.intro (fun h => Bool.noConfusion h) (fun _ => ?_)); conv => whnf)
  repeat' (first | ((refine And.intro (fun h => ?_) (fun h => ?_)) <;> (try simp at h) <;> ((conv => whnf); repeat ((first | refine And.intro DrawOk.go ?_ | refine And.intro rfl ?_ | refine And.intro (fun _ => ?_) (fun h => Bool.noConfusion h) | refine And.intro (fun h => Bool.noConfusion h) (fun _ => ?_)); conv => whnf))) | fail)
  all_goals first
    | (exfalso; omega)
    | skip
  refine ⟨h0, rfl, hb, hm, ?_⟩
  (conv => whnf); repeat ((first | refine And.intro DrawOk.go ?_ | refine And.intro rfl ?_ | refine And.intro (fun _ => ?_) (fun h => Bool.noConfusion h) | refine And.intro (fun h => Bool.noConfusion h) (fun _ => ?_)); conv => whnf)
  refine Exists.intro [] (And.intro List.nodup_nil ?_); ((conv => whnf); repeat ((first | refine And.intro DrawOk.go ?_ | refine And.intro rfl ?_ | refine And.intro (fun _ => ?_) (fun h => Bool.noConfusion h) | refine And.intro (fun h => Bool.noConfusion h) (fun _ => ?_)); conv => whnf))
  rfl
set_option maxRecDepth 100000 in
set_option maxHeartbeats 4000000 in
theorem mnewNo (n : Int) (h : ¬ (1 ≤ n ∧ n ≤ 8)) : Fun Try.prog 30 [i64V n] [] (.tup [mpV [], i64V 1]) := by
  refine fun_of_vc tabOk mixOk Try.func30 rfl (by rfl) (rs := [.cell 2 52, .tmp 3]) rfl rfl 18 ?_; rw [Try.ntmps30]
  (conv => whnf); repeat ((first | refine And.intro DrawOk.go ?_ | refine And.intro rfl ?_ | refine And.intro (fun _ => ?_) (fun h => Bool.noConfusion h) | refine And.intro (fun h => Bool.noConfusion h) (fun _ => ?_)); conv => whnf)
  repeat' (first | ((refine And.intro (fun h => ?_) (fun h => ?_)) <;> (try simp at h) <;> ((conv => whnf); repeat ((first | refine And.intro DrawOk.go ?_ | refine And.intro rfl ?_ | refine And.intro (fun _ => ?_) (fun h => Bool.noConfusion h) | refine And.intro (fun h => Bool.noConfusion h) (fun _ => ?_)); conv => whnf))) | fail)
  all_goals first
    | (refine Exists.intro [] (And.intro List.nodup_nil ?_); ((conv => whnf); repeat ((first | refine And.intro DrawOk.go ?_ | refine And.intro rfl ?_ | refine And.intro (fun _ => ?_) (fun h => Bool.noConfusion h) | refine And.intro (fun h => Bool.noConfusion h) (fun _ => ?_)); conv => whnf))
       rfl)
    | (exfalso; omega)
set_option maxRecDepth 100000 in
set_option maxHeartbeats 4000000 in
theorem mnewF' (n : Nat) (h1 : 1 ≤ n) (h8 : n ≤ 8) : Fun Try.prog 37 [i64V n] [] (.tup [mpV (mnew n), i64V 0]) := by
  have hr := mnew_row n
  unfold mpV
  rw [← hr]
  have e1 : ¬ ((n : Int) < 1) := by omega
  have e2 : ¬ ((n : Int) > 8) := by omega
  have h0 : (0 : Int) ≤ n := by omega
  have hb : 24 * ((n : Int)).toNat ≤ 140737488355328 := by omega
  have hm : (n : Int) ≤ 9223372036854775807 := by omega
  refine fun_of_vc tabOk mixOk Try.func37 rfl (by rfl) (rs := [.cell 2 52, .tmp 3]) rfl rfl 18 ?_; rw [Try.ntmps37]
  (conv => whnf); repeat ((first | refine And.intro DrawOk.go ?_ | refine And.intro rfl ?_ | refine And.intro (fun _ => ?_) (fun h => Bool.noConfusion h) | refine And.intro (fun h => Bool.noConfusion h) (fun _ => ?_)); conv => whnf)
  repeat' (first | ((refine And.intro (fun h => ?_) (fun h => ?_)) <;> (try simp at h) <;> ((conv => whnf); repeat ((first | refine And.intro DrawOk.go ?_ | refine And.intro rfl ?_ | refine And.intro (fun _ => ?_) (fun h => Bool.noConfusion h) | refine And.intro (fun h => Bool.noConfusion h) (fun _ => ?_)); conv => whnf))) | fail)
  all_goals first
    | (exfalso; omega)
    | skip
  refine ⟨h0, rfl, hb, hm, ?_⟩
  (conv => whnf); repeat ((first | refine And.intro DrawOk.go ?_ | refine And.intro rfl ?_ | refine And.intro (fun _ => ?_) (fun h => Bool.noConfusion h) | refine And.intro (fun h => Bool.noConfusion h) (fun _ => ?_)); conv => whnf)
  refine Exists.intro [] (And.intro List.nodup_nil ?_); ((conv => whnf); repeat ((first | refine And.intro DrawOk.go ?_ | refine And.intro rfl ?_ | refine And.intro (fun _ => ?_) (fun h => Bool.noConfusion h) | refine And.intro (fun h => Bool.noConfusion h) (fun _ => ?_)); conv => whnf))
  rfl
set_option maxRecDepth 100000 in
set_option maxHeartbeats 4000000 in
theorem mnewNo' (n : Int) (h : ¬ (1 ≤ n ∧ n ≤ 8)) : Fun Try.prog 37 [i64V n] [] (.tup [mpV [], i64V 1]) := by
  refine fun_of_vc tabOk mixOk Try.func37 rfl (by rfl) (rs := [.cell 2 52, .tmp 3]) rfl rfl 18 ?_; rw [Try.ntmps37]
  (conv => whnf); repeat ((first | refine And.intro DrawOk.go ?_ | refine And.intro rfl ?_ | refine And.intro (fun _ => ?_) (fun h => Bool.noConfusion h) | refine And.intro (fun h => Bool.noConfusion h) (fun _ => ?_)); conv => whnf)
  repeat' (first | ((refine And.intro (fun h => ?_) (fun h => ?_)) <;> (try simp at h) <;> ((conv => whnf); repeat ((first | refine And.intro DrawOk.go ?_ | refine And.intro rfl ?_ | refine And.intro (fun _ => ?_) (fun h => Bool.noConfusion h) | refine And.intro (fun h => Bool.noConfusion h) (fun _ => ?_)); conv => whnf))) | fail)
  all_goals first
    | (refine Exists.intro [] (And.intro List.nodup_nil ?_); ((conv => whnf); repeat ((first | refine And.intro DrawOk.go ?_ | refine And.intro rfl ?_ | refine And.intro (fun _ => ?_) (fun h => Bool.noConfusion h) | refine And.intro (fun h => Bool.noConfusion h) (fun _ => ?_)); conv => whnf))
       rfl)
    | (exfalso; omega)
/-- The number of shards and entries, as the machine adds them. -/
def mlw : List (List Ety) → Int → Int
  | [], n => n
  | l :: M, n => mlw M (iwrap .i64 (n + l.length))
theorem mlw_at {M : List (List Ety)} {i : Nat} (h : i < M.length) (n : Int) : mlw (M.drop i) n = mlw (M.drop (i + 1)) (iwrap .i64 (n + M[i].length)) := by
  rw [List.drop_eq_getElem_cons h]; rfl
theorem mlw_eq : ∀ (M : List (List Ety)) (n : Nat), n + tot M ≤ 9223372036854775807 → mlw M n = ((n + tot M : Nat) : Int)
  | [], n, _ => rfl
  | l :: M, n, h => by
    rw [tot] at h ⊢
    have hw : iwrap .i64 ((n : Int) + l.length) = ((n + l.length : Nat) : Int) := (w64_in (by omega)).trans (by omega)
    rw [mlw, hw, mlw_eq M _ (by omega)]
    exact congrArg (fun k : Nat => (k : Int)) (by omega)
theorem mlw_light {M : List (List Ety)} (h1 : M.length ≤ 8) (h2 : ∀ l ∈ M, l.length ≤ 2932031007402) (h : mlw M M.length ≤ 200) : ∀ l ∈ M, l.length ≤ 1000 := by
  have ht := tot_mul M _ h2
  have ht2 : M.length * 2932031007402 ≤ 8 * 2932031007402 := Nat.mul_le_mul_right _ h1
  rw [mlw_eq M _ (by omega)] at h
  intro l hl
  have : l.length ≤ tot M := by
    rw [tot_flat]
    obtain ⟨a, b, rfl⟩ := List.append_of_mem hl
    simp
    omega
  omega
theorem eRl (l : List Ety) : ((eR l).length : Int) = (l.length : Int) := by simp [eR]
set_option maxRecDepth 100000 in
set_option maxHeartbeats 4000000 in
theorem mlightF (M : List (List Ety)) (hM1 : M.length ≤ 5864062014805) : Fun Try.prog 34 [mpV M] [] (ATbool (decide (mlw M M.length ≤ 200))) := by
  have ml := mLen M
  have h0 : mlw M M.length = mlw (M.drop 0) (M.length : Int) := by rw [List.drop_zero]
  have hat := fun (i : Nat) (h : i < M.length) (n : Int) => mlw_at h n
  have hend : ∀ n, mlw (M.drop M.length) n = n := fun n => by rw [List.drop_length]; rfl
  generalize mlw M M.length = R at h0 ⊢
  generalize mlw = F at h0 hat hend
  refine fun_of_vc tabOk mixOk Try.func34 rfl (by rfl) (rs := [.tmp 2]) rfl rfl 29 ?_; rw [Try.ntmps34]
  (conv => whnf); repeat ((first | refine And.intro DrawOk.go ?_ | refine And.intro rfl ?_ | refine And.intro (fun _ => ?_) (fun h => Bool.noConfusion h) | refine And.intro (fun h => Bool.noConfusion h) (fun _ => ?_)); conv => whnf)
  refine vc_loop [1] [1] (X := Nat × Int) (fun x gs => [(4, ATint x.1), (3, ATint x.2)]) (fun _ _ => []) (fun x => x.1 ≤ M.length ∧ R = F (M.drop x.1) x.2) (fun x => M.length - x.1) _ (Ghost.refl _) (0, (M.length : Int)) ⟨Nat.zero_le _, h0⟩ ?_ ?_
  · (refine And.intro rfl (And.intro rfl ?_)); (repeat' (first | exact trivial | exact rfl | apply And.intro | (refine congrArg (Value.int .i64) (w64_nat ?_); omega)))
    all_goals exact congrArg (fun n : Nat => Value.int .i64 (n : Int)) ml
  rintro gs ⟨i, n⟩ ⟨hi, hn⟩
  dsimp only at hi hn ⊢
  (conv => whnf); repeat ((first | refine And.intro DrawOk.go ?_ | refine And.intro rfl ?_ | refine And.intro (fun _ => ?_) (fun h => Bool.noConfusion h) | refine And.intro (fun h => Bool.noConfusion h) (fun _ => ?_)); conv => whnf)
  refine And.intro (fun h => ?_) (fun h => ?_)
  · have hlt := wa_lt h
    have hit := mItem hlt
    have hib := wa_i hlt hM1
    rw [hat i hlt] at hn
    have he := eRl M[i]
    generalize M[i] = l at hit hn he
    (conv => whnf); repeat ((first | refine And.intro DrawOk.go ?_ | refine And.intro rfl ?_ | refine And.intro (fun _ => ?_) (fun h => Bool.noConfusion h) | refine And.intro (fun h => Bool.noConfusion h) (fun _ => ?_)); conv => whnf)
    refine ⟨Int.natCast_nonneg _, _, hit, rfl, ?_⟩
    (conv => whnf); repeat ((first | refine And.intro DrawOk.go ?_ | refine And.intro rfl ?_ | refine And.intro (fun _ => ?_) (fun h => Bool.noConfusion h) | refine And.intro (fun h => Bool.noConfusion h) (fun _ => ?_)); conv => whnf)
    rw [he]
    refine again (i + 1, iwrap .i64 (n + l.length)) ⟨hlt, hn⟩ (Nat.sub_lt_sub_left hlt (Nat.lt_succ_self i)) ?_
    (refine And.intro rfl (And.intro rfl ?_)); (repeat' (first | exact trivial | exact rfl | apply And.intro | (refine congrArg (Value.int .i64) (w64_nat ?_); omega)))
    all_goals exact congrArg (Value.int .i64) (w64_nat hib)
  · obtain rfl := wa_ge h hi
    rw [hend] at hn
    subst hn
    (conv => whnf); repeat ((first | refine And.intro DrawOk.go ?_ | refine And.intro rfl ?_ | refine And.intro (fun _ => ?_) (fun h => Bool.noConfusion h) | refine And.intro (fun h => Bool.noConfusion h) (fun _ => ?_)); conv => whnf)
    refine Exists.intro [] (And.intro List.nodup_nil ?_); ((conv => whnf); repeat ((first | refine And.intro DrawOk.go ?_ | refine And.intro rfl ?_ | refine And.intro (fun _ => ?_) (fun h => Bool.noConfusion h) | refine And.intro (fun h => Bool.noConfusion h) (fun _ => ?_)); conv => whnf))
    rfl
def aw0 : List (List Ety) := [[], [], []]
def aw1 : List (List Ety) := [[], [⟨7, 1, 1, 0, 0, 0⟩], []]
theorem ok_aw {M : List (List Ety)} (h1 : M.length ≤ 8) (h2 : ∀ l ∈ M, l.length ≤ 1000) : mOk M := ⟨Nat.le_trans h1 (by decide), fun l hl => Nat.le_trans (h2 l hl) (by decide), fun _ => h2⟩
theorem ok_0 : mOk aw0 := ok_aw (by decide) (by decide)
theorem ok_1 : mOk aw1 := ok_aw (by decide) (by decide)
theorem mB_1 : mB aw1 := by unfold mB; decide
theorem aw_i : minst aw0 ⟨7, 1, 1, 0, 0, 0⟩ = (aw1, e0, true) := by rfl
theorem aw_l : (mlook aw1 7).2 = true := by decide +kernel
theorem aw_s : mstr aw1 7 = 1 := by decide +kernel
theorem aw_a : mall aw1 = [⟨7, 1, 1, 0, 0, 0⟩] := by rfl
theorem awF1 : Fun Try.prog 32 [mpV aw0, eA 7 1 1 0 0 0] [] (.tup [mpV aw1, eV e0, bV true]) := by
  have := minstF aw0 7 1 1 0 0 0 ok_0
  rw [aw_i] at this
  exact this
theorem awF2 : ∃ e, Fun Try.prog 33 [mpV aw1, i64V 7] [] (.tup [eV e, bV true]) := by
  have := mlookF aw1 7 ok_1
  rw [aw_l] at this
  exact ⟨_, this⟩
theorem awF3 : Fun Try.prog 54 [mpV aw1, i64V 7] [] (.v (i64V 1)) := by
  have := mstrF aw1 7 ok_1
  rw [aw_s] at this
  exact this
theorem awF4 : Fun Try.prog 43 [mpV aw1] [] (.v (slV (eR [⟨7, 1, 1, 0, 0, 0⟩]))) := by
  have := mallF aw1 ok_1 mB_1
  rw [aw_a] at this
  exact this
theorem aw_it : (mR aw1)[((1 : Int)).toNat]? = some [IV.sl (eR [⟨7, 1, 1, 0, 0, 0⟩])] := rfl
set_option maxRecDepth 100000 in
set_option maxHeartbeats 4000000 in
theorem mawakeF : Fun Try.prog 29 [] [] (ATbool true) := by
  have h0 : Fun Try.prog 30 [i64V 3] [] (.tup [mpV aw0, i64V 0]) := mnewF 3 (by decide) (by decide)
  have h1 := awF1
  obtain ⟨e, h2⟩ := awF2
  have h3 := awF3
  have h4 := awF4
  have hit := aw_it
  have hl : ((mR aw1).length : Int) = 3 := rfl
  unfold mpV at h0 h1 h2 h3 h4
  generalize mR aw0 = M0 at h0 h1
  generalize mR aw1 = R at hit hl h1 h2 h3 h4
  refine fun_of_vc tabOk mixOk Try.func29 rfl (by rfl) (rs := [.tmp 0]) rfl rfl 60 ?_; rw [Try.ntmps29]
  (conv => whnf); repeat ((first | refine And.intro DrawOk.go ?_ | refine And.intro rfl ?_ | refine And.intro (fun _ => ?_) (fun h => Bool.noConfusion h) | refine And.intro (fun h => Bool.noConfusion h) (fun _ => ?_)); conv => whnf)
  refine ⟨_, _, h0, ?_⟩
  (conv => whnf); repeat ((first | refine And.intro DrawOk.go ?_ | refine And.intro rfl ?_ | refine And.intro (fun _ => ?_) (fun h => Bool.noConfusion h) | refine And.intro (fun h => Bool.noConfusion h) (fun _ => ?_)); conv => whnf)
  refine ⟨_, _, h1, ?_⟩
  (conv => whnf); repeat ((first | refine And.intro DrawOk.go ?_ | refine And.intro rfl ?_ | refine And.intro (fun _ => ?_) (fun h => Bool.noConfusion h) | refine And.intro (fun h => Bool.noConfusion h) (fun _ => ?_)); conv => whnf)
  refine ⟨_, _, h2, ?_⟩
  (conv => whnf); repeat ((first | refine And.intro DrawOk.go ?_ | refine And.intro rfl ?_ | refine And.intro (fun _ => ?_) (fun h => Bool.noConfusion h) | refine And.intro (fun h => Bool.noConfusion h) (fun _ => ?_)); conv => whnf)
  refine ⟨_, _, h3, ?_⟩
  (conv => whnf); repeat ((first | refine And.intro DrawOk.go ?_ | refine And.intro rfl ?_ | refine And.intro (fun _ => ?_) (fun h => Bool.noConfusion h) | refine And.intro (fun h => Bool.noConfusion h) (fun _ => ?_)); conv => whnf)
  rw [hl]
  refine And.intro (fun _ => ?_) (fun h => absurd h (by decide))
  (conv => whnf); repeat ((first | refine And.intro DrawOk.go ?_ | refine And.intro rfl ?_ | refine And.intro (fun _ => ?_) (fun h => Bool.noConfusion h) | refine And.intro (fun h => Bool.noConfusion h) (fun _ => ?_)); conv => whnf)
  refine ⟨by decide, _, hit, rfl, ?_⟩
  (conv => whnf); repeat ((first | refine And.intro DrawOk.go ?_ | refine And.intro rfl ?_ | refine And.intro (fun _ => ?_) (fun h => Bool.noConfusion h) | refine And.intro (fun h => Bool.noConfusion h) (fun _ => ?_)); conv => whnf)
  try (refine And.intro (fun _ => ?_) (fun h => absurd h (by decide)))
  (conv => whnf); repeat ((first | refine And.intro DrawOk.go ?_ | refine And.intro rfl ?_ | refine And.intro (fun _ => ?_) (fun h => Bool.noConfusion h) | refine And.intro (fun h => Bool.noConfusion h) (fun _ => ?_)); conv => whnf)
  refine ⟨_, _, h4, ?_⟩
  (conv => whnf); repeat ((first | refine And.intro DrawOk.go ?_ | refine And.intro rfl ?_ | refine And.intro (fun _ => ?_) (fun h => Bool.noConfusion h) | refine And.intro (fun h => Bool.noConfusion h) (fun _ => ?_)); conv => whnf)
  refine Exists.intro [] (And.intro List.nodup_nil ?_); ((conv => whnf); repeat ((first | refine And.intro DrawOk.go ?_ | refine And.intro rfl ?_ | refine And.intro (fun _ => ?_) (fun h => Bool.noConfusion h) | refine And.intro (fun h => Bool.noConfusion h) (fun _ => ?_)); conv => whnf))
  rfl
theorem mall_len {M : List (List Ety)} (hM : mOk M) : (mall M).length ≤ 3000000000000 := by
  unfold mall
  split
  · rename_i h
    have := tot_8 hM h
    rw [fold_len, List.length_nil, ← tot_flat]
    omega
  · exact Nat.zero_le _
theorem set_len {M : List (List Ety)} (hM : mOk M) {k : Nat} {X : List Ety} (h : X.length ≤ 3000000000000) : ∀ l ∈ M.set k X, l.length ≤ 3000000000000 := by
  intro l hl
  rcases List.mem_or_eq_of_mem_set hl with h1 | rfl
  · exact Nat.le_trans (hM.2.1 l h1) (by decide)
  · exact h
theorem shd_len {M : List (List Ety)} (hM : mOk M) (b : Int) : (shd M b).length ≤ 2932031007402 := by
  unfold shd
  split
  · rename_i l h
    exact hM.2.1 l (List.mem_of_getElem? h)
  · exact Nat.zero_le _
theorem minst_ok {M : List (List Ety)} (hM : mOk M) (e : Ety) : (minst M e).1.length ≤ 5864062014805 ∧ ∀ l ∈ (minst M e).1, l.length ≤ 3000000000000 := by
  unfold minst
  split
  · refine ⟨by rw [List.length_set]; exact hM.1, set_len hM ?_⟩
    have h1 := shd_len hM e.b
    have h2 := sinst_len (shd M e.b) e
    omega
  · exact ⟨hM.1, fun l hl => Nat.le_trans (hM.2.1 l hl) (by decide)⟩
theorem mrel_ok {M : List (List Ety)} (hM : mOk M) (b v fz fo tz to m : Int) : (mrel M b v fz fo tz to m).1.length ≤ 5864062014805 ∧ ∀ l ∈ (mrel M b v fz fo tz to m).1, l.length ≤ 3000000000000 := by
  unfold mrel
  split
  · refine ⟨by rw [List.length_set]; exact hM.1, set_len hM ?_⟩
    have h1 := shd_len hM b
    have h2 := srel_len (shd M b) b v fz fo tz to m
    omega
  · exact ⟨hM.1, fun l hl => Nat.le_trans (hM.2.1 l hl) (by decide)⟩
theorem mdrop_ok {M : List (List Ety)} (hM : mOk M) (i c : Int) : ((mdrop M i c).1.length ≤ 5864062014805 ∧ ∀ l ∈ (mdrop M i c).1, l.length ≤ 3000000000000) ∧ (mdrop M i c).2.length ≤ 3000000000000 := by
  unfold mdrop
  split
  · rename_i l hl
    have h1 := hM.2.1 l (List.mem_of_getElem? hl)
    have h2 := sdrop_len l c
    split
    · refine ⟨⟨by rw [List.length_set]; exact hM.1, set_len hM ?_⟩, ?_⟩
      · omega
      · show (sdrop l c).2.length ≤ _
        omega
    · exact ⟨⟨hM.1, fun l hl => Nat.le_trans (hM.2.1 l hl) (by decide)⟩, Nat.zero_le _⟩
  · exact ⟨⟨hM.1, fun l hl => Nat.le_trans (hM.2.1 l hl) (by decide)⟩, Nat.zero_le _⟩
set_option maxRecDepth 100000 in
set_option maxHeartbeats 16000000 in
theorem magreeF (M : List (List Ety)) (hM : mOk M) (hb : mB M) (eb ek ev em ez eo : Int) (b v c fz fo tz to : Int) : Fun Try.prog 35 [mpV M, eA eb ek ev em ez eo, i64V b, i64V v, i64V c, plV fz fo, plV tz to] [] (ATbool true) := by
  have a1 := mlookF M b hM
  have a2 := mlookF' M b hM
  have a3 := mvalF M hM
  have a4 := rightF' M hM
  have a5 := mstrF M b hM
  have a6 := stripeF' M b
  have a7 := mallF M hM hb
  have a8 := mallF' M hM
  have a9 := ssameG (mall M) (mall_len hM)
  have b1 := minstF M eb ek ev em ez eo hM
  have b2 := minstF' M eb ek ev em ez eo hM
  have b3 := msameF _ (minst_ok hM ⟨eb, ek, ev, em, ez, eo⟩).1 (minst_ok hM _).2
  have b4 := mrelF M b v fz fo tz to em hM
  have b5 := mrelF' M b v fz fo tz to em hM
  have b6 := msameF _ (mrel_ok hM b v fz fo tz to em).1 (mrel_ok hM b v fz fo tz to em).2
  have b7 := mdropF M b c hM
  have b8 := mdropF' M b c hM
  have b9 := msameF _ (mdrop_ok hM b c).1.1 (mdrop_ok hM b c).1.2
  have c1 := ssameG _ (mdrop_ok hM b c).2
  unfold mpV at *
  generalize mlook M b = q1 at a1 a2
  generalize mvalid M = q2 at a3 a4
  generalize mstr M b = q3 at a5 a6
  generalize mall M = q4 at a7 a8 a9
  generalize minst M ⟨eb, ek, ev, em, ez, eo⟩ = q5 at b1 b2 b3
  generalize mrel M b v fz fo tz to em = q6 at b4 b5 b6
  generalize mdrop M b c = q7 at b7 b8 b9 c1
  obtain ⟨e1, o1⟩ := q1
  obtain ⟨M5, e5, o5⟩ := q5
  obtain ⟨M6, o6⟩ := q6
  obtain ⟨M7, g7⟩ := q7
  dsimp only at *
  generalize mR M = R at *
  generalize mR M5 = R5 at *
  generalize mR M6 = R6 at *
  generalize mR M7 = R7 at *
  generalize eR q4 = R4 at *
  generalize eR g7 = G7 at *
  clear hM hb
  refine fun_of_vc tabOk mixOk Try.func35 rfl (by rfl) (rs := [.tmp 14]) rfl rfl 154 ?_; rw [Try.ntmps35]
  (conv => whnf); repeat ((first | refine And.intro DrawOk.go ?_ | refine And.intro rfl ?_ | refine And.intro (fun _ => ?_) (fun h => Bool.noConfusion h) | refine And.intro (fun h => Bool.noConfusion h) (fun _ => ?_)); conv => whnf)
  refine ⟨_, _, a1, ?_⟩
  (conv => whnf); repeat ((first | refine And.intro DrawOk.go ?_ | refine And.intro rfl ?_ | refine And.intro (fun _ => ?_) (fun h => Bool.noConfusion h) | refine And.intro (fun h => Bool.noConfusion h) (fun _ => ?_)); conv => whnf)
  refine ⟨_, _, a2, ?_⟩
  (conv => whnf); repeat ((first | refine And.intro DrawOk.go ?_ | refine And.intro rfl ?_ | refine And.intro (fun _ => ?_) (fun h => Bool.noConfusion h) | refine And.intro (fun h => Bool.noConfusion h) (fun _ => ?_)); conv => whnf)
  refine And.intro (fun h => by simp at h) (fun _ => ?_)
  (conv => whnf); repeat ((first | refine And.intro DrawOk.go ?_ | refine And.intro rfl ?_ | refine And.intro (fun _ => ?_) (fun h => Bool.noConfusion h) | refine And.intro (fun h => Bool.noConfusion h) (fun _ => ?_)); conv => whnf)
  refine And.intro (fun h => by simp at h) (fun _ => ?_)
  (conv => whnf); repeat ((first | refine And.intro DrawOk.go ?_ | refine And.intro rfl ?_ | refine And.intro (fun _ => ?_) (fun h => Bool.noConfusion h) | refine And.intro (fun h => Bool.noConfusion h) (fun _ => ?_)); conv => whnf)
  refine ⟨_, _, a3, ?_⟩
  (conv => whnf); repeat ((first | refine And.intro DrawOk.go ?_ | refine And.intro rfl ?_ | refine And.intro (fun _ => ?_) (fun h => Bool.noConfusion h) | refine And.intro (fun h => Bool.noConfusion h) (fun _ => ?_)); conv => whnf)
  refine ⟨_, _, a4, ?_⟩
  (conv => whnf); repeat ((first | refine And.intro DrawOk.go ?_ | refine And.intro rfl ?_ | refine And.intro (fun _ => ?_) (fun h => Bool.noConfusion h) | refine And.intro (fun h => Bool.noConfusion h) (fun _ => ?_)); conv => whnf)
  refine And.intro (fun h => by simp at h) (fun _ => ?_)
  (conv => whnf); repeat ((first | refine And.intro DrawOk.go ?_ | refine And.intro rfl ?_ | refine And.intro (fun _ => ?_) (fun h => Bool.noConfusion h) | refine And.intro (fun h => Bool.noConfusion h) (fun _ => ?_)); conv => whnf)
  refine ⟨_, _, a5, ?_⟩
  (conv => whnf); repeat ((first | refine And.intro DrawOk.go ?_ | refine And.intro rfl ?_ | refine And.intro (fun _ => ?_) (fun h => Bool.noConfusion h) | refine And.intro (fun h => Bool.noConfusion h) (fun _ => ?_)); conv => whnf)
  refine ⟨_, _, a6, ?_⟩
  (conv => whnf); repeat ((first | refine And.intro DrawOk.go ?_ | refine And.intro rfl ?_ | refine And.intro (fun _ => ?_) (fun h => Bool.noConfusion h) | refine And.intro (fun h => Bool.noConfusion h) (fun _ => ?_)); conv => whnf)
  refine And.intro (fun h => by simp at h) (fun _ => ?_)
  (conv => whnf); repeat ((first | refine And.intro DrawOk.go ?_ | refine And.intro rfl ?_ | refine And.intro (fun _ => ?_) (fun h => Bool.noConfusion h) | refine And.intro (fun h => Bool.noConfusion h) (fun _ => ?_)); conv => whnf)
  refine ⟨_, _, a7, ?_⟩
  (conv => whnf); repeat ((first | refine And.intro DrawOk.go ?_ | refine And.intro rfl ?_ | refine And.intro (fun _ => ?_) (fun h => Bool.noConfusion h) | refine And.intro (fun h => Bool.noConfusion h) (fun _ => ?_)); conv => whnf)
  refine ⟨_, _, a8, ?_⟩
  (conv => whnf); repeat ((first | refine And.intro DrawOk.go ?_ | refine And.intro rfl ?_ | refine And.intro (fun _ => ?_) (fun h => Bool.noConfusion h) | refine And.intro (fun h => Bool.noConfusion h) (fun _ => ?_)); conv => whnf)
  refine ⟨_, _, a9, ?_⟩
  (conv => whnf); repeat ((first | refine And.intro DrawOk.go ?_ | refine And.intro rfl ?_ | refine And.intro (fun _ => ?_) (fun h => Bool.noConfusion h) | refine And.intro (fun h => Bool.noConfusion h) (fun _ => ?_)); conv => whnf)
  refine ⟨_, _, b1, ?_⟩
  (conv => whnf); repeat ((first | refine And.intro DrawOk.go ?_ | refine And.intro rfl ?_ | refine And.intro (fun _ => ?_) (fun h => Bool.noConfusion h) | refine And.intro (fun h => Bool.noConfusion h) (fun _ => ?_)); conv => whnf)
  refine ⟨_, _, b2, ?_⟩
  (conv => whnf); repeat ((first | refine And.intro DrawOk.go ?_ | refine And.intro rfl ?_ | refine And.intro (fun _ => ?_) (fun h => Bool.noConfusion h) | refine And.intro (fun h => Bool.noConfusion h) (fun _ => ?_)); conv => whnf)
  refine ⟨_, _, b3, ?_⟩
  (conv => whnf); repeat ((first | refine And.intro DrawOk.go ?_ | refine And.intro rfl ?_ | refine And.intro (fun _ => ?_) (fun h => Bool.noConfusion h) | refine And.intro (fun h => Bool.noConfusion h) (fun _ => ?_)); conv => whnf)
  refine And.intro (fun h => by simp at h) (fun _ => ?_)
  (conv => whnf); repeat ((first | refine And.intro DrawOk.go ?_ | refine And.intro rfl ?_ | refine And.intro (fun _ => ?_) (fun h => Bool.noConfusion h) | refine And.intro (fun h => Bool.noConfusion h) (fun _ => ?_)); conv => whnf)
  refine And.intro (fun h => by simp at h) (fun _ => ?_)
  (conv => whnf); repeat ((first | refine And.intro DrawOk.go ?_ | refine And.intro rfl ?_ | refine And.intro (fun _ => ?_) (fun h => Bool.noConfusion h) | refine And.intro (fun h => Bool.noConfusion h) (fun _ => ?_)); conv => whnf)
  refine ⟨_, _, b4, ?_⟩
  (conv => whnf); repeat ((first | refine And.intro DrawOk.go ?_ | refine And.intro rfl ?_ | refine And.intro (fun _ => ?_) (fun h => Bool.noConfusion h) | refine And.intro (fun h => Bool.noConfusion h) (fun _ => ?_)); conv => whnf)
  refine ⟨_, _, b5, ?_⟩
  (conv => whnf); repeat ((first | refine And.intro DrawOk.go ?_ | refine And.intro rfl ?_ | refine And.intro (fun _ => ?_) (fun h => Bool.noConfusion h) | refine And.intro (fun h => Bool.noConfusion h) (fun _ => ?_)); conv => whnf)
  refine ⟨_, _, b6, ?_⟩
  (conv => whnf); repeat ((first | refine And.intro DrawOk.go ?_ | refine And.intro rfl ?_ | refine And.intro (fun _ => ?_) (fun h => Bool.noConfusion h) | refine And.intro (fun h => Bool.noConfusion h) (fun _ => ?_)); conv => whnf)
  refine And.intro (fun h => by simp at h) (fun _ => ?_)
  (conv => whnf); repeat ((first | refine And.intro DrawOk.go ?_ | refine And.intro rfl ?_ | refine And.intro (fun _ => ?_) (fun h => Bool.noConfusion h) | refine And.intro (fun h => Bool.noConfusion h) (fun _ => ?_)); conv => whnf)
  refine ⟨_, _, b7, ?_⟩
  (conv => whnf); repeat ((first | refine And.intro DrawOk.go ?_ | refine And.intro rfl ?_ | refine And.intro (fun _ => ?_) (fun h => Bool.noConfusion h) | refine And.intro (fun h => Bool.noConfusion h) (fun _ => ?_)); conv => whnf)
  refine ⟨_, _, b8, ?_⟩
  (conv => whnf); repeat ((first | refine And.intro DrawOk.go ?_ | refine And.intro rfl ?_ | refine And.intro (fun _ => ?_) (fun h => Bool.noConfusion h) | refine And.intro (fun h => Bool.noConfusion h) (fun _ => ?_)); conv => whnf)
  refine ⟨_, _, b9, ?_⟩
  (conv => whnf); repeat ((first | refine And.intro DrawOk.go ?_ | refine And.intro rfl ?_ | refine And.intro (fun _ => ?_) (fun h => Bool.noConfusion h) | refine And.intro (fun h => Bool.noConfusion h) (fun _ => ?_)); conv => whnf)
  refine ⟨_, _, c1, ?_⟩
  (conv => whnf); repeat ((first | refine And.intro DrawOk.go ?_ | refine And.intro rfl ?_ | refine And.intro (fun _ => ?_) (fun h => Bool.noConfusion h) | refine And.intro (fun h => Bool.noConfusion h) (fun _ => ?_)); conv => whnf)
  refine Exists.intro [] (And.intro List.nodup_nil ?_); ((conv => whnf); repeat ((first | refine And.intro DrawOk.go ?_ | refine And.intro rfl ?_ | refine And.intro (fun _ => ?_) (fun h => Bool.noConfusion h) | refine And.intro (fun h => Bool.noConfusion h) (fun _ => ?_)); conv => whnf))
  rfl
end Go.Proofs.Ytgjcljjgifnjdaa.Ab
