/- The line of a crash. No condition. -/
import Derived.Test.YtikchieadclbhaaGreatDoorZ27
namespace Go.Proofs.YtikchieadclbhaaGreatDoor.Ab
set_option linter.unusedVariables false
set_option linter.unusedSimpArgs false
open Go.RowKit

theorem join_W (c : UInt8) : ∀ ws : List (List UInt8), Lib.join ws [c] = joinW c ws
  | [] => rfl
  | [w] => by simp [Lib.join, joinW]
  | w :: v :: ws => by
    have ih := join_W c (v :: ws)
    rw [joinW, ← ih]
    simp [Lib.join]
theorem jn_W (c : UInt8) (xs : List ByteArray) : jn xs ⟨#[c]⟩ = ⟨(joinW c (xs.map (·.data.toList))).toArray⟩ := by
  unfold jn
  rw [show (⟨#[c]⟩ : ByteArray).data.toList = [c] from rfl, join_W]
theorem joinW_len {M : Nat} (c : UInt8) : ∀ {ws : List (List UInt8)}, (∀ w ∈ ws, w.length ≤ M) → (joinW c ws).length ≤ ws.length * (M + 1)
  | [], _ => by simp [joinW]
  | [w], h => by have := h w List.mem_cons_self; simp [joinW]; omega
  | w :: v :: ws, h => by
    have h1 := h w List.mem_cons_self
    have ih := joinW_len c (ws := v :: ws) (fun x hx => h x (List.mem_cons_of_mem _ hx))
    rw [joinW, List.length_append, List.length_cons, show (w :: v :: ws).length = (v :: ws).length + 1 from rfl, Nat.add_mul]
    omega
theorem joinF (c : UInt8) (xs : List ByteArray) (M : Nat) (hM : M ≤ 1000000) (hN : xs.length ≤ 1000) (hl : ∀ x ∈ xs, x.size ≤ M) : Fun Tryz.prog 38 [slV (sV xs), strV ⟨#[c]⟩] [] (.v (strV ⟨(joinW c (xs.map (·.data.toList))).toArray⟩)) := by
  rw [← jn_W]
  refine sjoinG xs _ (by omega) ?_
  rw [jn_W]
  have := joinW_len (M := M) c (ws := xs.map (·.data.toList)) (fun w hw => by
    obtain ⟨x, hx, rfl⟩ := List.mem_map.1 hw
    exact hl x hx)
  rw [List.length_map] at this
  show (joinW c (xs.map (·.data.toList))).length ≤ _
  have h2 : xs.length * (M + 1) ≤ 1000 * 1000001 := Nat.mul_le_mul hN (by omega)
  omega
theorem itoa_len {n : Int} (h : -1099511627776 ≤ n ∧ n ≤ 1099511627776) : (Lib.itoa n).length ≤ 14 := by
  unfold Lib.itoa
  split
  · have hd := dec_len 12 (-n).toNat (by omega)
    have e : n.natAbs = (-n).toNat := by omega
    rw [List.length_cons]
    first
      | omega
      | (rw [e]; omega)
  · have hd := dec_len 12 n.toNat (by omega)
    omega
/-- A number of a line. -/
def decS (n : Int) : ByteArray := ⟨(Lib.itoa (if fit n = true then n else 0)).toArray⟩
theorem decS_size (n : Int) : (decS n).size ≤ 14 := by
  show (Lib.itoa (if fit n = true then n else 0)).length ≤ 14
  split
  · rename_i h; exact itoa_len (fit_iff.1 h)
  · exact itoa_len (by decide)
theorem decS_fit {n : Int} (h : fit n = true) : (decS n).data.toList = Lib.itoa n := by
  show Lib.itoa (if fit n = true then n else 0) = _
  rw [if_pos h]
theorem decF (n : Int) : Fun Tryz.prog 57 [i64V n] [] (.v (strV (decS n))) := decimalF n
def hexS (s : ByteArray) : ByteArray := ⟨(hexL s.data.toList).toArray⟩
theorem hexS_size (s : ByteArray) : (hexS s).size = 2 * s.size := hex_len s.data.toList
theorem hexF' (s : ByteArray) (hs : s.size ≤ 35184372088832) : Fun Tryz.prog 58 [strV s] [] (.v (strV (hexS s))) := hexF s hs
theorem knd_size (k : Int) : (knd k).size ≤ 5 := by
  unfold knd
  split
  · decide
  · split
    · decide
    · split
      · decide
      · split <;> decide
theorem sApp (a b : List ByteArray) : sV a ++ sV b = sV (a ++ b) := by simp [sV]
theorem d_lt {a b : Nat} (h : decide ((a : Int) < (b : Int)) = true) : a < b := by have := of_decide_eq_true h; omega
theorem d_ge {a b : Nat} (h : decide ((a : Int) < (b : Int)) = false) (hle : a ≤ b) : a = b := by have := of_decide_eq_false h; omega
theorem cv1_refl {H : Nat → Blk} {D : Nat → Bool} (x : AV1) : cv1 H D x x := by
  cases x with
  | i v => cases v <;> rfl
  | un => trivial
  | _ => rfl
theorem cvL_refl {H : Nat → Blk} {D : Nat → Bool} (l : List AV1) : cvL H D l l := by
  induction l with
  | nil => trivial
  | cons x l ih => exact ⟨cv1_refl x, ih⟩
theorem cvB_refl {H : Nat → Blk} {D : Nat → Bool} (x : Blk) : cvB H D x x := by
  cases x with
  | var g cs => exact ⟨rfl, cvL_refl cs⟩
  | _ => rfl
/-- The words of a command, with numbers behind its kind. -/
def wdsB (k b : Int) (s : ByteArray) (bet : List Int) : List ByteArray := knd k :: (bet.map decS ++ ((if k = 4 then [] else [decS b]) ++ (if k = 2 then [hexS s] else [])))
theorem s_b {a b : List ByteArray} (h : a.length ≤ 1000) (h2 : b.length ≤ 1000) : (sV a).length + (sV b).length ≤ 2000000 := by
  rw [sLen, sLen]; omega
theorem take_snoc {α : Type} {l : List α} {i : Nat} (h : i < l.length) : l.take (i + 1) = l.take i ++ [l[i]] := by rw [List.take_add_one, List.getElem?_eq_getElem h]; rfl
/-- What the walk of the words leans on. -/
theorem wordsEnv (k b : Int) (s : ByteArray) (bet : List Int) (hb : bet.length ≤ 500) (hs : s.size ≤ 400000) : ∃ (D : Int → ByteArray) (X K : ByteArray) (A : Nat → List ByteArray),
    (∀ n, Fun Tryz.prog 57 [i64V n] [] (.v (strV (D n)))) ∧ (k = 2 → Fun Tryz.prog 58 [strV s] [] (.v (strV X))) ∧ Fun Tryz.prog 56 [cmV k b s] [] (.v (strV K)) ∧
    A 0 = [K] ∧ (∀ i (h : i < bet.length), A i ++ [D bet[i]] = A (i + 1) ∧ (A i).length ≤ 1000) ∧ (A bet.length).length ≤ 1000 ∧ (A bet.length ++ [D b]).length ≤ 1000 ∧
    (∀ xs, xs = A bet.length ++ ((if k = 4 then [] else [D b]) ++ (if k = 2 then [X] else [])) → Fun Tryz.prog 38 [slV (sV xs), strV ⟨#[32]⟩] [] (.v (strV ⟨(joinW 32 ((wdsB k b s bet).map (·.data.toList))).toArray⟩))) := by
  refine ⟨decS, hexS s, knd k, fun i => knd k :: (bet.take i).map decS, decF, fun _ => hexF' s (by omega), kindF k b s, by simp, fun i h => ⟨by show (knd k :: (bet.take i).map decS) ++ [decS bet[i]] = knd k :: (bet.take (i + 1)).map decS; rw [take_snoc h, List.map_append]; rfl, by simp; omega⟩, by simp; omega, by simp; omega, ?_⟩
  rintro xs rfl
  have e : (knd k :: (bet.take bet.length).map decS) ++ ((if k = 4 then [] else [decS b]) ++ (if k = 2 then [hexS s] else [])) = wdsB k b s bet := by
    rw [List.take_length]; rfl
  rw [e]
  refine joinF 32 _ 800000 (by decide) ?_ ?_
  · unfold wdsB
    have h1 : (if k = 4 then [] else [decS b]).length ≤ 1 := by split <;> simp
    have h2 : (if k = 2 then [hexS s] else []).length ≤ 1 := by split <;> simp
    simp only [List.length_cons, List.length_append, List.length_map]
    omega
  · intro x hx
    have hd := decS_size
    have hk := knd_size k
    have hh := hexS_size s
    unfold wdsB at hx
    simp only [List.mem_cons, List.mem_append, List.mem_map] at hx
    rcases hx with rfl | ⟨n, _, rfl⟩ | hx | hx
    · omega
    · have := hd n; omega
    · split at hx
      · simp at hx
      · obtain rfl := List.mem_singleton.1 hx
        have := hd b; omega
    · split at hx
      · obtain rfl := List.mem_singleton.1 hx
        omega
      · simp at hx
set_option maxRecDepth 100000 in
set_option maxHeartbeats 16000000 in
theorem wordsF (k b : Int) (s : ByteArray) (bet : List Int) (hb : bet.length ≤ 500) (hs : s.size ≤ 400000) : Fun Tryz.prog 33 [cmV k b s, slV (wV bet)] [] (.v (strV ⟨(joinW 32 ((wdsB k b s bet).map (·.data.toList))).toArray⟩)) := by
  obtain ⟨D, X, K, A, hD, hX, hK, h0, hst, hl, hl2, hj⟩ := wordsEnv k b s bet hb hs
  clear hs
  generalize (⟨(joinW 32 ((wdsB k b s bet).map (·.data.toList))).toArray⟩ : ByteArray) = R at hj ⊢
  refine fun_of_vc tabOk mixOk Tryz.func33 rfl (by rfl) (rs := [.tmp 4]) rfl rfl 47 ?_; rw [Tryz.ntmps33]
  (conv=>whnf);repeat((first|refine zD ?_|refine zA ?_|refine zT ?_|refine zF ?_);conv=>whnf)
  refine ⟨_, _, hK, ?_⟩
  (conv=>whnf);repeat((first|refine zD ?_|refine zA ?_|refine zT ?_|refine zF ?_);conv=>whnf)
  refine vc_loop [2, 11, 12] [2] (X := Nat) (fun i gs => [(13, ATint i), (5, .v (.c (.own 10 (gs 10))))]) (fun i gs => [(10, .row (gs 10) 9 1 (sV (A i)))]) (fun i => i ≤ bet.length) (fun i => bet.length - i) _ (Ghost.refl _) 0 (Nat.zero_le _) ?_ ?_
  · (refine zA (zA ?_));(repeat' (first|exact trivial|with_reducible exact cvB_refl _|exact rfl|apply And.intro))
    all_goals exact congrArg (Blk.row _ _ _) (by rw [h0]; rfl)
  intro gs i hi
  have hi : i ≤ bet.length := hi
  (conv=>whnf);repeat((first|refine zD ?_|refine zA ?_|refine zT ?_|refine zF ?_);conv=>whnf)
  refine And.intro (fun h => ?_) (fun h => ?_)
  · have hlt : i < bet.length := by simpa [wV] using h
    obtain ⟨hs1, hs2⟩ := hst i hlt
    have hdd := hD bet[i]
    generalize hw : D bet[i] = d at hdd hs1
    (conv=>whnf);repeat((first|refine zD ?_|refine zA ?_|refine zT ?_|refine zF ?_);conv=>whnf)
    refine ⟨by omega, _, wItem hlt, rfl, ?_⟩
    (conv=>whnf);repeat((first|refine zD ?_|refine zA ?_|refine zT ?_|refine zF ?_);conv=>whnf)
    refine ⟨_, _, hdd, ?_⟩
    (conv=>whnf);repeat((first|refine zD ?_|refine zA ?_|refine zT ?_|refine zF ?_);conv=>whnf)
    refine ⟨sSz [d], ?_⟩
    (conv=>whnf);repeat((first|refine zD ?_|refine zA ?_|refine zT ?_|refine zF ?_);conv=>whnf)
    refine ⟨bytes_le (by decide) (s_b hs2 (b := [d]) (by simp)), ?_⟩
    (conv=>whnf);repeat((first|refine zD ?_|refine zA ?_|refine zT ?_|refine zF ?_);conv=>whnf)
    refine again (i + 1) hlt (Nat.sub_lt_sub_left hlt (Nat.lt_succ_self i)) ?_
    (refine zA (zA ?_));(repeat' (first|exact trivial|with_reducible exact cvB_refl _|exact rfl|apply And.intro))
    all_goals first
      | exact congrArg (Value.int .i64) (w64_nat (by omega))
      | exact congrArg (Blk.row _ _ _) ((sApp _ [d]).trans (congrArg sV hs1))
  · obtain rfl : i = bet.length := by
      have : ¬ i < bet.length := by simpa [wV] using h
      omega
    clear hst h0
    generalize A bet.length = ws at hl hl2 hj
    have hDb := hD b
    generalize D b = d at hDb hl2 hj
    clear hD
    have j1 := hj _ rfl
    clear hj
    have bs := bytes_le (l := (sV ws).length + (sV [d]).length) (b := 16) (by decide) (s_b hl (by simp))
    have bs2 : ∀ X : ByteArray, ((sV ws ++ sV [d]).length + (sV [X]).length) * 16 ≤ 140737488355328 := fun X => by
      simp only [List.length_append, sLen, List.length_cons, List.length_nil]
      omega
    by_cases h4 : k = 4
    · subst h4
      rw [if_pos rfl, if_neg (by decide), List.append_nil, List.append_nil] at j1
      (conv=>whnf);repeat((first|refine zD ?_|refine zA ?_|refine zT ?_|refine zF ?_);conv=>whnf)
      refine ⟨_, _, j1, ?_⟩
      (conv=>whnf);repeat((first|refine zD ?_|refine zA ?_|refine zT ?_|refine zF ?_);conv=>whnf)
      refine Exists.intro [] (And.intro List.nodup_nil ?_); ((conv=>whnf);repeat((first|refine zD ?_|refine zA ?_|refine zT ?_|refine zF ?_);conv=>whnf))
      rfl
    · rw [if_neg h4] at j1
      by_cases h2 : k = 2
      · subst h2
        have hX := hX rfl
        rw [if_pos rfl, show sV (ws ++ ([d] ++ [X])) = sV ws ++ sV [d] ++ sV [X] from by simp [sV]] at j1
        (conv=>whnf);repeat((first|refine zD ?_|refine zA ?_|refine zT ?_|refine zF ?_);conv=>whnf)
        refine ⟨_, _, hDb, ?_⟩
        (conv=>whnf);repeat((first|refine zD ?_|refine zA ?_|refine zT ?_|refine zF ?_);conv=>whnf)
        refine ⟨sSz [d], ?_⟩
        (conv=>whnf);repeat((first|refine zD ?_|refine zA ?_|refine zT ?_|refine zF ?_);conv=>whnf)
        refine ⟨bs, ?_⟩
        (conv=>whnf);repeat((first|refine zD ?_|refine zA ?_|refine zT ?_|refine zF ?_);conv=>whnf)
        refine ⟨_, _, hX, ?_⟩
        (conv=>whnf);repeat((first|refine zD ?_|refine zA ?_|refine zT ?_|refine zF ?_);conv=>whnf)
        refine ⟨sSz [X], ?_⟩
        (conv=>whnf);repeat((first|refine zD ?_|refine zA ?_|refine zT ?_|refine zF ?_);conv=>whnf)
        refine ⟨bs2 X, ?_⟩
        (conv=>whnf);repeat((first|refine zD ?_|refine zA ?_|refine zT ?_|refine zF ?_);conv=>whnf)
        refine ⟨_, _, j1, ?_⟩
        (conv=>whnf);repeat((first|refine zD ?_|refine zA ?_|refine zT ?_|refine zF ?_);conv=>whnf)
        refine Exists.intro [] (And.intro List.nodup_nil ?_); ((conv=>whnf);repeat((first|refine zD ?_|refine zA ?_|refine zT ?_|refine zF ?_);conv=>whnf))
        rfl
      · rw [if_neg h2, List.append_nil, show sV (ws ++ [d]) = sV ws ++ sV [d] from by simp [sV]] at j1
        (conv=>whnf);repeat((first|refine zD ?_|refine zA ?_|refine zT ?_|refine zF ?_);conv=>whnf)
        refine And.intro (fun _ => ?_) (fun h => absurd (show k = 4 by simpa using h) h4)
        (conv=>whnf);repeat((first|refine zD ?_|refine zA ?_|refine zT ?_|refine zF ?_);conv=>whnf)
        refine ⟨_, _, hDb, ?_⟩
        (conv=>whnf);repeat((first|refine zD ?_|refine zA ?_|refine zT ?_|refine zF ?_);conv=>whnf)
        refine ⟨sSz [d], ?_⟩
        (conv=>whnf);repeat((first|refine zD ?_|refine zA ?_|refine zT ?_|refine zF ?_);conv=>whnf)
        refine ⟨bs, ?_⟩
        (conv=>whnf);repeat((first|refine zD ?_|refine zA ?_|refine zT ?_|refine zF ?_);conv=>whnf)
        refine And.intro (fun h => absurd (show k = 2 by simpa using h) h2) (fun _ => ?_)
        (conv=>whnf);repeat((first|refine zD ?_|refine zA ?_|refine zT ?_|refine zF ?_);conv=>whnf)
        refine ⟨_, _, j1, ?_⟩
        (conv=>whnf);repeat((first|refine zD ?_|refine zA ?_|refine zT ?_|refine zF ?_);conv=>whnf)
        refine Exists.intro [] (And.intro List.nodup_nil ?_); ((conv=>whnf);repeat((first|refine zD ?_|refine zA ?_|refine zT ?_|refine zF ?_);conv=>whnf))
        rfl
end Go.Proofs.YtikchieadclbhaaGreatDoor.Ab
namespace Go.Proofs.YtikchieadclbhaaGreatDoor.Ab
set_option linter.unusedVariables false
set_option linter.unusedSimpArgs false
open Go.RowKit

def itoS (n : Int) : ByteArray := ⟨(Lib.itoa n).toArray⟩
theorem itoSF {n : Int} (h : fit n = true) : Fun Tryz.prog 34 [i64V n] [] (.v (strV (itoS n))) := by
  have hn := fit_iff.1 h
  exact itoaF n (by omega) (by omega)
theorem itoS_size {n : Int} (h : fit n = true) : (itoS n).size ≤ 14 := itoa_len (fit_iff.1 h)
def crL (kp : List Int) : List UInt8 := if kp.length ≤ 32 ∧ kp.all fit = true then (if kp = [] then wCrash else joinW 32 [wCrash, joinW 44 (kp.map Lib.itoa)]) else []
def bCrash : ByteArray := ⟨#[99, 114, 97, 115, 104]⟩
def bCrash' : ByteArray := ⟨#[99, 114, 97, 115, 104, 32]⟩
theorem crL_ok {kp : List Int} (h : kp.length ≤ 32) (hf : kp.all fit = true) (hne : kp ≠ []) : ∃ J : ByteArray, Fun Tryz.prog 38 [slV (sV (kp.map itoS)), strV ⟨#[44]⟩] [] (.v (strV J)) ∧ J.size ≤ 1000 ∧ (⟨(crL kp).toArray⟩ : ByteArray) = bCrash' ++ J := by
  refine ⟨⟨(joinW 44 (kp.map Lib.itoa)).toArray⟩, ?_, ?_, ?_⟩
  · have := joinF 44 (kp.map itoS) 14 (by decide) (by simp; omega) (fun x hx => by
      obtain ⟨n, hn, rfl⟩ := List.mem_map.1 hx
      exact itoS_size (List.all_eq_true.1 hf n hn))
    rw [List.map_map] at this
    exact this
  · show (joinW 44 (kp.map Lib.itoa)).length ≤ 1000
    have := joinW_len (M := 14) 44 (ws := kp.map Lib.itoa) (fun w hw => by
      obtain ⟨n, hn, rfl⟩ := List.mem_map.1 hw
      exact itoS_size (List.all_eq_true.1 hf n hn))
    rw [List.length_map] at this
    have h2 : kp.length * (14 + 1) ≤ 32 * 15 := Nat.mul_le_mul h (by decide)
    omega
  · apply sL_inj
    rw [sL_append]
    show crL kp = [99, 114, 97, 115, 104, 32] ++ joinW 44 (kp.map Lib.itoa)
    unfold crL
    rw [if_pos ⟨h, hf⟩, if_neg hne]
    rfl
set_option maxRecDepth 100000 in
set_option maxHeartbeats 16000000 in
theorem crashF (kp : List Int) : Fun Tryz.prog 35 [slV (wV kp)] [] (.v (strV ⟨(crL kp).toArray⟩)) := by
  by_cases h32 : kp.length ≤ 32
  · have hD : ∀ n, fit n = true → Fun Tryz.prog 34 [i64V n] [] (.v (strV (itoS n))) := fun n h => itoSF h
    have hJ : kp.all fit = true → kp ≠ [] → _ := fun hf hne => crL_ok h32 hf hne
    have h0 : kp.all fit = true → kp = [] → (⟨(crL kp).toArray⟩ : ByteArray) = bCrash := fun hf he => by subst he; rfl
    have hno : kp.all fit = false → (⟨(crL kp).toArray⟩ : ByteArray) = ⟨#[]⟩ := fun hf => by unfold crL; rw [if_neg (by simp [hf])]
    generalize (⟨(crL kp).toArray⟩ : ByteArray) = R at hJ h0 hno ⊢
    generalize itoS = D at hD hJ
    refine fun_of_vc tabOk mixOk Tryz.func35 rfl (by rfl) (rs := [.tmp 2]) rfl rfl 34 ?_; rw [Tryz.ntmps35]
    (conv=>whnf);repeat((first|refine zD ?_|refine zA ?_|refine zT ?_|refine zF ?_);conv=>whnf)
    refine And.intro (fun h => ?_) (fun h => ?_)
    · exfalso
      have := of_decide_eq_true h
      simp [wV] at this
      omega
    clear h
    (conv=>whnf);repeat((first|refine zD ?_|refine zA ?_|refine zT ?_|refine zF ?_);conv=>whnf)
    refine vc_loop [9, 10] [] (X := Nat) (fun i gs => [(11, ATint i), (3, .v (.c (.own 22 (gs 22))))]) (fun i gs => [(22, .row (gs 22) 9 1 (sV ((kp.take i).map D)))]) (fun i => i ≤ kp.length ∧ (kp.take i).all fit = true) (fun i => kp.length - i) _ (Ghost.ownNil 3 22 9 1 rfl (Nat.le_of_ble_eq_true rfl)) 0 ⟨Nat.zero_le _, rfl⟩ ?_ ?_
    · (refine zA (zA ?_));(repeat' (first|exact trivial|with_reducible exact cvB_refl _|exact rfl|apply And.intro))
    intro gs i hi
    obtain ⟨hi, hfi⟩ := hi
    (conv=>whnf);repeat((first|refine zD ?_|refine zA ?_|refine zT ?_|refine zF ?_);conv=>whnf)
    refine And.intro (fun h => ?_) (fun h => ?_)
    · have hlt : i < kp.length := by simpa [wV] using h
      have hff := fitsF kp[i]
      have htk := take_snoc hlt
      cases hc : fit kp[i] with
      | false =>
        rw [hc] at hff
        rw [hno (List.all_eq_false.2 ⟨kp[i], List.getElem_mem hlt, by rw [hc]; decide⟩)]
        (conv=>whnf);repeat((first|refine zD ?_|refine zA ?_|refine zT ?_|refine zF ?_);conv=>whnf)
        refine ⟨by omega, _, wItem hlt, rfl, ?_⟩
        (conv=>whnf);repeat((first|refine zD ?_|refine zA ?_|refine zT ?_|refine zF ?_);conv=>whnf)
        refine ⟨_, _, hff, ?_⟩
        (conv=>whnf);repeat((first|refine zD ?_|refine zA ?_|refine zT ?_|refine zF ?_);conv=>whnf)
        refine Exists.intro [] (And.intro List.nodup_nil ?_); ((conv=>whnf);repeat((first|refine zD ?_|refine zA ?_|refine zT ?_|refine zF ?_);conv=>whnf))
        rfl
      | true =>
        rw [hc] at hff
        have hdd := hD _ hc
        generalize hw : D kp[i] = d at hdd
        (conv=>whnf);repeat((first|refine zD ?_|refine zA ?_|refine zT ?_|refine zF ?_);conv=>whnf)
        refine ⟨by omega, _, wItem hlt, rfl, ?_⟩
        (conv=>whnf);repeat((first|refine zD ?_|refine zA ?_|refine zT ?_|refine zF ?_);conv=>whnf)
        refine ⟨_, _, hff, ?_⟩
        (conv=>whnf);repeat((first|refine zD ?_|refine zA ?_|refine zT ?_|refine zF ?_);conv=>whnf)
        refine ⟨_, _, hdd, ?_⟩
        (conv=>whnf);repeat((first|refine zD ?_|refine zA ?_|refine zT ?_|refine zF ?_);conv=>whnf)
        refine ⟨sSz [d], ?_⟩
        (conv=>whnf);repeat((first|refine zD ?_|refine zA ?_|refine zT ?_|refine zF ?_);conv=>whnf)
        refine ⟨bytes_le (by decide) (s_b (a := (kp.take i).map D) (by simp; omega) (b := [d]) (by simp)), ?_⟩
        (conv=>whnf);repeat((first|refine zD ?_|refine zA ?_|refine zT ?_|refine zF ?_);conv=>whnf)
        refine again (i + 1) ⟨hlt, by rw [htk, List.all_append, hfi]; simp [hc]⟩ (Nat.sub_lt_sub_left hlt (Nat.lt_succ_self i)) ?_
        (refine zA (zA ?_));(repeat' (first|exact trivial|with_reducible exact cvB_refl _|exact rfl|apply And.intro))
        all_goals first
          | exact congrArg (Value.int .i64) (w64_nat (by omega))
          | exact congrArg (Blk.row _ _ _) ((sApp _ [d]).trans (congrArg sV (by rw [htk, List.map_append, ← hw]; rfl)))
    · obtain rfl : i = kp.length := by
        have : ¬ i < kp.length := by simpa [wV] using h
        omega
      rw [List.take_length] at hfi ⊢
      by_cases hne : kp = []
      · rw [h0 hfi hne]
        subst hne
        (conv=>whnf);repeat((first|refine zD ?_|refine zA ?_|refine zT ?_|refine zF ?_);conv=>whnf)
        refine Exists.intro [] (And.intro List.nodup_nil ?_); ((conv=>whnf);repeat((first|refine zD ?_|refine zA ?_|refine zT ?_|refine zF ?_);conv=>whnf))
        rfl
      · obtain ⟨J, hj, hjs, hR⟩ := hJ hfi hne
        rw [hR]
        have hll : 0 < kp.length := List.length_pos_iff.2 hne
        clear hJ h0 hno
        (conv=>whnf);repeat((first|refine zD ?_|refine zA ?_|refine zT ?_|refine zF ?_);conv=>whnf)
        refine And.intro (fun h => ?_) (fun h => ?_)
        · exfalso
          simp [sV] at h
          exact hne h
        (conv=>whnf);repeat((first|refine zD ?_|refine zA ?_|refine zT ?_|refine zF ?_);conv=>whnf)
        refine ⟨_, _, hj, ?_⟩
        (conv=>whnf);repeat((first|refine zD ?_|refine zA ?_|refine zT ?_|refine zF ?_);conv=>whnf)
        refine ⟨by show 6 + J.size ≤ _; omega, ?_⟩
        (conv=>whnf);repeat((first|refine zD ?_|refine zA ?_|refine zT ?_|refine zF ?_);conv=>whnf)
        refine Exists.intro [] (And.intro List.nodup_nil ?_); ((conv=>whnf);repeat((first|refine zD ?_|refine zA ?_|refine zT ?_|refine zF ?_);conv=>whnf))
        rfl
  · have e : crL kp = [] := by unfold crL; rw [if_neg (fun h => h32 h.1)]
    rw [e]
    refine fun_of_vc tabOk mixOk Tryz.func35 rfl (by rfl) (rs := [.tmp 2]) rfl rfl 34 ?_; rw [Tryz.ntmps35]
    (conv=>whnf);repeat((first|refine zD ?_|refine zA ?_|refine zT ?_|refine zF ?_);conv=>whnf)
    refine And.intro (fun h => ?_) (fun h => ?_)
    · (conv=>whnf);repeat((first|refine zD ?_|refine zA ?_|refine zT ?_|refine zF ?_);conv=>whnf)
      refine Exists.intro [] (And.intro List.nodup_nil ?_); ((conv=>whnf);repeat((first|refine zD ?_|refine zA ?_|refine zT ?_|refine zF ?_);conv=>whnf))
      rfl
    · exfalso
      have := of_decide_eq_false h
      simp [wV] at this
      omega
end Go.Proofs.YtikchieadclbhaaGreatDoor.Ab
