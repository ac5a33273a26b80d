/- The document's line: which actions are fine, keeps, same, words. No condition. -/
import Derived.Test.YtikchieadclbhaaGreatDoorZ28
import Derived.Test.YtikchieadclbhaaGreatDoorZ31
namespace Go.Proofs.YtikchieadclbhaaGreatDoor.Ab
set_option linter.unusedVariables false
set_option linter.unusedSimpArgs false
open Go.RowKit

def u8V (n : Nat) : AV := .c (.i (.sc (.int .u8 (n : Int))))
theorem dec_one (m : Nat) : bytesStr [iwrap .u8 (iwrap .i64 (48 + ((m : Int)).tmod 10))] = sS [UInt8.ofNat (48 + m % 10)] := by
  have e0 : ((m : Int)).tmod 10 = ((m % 10 : Nat) : Int) := rfl
  have e1 : iwrap .i64 (48 + ((m : Int)).tmod 10) = ((48 + m % 10 : Nat) : Int) := by
    rw [e0]
    exact (w64_in (by omega)).trans (by omega)
  rw [bytesStr_eq, e1]
  simp only [List.map_cons, List.map_nil, u8_byte]
theorem dec_quo (m : Nat) (h : m ≤ 1099511627776) : iwrap .i64 (((m : Int)).tdiv 10) = ((m / 10 : Nat) : Int) := by
  have e0 : ((m : Int)).tdiv 10 = ((m / 10 : Nat) : Int) := rfl
  rw [e0]
  exact w64_in (by omega)
set_option maxRecDepth 100000 in
set_option maxHeartbeats 16000000 in
theorem decR (N : Nat) (h : N ≤ 1099511627776) : Fun Tryz.prog 40 [i64V (N : Int)] [] (.v (strV ⟨(Lib.decDigits N).toArray⟩)) := by
  have hlen := dec_len 12 N (by omega)
  refine fun_of_vc tabOk mixOk Tryz.func40 rfl (by rfl) (rs := [.tmp 2]) rfl rfl 27 ?_; rw [Tryz.ntmps40]
  (conv=>whnf);repeat((first|refine zD ?_|refine zA ?_|refine zT ?_|refine zF ?_);conv=>whnf)
  refine vc_loop [] [] (X := Nat × List UInt8) (fun x gs => [(0, ATint x.1), (3, .v (strV (sS x.2)))]) (fun _ _ => []) (fun x => x.1 ≤ 1099511627776 ∧ Lib.decDigits N = Lib.decDigits x.1 ++ x.2) (fun x => x.1) _ (Ghost.refl _) (N, []) ⟨h, by simp⟩ ?_ ?_
  · (refine zA (zA ?_));(repeat' (first|exact trivial|with_reducible exact cvB_refl _|exact rfl|apply And.intro))
  rintro gs ⟨m, l⟩ ⟨hm, he⟩
  dsimp only at hm he
  have e1 := dec_one m
  have e2 := dec_quo m hm
  have hsz : 1 + l.length ≤ 100 := by
    have := congrArg List.length he
    rw [List.length_append] at this
    omega
  have ha := dec_app m
  (conv=>whnf);repeat((first|refine zD ?_|refine zA ?_|refine zT ?_|refine zF ?_);conv=>whnf)
  refine ⟨by decide, ?_⟩
  (conv=>whnf);repeat((first|refine zD ?_|refine zA ?_|refine zT ?_|refine zF ?_);conv=>whnf)
  refine ⟨[iwrap .u8 (iwrap .i64 (48 + ((m : Int)).tmod 10))], rfl, ?_⟩
  (conv=>whnf);repeat((first|refine zD ?_|refine zA ?_|refine zT ?_|refine zF ?_);conv=>whnf)
  rw [e1]
  refine ⟨by show 1 + l.length ≤ _; omega, ?_⟩
  (conv=>whnf);repeat((first|refine zD ?_|refine zA ?_|refine zT ?_|refine zF ?_);conv=>whnf)
  refine ⟨by decide, ?_⟩
  (conv=>whnf);repeat((first|refine zD ?_|refine zA ?_|refine zT ?_|refine zF ?_);conv=>whnf)
  rw [e2]
  refine And.intro (fun h => ?_) (fun h => ?_)
  · have h0 : ((m / 10 : Nat) : Int) = 0 := by simpa only [beq_iff_eq] using h
    have h10 : m < 10 := by omega
    rw [if_pos h10] at ha
    (conv=>whnf);repeat((first|refine zD ?_|refine zA ?_|refine zT ?_|refine zF ?_);conv=>whnf)
    refine Exists.intro [] (And.intro List.nodup_nil ?_); ((conv=>whnf);repeat((first|refine zD ?_|refine zA ?_|refine zT ?_|refine zF ?_);conv=>whnf))
    refine congrArg (fun s => AT.v (strV s)) (sL_inj ?_)
    rw [sS_append]
    show [UInt8.ofNat (48 + m % 10)] ++ l = Lib.decDigits N
    rw [he, ha, Nat.mod_eq_of_lt h10]
  · have h0 : ¬ ((m / 10 : Nat) : Int) = 0 := by simpa only [beq_eq_false_iff_ne] using h
    have h10 : ¬ m < 10 := by omega
    rw [if_neg h10] at ha
    (conv=>whnf);repeat((first|refine zD ?_|refine zA ?_|refine zT ?_|refine zF ?_);conv=>whnf)
    refine again (m / 10, UInt8.ofNat (48 + m % 10) :: l) ⟨by omega, ?_⟩ (by dsimp only; omega) ?_
    · rw [he, ha]; simp
    · (refine zA (zA ?_));(repeat' (first|exact trivial|with_reducible exact cvB_refl _|exact rfl|apply And.intro))
      all_goals exact congrArg Value.string (sS_append _ _)
set_option maxRecDepth 100000 in
set_option maxHeartbeats 16000000 in
theorem dR (n : Int) (h : fit n = true) : Fun Tryz.prog 40 [i64V n] [] (.v (strV (itoS n))) := by
  have hf := fit_iff.1 h
  by_cases h0 : n < 0
  · obtain ⟨m, rfl⟩ : ∃ m : Nat, n = -(m : Int) := ⟨(-n).toNat, by omega⟩
    have hd := decR m (by omega)
    have hlen := dec_len 12 m (by omega)
    have e1 : iwrap .i64 (0 - -(m : Int)) = (m : Int) := (w64_in (by omega)).trans (by omega)
    have e2 : itoS (-(m : Int)) = ⟨#[45]⟩ ++ ⟨(Lib.decDigits m).toArray⟩ := by
      apply sL_inj
      rw [sL_append]
      show Lib.itoa (-(m : Int)) = 45 :: Lib.decDigits m
      unfold Lib.itoa
      rw [if_pos (by omega)]
      congr 2
      omega
    rw [e2]
    generalize hD : Lib.decDigits m = D at hd hlen
    refine fun_of_vc tabOk mixOk Tryz.func40 rfl (by rfl) (rs := [.tmp 2]) rfl rfl 27 ?_; rw [Tryz.ntmps40]
    (conv=>whnf);repeat((first|refine zD ?_|refine zA ?_|refine zT ?_|refine zF ?_);conv=>whnf)
    refine And.intro (fun _ => ?_) (fun h => absurd h0 (of_decide_eq_false h))
    (conv=>whnf);repeat((first|refine zD ?_|refine zA ?_|refine zT ?_|refine zF ?_);conv=>whnf)
    rw [e1]
    refine ⟨_, _, hd, ?_⟩
    (conv=>whnf);repeat((first|refine zD ?_|refine zA ?_|refine zT ?_|refine zF ?_);conv=>whnf)
    refine ⟨by show 1 + D.length ≤ _; omega, ?_⟩
    (conv=>whnf);repeat((first|refine zD ?_|refine zA ?_|refine zT ?_|refine zF ?_);conv=>whnf)
    refine Exists.intro [] (And.intro List.nodup_nil ?_); ((conv=>whnf);repeat((first|refine zD ?_|refine zA ?_|refine zT ?_|refine zF ?_);conv=>whnf))
    rfl
  · obtain ⟨m, rfl⟩ : ∃ m : Nat, n = (m : Int) := ⟨n.toNat, by omega⟩
    have := decR m (by omega)
    have e : itoS (m : Int) = ⟨(Lib.decDigits m).toArray⟩ := by
      unfold itoS Lib.itoa
      rw [if_neg (by omega), Int.toNat_natCast]
    rw [e]
    exact this
theorem smallF (n : Int) : Fun Tryz.prog 62 [i64V n] [] (ATbool (fit n)) := by
  have hf : fit n = (if n ≥ -1099511627776 then decide (n ≤ 1099511627776) else false) := by
    unfold fit
    split
    · rename_i h
      rw [decide_eq_decide]
      omega
    · rename_i h
      exact decide_eq_false (by omega)
  rw [hf]
  by_cases h1 : n ≥ -1099511627776
  · rw [if_pos h1]
    refine fun_of_vc tabOk mixOk Tryz.func62 rfl (by rfl) (rs := [.tmp 2]) rfl rfl 13 ?_; rw [Tryz.ntmps62]
    (conv=>whnf);repeat((first|refine zD ?_|refine zA ?_|refine zT ?_|refine zF ?_);conv=>whnf)
    refine And.intro (fun h => ?_) (fun h => absurd h1 (of_decide_eq_false h))
    (conv=>whnf);repeat((first|refine zD ?_|refine zA ?_|refine zT ?_|refine zF ?_);conv=>whnf)
    refine Exists.intro [] (And.intro List.nodup_nil ?_); ((conv=>whnf);repeat((first|refine zD ?_|refine zA ?_|refine zT ?_|refine zF ?_);conv=>whnf))
    rfl
  · rw [if_neg h1]
    refine fun_of_vc tabOk mixOk Tryz.func62 rfl (by rfl) (rs := [.tmp 2]) rfl rfl 13 ?_; rw [Tryz.ntmps62]
    (conv=>whnf);repeat((first|refine zD ?_|refine zA ?_|refine zT ?_|refine zF ?_);conv=>whnf)
    refine And.intro (fun h => absurd (of_decide_eq_true h) h1) (fun h => ?_)
    (conv=>whnf);repeat((first|refine zD ?_|refine zA ?_|refine zT ?_|refine zF ?_);conv=>whnf)
    refine Exists.intro [] (And.intro List.nodup_nil ?_); ((conv=>whnf);repeat((first|refine zD ?_|refine zA ?_|refine zT ?_|refine zF ?_);conv=>whnf))
    rfl
end Go.Proofs.YtikchieadclbhaaGreatDoor.Ab
namespace Go.Proofs.YtikchieadclbhaaGreatDoor.Ab
set_option linter.unusedVariables false
set_option linter.unusedSimpArgs false
open Go.RowKit

theorem joinW_snoc (c : UInt8) : ∀ (ws : List (List UInt8)) (w : List UInt8), ws ≠ [] → joinW c (ws ++ [w]) = joinW c ws ++ c :: w
  | [], _, h => absurd rfl h
  | [v], w, _ => rfl
  | v :: u :: ws, w, _ => by
    have ih := joinW_snoc c (u :: ws) w (by simp)
    show v ++ c :: joinW c ((u :: ws) ++ [w]) = (v ++ c :: joinW c (u :: ws)) ++ c :: w
    rw [ih]; simp
/-- The keeps so far. -/
def kpS (l : List Int) : ByteArray := sS (joinW 44 (l.map Lib.itoa))
theorem kpS_size {l : List Int} (h : l.all fit = true) (hl : l.length ≤ 32) : (kpS l).size ≤ 480 := by
  show (joinW 44 (l.map Lib.itoa)).length ≤ 480
  have := joinW_len (M := 14) 44 (ws := l.map Lib.itoa) (fun w hw => by
    obtain ⟨n, hn, rfl⟩ := List.mem_map.1 hw
    exact itoS_size (List.all_eq_true.1 h n hn))
  rw [List.length_map] at this
  have h2 : l.length * (14 + 1) ≤ 32 * 15 := Nat.mul_le_mul hl (by decide)
  omega
theorem kpS_first {l : List Int} {i : Nat} (hi : i < l.length) (h0 : i = 0) : kpS (l.take i) ++ itoS l[i] = kpS (l.take (i + 1)) := by
  subst h0
  cases l with
  | nil => simp at hi
  | cons x l => apply sL_inj; rw [sL_append]; simp [kpS, itoS, joinW, sS, sL]
theorem kpS_next {l : List Int} {i : Nat} (hi : i < l.length) (h0 : i ≠ 0) : kpS (l.take i) ++ ⟨#[44]⟩ ++ itoS l[i] = kpS (l.take (i + 1)) := by
  apply sL_inj
  rw [sL_append, sL_append, take_snoc hi]
  show joinW 44 ((l.take i).map Lib.itoa) ++ [44] ++ Lib.itoa l[i] = joinW 44 ((l.take i ++ [l[i]]).map Lib.itoa)
  rw [List.map_append, List.map_cons, List.map_nil, joinW_snoc]
  · simp
  · intro h
    have := congrArg List.length h
    rw [List.length_map, List.length_take, List.length_nil] at this
    omega
set_option maxRecDepth 100000 in
set_option maxHeartbeats 16000000 in
theorem keepsF (kp : List Int) (hl : kp.length ≤ 32) (hf : kp.all fit = true) : Fun Tryz.prog 43 [slV (wV kp)] [] (.v (strV (kpS kp))) := by
  have hd : ∀ n ∈ kp, Fun Tryz.prog 40 [i64V n] [] (.v (strV (itoS n))) := fun n hn => dR n (List.all_eq_true.1 hf n hn)
  have hds : ∀ n ∈ kp, (itoS n).size ≤ 14 := fun n hn => itoS_size (List.all_eq_true.1 hf n hn)
  have hks : ∀ i, (kpS (kp.take i)).size ≤ 480 := fun i => kpS_size (List.all_eq_true.2 fun n hn => List.all_eq_true.1 hf n (List.mem_of_mem_take hn)) (by simp; omega)
  have h1 := fun i (h : i < kp.length) => kpS_first h
  have h2 := fun i (h : i < kp.length) => kpS_next h
  have h0 : kpS (kp.take 0) = ByteArray.empty := by rw [List.take_zero]; rfl
  have hE : kpS kp = kpS (kp.take kp.length) := by rw [List.take_length]
  rw [hE]
  clear hE hf
  generalize hK : (fun i => kpS (kp.take i)) = K at *
  have e : ∀ i, kpS (kp.take i) = K i := fun i => congrFun hK i
  simp only [e] at h0 h1 h2 hks ⊢
  clear e hK
  refine fun_of_vc tabOk mixOk Tryz.func43 rfl (by rfl) (rs := [.tmp 2]) rfl rfl 27 ?_; rw [Tryz.ntmps43]
  (conv=>whnf);repeat((first|refine zD ?_|refine zA ?_|refine zT ?_|refine zF ?_);conv=>whnf)
  refine vc_loop [0] [] (X := Nat) (fun i gs => [(4, ATint i), (3, .v (strV (K i)))]) (fun i gs => []) (fun i => i ≤ kp.length) (fun i => kp.length - i) _ (Ghost.refl _) 0 (Nat.zero_le _) ?_ ?_
  · (refine zA (zA ?_));(repeat' (first|exact trivial|with_reducible exact cvB_refl _|exact rfl|apply And.intro))
    all_goals exact congrArg Value.string h0.symm
  intro gs i hi
  have hi : i ≤ kp.length := hi
  (conv=>whnf);repeat((first|refine zD ?_|refine zA ?_|refine zT ?_|refine zF ?_);conv=>whnf)
  refine And.intro (fun h => ?_) (fun h => ?_)
  · have hlt : i < kp.length := by simpa [wV] using h
    have hd := hd _ (List.getElem_mem hlt)
    have hds := hds _ (List.getElem_mem hlt)
    have hks := hks i
    have h1 := h1 i hlt
    have h2 := h2 i hlt
    generalize itoS kp[i] = d at hd hds h1 h2
    (conv=>whnf);repeat((first|refine zD ?_|refine zA ?_|refine zT ?_|refine zF ?_);conv=>whnf)
    refine And.intro (fun h => ?_) (fun h => ?_)
    · have hp : i ≠ 0 := by have := of_decide_eq_true h; omega
      (conv=>whnf);repeat((first|refine zD ?_|refine zA ?_|refine zT ?_|refine zF ?_);conv=>whnf)
      refine ⟨by show (K i).size + 1 ≤ _; omega, ?_⟩
      (conv=>whnf);repeat((first|refine zD ?_|refine zA ?_|refine zT ?_|refine zF ?_);conv=>whnf)
      refine ⟨by omega, _, wItem hlt, rfl, ?_⟩
      (conv=>whnf);repeat((first|refine zD ?_|refine zA ?_|refine zT ?_|refine zF ?_);conv=>whnf)
      refine ⟨_, _, hd, ?_⟩
      (conv=>whnf);repeat((first|refine zD ?_|refine zA ?_|refine zT ?_|refine zF ?_);conv=>whnf)
      refine ⟨by rw [ByteArray.size_append]; show (K i).size + 1 + d.size ≤ _; omega, ?_⟩
      (conv=>whnf);repeat((first|refine zD ?_|refine zA ?_|refine zT ?_|refine zF ?_);conv=>whnf)
      refine again (i + 1) hlt (Nat.sub_lt_sub_left hlt (Nat.lt_succ_self i)) ?_
      (refine zA (zA ?_));(repeat' (first|exact trivial|with_reducible exact cvB_refl _|exact rfl|apply And.intro))
      all_goals first
        | exact congrArg (Value.int .i64) (w64_nat (by omega))
        | exact congrArg Value.string (h2 hp)
    · have hp : i = 0 := by have := of_decide_eq_false h; omega
      (conv=>whnf);repeat((first|refine zD ?_|refine zA ?_|refine zT ?_|refine zF ?_);conv=>whnf)
      refine ⟨by omega, _, wItem hlt, rfl, ?_⟩
      (conv=>whnf);repeat((first|refine zD ?_|refine zA ?_|refine zT ?_|refine zF ?_);conv=>whnf)
      refine ⟨_, _, hd, ?_⟩
      (conv=>whnf);repeat((first|refine zD ?_|refine zA ?_|refine zT ?_|refine zF ?_);conv=>whnf)
      refine ⟨by show (K i).size + d.size ≤ _; omega, ?_⟩
      (conv=>whnf);repeat((first|refine zD ?_|refine zA ?_|refine zT ?_|refine zF ?_);conv=>whnf)
      refine again (i + 1) hlt (Nat.sub_lt_sub_left hlt (Nat.lt_succ_self i)) ?_
      (refine zA (zA ?_));(repeat' (first|exact trivial|with_reducible exact cvB_refl _|exact rfl|apply And.intro))
      all_goals first
        | exact congrArg (Value.int .i64) (w64_nat (by omega))
        | exact congrArg Value.string (h1 hp)
  · obtain rfl : i = kp.length := by
      have : ¬ i < kp.length := by simpa [wV] using h
      omega
    (conv=>whnf);repeat((first|refine zD ?_|refine zA ?_|refine zT ?_|refine zF ?_);conv=>whnf)
    refine Exists.intro [] (And.intro List.nodup_nil ?_); ((conv=>whnf);repeat((first|refine zD ?_|refine zA ?_|refine zT ?_|refine zF ?_);conv=>whnf))
    rfl
/-! ### Same -/
set_option maxRecDepth 100000 in
set_option maxHeartbeats 16000000 in
theorem sameR_yes (k n ck cb : Int) (s : ByteArray) (kp : List Int) (hk : kp.length ≤ 1000000) : Fun Tryz.prog 42 [acB k n ck cb s kp, acB k n ck cb s kp] [] (ATbool true) := by
  refine fun_of_vc tabOk mixOk Tryz.func42 rfl (by rfl) (rs := [.tmp 4]) rfl rfl 56 ?_; rw [Tryz.ntmps42]
  (conv=>whnf);repeat((first|refine zD ?_|refine zA ?_|refine zT ?_|refine zF ?_);conv=>whnf)
  refine And.intro (fun h => absurd h (by simp)) (fun _ => ?_)
  (conv=>whnf);repeat((first|refine zD ?_|refine zA ?_|refine zT ?_|refine zF ?_);conv=>whnf)
  refine And.intro (fun h => absurd h (by simp)) (fun _ => ?_)
  (conv=>whnf);repeat((first|refine zD ?_|refine zA ?_|refine zT ?_|refine zF ?_);conv=>whnf)
  refine And.intro (fun h => absurd h (by simp)) (fun _ => ?_)
  (conv=>whnf);repeat((first|refine zD ?_|refine zA ?_|refine zT ?_|refine zF ?_);conv=>whnf)
  refine And.intro (fun h => absurd h (by simp)) (fun _ => ?_)
  (conv=>whnf);repeat((first|refine zD ?_|refine zA ?_|refine zT ?_|refine zF ?_);conv=>whnf)
  refine vc_loop [2, 3] [2, 3] (X := Nat) (fun i gs => [(5, ATint i)]) (fun i gs => []) (fun i => i ≤ kp.length) (fun i => kp.length - i) _ (Ghost.refl _) 0 (Nat.zero_le _) ?_ ?_
  · (refine zA (zA ?_));(repeat' (first|exact trivial|with_reducible exact cvB_refl _|exact rfl|apply And.intro))
  intro gs i hi
  have hi : i ≤ kp.length := hi
  (conv=>whnf);repeat((first|refine zD ?_|refine zA ?_|refine zT ?_|refine zF ?_);conv=>whnf)
  refine And.intro (fun h => ?_) (fun h => ?_)
  · have hlt : i < kp.length := by simpa [wV] using h
    (conv=>whnf);repeat((first|refine zD ?_|refine zA ?_|refine zT ?_|refine zF ?_);conv=>whnf)
    refine ⟨by omega, _, wItem hlt, rfl, ?_⟩
    (conv=>whnf);repeat((first|refine zD ?_|refine zA ?_|refine zT ?_|refine zF ?_);conv=>whnf)
    refine ⟨by omega, _, wItem hlt, rfl, ?_⟩
    (conv=>whnf);repeat((first|refine zD ?_|refine zA ?_|refine zT ?_|refine zF ?_);conv=>whnf)
    refine And.intro (fun h => absurd h (by simp)) (fun _ => ?_)
    (conv=>whnf);repeat((first|refine zD ?_|refine zA ?_|refine zT ?_|refine zF ?_);conv=>whnf)
    refine again (i + 1) hlt (Nat.sub_lt_sub_left hlt (Nat.lt_succ_self i)) ?_
    (refine zA (zA ?_));(repeat' (first|exact trivial|with_reducible exact cvB_refl _|exact rfl|apply And.intro))
    all_goals exact congrArg (Value.int .i64) (w64_nat (by omega))
  · (conv=>whnf);repeat((first|refine zD ?_|refine zA ?_|refine zT ?_|refine zF ?_);conv=>whnf)
    refine Exists.intro [] (And.intro List.nodup_nil ?_); ((conv=>whnf);repeat((first|refine zD ?_|refine zA ?_|refine zT ?_|refine zF ?_);conv=>whnf))
    rfl
set_option maxRecDepth 100000 in
set_option maxHeartbeats 16000000 in
theorem sameL_yes (k n ck cb : Int) (s : ByteArray) (kp : List Int) (hk : kp.length ≤ 1000000) : Fun Tryz.prog 12 [acB k n ck cb s kp, acB k n ck cb s kp] [] (ATbool true) := by
  refine fun_of_vc tabOk mixOk Tryz.func12 rfl (by rfl) (rs := [.tmp 4]) rfl rfl 56 ?_; rw [Tryz.ntmps12]
  (conv=>whnf);repeat((first|refine zD ?_|refine zA ?_|refine zT ?_|refine zF ?_);conv=>whnf)
  refine And.intro (fun h => absurd h (by simp)) (fun _ => ?_)
  (conv=>whnf);repeat((first|refine zD ?_|refine zA ?_|refine zT ?_|refine zF ?_);conv=>whnf)
  refine And.intro (fun h => absurd h (by simp)) (fun _ => ?_)
  (conv=>whnf);repeat((first|refine zD ?_|refine zA ?_|refine zT ?_|refine zF ?_);conv=>whnf)
  refine And.intro (fun h => absurd h (by simp)) (fun _ => ?_)
  (conv=>whnf);repeat((first|refine zD ?_|refine zA ?_|refine zT ?_|refine zF ?_);conv=>whnf)
  refine And.intro (fun h => absurd h (by simp)) (fun _ => ?_)
  (conv=>whnf);repeat((first|refine zD ?_|refine zA ?_|refine zT ?_|refine zF ?_);conv=>whnf)
  refine vc_loop [2, 3] [2, 3] (X := Nat) (fun i gs => [(5, ATint i)]) (fun i gs => []) (fun i => i ≤ kp.length) (fun i => kp.length - i) _ (Ghost.refl _) 0 (Nat.zero_le _) ?_ ?_
  · (refine zA (zA ?_));(repeat' (first|exact trivial|with_reducible exact cvB_refl _|exact rfl|apply And.intro))
  intro gs i hi
  have hi : i ≤ kp.length := hi
  (conv=>whnf);repeat((first|refine zD ?_|refine zA ?_|refine zT ?_|refine zF ?_);conv=>whnf)
  refine And.intro (fun h => ?_) (fun h => ?_)
  · have hlt : i < kp.length := by simpa [wV] using h
    (conv=>whnf);repeat((first|refine zD ?_|refine zA ?_|refine zT ?_|refine zF ?_);conv=>whnf)
    refine ⟨by omega, _, wItem hlt, rfl, ?_⟩
    (conv=>whnf);repeat((first|refine zD ?_|refine zA ?_|refine zT ?_|refine zF ?_);conv=>whnf)
    refine ⟨by omega, _, wItem hlt, rfl, ?_⟩
    (conv=>whnf);repeat((first|refine zD ?_|refine zA ?_|refine zT ?_|refine zF ?_);conv=>whnf)
    refine And.intro (fun h => absurd h (by simp)) (fun _ => ?_)
    (conv=>whnf);repeat((first|refine zD ?_|refine zA ?_|refine zT ?_|refine zF ?_);conv=>whnf)
    refine again (i + 1) hlt (Nat.sub_lt_sub_left hlt (Nat.lt_succ_self i)) ?_
    (refine zA (zA ?_));(repeat' (first|exact trivial|with_reducible exact cvB_refl _|exact rfl|apply And.intro))
    all_goals exact congrArg (Value.int .i64) (w64_nat (by omega))
  · (conv=>whnf);repeat((first|refine zD ?_|refine zA ?_|refine zT ?_|refine zF ?_);conv=>whnf)
    refine Exists.intro [] (And.intro List.nodup_nil ?_); ((conv=>whnf);repeat((first|refine zD ?_|refine zA ?_|refine zT ?_|refine zF ?_);conv=>whnf))
    rfl
/-! ### The document's same says no -/
theorem cmd_eqv (ck cb : Int) (s : ByteArray) (x y : Int) (z : ByteArray) : (ck == x && (cb == y && (s.toList == z.toList && true))) = decide (ck = x ∧ cb = y ∧ s = z) := by
  rw [eqS]
  by_cases h : ck = x ∧ cb = y ∧ s = z
  · obtain ⟨rfl, rfl, rfl⟩ := h
    simp
  · rw [decide_eq_false h]
    cases hb : (ck == x && (cb == y && (decide (s.data.toList = z.data.toList) && true))) with
    | false => rfl
    | true =>
      simp only [Bool.and_eq_true, beq_iff_eq, decide_eq_true_eq] at hb
      exact absurd ⟨hb.1, hb.2.1, sL_inj hb.2.2.1⟩ h
set_option maxRecDepth 100000 in
set_option maxHeartbeats 16000000 in
/-- Two actions of the same kind and number whose commands or numbers of keeps differ. -/
theorem sameR_no (k n ck cb : Int) (s : ByteArray) (kp : List Int) (x y : Int) (z : ByteArray) (kp' : List Int) (n' : Int) (h : ¬ n = n' ∨ ¬ (ck = x ∧ cb = y ∧ s = z) ∨ kp.length ≠ kp'.length) : Fun Tryz.prog 42 [acB k n ck cb s kp, acB k n' x y z kp'] [] (ATbool false) := by
  have hc := cmd_eqv ck cb s x y z
  generalize hq : decide (ck = x ∧ cb = y ∧ s = z) = q at hc
  refine fun_of_vc tabOk mixOk Tryz.func42 rfl (by rfl) (rs := [.tmp 4]) rfl rfl 56 ?_; rw [Tryz.ntmps42]
  (conv=>whnf);repeat((first|refine zD ?_|refine zA ?_|refine zT ?_|refine zF ?_);conv=>whnf)
  refine And.intro (fun h => absurd h (by simp)) (fun _ => ?_)
  (conv=>whnf);repeat((first|refine zD ?_|refine zA ?_|refine zT ?_|refine zF ?_);conv=>whnf)
  refine And.intro (fun g => ?_) (fun g => ?_)
  · (conv=>whnf);repeat((first|refine zD ?_|refine zA ?_|refine zT ?_|refine zF ?_);conv=>whnf)
    refine Exists.intro [] (And.intro List.nodup_nil ?_); ((conv=>whnf);repeat((first|refine zD ?_|refine zA ?_|refine zT ?_|refine zF ?_);conv=>whnf))
    rfl
  have g1 : n = n' := by simpa using g
  (conv=>whnf);repeat((first|refine zD ?_|refine zA ?_|refine zT ?_|refine zF ?_);conv=>whnf)
  refine And.intro (fun g => ?_) (fun g => ?_)
  · (conv=>whnf);repeat((first|refine zD ?_|refine zA ?_|refine zT ?_|refine zF ?_);conv=>whnf)
    refine Exists.intro [] (And.intro List.nodup_nil ?_); ((conv=>whnf);repeat((first|refine zD ?_|refine zA ?_|refine zT ?_|refine zF ?_);conv=>whnf))
    rfl
  have g2 : q = true := by rw [hc] at g; simpa using g
  (conv=>whnf);repeat((first|refine zD ?_|refine zA ?_|refine zT ?_|refine zF ?_);conv=>whnf)
  refine And.intro (fun g => ?_) (fun g => ?_)
  · (conv=>whnf);repeat((first|refine zD ?_|refine zA ?_|refine zT ?_|refine zF ?_);conv=>whnf)
    refine Exists.intro [] (And.intro List.nodup_nil ?_); ((conv=>whnf);repeat((first|refine zD ?_|refine zA ?_|refine zT ?_|refine zF ?_);conv=>whnf))
    rfl
  exfalso
  have g3 : kp.length = kp'.length := by
    have : (kp.length : Int) = kp'.length := by simpa [wV] using g
    omega
  rw [g2] at hq
  rcases h with h | h | h
  · exact h g1
  · exact h (of_decide_eq_true hq)
  · exact h g3
end Go.Proofs.YtikchieadclbhaaGreatDoor.Ab
