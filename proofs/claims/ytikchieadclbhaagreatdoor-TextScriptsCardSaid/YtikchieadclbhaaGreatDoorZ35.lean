/- The document's bytes and cuts. No condition. -/
import Derived.Test.YtikchieadclbhaaGreatDoorZ34
namespace Go.Proofs.YtikchieadclbhaaGreatDoor.Ab
set_option linter.unusedVariables false
set_option linter.unusedSimpArgs false
open Go.RowKit

theorem nib_facts (c : UInt8) : (97 ≤ c.toNat ∧ c.toNat ≤ 102 → iwrap .u8 (iwrap .u8 ((c.toNat : Int) - 97) + 10) = ((nib c).toNat : Int)) ∧ (¬ (97 ≤ c.toNat ∧ c.toNat ≤ 102) → iwrap .u8 ((c.toNat : Int) - 48) = ((nib c).toNat : Int)) := by
  have : ∀ c : UInt8, (97 ≤ c.toNat ∧ c.toNat ≤ 102 → iwrap .u8 (iwrap .u8 ((c.toNat : Int) - 97) + 10) = ((nib c).toNat : Int)) ∧ (¬ (97 ≤ c.toNat ∧ c.toNat ≤ 102) → iwrap .u8 ((c.toNat : Int) - 48) = ((nib c).toNat : Int)) := byte_all (by decide +kernel)
  exact this c
theorem nibbleF (c : UInt8) : Fun Tryz.prog 80 [u8V c.toNat] [] (.v (u8V (nib c).toNat)) := by
  obtain ⟨e1, e2⟩ := nib_facts c
  refine fun_of_vc tabOk mixOk Tryz.func80 rfl (by rfl) (rs := [.tmp 2]) rfl rfl 18 ?_; rw [Tryz.ntmps80]
  (conv=>whnf);repeat((first|refine zD ?_|refine zA ?_|refine zT ?_|refine zF ?_);conv=>whnf)
  refine And.intro (fun q1 => ?_) (fun q1 => ?_)
  · have p1 : 97 ≤ c.toNat := by have := of_decide_eq_true q1; omega
    (conv=>whnf);repeat((first|refine zD ?_|refine zA ?_|refine zT ?_|refine zF ?_);conv=>whnf)
    refine And.intro (fun q2 => ?_) (fun q2 => ?_)
    · have p2 : c.toNat ≤ 102 := by have := of_decide_eq_true q2; omega
      (conv=>whnf);repeat((first|refine zD ?_|refine zA ?_|refine zT ?_|refine zF ?_);conv=>whnf)
      refine Exists.intro [] (And.intro List.nodup_nil ?_); ((conv=>whnf);repeat((first|refine zD ?_|refine zA ?_|refine zT ?_|refine zF ?_);conv=>whnf))
      exact congrArg (fun x => AT.v (.c (.i (.sc (.int .u8 x))))) (e1 ⟨p1, p2⟩)
    · have p2 : ¬ c.toNat ≤ 102 := by have := of_decide_eq_false q2; omega
      (conv=>whnf);repeat((first|refine zD ?_|refine zA ?_|refine zT ?_|refine zF ?_);conv=>whnf)
      refine Exists.intro [] (And.intro List.nodup_nil ?_); ((conv=>whnf);repeat((first|refine zD ?_|refine zA ?_|refine zT ?_|refine zF ?_);conv=>whnf))
      exact congrArg (fun x => AT.v (.c (.i (.sc (.int .u8 x))))) (e2 (fun g => p2 g.2))
  · have p1 : ¬ 97 ≤ c.toNat := by have := of_decide_eq_false q1; omega
    (conv=>whnf);repeat((first|refine zD ?_|refine zA ?_|refine zT ?_|refine zF ?_);conv=>whnf)
    refine Exists.intro [] (And.intro List.nodup_nil ?_); ((conv=>whnf);repeat((first|refine zD ?_|refine zA ?_|refine zT ?_|refine zF ?_);conv=>whnf))
    exact congrArg (fun x => AT.v (.c (.i (.sc (.int .u8 x))))) (e2 (fun g => p1 g.1))
theorem shl4 (c : UInt8) : iwrap .u8 ((c.toNat : Int) * 2 ^ (min (Int.toNat 4) IntKind.u8.bits)) = ((c <<< 4).toNat : Int) := by
  have : ∀ c : UInt8, iwrap .u8 ((c.toNat : Int) * 2 ^ (min (Int.toNat 4) IntKind.u8.bits)) = ((c <<< 4).toNat : Int) := byte_all (by decide +kernel)
  exact this c
theorem and15' (c : UInt8) : IntKind.u8.wrap (((BitVec.ofInt IntKind.u8.bits (c.toNat : Int) &&& BitVec.ofInt IntKind.u8.bits 15).toNat : Nat) : Int) = ((c &&& 15).toNat : Int) := by
  have : ∀ c : UInt8, IntKind.u8.wrap (((BitVec.ofInt IntKind.u8.bits (c.toNat : Int) &&& BitVec.ofInt IntKind.u8.bits 15).toNat : Nat) : Int) = ((c &&& 15).toNat : Int) := byte_all (by decide +kernel)
  exact this c
theorem or8 (a b : UInt8) : IntKind.u8.wrap (((BitVec.ofInt IntKind.u8.bits (a.toNat : Int) ||| BitVec.ofInt IntKind.u8.bits (b.toNat : Int)).toNat : Nat) : Int) = ((a ||| b).toNat : Int) := by
  have e : ∀ c : UInt8, BitVec.ofInt IntKind.u8.bits (c.toNat : Int) = c.toBitVec := fun c => by
    apply BitVec.eq_of_toNat_eq
    have := c.toNat_lt
    show (BitVec.ofInt 8 (c.toNat : Int)).toNat = _
    rw [BitVec.ofInt_natCast, BitVec.toNat_ofNat]
    show c.toNat % 256 = c.toNat
    omega
  rw [e, e]
  show IntKind.u8.wrap (((a ||| b).toNat : Nat) : Int) = _
  rw [iwrap_eq, u8_nat]
  have := (a ||| b).toNat_lt
  omega
theorem rbytes_snoc {l m : List UInt8} {a b : UInt8} {k : Nat} (h : m = l ++ [a, b]) (hl : l.length = 2 * k) : rbytes m = rbytes l ++ [rbyte a b] := by
  subst h
  induction k generalizing l with
  | zero =>
    obtain rfl : l = [] := List.length_eq_zero_iff.1 hl
    rfl
  | succ k ih =>
    match l, hl with
    | x :: y :: l, hl =>
      have := ih (l := l) (by simp at hl; omega)
      show rbyte x y :: rbytes (l ++ [a, b]) = rbyte x y :: rbytes l ++ [rbyte a b]
      rw [this]; rfl
theorem rbytes_odd : ∀ {l : List UInt8} {k : Nat}, 2 * k ≤ l.length → l.length ≤ 2 * k + 1 → rbytes (l.take (2 * k)) = rbytes l
  | l, 0, _, h => by
    match l, h with
    | [], _ => rfl
    | [x], _ => rfl
  | a :: b :: l, k + 1, h1, h2 => by
    have := rbytes_odd (l := l) (k := k) (by simp at h1; omega) (by simp at h2; omega)
    show rbytes ((a :: b :: l).take (2 * k + 2)) = _
    show rbyte a b :: rbytes (l.take (2 * k)) = rbyte a b :: rbytes l
    rw [this]
theorem take_two {l : List UInt8} {i : Nat} (h : i + 1 < l.length) : l.take (i + 2) = l.take i ++ [l[i], l[i + 1]] := by
  show l.take (i + 1 + 1) = _
  rw [take_snoc (i := i + 1) h, take_snoc (i := i) (by omega), List.append_assoc]
  rfl
theorem rbytes_len : ∀ l : List UInt8, (rbytes l).length ≤ l.length
  | [] => by simp [rbytes]
  | [x] => by simp [rbytes]
  | a :: b :: l => by have := rbytes_len l; simp [rbytes]; omega
set_option maxRecDepth 100000 in
set_option maxHeartbeats 16000000 in
theorem bytesR (s : ByteArray) (hs : s.size ≤ 1000000) : Fun Tryz.prog 66 [strV s] [] (.v (strV (sS (rbytes s.data.toList)))) := by
  refine fun_of_vc tabOk mixOk Tryz.func66 rfl (by rfl) (rs := [.tmp 2]) rfl rfl 33 ?_; rw [Tryz.ntmps66]
  (conv=>whnf);repeat((first|refine zD ?_|refine zA ?_|refine zT ?_|refine zF ?_);conv=>whnf)
  refine vc_loop [0] [] (X := Nat) (fun k gs => [(4, .v (i64V ((2 * k : Nat) : Int))), (3, .v (.c (.own 26 (gs 26))))]) (fun k gs => [(26, .row (gs 26) 5 1 (cVb (bI (rbytes (s.data.toList.take (2 * k))))))]) (fun k => 2 * k ≤ s.size) (fun k => s.size - 2 * k) _ (Ghost.ownNil 3 26 5 1 rfl (Nat.le_of_ble_eq_true rfl)) 0 (Nat.zero_le _) ?_ ?_
  · (refine zA (zA ?_));(repeat' (first|exact trivial|with_reducible exact cvB_refl _|exact rfl|apply And.intro))
  intro gs k hk
  have hk : 2 * k ≤ s.size := hk
  have w1 : iwrap .i64 (((2 * k : Nat) : Int) + 1) = ((2 * k + 1 : Nat) : Int) := w64_nat (by omega)
  have w2 : iwrap .i64 (((2 * k : Nat) : Int) + 2) = ((2 * (k + 1) : Nat) : Int) := (w64_in (by omega)).trans (by omega)
  (conv=>whnf);repeat((first|refine zD ?_|refine zA ?_|refine zT ?_|refine zF ?_);conv=>whnf)
  rw [w1]
  refine And.intro (fun h => ?_) (fun h => ?_)
  · have hlt : 2 * k + 1 < s.size := d_lt h
    have h2k : 2 * k < s.data.toList.length := Nat.lt_of_succ_lt hlt
    have h2k1 : 2 * k + 1 < s.data.toList.length := hlt
    have hc : s[2 * k]? = some s.data.toList[2 * k] := by rw [sget_eq]; exact List.getElem?_eq_getElem (show 2 * k < s.data.toList.length from by show 2 * k < s.size; omega)
    have hd : s[2 * k + 1]? = some s.data.toList[2 * k + 1] := by rw [sget_eq]; exact List.getElem?_eq_getElem (show 2 * k + 1 < s.data.toList.length from hlt)
    have htk := take_two (l := s.data.toList) (i := 2 * k) hlt
    have hli : (s.data.toList.take (2 * k)).length = 2 * k := by rw [List.length_take]; exact Nat.min_eq_left hk
    have hx := rbytes_snoc htk hli
    have hl := rbytes_len (s.data.toList.take (2 * k))
    rw [hli] at hl
    generalize s.data.toList[2 * k] = a at hc hx
    generalize s.data.toList[2 * k + 1] = b at hd hx
    generalize rbytes (s.data.toList.take (2 * k)) = X at hx hl ⊢
    have n1 := nibbleF a
    have n2 := nibbleF b
    have e1 := shl4 (nib a)
    have e2 := and15' (nib b)
    have e3 := or8 (nib a <<< 4) (nib b &&& 15)
    (conv=>whnf);repeat((first|refine zD ?_|refine zA ?_|refine zT ?_|refine zF ?_);conv=>whnf)
    refine ⟨by omega, a, hc, ?_⟩
    (conv=>whnf);repeat((first|refine zD ?_|refine zA ?_|refine zT ?_|refine zF ?_);conv=>whnf)
    refine ⟨_, _, n1, ?_⟩
    (conv=>whnf);repeat((first|refine zD ?_|refine zA ?_|refine zT ?_|refine zF ?_);conv=>whnf)
    refine ⟨by decide, ?_⟩
    (conv=>whnf);repeat((first|refine zD ?_|refine zA ?_|refine zT ?_|refine zF ?_);conv=>whnf)
    rw [e1, w1]
    refine ⟨by omega, b, hd, ?_⟩
    (conv=>whnf);repeat((first|refine zD ?_|refine zA ?_|refine zT ?_|refine zF ?_);conv=>whnf)
    refine ⟨_, _, n2, ?_⟩
    (conv=>whnf);repeat((first|refine zD ?_|refine zA ?_|refine zT ?_|refine zF ?_);conv=>whnf)
    rw [e2, e3]
    refine ⟨cVb_sz [_], ?_⟩
    (conv=>whnf);repeat((first|refine zD ?_|refine zA ?_|refine zT ?_|refine zF ?_);conv=>whnf)
    refine ⟨bytes_le (by decide) (by simp [cVb, bI]; omega), ?_⟩
    (conv=>whnf);repeat((first|refine zD ?_|refine zA ?_|refine zT ?_|refine zF ?_);conv=>whnf)
    refine again (k + 1) (by show 2 * (k + 1) ≤ s.size; omega) (by show s.size - 2 * (k + 1) < s.size - 2 * k; omega) ?_
    (refine zA (zA ?_));(repeat' (first|exact trivial|with_reducible exact cvB_refl _|exact rfl|apply And.intro))
    all_goals first
      | exact congrArg (Value.int .i64) w2
      | exact congrArg (Blk.row _ _ _) ((cApp X [_]).trans (congrArg (fun l => cVb (bI l)) hx.symm))
  · have hge : ¬ 2 * k + 1 < s.size := by have := of_decide_eq_false h; omega
    have e := rbytes_odd (l := s.data.toList) (k := k) hk (by show s.size ≤ 2 * k + 1; omega)
    rw [e]
    have hb := bI_str (rbytes s.data.toList)
    (conv=>whnf);repeat((first|refine zD ?_|refine zA ?_|refine zT ?_|refine zF ?_);conv=>whnf)
    refine ⟨_, rfl, ?_⟩
    (conv=>whnf);repeat((first|refine zD ?_|refine zA ?_|refine zT ?_|refine zF ?_);conv=>whnf)
    rw [hb]
    refine Exists.intro [] (And.intro List.nodup_nil ?_); ((conv=>whnf);repeat((first|refine zD ?_|refine zA ?_|refine zT ?_|refine zF ?_);conv=>whnf))
    rfl
/-! ### Cuts -/
theorem mid_eq {w : List UInt8} {a i : Nat} : (w.drop a).take (i - a) = (w.take i).drop a := List.drop_take.symm
theorem cut_hit {w : List UInt8} {c : UInt8} {a i : Nat} (h : a ≤ i) (hi : i < w.length) (hn : c ∉ (w.take i).drop a) (hc : w[i] = c) : spl c (w.drop a) = (w.take i).drop a :: spl c (w.drop (i + 1)) := by
  have e : w.drop a = (w.take i).drop a ++ c :: w.drop (i + 1) := by
    have h1 : w = w.take i ++ w[i] :: w.drop (i + 1) := by rw [List.getElem_cons_drop, List.take_append_drop]
    rw [hc] at h1
    have h2 := congrArg (List.drop a) h1
    rw [List.drop_append_of_le_length (by rw [List.length_take]; omega)] at h2
    exact h2
  rw [e]
  exact spl_app hn
theorem cut_end {w : List UInt8} {c : UInt8} {a : Nat} (hn : c ∉ (w.take w.length).drop a) : spl c (w.drop a) = [(w.take w.length).drop a] := by
  rw [List.take_length] at hn ⊢
  exact spl_word hn
theorem cut_miss {w : List UInt8} {c : UInt8} {a i : Nat} (h : a ≤ i) (hi : i < w.length) (hn : c ∉ (w.take i).drop a) (hc : ¬ w[i] = c) : c ∉ (w.take (i + 1)).drop a := by
  rw [take_snoc hi, List.drop_append_of_le_length (by rw [List.length_take]; omega)]
  intro g
  rcases List.mem_append.1 g with g | g
  · exact hn g
  · exact hc (List.mem_singleton.1 g).symm
theorem cut_all {c : UInt8} {s : ByteArray} {out : List ByteArray} (h : spl c s.data.toList = out.map (·.data.toList)) : out = pcs c s := by
  rw [← pcs_spl] at h
  exact ((List.map_inj_right (fun a b h => sL_inj h)).1 h).symm
set_option maxRecDepth 100000 in
set_option maxHeartbeats 16000000 in
theorem cutF (c : UInt8) (s : ByteArray) (hs : s.size ≤ 1000000) : Fun Tryz.prog 47 [strV s, u8V c.toNat] [.row 0 9 1 (sV (pcs c s))] (.v (.c (.own 0 0))) := by
  have hll : s.data.toList.length = s.size := rfl
  have hall : ∀ out, spl c s.data.toList = out.map (·.data.toList) → out = pcs c s := fun out h => cut_all h
  have hx : ∀ a i, (s.extract a i).data.toList = (s.data.toList.take i).drop a := fun a i => sL_extract s a i
  generalize pcs c s = P at hall ⊢
  have hst : ∀ (i a : Nat) (out : List ByteArray), i < s.size → a ≤ i → spl c s.data.toList = out.map (·.data.toList) ++ spl c (s.data.toList.drop a) → c ∉ (s.data.toList.take i).drop a → ∃ d : UInt8, s[i]? = some d ∧ (d = c → spl c s.data.toList = (out ++ [s.extract a i]).map (·.data.toList) ++ spl c (s.data.toList.drop (i + 1))) ∧ (¬ d = c → c ∉ (s.data.toList.take (i + 1)).drop a) := by
    intro i a out hi ha he hn
    have hi' : i < s.data.toList.length := hi
    refine ⟨s.data.toList[i], by rw [sget_eq]; exact List.getElem?_eq_getElem hi', fun hd => ?_, fun hd => cut_miss ha hi' hn hd⟩
    rw [he, cut_hit ha hi' hn hd]
    simp only [List.map_append, List.map_cons, List.map_nil, hx, List.append_assoc, List.cons_append, List.nil_append]
  have hen : ∀ (a : Nat) (out : List ByteArray), a ≤ s.size → spl c s.data.toList = out.map (·.data.toList) ++ spl c (s.data.toList.drop a) → c ∉ (s.data.toList.take s.size).drop a → spl c s.data.toList = (out ++ [s.extract a s.size]).map (·.data.toList) := by
    intro a out ha he hn
    have hn' : c ∉ (s.data.toList.take s.data.toList.length).drop a := hn
    rw [he, cut_end hn', List.map_append]
    simp only [List.map_cons, List.map_nil, hx]
    rfl
  have hz : c ∉ (s.data.toList.take 0).drop 0 := by simp
  generalize hq : spl c s.data.toList = Q at hall hst hen
  have hQ : Q = ([] : List ByteArray).map (·.data.toList) ++ spl c (s.data.toList.drop 0) := by rw [← hq]; rfl
  clear hq hx
  refine fun_of_vc tabOk mixOk Tryz.func47 rfl (by rfl) (rs := [.tmp 4]) rfl rfl 39 ?_; rw [Tryz.ntmps47]
  (conv=>whnf);repeat((first|refine zD ?_|refine zA ?_|refine zT ?_|refine zF ?_);conv=>whnf)
  refine vc_loop [0, 1] [] (X := Nat × Nat × List ByteArray) (fun x gs => [(7, ATint x.1), (6, ATint x.2.1), (5, .v (.c (.own 31 (gs 31))))]) (fun x gs => [(31, .row (gs 31) 9 1 (sV x.2.2))]) (fun x => x.1 ≤ s.size + 1 ∧ x.2.1 ≤ x.1 ∧ x.2.2.length ≤ x.1 ∧ (x.1 ≤ s.size → Q = x.2.2.map (·.data.toList) ++ spl c (s.data.toList.drop x.2.1) ∧ c ∉ (s.data.toList.take x.1).drop x.2.1) ∧ (x.1 = s.size + 1 → Q = x.2.2.map (·.data.toList))) (fun x => s.size + 1 - x.1) _ (Ghost.ownNil 5 31 9 1 rfl (Nat.le_of_ble_eq_true rfl)) (0, 0, []) ⟨Nat.zero_le _, Nat.le_refl _, Nat.le_refl _, fun _ => ⟨hQ, hz⟩, fun h => by dsimp only at h; omega⟩ ?_ ?_
  · (refine zA (zA ?_));(repeat' (first|exact trivial|with_reducible exact cvB_refl _|exact rfl|apply And.intro))
  clear hQ hz
  rintro gs ⟨i, a, out⟩ ⟨h1, h2, h3, h4, h5⟩
  dsimp only at h1 h2 h3 h4 h5
  have w1 := w64_nat (k := i) (by omega)
  (conv=>whnf);repeat((first|refine zD ?_|refine zA ?_|refine zT ?_|refine zF ?_);conv=>whnf)
  refine And.intro (fun h => ?_) (fun h => ?_)
  · have hle : i ≤ s.size := by have := of_decide_eq_true h; omega
    obtain ⟨g4, g6⟩ := h4 hle
    clear h5 h h4
    have hb : (sV out).length + (sV [s.extract a i]).length ≤ 2000000 := by simp [sV]; omega
    (conv=>whnf);repeat((first|refine zD ?_|refine zA ?_|refine zT ?_|refine zF ?_);conv=>whnf)
    refine And.intro (fun h => ?_) (fun h => ?_)
    · obtain rfl : i = s.size := by
        have : (i : Int) = s.size := by simpa only [beq_iff_eq] using h
        omega
      have hen := hen a out h2 g4 g6
      clear hst
      (conv=>whnf);repeat((first|refine zD ?_|refine zA ?_|refine zT ?_|refine zF ?_);conv=>whnf)
      refine ⟨Int.natCast_nonneg _, Int.ofNat_le.2 h2, Int.ofNat_le.2 hle, ?_⟩
      (conv=>whnf);repeat((first|refine zD ?_|refine zA ?_|refine zT ?_|refine zF ?_);conv=>whnf)
      refine ⟨sSz [s.extract a s.size], ?_⟩
      (conv=>whnf);repeat((first|refine zD ?_|refine zA ?_|refine zT ?_|refine zF ?_);conv=>whnf)
      refine ⟨bytes_le (by decide) hb, ?_⟩
      (conv=>whnf);repeat((first|refine zD ?_|refine zA ?_|refine zT ?_|refine zF ?_);conv=>whnf)
      refine again (s.size + 1, s.size + 1, out ++ [s.extract a s.size]) ⟨Nat.le_refl _, Nat.le_refl _, by simp; omega, fun h => by dsimp only at h; omega, fun _ => hen⟩ (by dsimp only; omega) ?_
      (refine zA (zA ?_));(repeat' (first|exact trivial|with_reducible exact cvB_refl _|exact rfl|apply And.intro))
      all_goals first
        | exact congrArg (Value.int .i64) w1
        | exact congrArg (Blk.row _ _ _) (sApp _ [_])
    · have hlt : i < s.size := by
        have : ¬ (i : Int) = s.size := by simpa only [beq_eq_false_iff_ne] using h
        omega
      obtain ⟨d, hd, d1, d2⟩ := hst i a out hlt h2 g4 g6
      clear hst hen
      (conv=>whnf);repeat((first|refine zD ?_|refine zA ?_|refine zT ?_|refine zF ?_);conv=>whnf)
      refine ⟨by omega, d, hd, ?_⟩
      (conv=>whnf);repeat((first|refine zD ?_|refine zA ?_|refine zT ?_|refine zF ?_);conv=>whnf)
      refine And.intro (fun h => ?_) (fun h => ?_)
      · have hdc : d = c := by
          have : ((d.toNat : Nat) : Int) = c.toNat := by simpa only [beq_iff_eq] using h
          exact UInt8.toNat.inj (by omega)
        have d1 := d1 hdc
        (conv=>whnf);repeat((first|refine zD ?_|refine zA ?_|refine zT ?_|refine zF ?_);conv=>whnf)
        refine ⟨Int.natCast_nonneg _, Int.ofNat_le.2 h2, Int.ofNat_le.2 hle, ?_⟩
        (conv=>whnf);repeat((first|refine zD ?_|refine zA ?_|refine zT ?_|refine zF ?_);conv=>whnf)
        refine ⟨sSz [s.extract a i], ?_⟩
        (conv=>whnf);repeat((first|refine zD ?_|refine zA ?_|refine zT ?_|refine zF ?_);conv=>whnf)
        refine ⟨bytes_le (by decide) hb, ?_⟩
        (conv=>whnf);repeat((first|refine zD ?_|refine zA ?_|refine zT ?_|refine zF ?_);conv=>whnf)
        refine again (i + 1, i + 1, out ++ [s.extract a i]) ⟨by dsimp only; omega, Nat.le_refl _, by simp; omega, fun _ => ⟨d1, by simp⟩, fun h => by dsimp only at h; omega⟩ (by dsimp only; omega) ?_
        (refine zA (zA ?_));(repeat' (first|exact trivial|with_reducible exact cvB_refl _|exact rfl|apply And.intro))
        all_goals first
          | exact congrArg (Value.int .i64) w1
          | exact congrArg (Blk.row _ _ _) (sApp _ [_])
      · have hdc : ¬ d = c := by
          have : ¬ ((d.toNat : Nat) : Int) = c.toNat := by simpa only [beq_eq_false_iff_ne] using h
          exact fun e => this (by rw [e])
        have d2 := d2 hdc
        (conv=>whnf);repeat((first|refine zD ?_|refine zA ?_|refine zT ?_|refine zF ?_);conv=>whnf)
        refine again (i + 1, a, out) ⟨by dsimp only; omega, by dsimp only; omega, by dsimp only; omega, fun _ => ⟨g4, d2⟩, fun h => by dsimp only at h; omega⟩ (by dsimp only; omega) ?_
        (refine zA (zA ?_));(repeat' (first|exact trivial|with_reducible exact cvB_refl _|exact rfl|apply And.intro))
        all_goals exact congrArg (Value.int .i64) w1
  · obtain rfl : i = s.size + 1 := by have := of_decide_eq_false h; omega
    obtain rfl := hall _ (h5 rfl)
    (conv=>whnf);repeat((first|refine zD ?_|refine zA ?_|refine zT ?_|refine zF ?_);conv=>whnf)
    refine ⟨[31], by simp, ?_⟩
    (conv=>whnf);repeat((first|refine zD ?_|refine zA ?_|refine zT ?_|refine zF ?_);conv=>whnf)
    rfl
end Go.Proofs.YtikchieadclbhaaGreatDoor.Ab
