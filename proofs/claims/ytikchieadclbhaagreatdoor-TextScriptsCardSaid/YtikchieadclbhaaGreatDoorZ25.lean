/- Numbers as bytes: Get and Pad of both; the example. -/
import Derived.Test.YtikchieadclbhaaGreatDoorZ24
import Derived.Test.YtikchieadclbhaaGreatDoorZ22
import Derived.Test.YtikchieadclbhaaGreatDoorZ01
namespace Go.Proofs.YtikchieadclbhaaGreatDoor.Ab
set_option linter.unusedVariables false
set_option linter.unusedSimpArgs false
open Go.RowKit

def slV (es : List (List IV)) : AV := .c (.i (.sl es))
def i64V (n : Int) : AV := .c (.i (.sc (.int .i64 n)))
def bV (b : Bool) : AV := .c (.i (.sc (.bool b)))
theorem bytes_le {l b : Nat} (hb : b ≤ 1000) (hl : l ≤ 2000000) : l * b ≤ 140737488355328 := Nat.le_trans (Nat.mul_le_mul hl hb) (by decide)
def wV (ws : List Int) : List (List IV) := ws.map fun s => [.sc (.int .i64 s)]
theorem wItem {ws : List Int} {k : Nat} (h : k < ws.length) : (wV ws)[((k : Int)).toNat]? = some [.sc (.int .i64 ws[k])] := by simp [wV, h]
theorem wSz (ws : List Int) : ∀ z ∈ wV ws, z.length = (tab 3).size := by
  intro z hz
  obtain ⟨x, _, rfl⟩ := List.mem_map.1 hz
  rfl
theorem wset (ws : List Int) (k : Nat) (o : Int) : (wV ws).set ((k : Int)).toNat [.sc (.int .i64 o)] = wV (ws.set k o) := by simp [wV, List.map_set]


theorem three {argv : Array Value} {a b c : AV} {u v w' : Value} {w : World} {ok : Nat → Prop} {σ : Nat → Nat → Value} {G : Nat → Nat} (h1 : RepV w ok σ G a u) (h2 : RepV w ok σ G b v) (h3 : RepV w ok σ G c w') :
    ∀ (j : Nat) (z : Value) (x : AV), (#[u, v, w'] : Array Value)[j]? = some z → [a, b, c][j]? = some x → RepV w ok σ G x z := by
  intro j z x hz hx
  match j with
  | 0 => simp at hz hx; subst hz hx; exact h1
  | 1 => simp at hz hx; subst hz hx; exact h2
  | 2 => simp at hz hx; subst hz hx; exact h3
  | j + 3 => simp at hx
theorem two {a b : AV} {u v : Value} {w : World} {ok : Nat → Prop} {σ : Nat → Nat → Value} {G : Nat → Nat} (h1 : RepV w ok σ G a u) (h2 : RepV w ok σ G b v) :
    ∀ (j : Nat) (z : Value) (x : AV), (#[u, v] : Array Value)[j]? = some z → [a, b][j]? = some x → RepV w ok σ G x z := by
  intro j z x hz hx
  match j with
  | 0 => simp at hz hx; subst hz hx; exact h1
  | 1 => simp at hz hx; subst hz hx; exact h2
  | j + 2 => simp at hx
theorem ints_of {d : Nat} (es : List (List IV)) (h : ∀ r ∈ es, ShI tab (d + 1) 3 r) : ∃ xs : List Int, es = wV xs := by
  induction es with
  | nil => exact ⟨[], rfl⟩
  | cons e es ih =>
    obtain ⟨xs, rfl⟩ := ih (fun r hr => h r (List.mem_cons_of_mem _ hr))
    obtain ⟨n, rfl, _⟩ := h e List.mem_cons_self
    exact ⟨n :: xs, rfl⟩

theorem bI8 {t : Nat} (h : tab t = ⟨(tab t).k, 1, 8, (tab t).zero, (tab t).eq⟩) : (tab t).bytes = 8 := by rw [h]
/-- Lists of bytes. -/
def cV (ws : List Int) : List (List IV) := ws.map fun s => [.sc (.int .u8 s)]
theorem cItem {ws : List Int} {k : Nat} (h : k < ws.length) : (cV ws)[((k : Int)).toNat]? = some [.sc (.int .u8 ws[k])] := by simp [cV, h]
theorem u8s_of {d : Nat} (es : List (List IV)) (h : ∀ r ∈ es, ShI tab (d + 1) 5 r) : ∃ xs : List Int, es = cV xs ∧ ∀ x ∈ xs, 0 ≤ x ∧ x ≤ 255 := by
  induction es with
  | nil => exact ⟨[], rfl, fun x hx => by cases hx⟩
  | cons e es ih =>
    obtain ⟨xs, rfl, hxs⟩ := ih (fun r hr => h r (List.mem_cons_of_mem _ hr))
    obtain ⟨n, rfl, hw⟩ := h e List.mem_cons_self
    exact ⟨n :: xs, rfl, fun x hx => by
      rcases List.mem_cons.1 hx with rfl | hx
      · exact bounds_u8 hw
      · exact hxs x hx⟩
end Go.Proofs.YtikchieadclbhaaGreatDoor.Ab
namespace Go.Proofs.YtikchieadclbhaaGreatDoor.Ab
set_option linter.unusedVariables false
set_option linter.unusedSimpArgs false
open Go.RowKit

def dmod (x n : Int) : Int := if n < 1 then 0 else (iwrap .i64 (x.tmod n + n)).tmod n
theorem dmod_in {x n : Int} (h : 1 ≤ n) (h2 : n ≤ 1099511627776) : 0 ≤ dmod x n ∧ dmod x n < n := by
  unfold dmod
  rw [if_neg (by omega)]
  have h3 : x.tmod n < n := Int.tmod_lt_of_pos _ (by omega)
  have h4 : -n < x.tmod n := by
    have := Int.tmod_lt_of_pos (-x) (b := n) (by omega)
    rw [Int.neg_tmod] at this
    omega
  rw [show iwrap .i64 (x.tmod n + n) = x.tmod n + n from w64_in (by omega)]
  exact ⟨Int.tmod_nonneg _ (by omega), Int.tmod_lt_of_pos _ (by omega)⟩
def dcs (L : List Int) (k : Nat) : List AV1 := [.i (.sl (wV L)), .i (.sc (.int .i64 k))]
def dnx (L : List Int) (k : Nat) : Nat := if k < L.length then k + 1 else k
def dval (L : List Int) (k : Nat) (n : Int) : Int := match L[k]? with | some x => dmod x n | none => 0
theorem dval_in (L : List Int) (k : Nat) {n : Int} (h : 1 ≤ n) (h2 : n ≤ 1099511627776) : 0 ≤ dval L k n ∧ dval L k n < n := by
  unfold dval
  split
  · exact dmod_in h h2
  · omega
theorem dnx_le {L : List Int} {k : Nat} (h : k ≤ L.length) : dnx L k ≤ L.length := by unfold dnx; split <;> omega

set_option maxRecDepth 100000 in
set_option maxHeartbeats 4000000 in
theorem modF (x n : Int) : Fun Tryz.prog 13 [i64V x, i64V n] [] (.v (i64V (dmod x n))) := by
  refine fun_of_vc tabOk mixOk Tryz.func13 rfl (by rfl) (rs := [.tmp 4]) rfl rfl 18 ?_; rw [Tryz.ntmps13]
  (conv=>whnf);repeat((first|refine zD ?_|refine zA ?_|refine zT ?_|refine zF ?_);conv=>whnf)
  refine And.intro (fun h1 => ?_) (fun h1 => ?_)
  · have h1' := of_decide_eq_true h1
    (conv=>whnf);repeat((first|refine zD ?_|refine zA ?_|refine zT ?_|refine zF ?_);conv=>whnf)
    refine Exists.intro [] (And.intro List.nodup_nil ?_); ((conv=>whnf);repeat((first|refine zD ?_|refine zA ?_|refine zT ?_|refine zF ?_);conv=>whnf))
    unfold dmod; rw [if_pos h1']; rfl
  · have h1' := of_decide_eq_false h1
    (conv=>whnf);repeat((first|refine zD ?_|refine zA ?_|refine zT ?_|refine zF ?_);conv=>whnf)
    refine ⟨by omega, ?_⟩
    (conv=>whnf);repeat((first|refine zD ?_|refine zA ?_|refine zT ?_|refine zF ?_);conv=>whnf)
    refine ⟨by omega, ?_⟩
    (conv=>whnf);repeat((first|refine zD ?_|refine zA ?_|refine zT ?_|refine zF ?_);conv=>whnf)
    refine Exists.intro [] (And.intro List.nodup_nil ?_); ((conv=>whnf);repeat((first|refine zD ?_|refine zA ?_|refine zT ?_|refine zF ?_);conv=>whnf))
    unfold dmod; rw [if_neg h1']; rfl

set_option maxRecDepth 100000 in
set_option maxHeartbeats 4000000 in
theorem lightF (ws : List Int) (hl : ws.length ≤ 140737488355328) : Fun Tryz.prog 4 [slV (wV ws)] [] (ATbool (decide (ws.length ≤ 300))) := by
  refine fun_of_vc tabOk mixOk Tryz.func4 rfl (by rfl) (rs := [.tmp 2]) rfl rfl 10 ?_; rw [Tryz.ntmps4]
  (conv=>whnf);repeat((first|refine zD ?_|refine zA ?_|refine zT ?_|refine zF ?_);conv=>whnf)
  refine Exists.intro [] (And.intro List.nodup_nil ?_); ((conv=>whnf);repeat((first|refine zD ?_|refine zA ?_|refine zT ?_|refine zF ?_);conv=>whnf))
  have e : decide (((wV ws).length : Int) ≤ 300) = decide (ws.length ≤ 300) := by rw [decide_eq_decide, wV, List.length_map]; omega
  exact congrArg ATbool e

set_option maxRecDepth 100000 in
set_option maxHeartbeats 4000000 in
theorem rollF (ws : List Int) (hl : ws.length ≤ 1000000) : Fun Tryz.prog 6 [slV (wV ws)] [.var 0 (dcs ws 0)] (.v (.c (.ptr 0 0 0))) := by
  refine fun_of_vc tabOk mixOk Tryz.func6 rfl (by rfl) (rs := [.tmp 2]) rfl rfl 12 ?_; rw [Tryz.ntmps6]
  (conv=>whnf);repeat((first|refine zD ?_|refine zA ?_|refine zT ?_|refine zF ?_);conv=>whnf)
  refine ⟨wSz _, ?_⟩
  (conv=>whnf);repeat((first|refine zD ?_|refine zA ?_|refine zT ?_|refine zF ?_);conv=>whnf)
  refine ⟨bytes_le (by decide) (by simp [wV]; omega), ?_⟩
  (conv=>whnf);repeat((first|refine zD ?_|refine zA ?_|refine zT ?_|refine zF ?_);conv=>whnf)
  refine ⟨[7], by simp, ?_⟩
  (conv=>whnf);repeat((first|refine zD ?_|refine zA ?_|refine zT ?_|refine zF ?_);conv=>whnf)
  rfl

set_option maxRecDepth 100000 in
set_option maxHeartbeats 4000000 in
theorem nextF (L : List Int) (k : Nat) (n : Int) (hl : L.length ≤ 1000000) : FunP Tryz.prog 17 (dcs L k) [i64V n] (dcs L (dnx L k)) (.v (i64V (dval L k n))) := by
  by_cases hk : k < L.length
  · have e1 : dnx L k = k + 1 := by unfold dnx; rw [if_pos hk]
    have e2 : dval L k n = dmod L[k] n := by unfold dval; rw [List.getElem?_eq_getElem hk]
    rw [e1, e2]
    have hw : iwrap .i64 ((k : Int) + 1) = ((k + 1 : Nat) : Int) := (w64_in (by omega)).trans (by omega)
    have hw2 : iwrap .i64 (((k + 1 : Nat) : Int) - 1) = (k : Int) := (w64_in (by omega)).trans (by omega)
    refine funP_of_vc tabOk mixOk Tryz.func17 rfl (by rfl) (rs := [.tmp 4]) rfl rfl rfl rfl rfl 39 ?_; rw [Tryz.ntmps17]
    (conv=>whnf);repeat((first|refine zD ?_|refine zA ?_|refine zT ?_|refine zF ?_);conv=>whnf)
    refine And.intro (fun h1 => ?_) (fun h1 => ?_)
    · have h1' := of_decide_eq_true h1
      simp only [wV, List.length_map] at h1'
      omega
    · (conv=>whnf);repeat((first|refine zD ?_|refine zA ?_|refine zT ?_|refine zF ?_);conv=>whnf)
      refine ⟨by rw [hw, hw2]; omega, _, (by rw [hw, hw2]; exact wItem hk), rfl, ?_⟩
      (conv=>whnf);repeat((first|refine zD ?_|refine zA ?_|refine zT ?_|refine zF ?_);conv=>whnf)
      refine ⟨_, _, modF _ _, ?_⟩
      (conv=>whnf);repeat((first|refine zD ?_|refine zA ?_|refine zT ?_|refine zF ?_);conv=>whnf)
      rw [hw]; exact ⟨rfl, rfl⟩
  · have e1 : dnx L k = k := by unfold dnx; rw [if_neg hk]
    have e2 : dval L k n = 0 := by unfold dval; rw [List.getElem?_eq_none (by omega)]
    rw [e1, e2]
    refine funP_of_vc tabOk mixOk Tryz.func17 rfl (by rfl) (rs := [.tmp 4]) rfl rfl rfl rfl rfl 39 ?_; rw [Tryz.ntmps17]
    (conv=>whnf);repeat((first|refine zD ?_|refine zA ?_|refine zT ?_|refine zF ?_);conv=>whnf)
    refine And.intro (fun h1 => ?_) (fun h1 => ?_)
    · (conv=>whnf);repeat((first|refine zD ?_|refine zA ?_|refine zT ?_|refine zF ?_);conv=>whnf)
      rfl
    · have h1' := of_decide_eq_false h1
      simp only [wV, List.length_map] at h1'
      omega

set_option maxRecDepth 100000 in
set_option maxHeartbeats 4000000 in
theorem restF (L : List Int) (k : Nat) (hl : L.length ≤ 1000000) (hk : k ≤ L.length) : FunP Tryz.prog 18 (dcs L k) [] (dcs L k) (.v (i64V (L.length - k))) := by
  refine funP_of_vc tabOk mixOk Tryz.func18 rfl (by rfl) (rs := [.tmp 2]) rfl rfl rfl rfl rfl 18 ?_; rw [Tryz.ntmps18]
  (conv=>whnf);repeat((first|refine zD ?_|refine zA ?_|refine zT ?_|refine zF ?_);conv=>whnf)
  have hw : iwrap .i64 (((wV L).length : Int) - k) = (L.length : Int) - k := (w64_in (by simp [wV]; omega)).trans (by simp [wV])
  rw [hw]
  by_cases h : (L.length : Int) - k > 0
  · rw [if_pos h]; rfl
  · rw [if_neg h, show (L.length : Int) - k = 0 by omega]; rfl
end Go.Proofs.YtikchieadclbhaaGreatDoor.Ab
namespace Go.Proofs.YtikchieadclbhaaGreatDoor.Ab
set_option linter.unusedVariables false
set_option linter.unusedSimpArgs false
open Go.RowKit

def strV (s : ByteArray) : AV := .c (.i (.sc (.string s)))
def sS (l : List UInt8) : ByteArray := ⟨l.toArray⟩
def sL (s : ByteArray) : List UInt8 := s.data.toList
theorem sL_S (l : List UInt8) : sL (sS l) = l := rfl
theorem sS_L (s : ByteArray) : sS (sL s) = s := rfl
theorem sS_inj {a b : List UInt8} (h : sS a = sS b) : a = b := by have := congrArg sL h; exact this
theorem sL_inj {a b : ByteArray} (h : sL a = sL b) : a = b := by rw [← sS_L a, ← sS_L b, h]
theorem sS_size (l : List UInt8) : (sS l).size = l.length := rfl
theorem sL_len (s : ByteArray) : (sL s).length = s.size := rfl
theorem sL_append (a b : ByteArray) : sL (a ++ b) = sL a ++ sL b := by
  show (a ++ b).data.toList = _
  rw [ByteArray.data_append, Array.toList_append]; rfl
theorem sS_append (a b : List UInt8) : sS a ++ sS b = sS (a ++ b) := sL_inj (by rw [sL_append]; rfl)
theorem toList_eq (s : ByteArray) : s.toList = sL s := Lib.toList_data s
theorem sget_eq (s : ByteArray) (i : Nat) : s[i]? = (sL s)[i]? := by
  by_cases h : i < s.size
  · rw [getElem?_pos s i h, List.getElem?_eq_getElem (show i < (sL s).length from h)]
    rfl
  · rw [getElem?_neg s i h, List.getElem?_eq_none (show (sL s).length ≤ i from Nat.le_of_not_lt h)]
theorem sL_extract (s : ByteArray) (i j : Nat) : sL (s.extract i j) = ((sL s).take j).drop i := by
  show (s.extract i j).data.toList = _
  rw [ByteArray.data_extract, Array.toList_extract]
  show List.extract s.data.toList i j = _
  rw [List.extract_eq_take_drop]
  show _ = (s.data.toList.take j).drop i
  rw [List.drop_take]
theorem bytesStr_eq (ws : List Int) : bytesStr ws = sS (ws.map fun n => UInt8.ofNat n.toNat) := rfl
def catS (xs : List ByteArray) : ByteArray := sS (xs.map sL).flatten
theorem join_nil (ls : List (List UInt8)) : Lib.join ls [] = ls.flatten := by
  show (ls.intersperse []).flatten = ls.flatten
  induction ls with
  | nil => rfl
  | cons a ls ih =>
    cases ls with
    | nil => rfl
    | cons b ls => simp only [List.intersperse, List.flatten_cons, List.nil_append] at ih ⊢; rw [ih]
def sV (ss : List ByteArray) : List (List IV) := ss.map fun s => [.sc (.string s)]
theorem sLen (ss : List ByteArray) : (sV ss).length = ss.length := by simp [sV]
theorem sSz (ss : List ByteArray) : ∀ z ∈ sV ss, z.length = (tab 9).size := by
  intro z hz
  obtain ⟨x, _, rfl⟩ := List.mem_map.1 hz
  rfl
theorem sItem {ss : List ByteArray} {k : Nat} (h : k < ss.length) : (sV ss)[((k : Int)).toNat]? = some [.sc (.string ss[k])] := by simp [sV, h]

/-- The bytes of a number, the lowest one first. -/
def putB (n k : Nat) : List UInt8 := (List.range k).map fun i => UInt8.ofNat (n / 256 ^ i)
theorem putB_len (n k : Nat) : (putB n k).length = k := by simp [putB]
def getN : List UInt8 → Nat
  | [] => 0
  | c :: l => c.toNat + 256 * getN l
theorem putB_succ (n k : Nat) : putB n (k + 1) = UInt8.ofNat n :: putB (n / 256) k := by
  simp only [putB, List.range_succ_eq_map, List.map_cons, List.map_map, Nat.pow_zero, Nat.div_one]
  congr 1
  apply List.map_congr_left
  intro i _
  simp only [Function.comp]
  rw [Nat.pow_succ, Nat.mul_comm, Nat.div_div_eq_div_mul]
theorem getN_putB (k : Nat) : ∀ n, n < 256 ^ k → getN (putB n k) = n := by
  induction k with
  | zero => intro n h; simp at h; subst h; rfl
  | succ k ih =>
    intro n h
    rw [putB_succ, getN, ih (n / 256) (by rw [Nat.pow_succ] at h; exact Nat.div_lt_of_lt_mul (by rw [Nat.mul_comm]; exact h))]
    have : (UInt8.ofNat n).toNat = n % 256 := by simp
    rw [this]
    omega
theorem getN_lt (l : List UInt8) : getN l < 256 ^ l.length := by
  induction l with
  | nil => decide
  | cons c l ih =>
    have := c.toNat_lt
    rw [getN, List.length_cons, Nat.pow_succ]
    omega
theorem putB_getN (l : List UInt8) : putB (getN l) l.length = l := by
  induction l with
  | nil => rfl
  | cons c l ih =>
    rw [List.length_cons, putB_succ, getN]
    have hc := c.toNat_lt
    have e1 : (c.toNat + 256 * getN l) / 256 = getN l := by omega
    have e2 : UInt8.ofNat (c.toNat + 256 * getN l) = c := by
      apply UInt8.toNat.inj
      simp
    rw [e1, e2, ih]
theorem putB_inj {n m k : Nat} (hn : n < 256 ^ k) (hm : m < 256 ^ k) (h : putB n k = putB m k) : n = m := by
  rw [← getN_putB k n hn, ← getN_putB k m hm, h]
theorem putB_get {n k i : Nat} (h : i < k) : (putB n k)[i]'(by rw [putB_len]; exact h) = UInt8.ofNat (n / 256 ^ i) := by simp [putB]

theorem pow8 (i : Nat) : (2 : Int) ^ (8 * i) = ((256 ^ i : Nat) : Int) := by
  rw [Int.pow_mul]
  have : ((2 : Int) ^ 8) = 256 := by decide
  rw [this]
  simp
theorem shr_nat (n i : Nat) : ((n : Int)).fdiv (2 ^ (8 * i)) = ((n / 256 ^ i : Nat) : Int) := by
  rw [pow8, Int.fdiv_eq_ediv_of_nonneg _ (Int.natCast_nonneg _)]
  rfl
theorem u8_nat (n : Nat) : iwrap .u8 (n : Int) = ((n % 256 : Nat) : Int) := by
  simp [iwrap, IntKind.wrap, IntKind.signed, IntKind.bits]
theorem u8_byte (n : Nat) : UInt8.ofNat (iwrap .u8 (n : Int)).toNat = UInt8.ofNat n := by
  rw [u8_nat, Int.toNat_natCast]
  apply UInt8.toNat.inj
  simp

/-- What Put answers. -/
def okPut (n size : Int) : Prop := 1 ≤ size ∧ size ≤ 7 ∧ 0 ≤ n ∧ n < ((256 ^ size.toNat : Nat) : Int)
instance (n size : Int) : Decidable (okPut n size) := by unfold okPut; infer_instance
def sput (n size : Int) : ByteArray × Int := if okPut n size then (sS (putB n.toNat size.toNat), 0) else (ByteArray.empty, 1)
/-- What Get answers. -/
def sget (b : ByteArray) (at_ size : Int) : Int × Int :=
  if size < 1 ∨ size > 7 ∨ at_ < 0 then (0, 1) else if at_ > b.size ∨ b.size - at_ < size then (0, 2) else ((getN (((sL b).drop at_.toNat).take size.toNat) : Int), 0)
def spad (b : ByteArray) (n : Int) : ByteArray := if n ≤ b.size then b else sS (sL b ++ List.replicate (n - b.size).toNat 0)
end Go.Proofs.YtikchieadclbhaaGreatDoor.Ab
namespace Go.Proofs.YtikchieadclbhaaGreatDoor.Ab
set_option linter.unusedVariables false
set_option linter.unusedSimpArgs false
open Go.RowKit

theorem args2 {argv : Array Value} {x y : AV} (hs : argv.size = 2) {Q : Value → AV → Prop} (h : ∀ (j : Nat) v z, argv[j]? = some v → [x, y][j]? = some z → Q v z) : ∃ u v, argv = #[u, v] ∧ Q u x ∧ Q v y := by
  refine ⟨argv[0], argv[1], ?_, h 0 _ _ (Array.getElem?_eq_getElem (by omega)) rfl, h 1 _ _ (Array.getElem?_eq_getElem (by omega)) rfl⟩
  apply Array.ext
  · simpa using hs
  · intro i h1 h2
    match i, h2 with
    | 0, _ => rfl
    | 1, _ => rfl
set_option maxRecDepth 100000 in
theorem sjoinF (xs : List ByteArray) (hN : xs.length ≤ 1000) (hlen : (catS xs).size ≤ 140737488355328) : Fun Tryz.prog 38 [slV (sV xs), strV ByteArray.empty] [] (.v (strV (catS xs))) := by
  refine ⟨⟨_, Tryz.func38, rfl, by rfl⟩, fun w ok argv hok hsz hrep => ?_⟩
  obtain ⟨u, v, rfl, hu, hv⟩ := args2 hsz hrep
  have hv' : v = .string ByteArray.empty := RepI_sc hv
  subst hv'
  have fin : ∀ {w' : World}, Below w.heap.size w w' → ∃ v ok' σ, Ending.returned (Value.string (catS xs)) = .returned v ∧ Below w.heap.size w w' ∧ (∀ k, ok k → ok' k) ∧ (∀ k, ok' k → ok k ∨ (w.heap.size ≤ k ∧ k < w'.heap.size)) ∧
      RepT w' ok' σ (fun _ => 0) (.v (strV (catS xs))) v ∧ (∀ (b : Nat) B, ([] : List Blk)[b]? = some B → B.gen = 0 ∧ RepB w.heap.size w' ok' σ (fun _ => 0) b B) ∧
      (∀ (b b' : Nat) B B', ([] : List Blk)[b]? = some B → ([] : List Blk)[b']? = some B' → b ≠ b' → ∀ n, B.at σ b = some n → B'.at σ b' ≠ some n) := by
    intro w' hb
    exact ⟨_, ok, fun _ _ => undef, rfl, hb, fun _ h => h, fun k hk => Or.inl hk, .sc _ rfl, fun b B hB => by simp at hB, fun b b' B B' hB => by simp at hB⟩
  have hu' : RepI w ok (.sl (sV xs)) u := hu
  have none : ∀ {A : Option Addr} {c : Nat}, xs = [] → u = .slice A 0 c → Calls Tryz.prog 38 #[u, .string ByteArray.empty] w fun e w' => ∃ v ok' σ, e = .returned v ∧ Below w.heap.size w w' ∧ (∀ k, ok k → ok' k) ∧ (∀ k, ok' k → ok k ∨ (w.heap.size ≤ k ∧ k < w'.heap.size)) ∧
      RepT w' ok' σ (fun _ => 0) (.v (strV (catS xs))) v ∧ (∀ (b : Nat) B, ([] : List Blk)[b]? = some B → B.gen = 0 ∧ RepB w.heap.size w' ok' σ (fun _ => 0) b B) ∧
      (∀ (b b' : Nat) B B', ([] : List Blk)[b]? = some B → ([] : List Blk)[b']? = some B' → b ≠ b' → ∀ n, B.at σ b = some n → B'.at σ b' ≠ some n) := by
    rintro A c rfl rfl
    refine (Tryz.strings_Join_none A c ByteArray.empty w).mono ?_
    rintro e w' ⟨rfl, rfl⟩
    exact fin (Below.refl _ _)
  generalize hes : sV xs = es at hu'
  cases hu' with
  | nil A c hm =>
    have : xs = [] := by have := congrArg List.length hes; rw [sLen] at this; exact List.eq_nil_of_length_eq_zero this
    exact none this rfl
  | sl es sz ad c f hok' hc hm hlen' hcell hr =>
    subst hes
    by_cases h0 : xs = []
    · exact none h0 (by rw [sLen, h0]; rfl)
    · have hpos : 0 < xs.length := List.length_pos_iff.2 h0
      have hsz1 : sz = 1 := by rw [← hlen' [.sc (.string xs[0])] (List.mem_map.2 ⟨xs[0], List.getElem_mem hpos, rfl⟩)]; rfl
      subst hsz1
      have hcells : ∀ (j : Nat) x, xs[j]? = some x → w.cell? (ad.add j) = some (.string x) := by
        intro j x hx
        have hj := (List.getElem?_eq_some_iff.1 hx).1
        have h1 := hcell j (by rw [sLen, Nat.mul_one]; exact hj)
        have h2 := hr j [.sc (.string x)] 0 (.sc (.string x)) (by simp [sV, hx]) rfl
        rw [Nat.mul_one, Nat.add_zero] at h2
        rw [h1, RepI_sc h2]
      obtain ⟨bk, o, sp⟩ := ad
      have hsp : sp = Option.none := by
        have h1 := hcells 0 xs[0] (List.getElem?_eq_getElem hpos)
        rw [show ((⟨bk, o, sp⟩ : Addr).add 0) = ⟨bk, o, sp⟩ from rfl] at h1
        cases sp with
        | none => rfl
        | some s =>
          unfold World.cell? at h1
          split at h1
          · simp at h1
          · cases h1
      subst hsp
      rw [sLen]
      have hj := Tryz.strings_Join bk o c xs ByteArray.empty w (fun j x hx => by rw [← add_at]; exact hcells j x hx) (hok.1 _ hok') (by omega) (by rw [sLen] at hc; exact hc) (by
        rw [show (ByteArray.empty.data.toList : List UInt8) = [] from rfl, join_nil]; exact hlen)
      rw [show (ByteArray.empty.data.toList : List UInt8) = [] from rfl, join_nil] at hj
      refine hj.mono ?_
      rintro e w' ⟨rfl, hb⟩
      exact fin hb
theorem cat2 (a b : List UInt8) : catS [sS a, sS b] = sS (a ++ b) := by simp [catS, sL_S]
theorem cat2' (a b : ByteArray) : catS [a, b] = sS (sL a ++ sL b) := by simp [catS]
end Go.Proofs.YtikchieadclbhaaGreatDoor.Ab
namespace Go.Proofs.YtikchieadclbhaaGreatDoor.Ab
set_option linter.unusedVariables false
set_option linter.unusedSimpArgs false
open Go.RowKit

theorem pow_le {k : Nat} (h : k ≤ 7) : 256 ^ k ≤ 72057594037927936 := by
  have : 256 ^ k ≤ 256 ^ 7 := Nat.pow_le_pow_right (by decide) h
  exact Nat.le_trans this (by decide)
theorem sput_yes {n k : Nat} (h1 : 1 ≤ k) (h7 : k ≤ 7) (hn : n < 256 ^ k) : sput (n : Int) (k : Int) = (sS (putB n k), 0) := by
  unfold sput
  rw [if_pos ⟨by omega, by omega, by omega, by rw [Int.toNat_natCast]; omega⟩]
  rfl
theorem sput_no {n size : Int} (h : ¬ okPut n size) : sput n size = (ByteArray.empty, 1) := by unfold sput; rw [if_neg h]
theorem okPut_nat {n size : Int} (h : okPut n size) : ∃ m k : Nat, n = m ∧ size = k ∧ 1 ≤ k ∧ k ≤ 7 ∧ m < 256 ^ k := by
  obtain ⟨h1, h2, h3, h4⟩ := h
  refine ⟨n.toNat, size.toNat, by omega, by omega, by omega, by omega, by omega⟩
theorem shrk {m i : Nat} (hi : i ≤ 7) : ((m : Int)).fdiv (2 ^ (min ((8 * i : Nat) : Int).toNat IntKind.i64.bits)) = ((m / 256 ^ i : Nat) : Int) := by
  rw [show IntKind.i64.bits = 64 from rfl, Int.toNat_natCast, Nat.min_eq_left (by omega), shr_nat]
theorem putB_drop {m k i : Nat} (h : i < k) : (putB m k).drop i = UInt8.ofNat (m / 256 ^ i) :: (putB m k).drop (i + 1) := by
  rw [List.drop_eq_getElem_cons (by rw [putB_len]; exact h), putB_get h]

theorem putB_end (m k : Nat) : sS ((putB m k).drop k) = ByteArray.empty := by
  rw [List.drop_of_length_le (by rw [putB_len]; exact Nat.le_refl _)]; rfl
theorem putB_step {m k i : Nat} (h : i < k) : catS [bytesStr [iwrap .u8 ((m / 256 ^ i : Nat) : Int)], sS ((putB m k).drop (i + 1))] = sS ((putB m k).drop i) := by
  rw [bytesStr_eq, cat2, putB_drop h]
  simp only [List.map_cons, List.map_nil, u8_byte]
  rfl
theorem putB_short {m k i : Nat} (h : i < k) (h7 : k ≤ 7) : (catS [bytesStr [iwrap .u8 ((m / 256 ^ i : Nat) : Int)], sS ((putB m k).drop (i + 1))]).size ≤ 140737488355328 := by
  rw [putB_step h, sS_size, List.length_drop, putB_len]
  omega
def wrow (m k j : Nat) : List Int := (List.range k).map fun i => if i < j then iwrap .u8 ((m / 256 ^ i : Nat) : Int) else 0
theorem wrow_len (m k j : Nat) : (wrow m k j).length = k := by simp [wrow]
theorem bytes1 {n : Nat} (h : n ≤ 1000000) : 1 * ((n : Int)).toNat ≤ 140737488355328 := by omega
theorem cVb_len (ws : List Int) : (cVb ws).length = ws.length := by simp [cVb]
theorem cVb_item {ws : List Int} {n : Int} (h : n.toNat < ws.length) : (cVb ws)[n.toNat]? = some [.sc (.int .u8 ws[n.toNat])] := by simp [cVb, h]
theorem cVb_set (ws : List Int) (n : Nat) (c : Int) : (cVb ws).set n [.sc (.int .u8 c)] = cVb (ws.set n c) := by simp [cVb, List.map_set]
theorem cVb_rep (n : Nat) : List.replicate n [IV.sc (.int .u8 0)] = cVb (List.replicate n 0) := by simp [cVb]
theorem wrow_zero (m k : Nat) : List.replicate k [IV.sc (.int .u8 0)] = cVb (wrow m k 0) := by
  rw [cVb_rep]
  congr 1
  apply List.ext_getElem?
  intro j
  by_cases hj : j < k <;> simp [wrow, hj]
theorem wrow_set (m k j : Nat) (hj : j < k) : (wrow m k j).set j (iwrap .u8 ((m / 256 ^ j : Nat) : Int)) = wrow m k (j + 1) := by
  apply List.ext_getElem?
  intro i
  by_cases hi : i < k
  · by_cases hij : j = i
    · subst hij
      rw [List.getElem?_set_self (by rw [wrow_len]; exact hj)]
      simp [wrow, hj]
    · rw [List.getElem?_set_ne hij]
      simp only [wrow, List.getElem?_map, List.getElem?_range hi, Option.map_some]
      congr 1
      by_cases h1 : i < j
      · rw [if_pos h1, if_pos (by omega)]
      · rw [if_neg h1, if_neg (by omega)]
  · rw [List.getElem?_eq_none (by rw [List.length_set, wrow_len]; omega), List.getElem?_eq_none (by rw [wrow_len]; omega)]
theorem wrow_end (m k : Nat) : bytesStr (wrow m k k) = sS (putB m k) := by
  rw [bytesStr_eq]
  congr 1
  simp only [wrow, putB, List.map_map]
  apply List.map_congr_left
  intro i hi
  have hi' : i < k := List.mem_range.1 hi
  simp only [Function.comp, if_pos hi', u8_byte]
theorem shlk {k : Nat} (h1 : 1 ≤ k) (h7 : k ≤ 7) : iwrap .i64 (1 * 2 ^ (min ((8 * k : Nat) : Int).toNat IntKind.i64.bits)) = ((256 ^ k : Nat) : Int) := by
  have hb := pow_le h7
  rw [show IntKind.i64.bits = 64 from rfl, Int.toNat_natCast, Nat.min_eq_left (by omega), Int.one_mul, pow8]
  generalize 256 ^ k = q at hb ⊢
  exact w64_in (by omega)

end Go.Proofs.YtikchieadclbhaaGreatDoor.Ab
namespace Go.Proofs.YtikchieadclbhaaGreatDoor.Ab
set_option linter.unusedVariables false
set_option linter.unusedSimpArgs false
open Go.RowKit

theorem or_step (N c : Nat) (hN : N < 281474976710656) (hc : c < 256) :
    IntKind.i64.wrap ((BitVec.ofInt IntKind.i64.bits (iwrap .i64 ((N : Int) * 2 ^ (min (8 : Int).toNat IntKind.i64.bits))) ||| BitVec.ofInt IntKind.i64.bits (iwrap .i64 (c : Int))).toNat : Int) = ((c + 256 * N : Nat) : Int) := by
  have e1 : iwrap .i64 ((N : Int) * 2 ^ (min (8 : Int).toNat IntKind.i64.bits)) = ((256 * N : Nat) : Int) := by
    have : (2 : Int) ^ (min (8 : Int).toNat IntKind.i64.bits) = 256 := by decide
    rw [this]
    exact (w64_in (by omega)).trans (by omega)
  have e2 : iwrap .i64 (c : Int) = (c : Int) := w64_in (by omega)
  have e3 : (BitVec.ofInt IntKind.i64.bits ((256 * N : Nat) : Int) ||| BitVec.ofInt IntKind.i64.bits (c : Int)).toNat = 256 * N + c := by
    rw [BitVec.toNat_or, BitVec.ofInt_natCast, BitVec.ofInt_natCast, BitVec.toNat_ofNat, BitVec.toNat_ofNat, Nat.mod_eq_of_lt (by rw [show IntKind.i64.bits = 64 from rfl]; omega), Nat.mod_eq_of_lt (by rw [show IntKind.i64.bits = 64 from rfl]; omega)]
    exact (Nat.two_pow_add_eq_or_of_lt (i := 8) (by simpa using hc) N).symm
  rw [e1, e2, e3, IntKind.wrap_i64]
  omega
theorem getN_drop {l : List UInt8} {i : Nat} (h : i < l.length) : getN (l.drop i) = l[i].toNat + 256 * getN (l.drop (i + 1)) := by
  rw [List.drop_eq_getElem_cons h, getN]
theorem sget_bad {b : ByteArray} {at_ size : Int} (h : size < 1 ∨ size > 7 ∨ at_ < 0) : sget b at_ size = (0, 1) := by unfold sget; rw [if_pos h]
theorem sget_short {b : ByteArray} {at_ size : Int} (h : ¬ (size < 1 ∨ size > 7 ∨ at_ < 0)) (h2 : at_ > b.size ∨ b.size - at_ < size) : sget b at_ size = (0, 2) := by unfold sget; rw [if_neg h, if_pos h2]
theorem sget_ok {b : ByteArray} {a k : Nat} (h1 : 1 ≤ k) (h7 : k ≤ 7) (h : a + k ≤ b.size) : sget b a k = ((getN (((sL b).drop a).take k) : Int), 0) := by
  unfold sget
  rw [if_neg (by omega), if_neg (by omega), Int.toNat_natCast, Int.toNat_natCast]
end Go.Proofs.YtikchieadclbhaaGreatDoor.Ab
