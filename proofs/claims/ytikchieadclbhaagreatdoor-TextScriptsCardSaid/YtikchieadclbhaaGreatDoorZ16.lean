/- What an operation depends on: its operands and the entries that it looks at. No condition. -/
import Derived.Test.YtikchieadclbhaaGreatDoorZ15
namespace Go.Proofs.YtikchieadclbhaaGreatDoor.Ab
set_option linter.unusedVariables false
set_option linter.unusedSimpArgs false
open Go.RowKit

section
variable {P : Program} {T : Nat → TI} {H : Nat → Blk} {K : Kont} {n : Nat} {dst : Option Tmp}

theorem rp_part {ti : TI} {cs : List AV1} {off : Nat} {K : AT → Prop} (h : partK ti cs off K) : ∃ r, K r ∧ ∀ K' : AT → Prop, K' r → partK ti cs off K' := by
  unfold partK at h
  split at h
  · rename_i ha
    split at h
    · rename_i hl
      rw [lay_eq] at h
      exact ⟨_, h, fun K' hk => by unfold partK; rw [ha, hl]; simp only [lay_eq]; exact hk⟩
    · exact h.elim
  · rename_i ha
    split at h
    · rename_i x hx
      exact ⟨_, h, fun K' hk => by unfold partK; rw [ha, hx]; exact hk⟩
    · exact h.elim

theorem rp_load {t : Nat} {x : AT} (h : effLoad T H t x K) : ∃ r u d, K r u d ∧ ∀ (H' : Nat → Blk) (K' : Kont), (∀ b ∈ d, H' b = H b) → K' r u d → effLoad T H' t x K' := by
  unfold effLoad at h
  split at h
  · exact h.elim
  rename_i hk
  split at h
  · rename_i b g off
    split at h
    · rename_i g' cs hb
      obtain ⟨rfl, h⟩ := h
      obtain ⟨r, h1, h2⟩ := rp_part h
      refine ⟨r, [], [b], h1, fun H' K' hd hk' => ?_⟩
      unfold effLoad
      split
      · rename_i e; exact hk e
      · dsimp only; rw [hd b (by simp), hb]; exact ⟨rfl, h2 _ hk'⟩
    · exact h.elim
  · rename_i cs
    obtain ⟨r, h1, h2⟩ := rp_part h
    refine ⟨r, [], [], h1, fun H' K' hd hk' => ?_⟩
    unfold effLoad
    split
    · rename_i e; exact hk e
    · exact h2 _ hk'
  · rename_i b g sz k off
    split at h
    · rename_i g' E sz' es hb
      obtain ⟨rfl, rfl, e, he, h⟩ := h
      obtain ⟨r, h1, h2⟩ := rp_part h
      refine ⟨r, [], [b], h1, fun H' K' hd hk' => ?_⟩
      unfold effLoad
      split
      · rename_i e; exact hk e
      · dsimp only; rw [hd b (by simp), hb]; exact ⟨rfl, rfl, e, he, h2 _ hk'⟩
    · exact h.elim
  · exact h.elim

theorem rp_store {t : Nat} {x y : AT} (h : effStore T H t x y K) : ∃ r u d, K r u d ∧ ∀ (H' : Nat → Blk) (K' : Kont), (∀ b ∈ d, H' b = H b) → K' r u d → effStore T H' t x y K' := by
  unfold effStore at h
  split at h
  · exact h.elim
  rename_i hk
  split at h
  · exact h.elim
  rename_i ys hys
  split at h
  · exact h.elim
  rename_i hl
  split at h
  · rename_i b g off
    split at h
    · rename_i g' cs hb
      obtain ⟨rfl, h⟩ := h
      split at h
      · rename_i c1 c2
        rw [lay_eq] at h
        refine ⟨_, _, _, h, fun H' K' hd hk' => ?_⟩
        unfold effStore
        split
        · rename_i e; exact hk e
        · rw [hys]
          dsimp only
          rw [hl]
          dsimp only
          rw [hd b (by simp), hb]
          dsimp only
          rw [c1, c2]
          simp only [lay_eq]
          exact ⟨trivial, hk'⟩
      · exact h.elim
    · exact h.elim
  · rename_i b g sz k off
    split at h
    · rename_i g' E sz' es hb
      obtain ⟨rfl, rfl, e, he, h⟩ := h
      split at h
      · rename_i zs c1 c2
        rw [lay_eq] at h
        refine ⟨_, _, _, h, fun H' K' hd hk' => ?_⟩
        unfold effStore
        split
        · rename_i e; exact hk e
        · rw [hys]
          dsimp only
          rw [hl]
          dsimp only
          rw [hd b (by simp), hb]
          dsimp only
          refine ⟨rfl, rfl, e, he, ?_⟩
          rw [c1, c2]
          simp only [lay_eq]
          exact hk'
      · exact h.elim
    · exact h.elim
  · exact h.elim

theorem rp_index {t : Nat} {x i : AT} (h : effIndex T H t x i K) : ∃ r u d, K r u d ∧ ∀ (H' : Nat → Blk) (K' : Kont), (∀ b ∈ d, H' b = H b) → K' r u d → effIndex T H' t x i K' := by
  unfold effIndex at h
  split at h
  case h_2 => exact h.elim
  rename_i k m
  split at h
  case h_3 => exact h.elim
  · rename_i e hs
    split at h
    · exact h.elim
    rename_i hk
    split at h
    · rename_i es
      obtain ⟨h0, z, hz, hl, h⟩ := h
      refine ⟨_, _, _, h, fun H' K' hd hk' => ?_⟩
      unfold effIndex
      simp only [hs]
      first | exact ⟨h0, z, hz, hl, hk'⟩ | (split <;> first | exact ⟨h0, z, hz, hl, hk'⟩ | (rename_i e; exact (hk e).elim))
    · rename_i b g
      split at h
      · rename_i g' E sz es hb
        obtain ⟨h1, h2, h3, h4, h⟩ := h
        refine ⟨_, _, _, h, fun H' K' hd hk' => ?_⟩
        unfold effIndex
        simp only [hs]
        rw [hd b (by simp), hb]
        first | exact ⟨h1, h2, h3, h4, hk'⟩ | (split <;> first | exact ⟨h1, h2, h3, h4, hk'⟩ | (rename_i e; exact (hk e).elim))
      · rename_i g' es hb
        obtain ⟨h1, h2, z, h3, h4, h⟩ := h
        refine ⟨_, _, _, h, fun H' K' hd hk' => ?_⟩
        unfold effIndex
        simp only [hs]
        rw [hd b (by simp), hb]
        first | exact ⟨h1, h2, z, h3, h4, hk'⟩ | (split <;> first | exact ⟨h1, h2, z, h3, h4, hk'⟩ | (rename_i e; exact (hk e).elim))
      · exact h.elim
    · exact h.elim
  · rename_i len e hs
    split at h
    · exact h.elim
    rename_i hk
    split at h
    · obtain ⟨h0, h1, h⟩ := h
      refine ⟨_, _, _, h, fun H' K' hd hk' => ?_⟩
      unfold effIndex
      simp only [hs]
      first | exact ⟨h0, h1, hk'⟩ | (split <;> first | exact ⟨h0, h1, hk'⟩ | (rename_i e; exact (hk e).elim))
    · obtain ⟨h0, h1, h⟩ := h
      refine ⟨_, _, _, h, fun H' K' hd hk' => ?_⟩
      unfold effIndex
      simp only [hs]
      first | exact ⟨h0, h1, hk'⟩ | (split <;> first | exact ⟨h0, h1, hk'⟩ | (rename_i e; exact (hk e).elim))
    · exact h.elim

theorem rp_alloc {t : Nat} (h : effAlloc T H n dst t K) : ∃ r u d, K r u d ∧ ∀ (H' : Nat → Blk) (K' : Kont), (∀ b ∈ d, H' b = H b) → K' r u d → effAlloc T H' n dst t K' := by
  unfold effAlloc at h
  split at h
  · exact h.elim
  rename_i hk
  split at h
  · exact h.elim
  rename_i d
  split at h
  case h_2 => exact h.elim
  rename_i hb
  rw [genK_eq] at h
  refine ⟨_, _, _, h, fun H' K' hd hk' => ?_⟩
  unfold effAlloc
  split
  · rename_i e; exact hk e
  · dsimp only; rw [hb]; dsimp only; rw [genK_eq, hd d (by simp)]; exact hk'

theorem rp_box {t : Nat} {x : AT} (h : effBox T H n dst t x K) : ∃ r u d, K r u d ∧ ∀ (H' : Nat → Blk) (K' : Kont), (∀ b ∈ d, H' b = H b) → K' r u d → effBox T H' n dst t x K' := by
  unfold effBox at h
  split at h
  · exact h.elim
  rename_i hk
  split at h
  · exact h.elim
  rename_i d
  split at h
  case h_2 => exact h.elim
  rename_i hb
  split at h
  · split at h
    · rename_i hc
      rw [genK_eq] at h
      refine ⟨_, _, _, h, fun H' K' hd hk' => ?_⟩
      unfold effBox
      split
      · rename_i e; exact hk e
      · dsimp only; rw [hb]; dsimp only; rw [hc]; dsimp only; rw [genK_eq, hd d (by simp)]; exact hk'
    · exact h.elim
  · split at h
    · rename_i hc
      rw [genK_eq] at h
      refine ⟨_, _, _, h, fun H' K' hd hk' => ?_⟩
      unfold effBox
      split
      · rename_i e; exact hk e
      · dsimp only; rw [hb]; dsimp only; rw [hc]; dsimp only; rw [genK_eq, hd d (by simp)]; exact hk'
    · exact h.elim
  · exact h.elim

theorem rp_list {x : AT} {K : List (List IV) → List Nat → Prop} (h : listK H x K) : ∃ es d, K es d ∧ ∀ (H' : Nat → Blk) (K' : List (List IV) → List Nat → Prop), (∀ b ∈ d, H' b = H b) → K' es d → listK H' x K' := by
  unfold listK at h
  split at h
  · exact ⟨_, _, h, fun H' K' _ hk => hk⟩
  · exact ⟨_, _, h, fun H' K' _ hk => hk⟩
  · exact ⟨_, _, h, fun H' K' _ hk => hk⟩
  · rename_i b g
    split at h
    · rename_i g' E sz es hb
      exact ⟨_, _, h.2, fun H' K' hd hk => by unfold listK; dsimp only; rw [hd b (by simp), hb]; exact ⟨h.1, hk⟩⟩
    · rename_i g' es hb
      exact ⟨_, _, h.2, fun H' K' hd hk => by unfold listK; dsimp only; rw [hd b (by simp), hb]; exact ⟨h.1, hk⟩⟩
    · exact h.elim
  · exact ⟨_, _, h, fun H' K' _ hk => hk⟩
  · rename_i b g sz lo hi
    split at h
    · rename_i g' E sz' es hb
      exact ⟨_, _, h.2.2, fun H' K' hd hk => by unfold listK; dsimp only; rw [hd b (by simp), hb]; exact ⟨h.1, h.2.1, hk⟩⟩
    · exact h.elim
  · exact h.elim

theorem rp_imm {x : AT} {K : List (List IV) → List Nat → Prop} (h : immK H x K) : ∃ es d, (∀ b g, x = .v (.c (.own b g)) → b ∈ d) ∧ K es d ∧ ∀ (H' : Nat → Blk) (K' : List (List IV) → List Nat → Prop), (∀ b ∈ d, H' b = H b) → K' es d → immK H' x K' := by
  unfold immK at h
  split at h
  · exact ⟨_, _, fun _ _ e => (by cases e), h, fun H' K' _ hk => hk⟩
  · exact ⟨_, _, fun _ _ e => (by cases e), h, fun H' K' _ hk => hk⟩
  · exact ⟨_, _, fun _ _ e => (by cases e), h, fun H' K' _ hk => hk⟩
  · rename_i b g
    split at h
    · rename_i g' es hb
      exact ⟨_, _, fun _ _ e => (by cases e; simp), h.2, fun H' K' hd hk => by unfold immK; dsimp only; rw [hd b (by simp), hb]; exact ⟨h.1, hk⟩⟩
    · exact h.elim
  · exact ⟨_, _, fun _ _ e => (by cases e), h, fun H' K' _ hk => hk⟩
  · exact h.elim

theorem rp_len {t : Nat} {x : AT} (h : effLen T H t x K) : ∃ r u d, K r u d ∧ ∀ (H' : Nat → Blk) (K' : Kont), (∀ b ∈ d, H' b = H b) → K' r u d → effLen T H' t x K' := by
  unfold effLen at h
  split at h
  · rename_i hs
    obtain ⟨es, d, h1, h2⟩ := rp_list h
    exact ⟨_, _, _, h1, fun H' K' hd hk => by unfold effLen; simp only [hs]; exact h2 H' _ hd hk⟩
  · rename_i hs
    split at h
    · exact ⟨_, _, _, h, fun H' K' hd hk => by unfold effLen; simp only [hs]; exact hk⟩
    · exact h.elim
  · rename_i hs
    exact ⟨_, _, _, h, fun H' K' hd hk => by unfold effLen; simp only [hs]; exact hk⟩
  · exact h.elim

theorem rp_bound {x : Option AT} {d : Int} {K : Int → Prop} (h : boundK x d K) : ∃ m, K m ∧ ∀ K' : Int → Prop, K' m → boundK x d K' := by
  unfold boundK at h
  split at h
  · exact ⟨_, h, fun K' hk => hk⟩
  · exact ⟨_, h, fun K' hk => hk⟩
  · exact h.elim

theorem rp_slice0 {t : Nat} {x : AT} {lo hi mx : Option AT} (h : effSlice0 T H t x lo hi mx K) : ∃ r u d, (∀ b g, x = .v (.c (.own b g)) → b ∈ d) ∧ K r u d ∧ ∀ (H' : Nat → Blk) (K' : Kont), (∀ b ∈ d, H' b = H b) → K' r u d → effSlice0 T H' t x lo hi mx K' := by
  unfold effSlice0 at h
  split at h
  · rename_i e hs
    split at h
    · exact h.elim
    rename_i hk
    obtain ⟨es, d, h0, ⟨hz, h1⟩, h2⟩ := rp_imm h
    obtain ⟨l, h3, h4⟩ := rp_bound h1
    obtain ⟨m, h5, h6⟩ := rp_bound h3
    clear h h1 h3
    split at h5
    · obtain ⟨a1, a2, a3, h5⟩ := h5
      refine ⟨_, _, _, h0, h5, fun H' K' hd hk' => ?_⟩
      unfold effSlice0
      simp only [hs]
      first | exact h2 H' _ hd ⟨hz, h4 _ (h6 _ ⟨a1, a2, a3, hk'⟩)⟩ | (split <;> first | exact h2 H' _ hd ⟨hz, h4 _ (h6 _ ⟨a1, a2, a3, hk'⟩)⟩ | (rename_i e; exact (hk e).elim))
    · exact h5.elim
    · rename_i mo hi'
      obtain ⟨q, ⟨a1, a2, a3, a4, h5⟩, h7⟩ := rp_bound h5
      refine ⟨_, _, _, h0, h5, fun H' K' hd hk' => ?_⟩
      unfold effSlice0
      simp only [hs]
      first | exact h2 H' _ hd ⟨hz, h4 _ (h6 _ (h7 _ ⟨a1, a2, a3, a4, hk'⟩))⟩ | (split <;> first | exact h2 H' _ hd ⟨hz, h4 _ (h6 _ (h7 _ ⟨a1, a2, a3, a4, hk'⟩))⟩ | (rename_i e; exact (hk e).elim))
  · rename_i hs
    split at h
    · obtain ⟨l, h3, h4⟩ := rp_bound h
      obtain ⟨m, h5, h6⟩ := rp_bound h3
      clear h h3
      split at h5
      · obtain ⟨a1, a2, a3, h5⟩ := h5
        refine ⟨_, _, _, fun _ _ e => (by cases e), h5, fun H' K' hd hk' => ?_⟩
        unfold effSlice0
        simp only [hs]
        exact h4 _ (h6 _ ⟨a1, a2, a3, hk'⟩)
      · exact h5.elim
    · exact h.elim
  · exact h.elim

theorem rp_part_row {b g sz : Nat} {l0 h0 : Nat} {t : Nat} {lo hi mx : Option AT} (h : partSl T t lo hi mx K b g sz l0 h0) : ∃ r, K r [] [b] ∧ ∀ K' : Kont, K' r [] [b] → partSl T t lo hi mx K' b g sz l0 h0 := by
  unfold partSl at h
  split at h
  case h_2 => exact h.elim
  rename_i e hk
  split at h
  · exact h.elim
  · exact h.elim
  rename_i hke
  obtain ⟨l, h1, h2⟩ := rp_bound h
  obtain ⟨m, ⟨a1, a2, a3, a4, h3⟩, h4⟩ := rp_bound h1
  refine ⟨_, h3, fun K' hk' => ?_⟩
  have hfin := h2 (fun l => boundK hi ((h0 - l0 : Nat) : Int) fun h => sz = (T e).size ∧ 0 ≤ l ∧ l ≤ h ∧ h ≤ ((h0 - l0 : Nat) : Int) ∧ K' (.v (.c (.osub b g sz (l0 + l.toNat) (l0 + h.toNat)))) [] [b]) (h4 _ ⟨a1, a2, a3, a4, hk'⟩)
  unfold partSl
  simp only [hk]
  first
    | exact hfin
    | (split
       · rename_i e; exact (hke e).elim
       · rename_i e _ ; cases e
       · exact hfin)
    | (split
       · rename_i e; exact (hke e).elim
       · exact hfin)
theorem rp_slice {t : Nat} {x : AT} {lo hi mx : Option AT} (h : effSlice T H t x lo hi mx K) : ∃ r u d, K r u d ∧ ∀ (H' : Nat → Blk) (K' : Kont), (∀ b ∈ d, H' b = H b) → K' r u d → effSlice T H' t x lo hi mx K' := by
  cases x with
  | tup xs => exact (let ⟨r, u, d, _, h1, h2⟩ := rp_slice0 h; ⟨r, u, d, h1, h2⟩)
  | v x =>
    cases x with
    | agg cs => exact (let ⟨r, u, d, _, h1, h2⟩ := rp_slice0 h; ⟨r, u, d, h1, h2⟩)
    | c x =>
      cases x with
      | sly es c =>
        unfold effSlice at h
        dsimp only at h
        split at h
        · rename_i e hk
          split at h
          · exact h.elim
          rename_i hke
          obtain ⟨hz, h1⟩ := h
          obtain ⟨m, ⟨a1, a2, h3⟩, h4⟩ := rp_bound h1
          refine ⟨_, _, _, h3, fun H' K' _ hk' => ?_⟩
          have hfin : (∀ z ∈ es, z.length = (T e).size) ∧ boundK hi es.length fun h => 0 ≤ h ∧ h ≤ es.length ∧ K' (.v (.c (.sly (es.take h.toNat) c))) [] [] := ⟨hz, h4 _ ⟨a1, a2, hk'⟩⟩
          unfold effSlice
          simp only [hk]
          first
            | exact hfin
            | (split
               · rename_i e; exact (hke e).elim
               · exact hfin)
        · rename_i hne
          obtain ⟨r, u, d, _, h1, h2⟩ := rp_slice0 h
          refine ⟨r, u, d, h1, fun H' K' hd hk' => ?_⟩
          unfold effSlice
          dsimp only
          split
          · rename_i e hk; exact (hne e hk rfl rfl).elim
          · exact h2 H' K' hd hk'
      | own b g =>
        unfold effSlice rowPart at h
        dsimp only at h
        split at h
        · rename_i g' E sz es hb
          obtain ⟨rfl, h⟩ := h
          obtain ⟨r, h1, h2⟩ := rp_part_row h
          refine ⟨_, _, _, h1, fun H' K' hd hk' => ?_⟩
          unfold effSlice rowPart
          dsimp only
          rw [hd b (by simp), hb]
          exact ⟨rfl, h2 K' hk'⟩
        · rename_i hne
          obtain ⟨r, u, d, h0, h1, h2⟩ := rp_slice0 h
          refine ⟨r, u, d, h1, fun H' K' hd hk' => ?_⟩
          unfold effSlice rowPart
          dsimp only
          split
          · rename_i g' E sz es hb
            rw [hd b (h0 b g rfl)] at hb
            exact (hne _ _ _ _ hb).elim
          · exact h2 H' K' hd hk'
      | osub b g sz lo' hi' =>
        unfold effSlice rowPart at h
        dsimp only at h
        split at h
        · rename_i g' E sz' es hb
          obtain ⟨rfl, rfl, h⟩ := h
          obtain ⟨r, h1, h2⟩ := rp_part_row h
          refine ⟨_, _, _, h1, fun H' K' hd hk' => ?_⟩
          unfold effSlice rowPart
          dsimp only
          rw [hd b (by simp), hb]
          exact ⟨rfl, rfl, h2 K' hk'⟩
        · exfalso
          unfold effSlice0 at h
          split at h
          · split at h
            · exact h.elim
            · exact h.elim
          · exact h.elim
          · exact h.elim
      | _ => exact (let ⟨r, u, d, _, h1, h2⟩ := rp_slice0 h; ⟨r, u, d, h1, h2⟩)

theorem rp_elem {b : Nat} {ag cok bb : Bool} {cs : List AV1} (h : elemT ag cs fun y => lookK cok b K y bb) : ∃ r, K r [] [b] ∧ ∀ K' : Kont, K' r [] [b] → elemT ag cs fun y => lookK cok b K' y bb := by
  have hl : ∀ y, lookK cok b K y bb → ∃ r, K r [] [b] ∧ ∀ K' : Kont, K' r [] [b] → lookK cok b K' y bb := by
    intro y h
    cases cok with
    | true => exact ⟨_, h, fun _ h => h⟩
    | false => exact ⟨_, h, fun _ h => h⟩
  cases ag with
  | true => exact hl _ h
  | false =>
    match cs, h with
    | [x], h => exact hl _ h
theorem rp_lookup {t : Nat} {x i : AT} {cok : Bool} (h : effLookup T H t x i cok K) : ∃ r u d, K r u d ∧ ∀ (H' : Nat → Blk) (K' : Kont), (∀ b ∈ d, H' b = H b) → K' r u d → effLookup T H' t x i cok K' := by
  unfold effLookup at h
  split at h
  case h_2 => exact h.elim
  rename_i k e hk
  split at h
  · exact h.elim
  · exact h.elim
  rename_i kk hkk hne
  split at h
  case h_2 => exact h.elim
  rename_i b g
  split at h
  case h_2 => exact h.elim
  rename_i g' kk' ag f hb
  split at h
  case h_2 => exact h.elim
  rename_i hsame
  obtain ⟨a1, a2, h⟩ := h
  split at h
  case h_2 => exact h.elim
  rename_i key
  split at h
  case h_2 => exact h.elim
  rename_i hfit
  have fin : ∀ (H' : Nat → Blk) (K' : Kont), H' b = H b → (∃ r : Option (List IV), f key = r ∧ match r with
      | some cs => elemT (T e).k.agg (cs.map .i) fun y => lookK cok b K' y true
      | none => elemT (T e).k.agg (T e).zero fun y => lookK cok b K' y false) → effLookup T H' t (.v (.c (.own b g))) (.v (.c (.i (.sc key)))) cok K' := by
    intro H' K' hd hr
    unfold effLookup
    rw [hk]
    dsimp only
    split
    · rename_i h3; exact hne h3
    · rename_i h3 _; rw [hkk] at h3; cases h3
    rename_i kk2 h3 _
    rw [hkk] at h3
    injection h3 with h3
    subst h3
    rw [hd, hb]
    dsimp only
    rw [hsame]
    dsimp only
    rw [hfit]
    exact ⟨a1, a2, hr⟩
  obtain ⟨r, hr, h⟩ := h
  cases r with
  | some cs =>
    obtain ⟨r2, h1, h2⟩ := rp_elem h
    exact ⟨r2, [], [b], h1, fun H' K' hd hk' => fin H' K' (hd b (by simp)) ⟨_, hr, h2 K' hk'⟩⟩
  | none =>
    obtain ⟨r2, h1, h2⟩ := rp_elem h
    exact ⟨r2, [], [b], h1, fun H' K' hd hk' => fin H' K' (hd b (by simp)) ⟨_, hr, h2 K' hk'⟩⟩
theorem rp_make {t : Nat} {l c : AT} (h : effMake T H n dst t l c K) : ∃ r u d, K r u d ∧ ∀ (H' : Nat → Blk) (K' : Kont), (∀ b ∈ d, H' b = H b) → K' r u d → effMake T H' n dst t l c K' := by
  unfold effMake at h
  split at h
  case h_2 => exact h.elim
  rename_i e hs
  cases hz : zeroI (T e) with
  | none =>
    rw [hz] at h
    split at h
    · exact h.elim
    · rename_i h1 _; cases h1
    · exact h.elim
  | some z =>
    rw [hz] at h
    split at h
    · exact h.elim
    case h_3 => exact h.elim
    rename_i z' hz' hk
    injection hz' with hz'
    subst hz'
    split at h
    · exact h.elim
    rename_i d
    split at h
    case h_2 => exact h.elim
    rename_i k1 n1 k2 n2 hb
    obtain ⟨a1, a2, a3, a4, h⟩ := h
    obtain ⟨u0, hu, h⟩ : ∃ u0, (∀ (H' : Nat → Blk) (K' : Kont), H' d = H d → K' (.v (.c (.own d ((H d).gen + 1)))) u0 [d] → (match Nat.ble e 999999, Nat.beq (T (1000000 + t)).size 1 with
            | true, false => genK (H' d) fun g => K' (.v (.c (.own d (g + 1)))) [(d, .row (g + 1) e (T e).size (List.replicate n1.toNat z))] [d]
            | true, true => genK (H' d) fun g => K' (.v (.c (.own d (g + 1)))) [(d, .row (g + 1) (e + 2000000) (T e).size (List.replicate n1.toNat z))] [d]
            | false, _ => False)) ∧ K (.v (.c (.own d ((H d).gen + 1)))) u0 [d] := by
      split at h
      · rename_i c1 c2
        rw [genK_eq] at h
        exact ⟨_, fun H' K' hd hk' => by rw [c1, c2]; dsimp only; rw [genK_eq, hd]; exact hk', h⟩
      · rename_i c1 c2
        rw [genK_eq] at h
        exact ⟨_, fun H' K' hd hk' => by rw [c1, c2]; dsimp only; rw [genK_eq, hd]; exact hk', h⟩
      · exact h.elim
    refine ⟨_, _, _, h, fun H' K' hd hk' => ?_⟩
    have hfin : (match Nat.blt d n, AT.v (.c (.i (.sc (.int k1 n1)))), AT.v (.c (.i (.sc (.int k2 n2)))) with
        | true, .v (.c (.i (.sc (.int _ l)))), .v (.c (.i (.sc (.int _ c)))) => 0 ≤ l ∧ c = l ∧ (T e).bytes * l.toNat ≤ 140737488355328 ∧ l ≤ 9223372036854775807 ∧
            match Nat.ble e 999999, Nat.beq (T (1000000 + t)).size 1 with
            | true, false => genK (H' d) fun g => K' (.v (.c (.own d (g + 1)))) [(d, .row (g + 1) e (T e).size (List.replicate l.toNat z))] [d]
            | true, true => genK (H' d) fun g => K' (.v (.c (.own d (g + 1)))) [(d, .row (g + 1) (e + 2000000) (T e).size (List.replicate l.toNat z))] [d]
            | false, _ => False
        | _, _, _ => False) := by
      rw [hb]
      dsimp only
      exact ⟨a1, a2, a3, a4, hu H' K' (hd d (by simp)) hk'⟩
    unfold effMake
    simp only [hs, hz]
    first
      | exact hfin
      | (split
         · rename_i e _; exact (hk e).elim
         · rename_i z2 hz2 _; injection hz2 with hz2; subst hz2; exact hfin
         · rename_i hz2 _; cases hz2)

theorem rp_appK {d e : Nat} {x : AT} {ys : List (List IV)} {rd : List Nat} (h : appK T H n d e x ys rd K) : ∃ r u d', K r u d' ∧ (∀ b ∈ rd, b ∈ d') ∧ ∀ (H' : Nat → Blk) (K' : Kont), (∀ b ∈ d', H' b = H b) → K' r u d' → appK T H' n d e x ys rd K' := by
  unfold appK at h
  split at h
  · split at h
    case h_2 => exact h.elim
    rename_i hb
    obtain ⟨a1, h⟩ := h
    rw [genK_eq] at h
    refine ⟨_, _, _, h, fun b hb' => List.mem_cons_of_mem _ hb', fun H' K' hd hk' => ?_⟩
    unfold appK
    dsimp only
    rw [hb]
    dsimp only
    rw [genK_eq, hd d (by simp)]
    exact ⟨a1, hk'⟩
  · split at h
    case h_2 => exact h.elim
    rename_i hb
    obtain ⟨a1, a2, a3, h⟩ := h
    rw [genK_eq] at h
    refine ⟨_, _, _, h, fun b hb' => List.mem_cons_of_mem _ hb', fun H' K' hd hk' => ?_⟩
    unfold appK
    dsimp only
    rw [hb]
    dsimp only
    rw [genK_eq, hd d (by simp)]
    exact ⟨a1, a2, a3, hk'⟩
  · rename_i b g sz' lo hi
    split at h
    case h_3 => exact h.elim
    case h_2 =>
      rename_i g' E sz es N hb
      obtain ⟨a1, a2, a3, a4, a5, a6, a7, h⟩ := h
      refine ⟨_, _, _, h, fun b hb' => List.mem_cons_of_mem _ hb', fun H' K' hd hk' => ?_⟩
      unfold appK
      dsimp only
      rw [hd b (by simp), hb]
      exact ⟨a1, a2, a3, a4, a5, a6, a7, hk'⟩
    rename_i g' E sz es hb
    split at h
    case h_2 => exact h.elim
    rename_i hFX
    obtain ⟨a1, a2, a3, a4, a5, a6, h⟩ := h
    refine ⟨_, _, _, h, fun b hb' => List.mem_cons_of_mem _ hb', fun H' K' hd hk' => ?_⟩
    unfold appK
    dsimp only
    rw [hd b (by simp), hb]
    dsimp only
    rw [hFX]
    exact ⟨a1, a2, a3, a4, a5, a6, hk'⟩
  · split at h
    case h_2 => exact h.elim
    rename_i hb
    obtain ⟨a1, a2, a3, h⟩ := h
    rw [genK_eq] at h
    refine ⟨_, _, _, h, fun b hb' => List.mem_cons_of_mem _ hb', fun H' K' hd hk' => ?_⟩
    unfold appK
    dsimp only
    rw [hb]
    dsimp only
    rw [genK_eq, hd d (by simp)]
    exact ⟨a1, a2, a3, hk'⟩
  · rename_i b g
    split at h
    case h_2 => exact h.elim
    rename_i g' E sz es hb
    split at h
    case h_2 => exact h.elim
    rename_i hFX
    obtain ⟨a1, a2, a3, a4, h⟩ := h
    refine ⟨_, _, _, h, fun b hb' => List.mem_cons_of_mem _ hb', fun H' K' hd hk' => ?_⟩
    unfold appK
    dsimp only
    rw [hd b (by simp), hb]
    dsimp only
    rw [hFX]
    exact ⟨a1, a2, a3, a4, hk'⟩
  · exact h.elim

theorem rp_append {t : Nat} {x y : AT} (h : effAppend T H n dst t x y K) : ∃ r u d, K r u d ∧ ∀ (H' : Nat → Blk) (K' : Kont), (∀ b ∈ d, H' b = H b) → K' r u d → effAppend T H' n dst t x y K' := by
  unfold effAppend at h
  split at h
  case h_2 => exact h.elim
  rename_i e hs
  cases hc1 : Nat.ble 1 (T e).size with
  | false => rw [hc1] at h; split at h <;> first | exact h.elim | contradiction
  | true =>
  cases hc2 : Nat.ble 1 (T e).bytes with
  | false => rw [hc1, hc2] at h; split at h <;> first | exact h.elim | contradiction
  | true =>
  cases dst with
  | none => rw [hc1, hc2] at h; split at h <;> first | exact h.elim | contradiction
  | some d =>
  rw [hc1, hc2] at h
  split at h
  · exact h.elim
  case h_3 => exact h.elim
  rename_i d' _ _ hd' hk
  injection hd' with hd'
  subst hd'
  obtain ⟨ys, rd, ⟨hz, h⟩, hl⟩ := rp_list h
  obtain ⟨r, u, d', h1, h2, h3⟩ := rp_appK h
  refine ⟨r, u, d', h1, fun H' K' hd hk' => ?_⟩
  have hfin := hl H' (fun ys rd => (∀ z ∈ ys, z.length = (T e).size) ∧ appK T H' n d e x ys rd K') (fun b hb => hd b (h2 b hb)) ⟨hz, h3 H' K' hd hk'⟩
  unfold effAppend
  simp only [hs, hc1, hc2]
  first
    | exact hfin
    | (split
       · rename_i e _ _ _; exact (hk e).elim
       · exact hfin
       · rename_i hh _; exact (hh _ rfl rfl rfl).elim)
theorem rp_copy {t : Nat} {x y : AT} (h : effCopy T H t x y K) : ∃ r u d, K r u d ∧ ∀ (H' : Nat → Blk) (K' : Kont), (∀ b ∈ d, H' b = H b) → K' r u d → effCopy T H' t x y K' := by
  unfold effCopy at h
  split at h
  case h_2 => exact h.elim
  rename_i e hs
  split at h
  · exact h.elim
  rename_i hk
  split at h
  case h_3 => exact h.elim
  case h_2 =>
    rename_i b g sz' lo hi
    split at h
    case h_2 => exact h.elim
    rename_i g' E sz es hb
    obtain ⟨a1, a2, a3, h⟩ := h
    obtain ⟨ys, rd, ⟨hz, h⟩, hl⟩ := rp_list h
    refine ⟨_, _, _, h, fun H' K' hd hk' => ?_⟩
    have hfin := hl H' (fun ys rd => (∀ z ∈ ys, z.length = sz) ∧ K' (ATint (min ys.length (hi - lo) : Nat)) [(b, .row g E sz (splice es lo (ys.take (hi - lo))))] (b :: rd)) (fun b hb => hd b (List.mem_cons_of_mem _ hb)) ⟨hz, hk'⟩
    unfold effCopy
    simp only [hs]
    rw [hd b (by simp), hb]
    first
      | exact ⟨a1, a2, a3, hfin⟩
      | (split
         · rename_i e; exact (hk e).elim
         · exact ⟨a1, a2, a3, hfin⟩)
  rename_i b g
  split at h
  case h_2 => exact h.elim
  rename_i g' E sz es hb
  split at h
  case h_2 =>
    rename_i hFX
    split at h
    case h_2 => exact h.elim
    rename_i hCX
    obtain ⟨a1, a2, h⟩ := h
    obtain ⟨ys, rd, ⟨hz, h⟩, hl⟩ := rp_list h
    refine ⟨_, _, _, h, fun H' K' hd hk' => ?_⟩
    have hfin := hl H' (fun ys rd => (∀ z ∈ ys, z.length = sz) ∧ K' (ATint (min ys.length es.length : Nat)) [(b, .row g E sz (splice es 0 (ys.take es.length)))] (b :: rd)) (fun b hb => hd b (List.mem_cons_of_mem _ hb)) ⟨hz, hk'⟩
    unfold effCopy
    simp only [hs]
    rw [hd b (by simp), hb]
    simp only [hFX, hCX]
    first
      | exact ⟨a1, a2, hfin⟩
      | (split
         · rename_i e; exact (hk e).elim
         · exact ⟨a1, a2, hfin⟩)
  rename_i hFX
  obtain ⟨a1, a2, h⟩ := h
  obtain ⟨ys, rd, ⟨hz, h⟩, hl⟩ := rp_list h
  refine ⟨_, _, _, h, fun H' K' hd hk' => ?_⟩
  have hfin := hl H' (fun ys rd => (∀ z ∈ ys, z.length = sz) ∧ K' (ATint (min ys.length es.length : Nat)) [(b, .row g E sz (ys.take es.length ++ es.drop ys.length))] (b :: rd)) (fun b hb => hd b (List.mem_cons_of_mem _ hb)) ⟨hz, hk'⟩
  unfold effCopy
  simp only [hs]
  rw [hd b (by simp), hb]
  simp only [hFX]
  first
    | exact ⟨a1, a2, hfin⟩
    | (split
       · rename_i e; exact (hk e).elim
       · exact ⟨a1, a2, hfin⟩)

theorem rp_convB {s d : Nat} {x : AT} (h : effConvB T H s d x K) : ∃ r u d', K r u d' ∧ ∀ (H' : Nat → Blk) (K' : Kont), (∀ b ∈ d', H' b = H b) → K' r u d' → effConvB T H' s d x K' := by
  unfold effConvB at h
  split at h
  · rename_i e hs
    split at h
    case h_2 => exact h.elim
    rename_i hd
    obtain ⟨he, h⟩ := h
    obtain ⟨es, rd, ⟨ws, hw, h⟩, hl⟩ := rp_list h
    refine ⟨_, _, _, h, fun H' K' hd' hk' => ?_⟩
    unfold effConvB
    simp only [hs, hd]
    exact ⟨he, hl H' _ hd' ⟨ws, hw, hk'⟩⟩
  · rename_i hs
    have hx : ∀ (H' : Nat → Blk) (K' : Kont), effConv T s d x K' → effConvB T H' s d x K' := by
      intro H' K' hh
      unfold effConvB
      split
      · rename_i e he; exact (hs e he).elim
      · exact hh
    unfold effConv at h
    split at h
    · rename_i h1 h2; exact ⟨_, _, _, h, fun H' K' _ hk => hx H' K' (by unfold effConv; rw [h1, h2]; exact hk)⟩
    · rename_i h1 h2; exact ⟨_, _, _, h, fun H' K' _ hk => hx H' K' (by unfold effConv; rw [h1, h2]; exact hk)⟩
    · exact h.elim

theorem rp_convN {s t : Nat} {x : AT} (h : effConvN T H n dst s t x K) : ∃ r u d', K r u d' ∧ ∀ (H' : Nat → Blk) (K' : Kont), (∀ b ∈ d', H' b = H b) → K' r u d' → effConvN T H' n dst s t x K' := by
  unfold effConvN at h
  split at h
  · rename_i hs
    split at h
    · rename_i e ht
      split at h
      case h_2 => exact h.elim
      split at h
      case h_2 => exact h.elim
      rename_i d
      split at h
      case h_2 => exact h.elim
      rename_i c1 c2
      obtain ⟨a1, a2, h⟩ := h
      rw [genK_eq] at h
      refine ⟨_, _, _, h, fun H' K' hd hk => ?_⟩
      unfold effConvN
      simp only [hs, ht, c1, c2]
      exact ⟨a1, a2, by rw [genK_eq, hd d (by simp)]; exact hk⟩
    · rename_i ht
      obtain ⟨r, u, d', h1, h2⟩ := rp_convB h
      refine ⟨r, u, d', h1, fun H' K' hd hk => ?_⟩
      unfold effConvN
      split
      · split
        · rename_i e he; exact (ht e he).elim
        · exact h2 H' K' hd hk
      · exact h2 H' K' hd hk
  · rename_i hs
    obtain ⟨r, u, d', h1, h2⟩ := rp_convB h
    refine ⟨r, u, d', h1, fun H' K' hd hk => ?_⟩
    unfold effConvN
    split
    · rename_i hs'; exact (hs hs').elim
    · exact h2 H' K' hd hk

theorem rp_indexV {t : Nat} {x i : AT} (h : effIndexV T t x i K) : ∃ r, K r [] [] ∧ ∀ K' : Kont, K' r [] [] → effIndexV T t x i K' := by
  unfold effIndexV at h
  split at h
  case h_2 => exact h.elim
  rename_i k m
  split at h
  case h_3 => exact h.elim
  · rename_i hs
    split at h
    case h_2 => exact h.elim
    obtain ⟨h0, c, hc, h⟩ := h
    exact ⟨_, h, fun K' hk => by unfold effIndexV; simp only [hs]; exact ⟨h0, c, hc, hk⟩⟩
  · rename_i len e hs
    split at h
    · exact h.elim
    rename_i hk
    split at h
    case h_2 => exact h.elim
    split at h
    case h_2 => exact h.elim
    rename_i hb
    obtain ⟨h0, h1, h⟩ := h
    obtain ⟨r, h2, h3⟩ := rp_part h
    refine ⟨r, h2, fun K' hk' => ?_⟩
    unfold effIndexV
    simp only [hs, hb]
    first
      | exact ⟨h0, h1, h3 _ hk'⟩
      | (split
         · rename_i e; exact (hk e).elim
         · exact ⟨h0, h1, h3 _ hk'⟩)

theorem rp_fieldV {s f : Nat} {x : AT} (h : effFieldV T s x f K) : ∃ r, K r [] [] ∧ ∀ K' : Kont, K' r [] [] → effFieldV T s x f K' := by
  unfold effFieldV at h
  split at h
  case h_2 => exact h.elim
  rename_i fs hs
  split at h
  case h_2 => exact h.elim
  rename_i o ft hf
  split at h
  · exact h.elim
  rename_i hk
  split at h
  case h_2 => exact h.elim
  obtain ⟨r, h2, h3⟩ := rp_part h
  refine ⟨r, h2, fun K' hk' => ?_⟩
  unfold effFieldV
  simp only [hs, hf]
  first
    | exact h3 _ hk'
    | (split
       · rename_i e; exact (hk e).elim
       · exact h3 _ hk')

theorem rp_caps (l : List AT) : ∀ {K : List Cap → Prop}, capsK l K → ∃ ps, K ps ∧ ∀ K' : List Cap → Prop, K' ps → capsK l K' := by
  induction l with
  | nil => intro K h; exact ⟨_, h, fun K' hk => hk⟩
  | cons x l ih =>
    intro K h
    simp only [capsK] at h
    unfold capK at h
    split at h
    · obtain ⟨ps, h1, h2⟩ := ih h
      exact ⟨_, h1, fun K' hk => by simp only [capsK, capK]; exact h2 _ hk⟩
    · obtain ⟨ps, h1, h2⟩ := ih h
      exact ⟨_, h1, fun K' hk => by simp only [capsK, capK]; exact h2 _ hk⟩
    · obtain ⟨ps, h1, h2⟩ := ih h
      exact ⟨_, h1, fun K' hk => by simp only [capsK, capK]; exact h2 _ hk⟩
    · exact h.elim
end
end Go.Proofs.YtikchieadclbhaaGreatDoor.Ab
