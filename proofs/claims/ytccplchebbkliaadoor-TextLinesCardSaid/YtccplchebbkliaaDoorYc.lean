/- The library's Split at one byte is the plain cut. No condition. -/
import Derived.Test.YtccplchebbkliaaDoorYb
import Derived.Lib.SplitLaws
import Derived.Lib.IndexBytes
namespace Go.Proofs.YtccplchebbkliaaDoor.Ab
set_option linter.unusedVariables false
set_option linter.unusedSimpArgs false
open Go.Lib

theorem idx_miss {l : List UInt8} {c : UInt8} (h : indexByte l c = -1) : c ∉ l := by
  induction l with
  | nil => simp
  | cons b l ih =>
    rw [indexByte] at h
    split at h
    · cases h
    · rename_i hb
      split at h
      · rename_i hl
        intro hc
        rcases List.mem_cons.1 hc with rfl | hc
        · simp at hb
        · exact ih (by simpa using hl) hc
      · have := indexByte_ge l c
        omega
theorem idx_hit : ∀ {l : List UInt8} {c : UInt8} {i : Nat}, indexByte l c = i → c ∉ l.take i ∧ l = l.take i ++ c :: l.drop (i + 1)
  | [], c, i, h => by rw [indexByte] at h; omega
  | b :: l, c, i, h => by
    rw [indexByte] at h
    split at h
    · rename_i hb
      obtain rfl : i = 0 := by omega
      have : b = c := by simpa using hb
      subst this
      simp
    · rename_i hb
      split at h
      · omega
      · have hg := indexByte_ge l c
        obtain ⟨j, rfl⟩ : ∃ j, i = j + 1 := ⟨i - 1, by rename_i hne; simp at hne; omega⟩
        have := idx_hit (l := l) (c := c) (i := j) (by omega)
        rw [List.take_succ_cons, List.drop_succ_cons, List.cons_append, ← this.2]
        refine ⟨?_, rfl⟩
        intro hc
        rcases List.mem_cons.1 hc with rfl | hc
        · simp at hb
        · exact this.1 hc
theorem splitB_spl (c : UInt8) : ∀ (k : Nat) (s : ByteArray), countB s ⟨#[c]⟩ = k → (splitB ⟨#[c]⟩ 0 k s).map (·.data.toList) = spl c s.data.toList := by
  intro k
  induction k with
  | zero =>
    intro s hk
    rw [splitB_zero]
    have hm : indexB s ⟨#[c]⟩ = -1 := by
      rcases indexB_cases s ⟨#[c]⟩ with h | ⟨i, h, _⟩
      · exact h
      · have := countB_hit s ⟨#[c]⟩ i (Nat.le_refl 1) h
        omega
    have h2 : indexByte s.data.toList c = -1 := by rw [← index_one]; exact hm
    rw [spl_word (idx_miss h2)]
    rfl
  | succ k ih =>
    intro s hk
    rcases indexB_cases s ⟨#[c]⟩ with h | ⟨i, h, hle⟩
    · rw [countB_miss s _ h] at hk
      omega
    · have hc := countB_hit s ⟨#[c]⟩ i (Nat.le_refl 1) h
      have h2 : indexByte s.data.toList c = i := by rw [← index_one]; exact h
      have h3 := idx_hit h2
      have hd : (s.extract (i + (⟨#[c]⟩ : ByteArray).size) s.size).data.toList = s.data.toList.drop (i + 1) := by
        show (s.extract (i + 1) s.size).data.toList = _
        simp [ByteArray.data_extract, Array.toList_extract, List.extract_eq_take_drop]
        rw [List.take_of_length_le]
        rw [List.length_drop]
        simp
      rw [splitB_hit _ 0 k s i h, List.map_cons, ih _ (by omega), hd]
      conv => rhs; rw [h3.2]
      rw [spl_app h3.1, Nat.add_zero, extract_from_zero]
end Go.Proofs.YtccplchebbkliaaDoor.Ab
