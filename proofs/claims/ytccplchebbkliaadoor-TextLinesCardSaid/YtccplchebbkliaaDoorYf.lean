/- Hexadecimal digits. No condition. -/
import Derived.Test.YtccplchebbkliaaDoorYe
import Derived.Test.YtccplchebbkliaaDoorFu
namespace Go.Proofs.YtccplchebbkliaaDoor.Ab
set_option linter.unusedVariables false
set_option linter.unusedSimpArgs false
open Go.RowKit Go.Lib

def digA : Array Value := #[.int .u8 48, .int .u8 49, .int .u8 50, .int .u8 51, .int .u8 52, .int .u8 53, .int .u8 54, .int .u8 55, .int .u8 56, .int .u8 57, .int .u8 97, .int .u8 98, .int .u8 99, .int .u8 100, .int .u8 101, .int .u8 102]
theorem digA_one : digA.all (·.oneCell') = true := by simp [digA, Value.oneCell']
theorem digA_size : (Tryd.prog.info? 55).map (·.size) = some digA.size := by kernel_rfl
theorem below_setRow {B : Nat} {a w : World} (h : Below B a w) {g : Nat} (hg : B ≤ g) (cs : Array Value) : Below B a (w.setRow g cs) :=
  h.trans ⟨rfl, rfl, rfl, by simp [World.setRow], fun k hk => setRow_other w g k cs (by omega)⟩
def zer16 : Array Value := #[.int .u8 0, .int .u8 0, .int .u8 0, .int .u8 0, .int .u8 0, .int .u8 0, .int .u8 0, .int .u8 0, .int .u8 0, .int .u8 0, .int .u8 0, .int .u8 0, .int .u8 0, .int .u8 0, .int .u8 0, .int .u8 0]
theorem zer_dig : zer16.size = digA.size := by rfl
set_option maxHeartbeats 1000000 in
set_option maxRecDepth 100000 in
theorem digC (w : World) : Calls Tryd.prog 29 #[] w fun e w' => e = .returned (.agg digA) ∧ Below w.heap.size w w' := by
  have h0 : (w.alloc (.cells zer16 55)).heap[w.heap.size]? = some (.cells zer16 55) := heap_alloc_new w _
  go_enter Tryd.func29, Tryd.ntmps29
  go_wp2_with (refine wpList_store_row rfl 55 _ _ rfl w.heap.size digA rfl rfl 55 zer16 h0 digA_size zer_dig digA_one ?_)
  exact bodyPost_ret (v := .agg digA) (results_cell_row rfl _ _ w.heap.size 55 digA _ _ rfl (setRow_heap _ _ _ _ _ _ h0) Tryd.underlying55 rfl (by kernel_rfl)) rfl
        ⟨rfl, below_setRow ((Below.refl _ _).alloc (Nat.le_refl _) _) (Nat.le_refl _) _⟩
def digL : List Nat := [48, 49, 50, 51, 52, 53, 54, 55, 56, 57, 97, 98, 99, 100, 101, 102]
theorem digL_at (b : UInt8) : digL[(b / 16).toNat]? = some (hdg (b / 16)).toNat ∧ digL[(b % 16).toNat]? = some (hdg (b % 16)).toNat := by
  refine byte_all (p := fun b => digL[(b / 16).toNat]? = some (hdg (b / 16)).toNat ∧ digL[(b % 16).toNat]? = some (hdg (b % 16)).toNat) ?_ b
  decide +kernel
theorem digA_L : digA.toList = digL.map fun n => Value.int .u8 (n : Nat) := rfl
theorem digA_at (b : UInt8) : digA[(b / 16).toNat]? = some (.int .u8 (hdg (b / 16)).toNat) ∧ digA[(b % 16).toNat]? = some (.int .u8 (hdg (b % 16)).toNat) := by
  have h := digL_at b
  rw [← Array.getElem?_toList, ← Array.getElem?_toList, digA_L, List.getElem?_map, List.getElem?_map, h.1, h.2]
  exact ⟨rfl, rfl⟩
theorem hex_snoc : ∀ (l : List UInt8) (b : UInt8), hexL (l ++ [b]) = hexL l ++ [hdg (b / 16), hdg (b % 16)]
  | [], b => rfl
  | x :: l, b => by rw [List.cons_append, hexL, hex_snoc l b, hexL]; rfl
theorem hex_len : ∀ (l : List UInt8), (hexL l).length = 2 * l.length
  | [] => rfl
  | x :: l => by rw [hexL, List.length_cons, List.length_cons, hex_len l, List.length_cons]; omega
set_option maxHeartbeats 4000000 in
set_option maxRecDepth 100000 in
theorem hexC (s : ByteArray) (w : World) (hs : s.size ≤ 35184372088832) : Calls Tryd.prog 36 #[.string s] w fun e w' => e = .returned (.string ⟨(hexL s.data.toList).toArray⟩) ∧ Below w.heap.size w w' := by
  go_enter Tryd.func36, Tryd.ntmps36
  go_wp2_with fail
  refine (digC _).mono ?_
  rintro e w1 ⟨rfl, hb⟩
  have hh : ((w1.alloc (.cells #[.int .u8 0, .int .u8 0, .int .u8 0, .int .u8 0, .int .u8 0, .int .u8 0, .int .u8 0, .int .u8 0, .int .u8 0, .int .u8 0, .int .u8 0, .int .u8 0, .int .u8 0, .int .u8 0, .int .u8 0, .int .u8 0] 55))).heap[w1.heap.size]? = some (.cells #[.int .u8 0, .int .u8 0, .int .u8 0, .int .u8 0, .int .u8 0, .int .u8 0, .int .u8 0, .int .u8 0, .int .u8 0, .int .u8 0, .int .u8 0, .int .u8 0, .int .u8 0, .int .u8 0, .int .u8 0, .int .u8 0] 55) := heap_alloc_new w1 _
  go_wp2_with (refine wpList_store_row rfl 55 _ _ rfl w1.heap.size digA rfl rfl 55 _ hh digA_size zer_dig digA_one ?_)
  have hb2 : Below w.heap.size w ((w1.alloc (.cells #[.int .u8 0, .int .u8 0, .int .u8 0, .int .u8 0, .int .u8 0, .int .u8 0, .int .u8 0, .int .u8 0, .int .u8 0, .int .u8 0, .int .u8 0, .int .u8 0, .int .u8 0, .int .u8 0, .int .u8 0, .int .u8 0] 55)).setRow w1.heap.size digA) := below_setRow (hb.alloc hb.size _) hb.size _
  have hh2 := setRow_heap _ _ _ digA _ _ hh
  have hsz : ((w1.alloc (.cells #[.int .u8 0, .int .u8 0, .int .u8 0, .int .u8 0, .int .u8 0, .int .u8 0, .int .u8 0, .int .u8 0, .int .u8 0, .int .u8 0, .int .u8 0, .int .u8 0, .int .u8 0, .int .u8 0, .int .u8 0, .int .u8 0] 55)).setRow w1.heap.size digA).heap.size = w1.heap.size + 1 := by simp [World.setRow]
  generalize ((w1.alloc (.cells #[.int .u8 0, .int .u8 0, .int .u8 0, .int .u8 0, .int .u8 0, .int .u8 0, .int .u8 0, .int .u8 0, .int .u8 0, .int .u8 0, .int .u8 0, .int .u8 0, .int .u8 0, .int .u8 0, .int .u8 0, .int .u8 0] 55)).setRow w1.heap.size digA) = w2 at *
  go_loopw [5] (fun i wr => ∃ k : Nat, k ≤ s.size ∧ i = .int .i64 k ∧ Lib.IsBuilder 60 5 (w1.heap.size + 1) (w1.heap.size + 1) (Lib.byteCells (hexL (s.data.toList.take k))) wr ∧ Below (w1.heap.size + 1) w2 wr) (fun i _ => s.size - (RowKit.intOf i).toNat)
  case atStart =>
    refine ⟨0, Nat.zero_le _, rfl, ?_, (Below.refl _ _).alloc (Nat.le_of_eq hsz.symm) _⟩
    have e0 : Lib.byteCells (hexL (s.data.toList.take 0)) = [] := by rw [List.take_zero]; rfl
    rw [e0]
    have hn := heap_alloc_new w2 (.cells #[.pointer none, .slice none 0 0] 60)
    rw [hsz] at hn
    exact Or.inl ⟨Nat.le_refl _, _, hn, World.ownsRow_nil _ _ _ _, by simp [Value.ownBlock]⟩
  case round =>
    obtain ⟨k, hk, rfl, hB, hbw⟩ := hrel
    by_cases hlt : k < s.size
    · have hlen : k < s.data.toList.length := hlt
      have hbb := s[k].toNat_lt
      have h16 : s[k].toNat / 16 < 16 := by omega
      have hcell : ∀ wx : World, Below (w1.heap.size + 1) w2 wx → wx.cell? ⟨w1.heap.size, s[k].toNat / 16, none⟩ = some (.int .u8 ((hdg (s[k] / 16)).toNat : Nat)) ∧ wx.cell? ⟨w1.heap.size, s[k].toNat % 16, none⟩ = some (.int .u8 ((hdg (s[k] % 16)).toNat : Nat)) := by
        intro wx hx
        have e1 : wx.heap[w1.heap.size]? = some (.cells digA 55) := (hx.block _ (Nat.lt_succ_self _)).trans hh2
        have e2 := digA_at s[k]
        rw [UInt8.toNat_div, UInt8.toNat_mod] at e2
        rw [cell_of_row _ _ _ _ _ _ e1, cell_of_row _ _ _ _ _ _ e1]
        exact e2
      have hc1 := (hcell wr hbw).1
      have hln : (Lib.byteCells (hexL (s.data.toList.take k))).length ≤ 2 * k := by
        rw [Lib.byteCells_length, hex_len, List.length_take]
        omega
      have hB1 := bByte (w1.heap.size + 1) (w1.heap.size + 1) _ ((hdg (s[k] / 16)).toNat : Nat) wr hB (by omega) (by have := hbw.size; omega)
      go_wp2_with fail
      refine hB1.mono ?_
      rintro e w3 ⟨rfl, hB2, hb3⟩
      have hbw3 := hbw.trans hb3
      have hc2 := (hcell w3 hbw3).2
      have hB3 := bByte (w1.heap.size + 1) (w1.heap.size + 1) _ ((hdg (s[k] % 16)).toNat : Nat) w3 (Or.inr hB2) (by rw [List.length_append, List.length_singleton]; omega) (by have := hbw3.size; omega)
      go_wp2_with fail
      refine hB3.mono ?_
      rintro e w4 ⟨rfl, hB4, hb4⟩
      have hbw4 := hbw3.trans hb4
      have htk : s.data.toList.take (k + 1) = s.data.toList.take k ++ [s[k]] := List.take_succ_eq_append_getElem hlen
      have hby : Lib.byteCells (hexL (s.data.toList.take k)) ++ [.int .u8 ((hdg (s[k] / 16)).toNat : Nat)] ++ [.int .u8 ((hdg (s[k] % 16)).toNat : Nat)] = Lib.byteCells (hexL (s.data.toList.take (k + 1))) := by
        rw [htk, hex_snoc, Lib.byteCells_append, List.append_assoc]
        rfl
      rw [hby] at hB4
      have HB4 := Lib.hid hB4
      clear hB4 hby htk
      go_wp2
      go_roundw
      case rel => exact ⟨k + 1, by omega, by go_num, Or.inr HB4.out, hbw4⟩
      case measure => simp [RowKit.intOf]; omega
    · obtain rfl : k = s.size := by omega
      have hst := Tryd.Builder_String_any _ _ _ _ hB (by have := hbw.size; omega)
      go_wp2_with fail
      refine hst.mono ?_
      rintro e w4 ⟨rfl, hb4⟩
      go_wp2
      go_ret
      rw [show List.take s.size s.data.toList = s.data.toList from List.take_of_length_le (Nat.le_refl _)]
      have hbs := hb.size
      exact ⟨rfl, (hb2.trans (hbw.mono (by omega))).trans (hb4.mono (by omega))⟩
theorem hexF (s : ByteArray) (hs : s.size ≤ 35184372088832) : Fun Tryd.prog 36 [.c (.i (.sc (.string s)))] [] (.v (.c (.i (.sc (.string ⟨(hexL s.data.toList).toArray⟩))))) :=
  fun_of_calls (args := [.string s]) (v := .string ⟨(hexL s.data.toList).toArray⟩) ⟨_, Tryd.func36, rfl, rfl⟩ rfl (fun w => hexC s w hs)
end Go.Proofs.YtccplchebbkliaaDoor.Ab
