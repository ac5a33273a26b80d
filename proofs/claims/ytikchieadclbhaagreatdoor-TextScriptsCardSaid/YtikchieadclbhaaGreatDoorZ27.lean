/- Numbers in lines. No condition. -/
import Derived.Test.YtikchieadclbhaaGreatDoorZ26
import Derived.Deep.QuietTactic
import Derived.BigQuiet
namespace Go.Proofs.YtikchieadclbhaaGreatDoor.Ab
set_option linter.unusedVariables false
set_option linter.unusedSimpArgs false
open Go.RowKit Go.Lib

def digB : List UInt8 := [48, 49, 50, 51, 52, 53, 54, 55, 56, 57, 97, 98, 99, 100, 101, 102]
theorem idx_uvl (c : UInt8) : Lib.indexByte digB c = (match uvl c with | some x => (x.toNat : Int) | none => -1) := by
  refine byte_all (p := fun c => Lib.indexByte digB c = (match uvl c with | some x => (x.toNat : Int) | none => -1)) ?_ c
  decide +kernel
theorem unhx_app : ∀ (l m : List UInt8) (L : List UInt8) (k : Nat), l.length = 2 * k → unhx l = some L → unhx (l ++ m) = (unhx m).map (L ++ ·)
  | [], m, L, k, _, h => by
    rw [unhx] at h
    injection h with h
    subst h
    rw [List.nil_append]
    cases unhx m <;> rfl
    intro a b r h2
    cases h2
  | [a], m, L, k, h0, _ => by simp at h0; omega
  | a :: b :: l, m, L, k, h0, h => by
    rw [unhx] at h
    rw [List.cons_append, List.cons_append, unhx]
    split at h
    · rename_i x y hx hy
      cases hl : unhx l with
      | none => rw [hl] at h; cases h
      | some L2 =>
        rw [hl] at h
        injection h with h
        subst h
        rw [unhx_app l m L2 (k - 1) (by simp at h0; omega) hl]
        cases unhx m <;> rfl
    · cases h
theorem digA_B : digA.toList = digB.map fun b => Value.int .u8 (b.toNat : Int) := by rfl
theorem dig_cells {w : World} {b : Nat} (h : w.heap[b]? = some (.cells digA 89)) : ∀ j (hj : j < digB.length), w.cell? ((⟨b, 0, none⟩ : Addr).add j) = some (.int .u8 (digB[j].toNat : Int)) := by
  intro j hj
  have e2 : ((⟨b, 0, none⟩ : Addr).add j) = ⟨b, j, none⟩ := by
    unfold Addr.add
    split
    · rename_i h0; rw [h0]
    · simp
  rw [e2, cell_of_row _ _ _ _ _ _ h, ← Array.getElem?_toList, digA_B, List.getElem?_map, List.getElem?_eq_getElem hj]
  rfl
theorem uvl_lt {c x : UInt8} (h : uvl c = some x) : x.toNat < 16 := by
  have h2 : ∀ c : UInt8, (match uvl c with | some x => decide (x.toNat < 16) | none => true) = true := fun c => by
    refine byte_all (p := fun c => (match uvl c with | some x => decide (x.toNat < 16) | none => true) = true) ?_ c
    decide +kernel
  have := h2 c
  rw [h] at this
  exact of_decide_eq_true this
theorem or_all : ∀ a < 16, ∀ b < 16, bits BinOp.or IntKind.i64 (wrap64 (((a : Nat) : Int) * 16)) ((b : Nat) : Int) % 256 = ((a * 16 + b : Nat) : Int) := by decide +kernel
theorem or_val {x y : UInt8} (hx : x.toNat < 16) (hy : y.toNat < 16) : bits BinOp.or IntKind.i64 (wrap64 ((x.toNat : Int) * 16)) (y.toNat : Int) % 256 = (((x * 16 + y).toNat : Nat) : Int) := by
  rw [or_all _ hx _ hy, UInt8.toNat_add, UInt8.toNat_mul]
  congr 1
  show _ = (x.toNat * 16 % 256 + y.toNat) % 256
  omega
def unhB (l : List UInt8) : Bool := (unhx l).isSome && decide (l.length % 2 = 0)
theorem unhx_end {l L : List UInt8} {n k : Nat} (hn : n = 2 * k) (h : unhx (l.take n) = some L) (h1 : n ≤ l.length) (h2 : ¬ n + 1 < l.length) : unhx l = some L := by
  subst hn
  have := unhx_app (l.take (2 * k)) (l.drop (2 * k)) L k (by rw [List.length_take]; omega) h
  rw [List.take_append_drop] at this
  rw [this]
  have hd : (l.drop (2 * k)).length ≤ 1 := by rw [List.length_drop]; omega
  match l.drop (2 * k), hd with
  | [], _ => simp [unhx]
  | [x], _ => simp [unhx]
theorem unhx_step {l L : List UInt8} {n k : Nat} (hn : n = 2 * k) (h : unhx (l.take n) = some L) (h2 : n + 1 < l.length) :
    (∀ x y, uvl l[n] = some x → uvl l[n + 1] = some y → unhx (l.take (n + 2)) = some (L ++ [x * 16 + y])) ∧ ((uvl l[n] = none ∨ uvl l[n + 1] = none) → unhx l = none) := by
  subst hn
  have e1 : l.take (2 * k + 2) = l.take (2 * k) ++ [l[2 * k], l[2 * k + 1]] := by
    rw [show 2 * k + 2 = 2 * k + 1 + 1 by omega, List.take_succ_eq_append_getElem h2, List.take_succ_eq_append_getElem (by omega : 2 * k < l.length), List.append_assoc]
    rfl
  have hlen : (l.take (2 * k)).length = 2 * k := by rw [List.length_take]; omega
  refine ⟨fun x y hx hy => ?_, fun hn => ?_⟩
  · rw [e1, unhx_app _ _ L k hlen h, unhx, hx, hy]
    simp [unhx]
  · have := unhx_app (l.take (2 * k)) (l.drop (2 * k)) L k hlen h
    rw [List.take_append_drop] at this
    rw [this, List.drop_eq_getElem_cons (by omega : 2 * k < l.length), List.drop_eq_getElem_cons h2, unhx]
    rcases hn with hn | hn
    · rw [hn]; rfl
    · rw [hn]
      cases uvl l[2 * k] <;> rfl
set_option maxHeartbeats 4000000 in
set_option maxRecDepth 100000 in
theorem unhexC (s : ByteArray) (w : World) (hs : s.size ≤ 35184372088832) : Calls Tryz.prog 30 #[.string s] w fun e w' => e = .returned (.tuple #[.string ⟨(unhxS s.data.toList).toArray⟩, .bool (unhB s.data.toList)]) ∧ Below w.heap.size w w' := by
  go_enter Tryz.func30, Tryz.ntmps30
  go_wp2_with fail
  refine (digC _).mono ?_
  rintro e w1 ⟨rfl, hb⟩
  have hh : ((w1.alloc (.cells #[.int .u8 0, .int .u8 0, .int .u8 0, .int .u8 0, .int .u8 0, .int .u8 0, .int .u8 0, .int .u8 0, .int .u8 0, .int .u8 0, .int .u8 0, .int .u8 0, .int .u8 0, .int .u8 0, .int .u8 0, .int .u8 0] 89))).heap[w1.heap.size]? = some (.cells #[.int .u8 0, .int .u8 0, .int .u8 0, .int .u8 0, .int .u8 0, .int .u8 0, .int .u8 0, .int .u8 0, .int .u8 0, .int .u8 0, .int .u8 0, .int .u8 0, .int .u8 0, .int .u8 0, .int .u8 0, .int .u8 0] 89) := heap_alloc_new w1 _
  go_wp2_with (refine wpList_store_row rfl 89 _ _ rfl w1.heap.size digA rfl rfl 89 _ hh digA_size zer_dig digA_one ?_)
  have hb2 : Below w.heap.size w ((w1.alloc (.cells #[.int .u8 0, .int .u8 0, .int .u8 0, .int .u8 0, .int .u8 0, .int .u8 0, .int .u8 0, .int .u8 0, .int .u8 0, .int .u8 0, .int .u8 0, .int .u8 0, .int .u8 0, .int .u8 0, .int .u8 0, .int .u8 0] 89)).setRow w1.heap.size digA) := below_setRow (hb.alloc hb.size _) hb.size _
  have hh2 := setRow_heap _ _ _ digA _ _ hh
  have hsz : ((w1.alloc (.cells #[.int .u8 0, .int .u8 0, .int .u8 0, .int .u8 0, .int .u8 0, .int .u8 0, .int .u8 0, .int .u8 0, .int .u8 0, .int .u8 0, .int .u8 0, .int .u8 0, .int .u8 0, .int .u8 0, .int .u8 0, .int .u8 0] 89)).setRow w1.heap.size digA).heap.size = w1.heap.size + 1 := by simp [World.setRow]
  generalize ((w1.alloc (.cells #[.int .u8 0, .int .u8 0, .int .u8 0, .int .u8 0, .int .u8 0, .int .u8 0, .int .u8 0, .int .u8 0, .int .u8 0, .int .u8 0, .int .u8 0, .int .u8 0, .int .u8 0, .int .u8 0, .int .u8 0, .int .u8 0] 89)).setRow w1.heap.size digA) = w2 at *
  have hcv : (convert 42 9 (.slice (some ⟨w1.heap.size, 0, none⟩) 16 16)).run Tryz.prog w2 = .ok (.string ⟨digB.toArray⟩) w2 := run_convert_bytes_back w2 42 9 5 ⟨w1.heap.size, 0, none⟩ 16 digB Tryz.underlying42 Tryz.underlying5 Tryz.underlying9 (dig_cells hh2)
  rw [hcv]
  simp only [Result.andThen]
  rw [Oper.upon_value]
  go_wp2
  clear hcv hh
  go_loopw [7, 8, 9] (fun i _ _ wr => ∃ n k : Nat, n = 2 * k ∧ n ≤ s.size ∧ i = .int .i64 (n : Int) ∧ ∃ L, unhx (s.data.toList.take n) = some L ∧ L.length = k ∧ Lib.IsBuilder 93 5 (w1.heap.size + 1) (w1.heap.size + 1) (Lib.byteCells L) wr ∧ Below (w1.heap.size + 1) w2 wr) (fun i _ _ _ => s.size - (RowKit.intOf i).toNat)
  case atStart =>
    have hn := heap_alloc_new w2 (.cells #[.pointer none, .slice none 0 0] 93)
    rw [hsz] at hn
    exact ⟨0, 0, rfl, Nat.zero_le _, rfl, [], by rw [List.take_zero]; rfl, rfl, Or.inl ⟨Nat.le_refl _, _, hn, World.ownsRow_nil _ _ _ _, by simp [Value.ownBlock]⟩, (Below.refl _ _).alloc (Nat.le_of_eq hsz.symm) _⟩
  case round =>
    obtain ⟨n, k, hnk, hk, rfl, L, hL, hLl, hB, hbw⟩ := hrel
    have HN := Lib.hid hnk
    clear hnk
    by_cases hlt : n + 1 < s.size
    · have hlen : n + 1 < s.data.toList.length := hlt
      have hl3 : n < s.size := by omega
      have hl2 : n < s.data.toList.length := by omega
      have hst := unhx_step HN.out hL hlen
      have hi1 : ∀ wx : World, Calls Tryz.prog 53 #[.string ⟨digB.toArray⟩, .int .u8 (s[n].toNat : Nat)] wx fun e w' => e = .returned (.int .i64 (match uvl s[n] with | some x => (x.toNat : Int) | none => -1)) ∧ w' = wx := fun wx => by
        have := Tryz.strings_IndexByte ⟨digB.toArray⟩ ((s[n].toNat : Nat) : Int) wx
        rw [show ((((s[n].toNat : Nat) : Int)).toNat.toUInt8) = s[n] from UInt8.ofNat_toNat, show (⟨digB.toArray⟩ : ByteArray).data.toList = digB from rfl, idx_uvl] at this
        exact this
      have hi2 : ∀ wx : World, Calls Tryz.prog 53 #[.string ⟨digB.toArray⟩, .int .u8 (s[n + 1].toNat : Nat)] wx fun e w' => e = .returned (.int .i64 (match uvl s[n + 1] with | some x => (x.toNat : Int) | none => -1)) ∧ w' = wx := fun wx => by
        have := Tryz.strings_IndexByte ⟨digB.toArray⟩ ((s[n + 1].toNat : Nat) : Int) wx
        rw [show ((((s[n + 1].toNat : Nat) : Int)).toNat.toUInt8) = s[n + 1] from UInt8.ofNat_toNat, show (⟨digB.toArray⟩ : ByteArray).data.toList = digB from rfl, idx_uvl] at this
        exact this
      have g1 : s.data.toList[n] = s[n] := rfl
      have g2 : s.data.toList[n + 1] = s[n + 1] := rfl
      rw [g1, g2] at hst
      have hbs := hb.size
      have hbb : Below w.heap.size w wr := hb2.trans (hbw.mono (by omega))
      have hwr : IntKind.i64.wrap ((n : Int) + 1) = (n : Int) + 1 := by rw [iwrap_eq]; exact w64_in (by omega)
      have htn : ((n : Int) + 1).toNat = n + 1 := by omega
      have hlt2 : (n : Int) + 1 < s.size := by omega
      have hge2 : (0 : Int) ≤ (n : Int) + 1 := by omega
      cases hx : uvl s[n] with
      | none =>
        have hn := hst.2 (Or.inl hx)
        have hS : unhxS s.data.toList = [] := by unfold unhxS; rw [hn]; rfl
        have hT : unhB s.data.toList = false := by unfold unhB; rw [hn]; rfl
        rw [hx] at hi1
        generalize (match uvl s[n + 1] with | some x => (x.toNat : Int) | none => -1) = Y at hi2
        clear hst hn
        go_wp2_with fail
        refine wp_region_quiet_lit (by kernel_rfl) (by kernel_rfl) ?_
        repeat (quiet_step (first | (go_at_call 53; exact Calls.quiet_of_same (hi1 _)) | (go_at_call 53; exact Calls.quiet_of_same (hi2 _))))
        refine wpQuiet_nil ?_
        intro _ hw'
        obtain ⟨nq, hw''⟩ := hw'
        subst hw''
        go_wp2
        go_ret2
        rw [hS, hT]
        exact ⟨rfl, below_drewN hbb nq⟩
      | some x =>
        cases hy : uvl s[n + 1] with
        | none =>
          have hn := hst.2 (Or.inr hy)
          have hS : unhxS s.data.toList = [] := by unfold unhxS; rw [hn]; rfl
          have hT : unhB s.data.toList = false := by unfold unhB; rw [hn]; rfl
          rw [hx] at hi1
          rw [hy] at hi2
          dsimp only at hi1 hi2
          have hx0 : ¬ ((x.toNat : Int) < 0) := by omega
          clear hst hn
          go_wp2_with fail
          refine wp_region_quiet_lit (by kernel_rfl) (by kernel_rfl) ?_
          repeat (quiet_step (first | (go_at_call 53; exact Calls.quiet_of_same (hi1 _)) | (go_at_call 53; exact Calls.quiet_of_same (hi2 _))))
          refine wpQuiet_nil ?_
          intro _ hw'
          obtain ⟨nq, hw''⟩ := hw'
          subst hw''
          go_wp2
          go_ret2
          rw [hS, hT]
          exact ⟨rfl, below_drewN hbb nq⟩
        | some y =>
          have hL2 := hst.1 x y hx hy
          rw [hx] at hi1
          rw [hy] at hi2
          dsimp only at hi1 hi2
          have hx0 : ¬ ((x.toNat : Int) < 0) := by omega
          have hy0 : ¬ ((y.toNat : Int) < 0) := by omega
          clear hst
          go_wp2_with fail
          refine wp_region_quiet_lit (by kernel_rfl) (by kernel_rfl) ?_
          repeat (quiet_step (first | (go_at_call 53; exact Calls.quiet_of_same (hi1 _)) | (go_at_call 53; exact Calls.quiet_of_same (hi2 _))))
          refine wpQuiet_nil ?_
          intro _ hw'
          obtain ⟨nq, hw''⟩ := hw'
          subst hw''
          have hB' : Lib.IsBuilder 93 5 (w1.heap.size + 1) (w1.heap.size + 1) (Lib.byteCells L) (wr.drewN nq) := hB
          have hbw' := below_drewN hbw nq
          have hbl : (Lib.byteCells L).length + 1 ≤ 140737488355328 := by rw [Lib.byteCells_length]; have := HN.out; omega
          have hB1 := bByte (w1.heap.size + 1) (w1.heap.size + 1) _ ((x * 16 + y).toNat : Nat) (wr.drewN nq) hB' hbl (by have := hbw'.size; omega)
          have HB1 := Lib.hid hB1
          clear hB1
          go_wp2_with fail
          have hv := or_val (uvl_lt hx) (uvl_lt hy)
          rw [hv]
          have hB1 := HB1.out
          refine hB1.mono ?_
          rintro e w3 ⟨rfl, hB2, hb3⟩
          have hby : Lib.byteCells L ++ [.int .u8 ((x * 16 + y).toNat : Nat)] = Lib.byteCells (L ++ [x * 16 + y]) := by
            rw [Lib.byteCells_append]
            rfl
          rw [hby] at hB2
          have HB2 := Lib.hid hB2
          clear hB2 hby hv hB1
          go_wp2
          go_roundw
          case rel => exact ⟨n + 2, k + 1, by have := HN.out; omega, by omega, by go_num, L ++ [x * 16 + y], hL2, by rw [List.length_append, hLl]; rfl, Or.inr HB2.out, hbw'.trans hb3⟩
          case measure => simp [RowKit.intOf]; omega
    · have hst := Tryz.Builder_String_any _ _ _ _ hB (by have := hbw.size; omega)
      go_wp2_with fail
      refine hst.mono ?_
      rintro e w4 ⟨rfl, hb4⟩
      have hu := unhx_end HN.out hL hk hlt
      have hS : unhxS s.data.toList = L := by unfold unhxS; rw [hu]; rfl
      have hT : ((s.size : Int) % 2 == 0) = unhB s.data.toList := by
        unfold unhB
        rw [hu, Option.isSome_some, Bool.true_and, Bool.eq_iff_iff]
        show _ ↔ decide (s.size % 2 = 0) = true
        simp
        omega
      go_wp2
      go_ret2
      rw [hS, ← hT]
      have hbs := hb.size
      exact ⟨rfl, (hb2.trans (hbw.mono (by omega))).trans (hb4.mono (by omega))⟩
end Go.Proofs.YtikchieadclbhaaGreatDoor.Ab
namespace Go.Proofs.YtikchieadclbhaaGreatDoor.Ab
set_option linter.unusedVariables false
set_option linter.unusedSimpArgs false
open Go.RowKit

/-- As fun_of_calls, where two plain values are answered. -/
theorem fun_of_calls_2 {f : FuncId} {args : List Value} {v1 v2 : Value} (hE : Enters Tryz.prog f) (h1 : v1.oneCell' = true) (h2 : v2.oneCell' = true) (h : ∀ w, gP w → Calls Tryz.prog f args.toArray w fun e w' => e = .returned (.tuple #[v1, v2]) ∧ Below w.heap.size w w') : Fun Tryz.prog f (args.map fun x => .c (.i (.sc x))) [] (.tup [.c (.i (.sc v1)), .c (.i (.sc v2))]) := by
  refine ⟨hE, fun w ok argv hok hsz hrep => ?_⟩
  have ha : argv = args.toArray := by
    apply Array.ext
    · simpa using hsz
    · intro i h1 h2
      have := hrep i argv[i] (.c (.i (.sc args[i]))) (Array.getElem?_eq_getElem h1) (by simp at h2; simp [h2])
      have := RepI_sc this
      simpa using this
  rw [ha]
  refine (h w hok.2.1).mono ?_
  rintro e w' ⟨rfl, hb⟩
  refine ⟨_, ok, fun _ _ => undef, rfl, hb, fun _ h => h, fun k hk => Or.inl hk, ⟨#[v1, v2], rfl, rfl, fun j u x hu hx => ?_⟩, fun b B hB => by simp at hB, fun b b' B B' hB => by simp at hB⟩
  match j, hu, hx with
  | 0, hu, hx => simp at hu hx; subst hu hx; exact .sc _ h1
  | 1, hu, hx => simp at hu hx; subst hu hx; exact .sc _ h2
theorem unhexF (s : ByteArray) (hs : s.size ≤ 35184372088832) : Fun Tryz.prog 30 [strV s] [] (.tup [strV ⟨(unhxS s.data.toList).toArray⟩, bV (unhB s.data.toList)]) :=
  fun_of_calls_2 (args := [.string s]) (v1 := .string ⟨(unhxS s.data.toList).toArray⟩) (v2 := .bool (unhB s.data.toList)) ⟨_, Tryz.func30, rfl, by rfl⟩ rfl rfl (fun w _ => unhexC s w hs)
set_option maxRecDepth 100000 in
theorem fitsF (n : Int) : Fun Tryz.prog 31 [i64V n] [] (ATbool (fit n)) := by
  have hf : fit n = (if n ≥ -1099511627776 then decide (n ≤ 1099511627776) else false) := by
    unfold fit
    split
    · rename_i h
      rw [decide_eq_decide]
      omega
    · rename_i h
      exact decide_eq_false (by omega)
  rw [hf]
  by_cases h1 : n ≥ -1099511627776
  · rw [if_pos h1]
    refine fun_of_vc tabOk mixOk Tryz.func31 rfl (by rfl) (rs := [.tmp 2]) rfl rfl 13 ?_; rw [Tryz.ntmps31]
    (conv=>whnf);repeat((first|refine zD ?_|refine zA ?_|refine zT ?_|refine zF ?_);conv=>whnf)
    refine And.intro (fun h => ?_) (fun h => absurd h1 (of_decide_eq_false h))
    (conv=>whnf);repeat((first|refine zD ?_|refine zA ?_|refine zT ?_|refine zF ?_);conv=>whnf)
    refine Exists.intro [] (And.intro List.nodup_nil ?_); ((conv=>whnf);repeat((first|refine zD ?_|refine zA ?_|refine zT ?_|refine zF ?_);conv=>whnf))
    rfl
  · rw [if_neg h1]
    refine fun_of_vc tabOk mixOk Tryz.func31 rfl (by rfl) (rs := [.tmp 2]) rfl rfl 13 ?_; rw [Tryz.ntmps31]
    (conv=>whnf);repeat((first|refine zD ?_|refine zA ?_|refine zT ?_|refine zF ?_);conv=>whnf)
    refine And.intro (fun h => absurd (of_decide_eq_true h) h1) (fun h => ?_)
    (conv=>whnf);repeat((first|refine zD ?_|refine zA ?_|refine zT ?_|refine zF ?_);conv=>whnf)
    refine Exists.intro [] (And.intro List.nodup_nil ?_); ((conv=>whnf);repeat((first|refine zD ?_|refine zA ?_|refine zT ?_|refine zF ?_);conv=>whnf))
    rfl
end Go.Proofs.YtikchieadclbhaaGreatDoor.Ab
namespace Go.Proofs.YtikchieadclbhaaGreatDoor.Ab
set_option linter.unusedVariables false
set_option linter.unusedSimpArgs false
open Go.RowKit

def cmV (k b : Int) (s : ByteArray) : AV := .agg [.i (.sc (.int .i64 k)), .i (.sc (.int .i64 b)), .i (.sc (.string s))]
def knd (k : Int) : ByteArray := if k = 1 then ⟨#[114, 101, 97, 100]⟩ else if k = 2 then ⟨#[119, 114, 105, 116, 101]⟩ else if k = 3 then ⟨#[116, 114, 105, 109]⟩ else if k = 4 then ⟨#[102, 108, 117, 115, 104]⟩ else ⟨#[]⟩
set_option maxRecDepth 100000 in
set_option maxHeartbeats 8000000 in
theorem kindF' (k b : Int) (s : ByteArray) : Fun Tryz.prog 44 [cmV k b s] [] (.v (strV (knd k))) := by
  refine fun_of_vc tabOk mixOk Tryz.func44 rfl (by rfl) (rs := [.tmp 2]) rfl rfl 17 ?_; rw [Tryz.ntmps44]
  (conv=>whnf);repeat((first|refine zD ?_|refine zA ?_|refine zT ?_|refine zF ?_);conv=>whnf)
  repeat' (first | ((refine And.intro (fun h => ?_) (fun h => ?_)) <;> (try simp at h) <;> ((conv=>whnf);repeat((first|refine zD ?_|refine zA ?_|refine zT ?_|refine zF ?_);conv=>whnf))) | fail)
  all_goals (refine Exists.intro [] (And.intro List.nodup_nil ?_); ((conv=>whnf);repeat((first|refine zD ?_|refine zA ?_|refine zT ?_|refine zF ?_);conv=>whnf)))
  all_goals (refine congrArg (fun n => AT.v (strV n)) ?_)
  all_goals (unfold knd; simp [*])
set_option maxRecDepth 100000 in
set_option maxHeartbeats 8000000 in
theorem kindF (k b : Int) (s : ByteArray) : Fun Tryz.prog 56 [cmV k b s] [] (.v (strV (knd k))) := by
  by_cases h0 : k < 0 ∨ 5 ≤ k
  · have e : knd k = ⟨#[]⟩ := by unfold knd; rw [if_neg (by omega), if_neg (by omega), if_neg (by omega), if_neg (by omega)]
    rw [e]
    refine fun_of_vc tabOk mixOk Tryz.func56 rfl (by rfl) (rs := [.tmp 2]) rfl rfl 21 ?_; rw [Tryz.ntmps56]
    (conv=>whnf);repeat((first|refine zD ?_|refine zA ?_|refine zT ?_|refine zF ?_);conv=>whnf)
    refine And.intro (fun h => ?_) (fun h => ?_)
    · (conv=>whnf);repeat((first|refine zD ?_|refine zA ?_|refine zT ?_|refine zF ?_);conv=>whnf)
      refine Exists.intro [] (And.intro List.nodup_nil ?_); ((conv=>whnf);repeat((first|refine zD ?_|refine zA ?_|refine zT ?_|refine zF ?_);conv=>whnf))
      rfl
    · have h' := of_decide_eq_false h
      (conv=>whnf);repeat((first|refine zD ?_|refine zA ?_|refine zT ?_|refine zF ?_);conv=>whnf)
      refine And.intro (fun h => ?_) (fun h => ?_)
      · (conv=>whnf);repeat((first|refine zD ?_|refine zA ?_|refine zT ?_|refine zF ?_);conv=>whnf)
        refine Exists.intro [] (And.intro List.nodup_nil ?_); ((conv=>whnf);repeat((first|refine zD ?_|refine zA ?_|refine zT ?_|refine zF ?_);conv=>whnf))
        rfl
      · have h'' := of_decide_eq_false h
        omega
  · have h5 : k = 0 ∨ k = 1 ∨ k = 2 ∨ k = 3 ∨ k = 4 := by omega
    rcases h5 with rfl | rfl | rfl | rfl | rfl
    all_goals (refine fun_of_vc tabOk mixOk Tryz.func56 rfl (by rfl) (rs := [.tmp 2]) rfl rfl 21 ?_; rw [Tryz.ntmps56]; (conv=>whnf);repeat((first|refine zD ?_|refine zA ?_|refine zT ?_|refine zF ?_);conv=>whnf))
    all_goals (refine ⟨by decide, by decide, ?_⟩; (conv=>whnf);repeat((first|refine zD ?_|refine zA ?_|refine zT ?_|refine zF ?_);conv=>whnf))
    all_goals (refine Exists.intro [] (And.intro List.nodup_nil ?_); ((conv=>whnf);repeat((first|refine zD ?_|refine zA ?_|refine zT ?_|refine zF ?_);conv=>whnf)))
    all_goals rfl
theorem knd_kW (k : Int) : knd k = ⟨(kW k).toArray⟩ := by
  unfold knd kW
  split
  · rfl
  · split
    · rfl
    · split
      · rfl
      · split <;> rfl
end Go.Proofs.YtikchieadclbhaaGreatDoor.Ab
namespace Go.Proofs.YtikchieadclbhaaGreatDoor.Ab
set_option linter.unusedVariables false
set_option linter.unusedSimpArgs false
open Go.RowKit

theorem decimalF (n : Int) : Fun Tryz.prog 57 [i64V n] [] (.v (strV ⟨(Lib.itoa (if fit n = true then n else 0)).toArray⟩)) := by
  have hf := fitsF n
  cases h : fit n with
  | true =>
    have hn := fit_iff.1 h
    rw [h] at hf
    rw [if_pos rfl]
    have hi := itoaF n (by omega) (by omega)
    refine fun_of_vc tabOk mixOk Tryz.func57 rfl (by rfl) (rs := [.tmp 2]) rfl rfl 12 ?_; rw [Tryz.ntmps57]
    (conv=>whnf);repeat((first|refine zD ?_|refine zA ?_|refine zT ?_|refine zF ?_);conv=>whnf)
    refine ⟨_, _, hf, ?_⟩
    (conv=>whnf);repeat((first|refine zD ?_|refine zA ?_|refine zT ?_|refine zF ?_);conv=>whnf)
    refine ⟨_, _, hi, ?_⟩
    (conv=>whnf);repeat((first|refine zD ?_|refine zA ?_|refine zT ?_|refine zF ?_);conv=>whnf)
    refine Exists.intro [] (And.intro List.nodup_nil ?_); ((conv=>whnf);repeat((first|refine zD ?_|refine zA ?_|refine zT ?_|refine zF ?_);conv=>whnf))
    rfl
  | false =>
    rw [h] at hf
    rw [if_neg (by decide)]
    have hi := itoaF 0 (by decide) (by decide)
    refine fun_of_vc tabOk mixOk Tryz.func57 rfl (by rfl) (rs := [.tmp 2]) rfl rfl 12 ?_; rw [Tryz.ntmps57]
    (conv=>whnf);repeat((first|refine zD ?_|refine zA ?_|refine zT ?_|refine zF ?_);conv=>whnf)
    refine ⟨_, _, hf, ?_⟩
    (conv=>whnf);repeat((first|refine zD ?_|refine zA ?_|refine zT ?_|refine zF ?_);conv=>whnf)
    refine ⟨_, _, hi, ?_⟩
    (conv=>whnf);repeat((first|refine zD ?_|refine zA ?_|refine zT ?_|refine zF ?_);conv=>whnf)
    refine Exists.intro [] (And.intro List.nodup_nil ?_); ((conv=>whnf);repeat((first|refine zD ?_|refine zA ?_|refine zT ?_|refine zF ?_);conv=>whnf))
    rfl
set_option maxRecDepth 100000 in
set_option maxHeartbeats 8000000 in
theorem rightF (k b : Int) (s : ByteArray) : Fun Tryz.prog 32 [cmV k b s] [] (ATbool (cRight k b s.data.toList)) := by
  have hf := fitsF b
  have hk := kindF k b s
  have hl : s.data.toList.length = s.size := rfl
  unfold cRight
  rw [hl, knd_kW] at *
  generalize fit b = fb at hf ⊢
  by_cases h4 : k = 1 ∨ k = 2 ∨ k = 3 ∨ k = 4
  · rcases h4 with rfl | rfl | rfl | rfl
    all_goals
      cases fb
    all_goals
      (refine fun_of_vc tabOk mixOk Tryz.func32 rfl (by rfl) (rs := [.tmp 2]) rfl rfl 36 ?_; rw [Tryz.ntmps32])
      ((conv=>whnf);repeat((first|refine zD ?_|refine zA ?_|refine zT ?_|refine zF ?_);conv=>whnf))
      repeat' (first | ((refine And.intro (fun h => ?_) (fun h => ?_)) <;> (try simp at h) <;> ((conv=>whnf);repeat((first|refine zD ?_|refine zA ?_|refine zT ?_|refine zF ?_);conv=>whnf))) | (refine ⟨_, _, hk, ?_⟩; ((conv=>whnf);repeat((first|refine zD ?_|refine zA ?_|refine zT ?_|refine zF ?_);conv=>whnf))) | (refine ⟨_, _, hf, ?_⟩; ((conv=>whnf);repeat((first|refine zD ?_|refine zA ?_|refine zT ?_|refine zF ?_);conv=>whnf))) | fail)
    all_goals first
      | (refine Exists.intro [] (And.intro List.nodup_nil ?_); ((conv=>whnf);repeat((first|refine zD ?_|refine zA ?_|refine zT ?_|refine zF ?_);conv=>whnf))
         rfl)
      | (refine Exists.intro [] (And.intro List.nodup_nil ?_); ((conv=>whnf);repeat((first|refine zD ?_|refine zA ?_|refine zT ?_|refine zF ?_);conv=>whnf))
         refine congrArg ATbool ?_
         simp_all [kW, wRead, wWrite, wTrim, wFlush]
         done)
      | (refine Exists.intro [] (And.intro List.nodup_nil ?_); ((conv=>whnf);repeat((first|refine zD ?_|refine zA ?_|refine zT ?_|refine zF ?_);conv=>whnf))
         refine congrArg ATbool ?_
         simp_all [kW, wRead, wWrite, wTrim, wFlush]
         omega)
      | (refine Exists.intro [] (And.intro List.nodup_nil ?_); ((conv=>whnf);repeat((first|refine zD ?_|refine zA ?_|refine zT ?_|refine zF ?_);conv=>whnf))
         refine congrArg ATbool ?_
         rw [Bool.eq_iff_iff, beq_iff_eq, decide_eq_true_eq]
         exact ⟨fun hb => ⟨by decide, by simp_all, rfl, Or.inr hb⟩, fun h => h.2.2.2.resolve_left (fun h => h rfl)⟩)
      | (exfalso; omega)
  · have hw : kW k = [] := by unfold kW; rw [if_neg (by omega), if_neg (by omega), if_neg (by omega), if_neg (by omega)]
    rw [hw] at hk ⊢
    rw [decide_eq_false (fun h => h.1 rfl)]
    refine fun_of_vc tabOk mixOk Tryz.func32 rfl (by rfl) (rs := [.tmp 2]) rfl rfl 36 ?_; rw [Tryz.ntmps32]
    (conv=>whnf);repeat((first|refine zD ?_|refine zA ?_|refine zT ?_|refine zF ?_);conv=>whnf)
    repeat' (first | ((refine And.intro (fun h => ?_) (fun h => ?_)) <;> (try simp at h) <;> ((conv=>whnf);repeat((first|refine zD ?_|refine zA ?_|refine zT ?_|refine zF ?_);conv=>whnf))) | (refine ⟨_, _, hk, ?_⟩; ((conv=>whnf);repeat((first|refine zD ?_|refine zA ?_|refine zT ?_|refine zF ?_);conv=>whnf))) | fail)
    all_goals first
      | (refine Exists.intro [] (And.intro List.nodup_nil ?_); ((conv=>whnf);repeat((first|refine zD ?_|refine zA ?_|refine zT ?_|refine zF ?_);conv=>whnf))
         rfl)
      | (exfalso; omega)
end Go.Proofs.YtikchieadclbhaaGreatDoor.Ab
