/- What the package's variables hold at a call; numbers written and read, texts cut. No condition. -/
import Derived.Test.YtikchieadclbhaaGreatDoorZ22
import Derived.Test.YtikchieadclbhaaGreatDoorZ25
namespace Go.Proofs.YtikchieadclbhaaGreatDoor.Ab
set_option linter.unusedVariables false
set_option linter.unusedSimpArgs false
open Go.RowKit Go.Lib

theorem var_local {w w0 : World} {n : String} {g : Nat} (hg : Tryz.prog.globalNamed n = some g) (hl : g < gN) (h : ∀ k, k < gN → w.heap[k]? = w0.heap[k]?) : w.var? Tryz.prog n = w0.var? Tryz.prog n := by
  unfold World.var?
  rw [hg]
  show (match w.heap[g]? with | some (.cells cs _ _) => some cs | _ => none) = (match w0.heap[g]? with | some (.cells cs _ _) => some cs | _ => none)
  rw [h g hl]
theorem gl_max : Tryz.prog.globalNamed "internal/bytealg.MaxLen" = some 0 ∧ 0 < gN := ⟨by kernel_rfl, by unfold gN; exact of_decide_eq_true (by kernel_rfl)⟩
theorem gl_syn : Tryz.prog.globalNamed "strconv.ErrSyntax" = some 1 ∧ 1 < gN := ⟨by kernel_rfl, by unfold gN; exact of_decide_eq_true (by kernel_rfl)⟩
theorem gl_ran : Tryz.prog.globalNamed "strconv.ErrRange" = some 2 ∧ 2 < gN := ⟨by kernel_rfl, by unfold gN; exact of_decide_eq_true (by kernel_rfl)⟩
theorem gl_pow : Tryz.prog.globalNamed "internal/strconv.uint64pow10" = some 3 ∧ 3 < gN := ⟨by kernel_rfl, by unfold gN; exact of_decide_eq_true (by kernel_rfl)⟩
theorem gp_max {w : World} (h : gP w) : ∃ m, w.cell? ⟨0, 0, none⟩ = some (.int .i64 m) := by
  obtain ⟨w0, ⟨⟨m, h1⟩, _⟩, h2⟩ := h
  rw [← var_local gl_max.1 gl_max.2 h2] at h1
  exact ⟨m, by rw [World.var?_cell gl_max.1 h1]; rfl⟩
theorem gp_pow {w : World} (h : gP w) : Lib.TabIs Tryz.prog w "internal/strconv.uint64pow10" .u64 Lib.pow10Tab := by
  obtain ⟨w0, ⟨_, h1, _⟩, h2⟩ := h
  unfold Lib.TabIs at h1 ⊢
  rw [var_local gl_pow.1 gl_pow.2 h2]
  exact h1
theorem gp_syn {w : World} (h : gP w) : ∃ a b, w.cell? ⟨1, 0, none⟩ = some (.iface a b) := by
  obtain ⟨w0, ⟨_, _, ⟨a, b, h1⟩, _⟩, h2⟩ := h
  rw [← var_local gl_syn.1 gl_syn.2 h2] at h1
  exact ⟨a, b, by rw [World.var?_cell gl_syn.1 h1]; rfl⟩
theorem gp_ran {w : World} (h : gP w) : ∃ a b, w.cell? ⟨2, 0, none⟩ = some (.iface a b) := by
  obtain ⟨w0, ⟨_, _, _, ⟨a, b, h1⟩⟩, h2⟩ := h
  rw [← var_local gl_ran.1 gl_ran.2 h2] at h1
  exact ⟨a, b, by rw [World.var?_cell gl_ran.1 h1]; rfl⟩
section
/-- As fun_of_calls, where the package's variables are asked. -/
theorem fun_of_calls_g {f : FuncId} {args : List Value} {v : Value} (hE : Enters Tryz.prog f) (h1 : v.oneCell' = true) (h : ∀ w, gP w → Calls Tryz.prog f args.toArray w fun e w' => e = .returned v ∧ Below w.heap.size w w') : Fun Tryz.prog f (args.map fun x => .c (.i (.sc x))) [] (.v (.c (.i (.sc v)))) := by
  refine ⟨hE, fun w ok argv hok hsz hrep => ?_⟩
  have ha : argv = args.toArray := by
    apply Array.ext
    · simpa using hsz
    · intro i h1 h2
      have := hrep i argv[i] (.c (.i (.sc args[i]))) (Array.getElem?_eq_getElem h1) (by simp at h2; simp [h2])
      have := RepI_sc this
      simpa using this
  rw [ha]
  refine (h w hok.2.1).mono ?_
  rintro e w' ⟨rfl, hb⟩
  exact ⟨v, ok, fun _ _ => undef, rfl, hb, fun _ h => h, fun k hk => Or.inl hk, .sc v h1, fun b B hB => by simp at hB, fun b b' B B' hB => by simp at hB⟩
/-- A library function that answers a fresh list of strings. -/
theorem fun_of_strs {f : FuncId} {args : List Value} {ss : List ByteArray} {T : TypeId} (hE : Enters Tryz.prog f) (hm : ss.length ≤ maxLen) (h : ∀ w, gP w → Calls Tryz.prog f args.toArray w fun e w' => e = .returned (.slice (some ⟨w.heap.size, 0, none⟩) ss.length ss.length) ∧ w' = w.alloc (.cells (ss.map Value.string).toArray T)) : Fun Tryz.prog f (args.map fun x => .c (.i (.sc x))) [] (.v (slV (sV ss))) := by
  refine ⟨hE, fun w ok argv hok hsz hrep => ?_⟩
  have ha : argv = args.toArray := by
    apply Array.ext
    · simpa using hsz
    · intro i h1 h2
      have := hrep i argv[i] (.c (.i (.sc args[i]))) (Array.getElem?_eq_getElem h1) (by simp at h2; simp [h2])
      have := RepI_sc this
      simpa using this
  rw [ha]
  refine (h w hok.2.1).mono ?_
  rintro e w' ⟨rfl, rfl⟩
  have hsl : (sV ss).length = ss.length := by simp [sV]
  refine ⟨_, fun k => ok k ∨ k = w.heap.size, fun _ _ => undef, rfl, (Below.refl _ _).alloc (Nat.le_refl _) _, fun _ h => Or.inl h, fun k hk => ?_, ?_, fun b B hB => by simp at hB, fun b b' B B' hB => by simp at hB⟩
  · rcases hk with hk | hk
    · exact Or.inl hk
    · exact Or.inr (by subst hk; exact ⟨Nat.le_refl _, by simp⟩)
  · show RepI _ _ (.sl (sV ss)) _
    rw [← hsl]
    refine .sl (sV ss) 1 ⟨w.heap.size, 0, none⟩ (sV ss).length (fun k => .string (ss.getD k ByteArray.empty)) (Or.inr rfl) (Nat.le_refl _) (by rw [hsl]; exact hm) (fun e he => ?_) (fun i hi => ?_) (fun k e j x hk hj => ?_)
    · unfold sV at he
      obtain ⟨s, _, rfl⟩ := List.mem_map.1 he
      rfl
    · rw [hsl, Nat.mul_one] at hi
      have e1 : (w.alloc (.cells (ss.map Value.string).toArray T)).heap[w.heap.size]? = some (.cells (ss.map Value.string).toArray T) := heap_alloc_new w _
      have e2 : ((⟨w.heap.size, 0, none⟩ : Addr).add i) = ⟨w.heap.size, i, none⟩ := by
        unfold Addr.add
        split
        · rename_i h0; rw [h0]
        · simp
      rw [e2, cell_of_row _ _ _ _ _ _ e1]
      simp [List.getD, hi]
    · unfold sV at hk
      rw [List.getElem?_map] at hk
      obtain ⟨s, hs, rfl⟩ := Option.map_eq_some_iff.1 hk
      cases j with
      | zero =>
        injection hj with hj
        subst hj
        have : ss.getD (k * 1 + 0) ByteArray.empty = s := by simp [List.getD, hs]
        rw [this]
        exact .sc _ rfl
      | succ j => simp at hj
end
/-- The texts with another between them. -/
def jn (xs : List ByteArray) (sep : ByteArray) : ByteArray := ⟨(Lib.join (xs.map (·.data.toList)) sep.data.toList).toArray⟩
set_option maxRecDepth 100000 in
theorem sjoinG (xs : List ByteArray) (sep : ByteArray) (hN : xs.length ≤ 1000000) (hlen : (jn xs sep).size ≤ 140737488355328) : Fun Tryz.prog 38 [slV (sV xs), strV sep] [] (.v (strV (jn xs sep))) := by
  refine ⟨⟨_, Tryz.func38, rfl, by rfl⟩, fun w ok argv hok hsz hrep => ?_⟩
  obtain ⟨u, v, rfl, hu, hv⟩ := args2 hsz hrep
  have hv' : v = .string sep := RepI_sc hv
  subst hv'
  have fin : ∀ {w' : World}, Below w.heap.size w w' → ∃ v ok' σ, Ending.returned (Value.string (jn xs sep)) = .returned v ∧ Below w.heap.size w w' ∧ (∀ k, ok k → ok' k) ∧ (∀ k, ok' k → ok k ∨ (w.heap.size ≤ k ∧ k < w'.heap.size)) ∧
      RepT w' ok' σ (fun _ => 0) (.v (strV (jn xs sep))) v ∧ (∀ (b : Nat) B, ([] : List Blk)[b]? = some B → B.gen = 0 ∧ RepB w.heap.size w' ok' σ (fun _ => 0) b B) ∧
      (∀ (b b' : Nat) B B', ([] : List Blk)[b]? = some B → ([] : List Blk)[b']? = some B' → b ≠ b' → ∀ n, B.at σ b = some n → B'.at σ b' ≠ some n) := by
    intro w' hb
    exact ⟨_, ok, fun _ _ => undef, rfl, hb, fun _ h => h, fun k hk => Or.inl hk, .sc _ rfl, fun b B hB => by simp at hB, fun b b' B B' hB => by simp at hB⟩
  have hu' : RepI w ok (.sl (sV xs)) u := hu
  have none : ∀ {A : Option Addr} {c : Nat}, xs = [] → u = .slice A 0 c → Calls Tryz.prog 38 #[u, .string sep] w fun e w' => ∃ v ok' σ, e = .returned v ∧ Below w.heap.size w w' ∧ (∀ k, ok k → ok' k) ∧ (∀ k, ok' k → ok k ∨ (w.heap.size ≤ k ∧ k < w'.heap.size)) ∧
      RepT w' ok' σ (fun _ => 0) (.v (strV (jn xs sep))) v ∧ (∀ (b : Nat) B, ([] : List Blk)[b]? = some B → B.gen = 0 ∧ RepB w.heap.size w' ok' σ (fun _ => 0) b B) ∧
      (∀ (b b' : Nat) B B', ([] : List Blk)[b]? = some B → ([] : List Blk)[b']? = some B' → b ≠ b' → ∀ n, B.at σ b = some n → B'.at σ b' ≠ some n) := by
    rintro A c rfl rfl
    refine (Tryz.strings_Join_none A c sep w).mono ?_
    rintro e w' ⟨rfl, rfl⟩
    exact fin (Below.refl _ _)
  generalize hes : sV xs = es at hu'
  cases hu' with
  | nil A c hm =>
    have : xs = [] := by have := congrArg List.length hes; rw [sLen] at this; exact List.eq_nil_of_length_eq_zero this
    exact none this rfl
  | sl es sz ad c f hok' hc hm hlen' hcell hr =>
    subst hes
    by_cases h0 : xs = []
    · exact none h0 (by rw [sLen, h0]; rfl)
    · have hpos : 0 < xs.length := List.length_pos_iff.2 h0
      have hsz1 : sz = 1 := by rw [← hlen' [.sc (.string xs[0])] (List.mem_map.2 ⟨xs[0], List.getElem_mem hpos, rfl⟩)]; rfl
      subst hsz1
      have hcells : ∀ (j : Nat) x, xs[j]? = some x → w.cell? (ad.add j) = some (.string x) := by
        intro j x hx
        have hj := (List.getElem?_eq_some_iff.1 hx).1
        have h1 := hcell j (by rw [sLen, Nat.mul_one]; exact hj)
        have h2 := hr j [.sc (.string x)] 0 (.sc (.string x)) (by simp [sV, hx]) rfl
        rw [Nat.mul_one, Nat.add_zero] at h2
        rw [h1, RepI_sc h2]
      obtain ⟨bk, o, sp⟩ := ad
      have hsp : sp = Option.none := by
        have h1 := hcells 0 xs[0] (List.getElem?_eq_getElem hpos)
        rw [show ((⟨bk, o, sp⟩ : Addr).add 0) = ⟨bk, o, sp⟩ from rfl] at h1
        cases sp with
        | none => rfl
        | some s =>
          unfold World.cell? at h1
          split at h1
          · simp at h1
          · cases h1
      subst hsp
      rw [sLen]
      have hj := Tryz.strings_Join bk o c xs sep w (fun j x hx => by rw [← add_at]; exact hcells j x hx) (hok.1 _ hok') (by omega) (by rw [sLen] at hc; exact hc) (by
        exact hlen)
      refine hj.mono ?_
      rintro e w' ⟨rfl, hb⟩
      exact fin hb
theorem itoaF (n : Int) (h0 : -9223372036854775808 ≤ n) (h1 : n ≤ 9223372036854775807) : Fun Tryz.prog 34 [i64V n] [] (.v (.c (.i (.sc (.string ⟨(Lib.itoa n).toArray⟩))))) :=
  fun_of_calls_g (args := [.int .i64 n]) (v := .string ⟨(Lib.itoa n).toArray⟩) ⟨_, Tryz.func34, rfl, by rfl⟩ rfl (fun w hg => (Tryz.strconv_Itoa n h0 h1 w (gp_pow hg)).mono (by
    rintro e w' ⟨rfl, k, os, rfl⟩
    exact ⟨rfl, rfl, rfl, rfl, by rw [Go.Sort.size_grow]; exact Nat.le_add_right _ _, fun j hj => Go.Sort.heap_grow_old _ _ hj⟩))
set_option maxRecDepth 100000 in
set_option maxHeartbeats 1000000 in
theorem numC (s : ByteArray) (hs : s.size ≤ 281474976710656) (w : World) (hg : gP w) : Calls Tryz.prog 29 #[.string s] w fun e w' => e = .returned (.int .i64 (num s.data.toList)) ∧ Below w.heap.size w w' := by
  unfold num
  rcases h : Lib.atoiAll s.data.toList with v | _ | _
  · have hc := Tryz.strconv_Atoi_ok s (by omega) v h
    go_enter Tryz.func29, Tryz.ntmps29
    go_wp2_with fail
    refine (hc _).mono ?_
    rintro e w1 ⟨rfl, hw⟩
    have hb : Below w.heap.size w w1 := by
      rcases hw with rfl | ⟨t, rfl⟩
      · exact Below.refl _ _
      · exact Lib.bytesWorld_below _ _ _
    go_wp2
    go_ret
    exact ⟨rfl, hb⟩
  · obtain ⟨a, b, hv⟩ := gp_syn hg
    have hc := Tryz.strconv_Atoi_syntax s hs h _ w hv (Or.inr ⟨a, b, rfl⟩)
    go_enter Tryz.func29, Tryz.ntmps29
    go_wp2_with fail
    refine hc.mono ?_
    rintro e w1 ⟨N, rfl, _, _, hb⟩
    go_wp2
    go_ret
    exact ⟨rfl, hb⟩
  · obtain ⟨a, b, hv⟩ := gp_ran hg
    have hc := Tryz.strconv_Atoi_range s hs h _ w hv (Or.inr ⟨a, b, rfl⟩)
    go_enter Tryz.func29, Tryz.ntmps29
    go_wp2_with fail
    refine hc.mono ?_
    rintro e w1 ⟨N, rfl, _, _, hb⟩
    go_wp2
    go_ret
    exact ⟨rfl, hb⟩
theorem numberF (s : ByteArray) (hs : s.size ≤ 281474976710656) : Fun Tryz.prog 29 [strV s] [] (.v (i64V (num s.data.toList))) :=
  fun_of_calls_g (args := [.string s]) (v := .int .i64 (num s.data.toList)) ⟨_, Tryz.func29, rfl, by rfl⟩ rfl (fun w hg => numC s hs w hg)
/-- The pieces of a text. -/
def pcs (c : UInt8) (s : ByteArray) : List ByteArray := Lib.splitB ⟨#[c]⟩ 0 (Lib.countB s ⟨#[c]⟩) s
theorem pcs_spl (c : UInt8) (s : ByteArray) : (pcs c s).map (·.data.toList) = spl c s.data.toList := splitB_spl c _ s rfl
theorem splitF (c : UInt8) (s : ByteArray) (hs : s.size < 4294967281) : Fun Tryz.prog 28 [strV s, strV ⟨#[c]⟩] [] (.v (slV (sV (pcs c s)))) := by
  have hl : (pcs c s).length = Lib.countB s ⟨#[c]⟩ + 1 := Lib.splitB_all ⟨#[c]⟩ (Nat.le_refl 1) 0 _ s rfl
  have hc := Lib.countB_le ⟨#[c]⟩ (Nat.le_refl 1) s.size s (Nat.le_refl _)
  refine fun_of_strs (args := [.string s, .string ⟨#[c]⟩]) ⟨_, Tryz.func28, rfl, by rfl⟩ (by unfold maxLen; omega) (T := 9) (fun w hg => ?_)
  obtain ⟨m, hm⟩ := gp_max hg
  refine (Tryz.strings_Split s ⟨#[c]⟩ m w hs hm (Nat.le_refl 1)).mono ?_
  rintro e w' ⟨rfl, rfl⟩
  rw [hl]
  exact ⟨rfl, rfl⟩
end Go.Proofs.YtikchieadclbhaaGreatDoor.Ab
