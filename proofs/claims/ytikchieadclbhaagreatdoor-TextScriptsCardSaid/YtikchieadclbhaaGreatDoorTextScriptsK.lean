/- The tied card 'TextScriptsCardSaid' closed: the law's call, whatever its arguments, returns true and leaves them as they were. -/
import Derived.Test.YtikchieadclbhaaGreatDoorZ50
import Derived.Test.YtikchieadclbhaaGreatDoorCards
import Derived.Test.YtikchieadclbhaaGreatDoorTie
import Derived.ProofKit
import Derived.OpenShut
import Derived.LaidMore
import Derived.LaidLaws
import Derived.Lay
import Derived.MakeChecks
import Derived.SevenTiedAt
import Derived.Stop.Joined
import Derived.Stop.LaidErr
import Derived.Shelf.Vars
import Derived.Lib.LaidTab

namespace Go.Proofs.YtikchieadclbhaaGreatDoor.textScripts
open Go.ChangeShapes Go.WideShapes Go.ChangeAt Go.RowKit
open Go.ChangeMaps (open_string shut_string)
set_option linter.unusedVariables false
set_option linter.unusedSimpArgs false

section
variable {H : Type} {enc : TypeId × Value → H}
/-- As the guide's wrap for a row that lists variables, the world's shape handed on. -/
theorem wrap {a : Assume} {C : Checked} {os : Os} {f : FuncId} {fn : Func} {s : ChangeSpec} {conds : List PathCond} {apart fresh handsOn again : Bool} {X : World → Array Value → Prop}
    (hX : ∀ (w w' : World) (args : Array Value), w.heap = w'.heap → X w args → X w' args)
    (own : ownKnob C.prog.godebug = none) (started : os.Started) (noInit : C.prog.inits.idxOf? f = none) (hfn : C.prog.funcs[f]? = some fn)
    (witness : ∃ (w : World) (tape : Tape) (i : Input), w.os = os ∧ (w.forCall tape i).Shaped C.prog ∧ i.vars = [] ∧ Input.okWide C.prog (w.forCall tape i) .any w.heap.size f i ∧
      ((s.pre enc C.prog fn conds apart (w.forCall tape i).memory i.args ∧ X (w.forCall tape i).memory i.args) ∧ sizedMet enc C.prog fn (OpenSpec.ofChange s) apart (w.forCall tape i).memory i.args) ∧ a.holds C.prog (lone (Frame.enter C.prog f i.args .normal) [] (w.forCall tape i)))
    (contract : ∀ (W : World) (base : Nat) (args : Array Value) (ds gs : List (DataW H)) (before : List MemPlace),
      (∀ (j : Nat) t v, fn.params[j]? = some t → args[j]? = some v → Value.okWide C.prog W .any base t v) →
      DataW.Whole enc C.prog fn.params.toList s.vars apart W args.toList ds gs before →
      (DataW.weightsEach C.prog (fn.params.toList ++ s.plain.varTypes C.prog) (ds ++ gs)).all (· ≤ reachBytes) = true → X W args → W.ShapedOpen C.prog →
      Calls C.prog f args W fun e W' => ∃ v, e = .returned v ∧ s.post enc C.prog fn apart fresh handsOn again W args v W') :
    ReturnsInHanded a C os f .any (fun w args => (s.pre enc C.prog fn conds apart w args ∧ X w args) ∧ sizedMet enc C.prog fn (OpenSpec.ofChange s) apart w args) (s.post enc C.prog fn apart fresh handsOn again) := by
  refine returnsInHanded_of_calls own started noInit witness ?_
  intro w tape i _ hsh _ hok hpre hholds
  obtain ⟨_, _, _, fn', hfn', _, _, _, _, hval⟩ := hok
  have e : fn' = fn := Option.some.inj (hfn'.symm.trans hfn)
  subst e
  obtain ⟨⟨⟨ds, gs, before, hw, hc⟩, hx⟩, hz⟩ := hpre
  have hw' := DataW.Whole.of_heap (w' := w.forCall tape i) (by rfl) hw
  refine (contract (w.forCall tape i) w.heap.size i.args ds gs before hval hw' (hz.weights hw) (hX _ _ _ (by rfl) hx) hsh).mono fun e W' ⟨v, he, hp⟩ => ?_
  subst he
  exact ChangeSpec.post_blind hp
end
theorem gMax : Tryz.prog.globalNamed "internal/bytealg.MaxLen" = some 0 := by kernel_rfl
theorem gTab : Tryz.prog.globalNamed "internal/strconv.uint64pow10" = some 3 := by kernel_rfl
theorem gSyn : Tryz.prog.globalNamed "strconv.ErrSyntax" = some 1 := by kernel_rfl
theorem gRan : Tryz.prog.globalNamed "strconv.ErrRange" = some 2 := by kernel_rfl
theorem iface_t : ∃ ms, Tryz.prog.underlying 86 = some (.interface ms) := by
  have h : (match Tryz.prog.underlying 86 with | some (.interface _) => true | _ => false) = true := by kernel_rfl
  cases e : Tryz.prog.underlying 86 with
  | none => rw [e] at h; cases h
  | some d => cases d <;> rw [e] at h <;> first | exact ⟨_, rfl⟩ | cases h
theorem max_of {W : World} (h : W.ShapedOpen Tryz.prog) : ∃ m, W.var? Tryz.prog "internal/bytealg.MaxLen" = some #[.int .i64 m] := by
  have h0 : ((begin Tryz.prog (fun _ _ => 0) default).world.heap[0]?).bind Obj.row? = some (#[.int .i64 0], 3) := by kernel_rfl
  have hlt : 0 < Tryz.prog.globals.size := of_decide_eq_true (by kernel_rfl)
  obtain ⟨m, hm⟩ := cell_of_shapedOpen_int h hlt h0 rfl (by kernel_rfl) (by kernel_rfl) (show Tryz.prog.underlying 3 = some (.int .i64) by kernel_rfl)
  obtain ⟨cs, hh, hs, _⟩ := h.1 0 _ _ hlt h0
  refine ⟨m, ?_⟩
  have hs : cs.size = 1 := hs
  have e : cs = #[.int .i64 m] := by
    apply Array.ext (by simp [hs])
    intro i h1 h2
    have hi : i = 0 := by simp at h2; omega
    subst hi
    have : W.cell? ⟨0, 0, none⟩ = some cs[0] := by simp [World.cell?, hh, h1]
    rw [hm] at this
    simpa using (Option.some.inj this).symm
  unfold World.var?
  rw [gMax]
  show (match W.heap[0]? with | some (.cells cs _ _) => some cs | _ => none) = _
  rw [hh, e]
theorem err_of {W : World} {n : String} {g : Nat} {nm : String} {d : DataW Unit} {r : List (String × DataW Unit)} (hg : Tryz.prog.globalNamed n = some g) (ht : (Tryz.prog.globals[g]?).map (·.type) = some 86) (h : laidMet Tryz.prog ((n, .iface nm d) :: r) W) : ∃ a b, W.var? Tryz.prog n = some #[.iface a b] := by
  obtain ⟨ms, hi⟩ := iface_t
  obtain ⟨ps, ⟨g', t', cs, fuel, p, q, hg', ht', hv, hd, _, _⟩, _⟩ := h
  obtain rfl := Option.some.inj (hg.symm.trans hg')
  obtain rfl := Option.some.inj (ht.symm.trans ht')
  obtain ⟨f1, u, v, e, _, _⟩ := iface_of_trod hi hd
  refine ⟨u, v, hv.trans (congrArg some ?_)⟩
  obtain ⟨l⟩ := cs
  have e : l = [.iface u v] := e
  rw [e]
theorem low_of {W : World} (h : W.ShapedOpen Tryz.prog) : Ab.gN ≤ W.heap.size := by
  have h0 : (((begin Tryz.prog (fun _ _ => 0) default).world.heap[7]?).bind Obj.row?).isSome = true := by kernel_rfl
  obtain ⟨x, hx⟩ := Option.isSome_iff_exists.1 h0
  obtain ⟨cs, hh, _⟩ := h.1 7 x.1 x.2 (of_decide_eq_true (by kernel_rfl)) hx
  have hlt := (Array.getElem?_eq_some_iff.1 hh).1
  have hn : Ab.gN = 8 := by unfold Ab.gN; kernel_rfl
  omega
theorem gl_of {W : World} (hL : laidMetH Tryz.prog Rows.textScriptsRow.laid W) (h : W.ShapedOpen Tryz.prog) : Ab.gP W ∧ Ab.gN ≤ W.heap.size := by
  rw [MakeChecks.laidMetH_plain _ _ _ (by kernel_rfl)] at hL
  exact ⟨⟨W, ⟨max_of h, Lib.tabIs_of_head (k := .u64) (zs := Lib.pow10Tab) (n := 20) gTab (by kernel_rfl) (show Tryz.prog.underlying 133 = some (.array 20 118) by kernel_rfl) (show Tryz.prog.underlying 118 = some (.int .u64) by kernel_rfl) (by kernel_rfl) (by kernel_rfl) hL.tail.tail,
    err_of gSyn (by kernel_rfl) hL.tail.tail.tail.tail.tail, err_of gRan (by kernel_rfl) hL.tail.tail.tail.tail⟩, fun _ _ => rfl⟩, low_of h⟩

set_option maxRecDepth 100000 in
theorem contract (H : Type) (enc : TypeId × Value → H) (W : World) (base : Nat) (args : Array Value) (ds gs : List (DataW H)) (before : List MemPlace)
    (hval0 : ∀ (j : Nat) t v, Tryz.f3.params[j]? = some t → args[j]? = some v → Value.okWide Tryz.prog W .any base t v)
    (hW : DataW.Whole enc Tryz.prog Tryz.f3.params.toList Rows.textScriptsSpec.vars false W args.toList ds gs before) (hsz : (DataW.weightsEach Tryz.prog (Tryz.f3.params.toList ++ Rows.textScriptsSpec.plain.varTypes Tryz.prog) (ds ++ gs)).all (· ≤ reachBytes) = true) (hL : laidMetH Tryz.prog Rows.textScriptsRow.laid W) (hsh : W.ShapedOpen Tryz.prog) :
    Calls Tryz.prog 3 args W fun e W' => ∃ v, e = .returned v ∧ Rows.textScriptsSpec.post enc Tryz.prog Tryz.f3 false true false false W args v W' := by
  have hval : ∀ (j : Nat) t v, Tryz.f3.params[j]? = some t → args[j]? = some v → Value.okWide Tryz.prog W .any base t v := hval0
  have hW' := hW
  obtain ⟨p, q, hA0, hV, rfl, hfz, hnd⟩ := hW
  have hA : DataW.TrodAll enc Tryz.prog W 0 (fun _ => true) true Tryz.f3.params.toList args.toList ds p := hA0
  rw [Tryz.params3] at hA hval
  obtain ⟨v0, vs0, d0, ds0, p0, q0, hargs, rfl, rfl, h0, r0⟩ := trodAll_cons hA
  obtain ⟨v1, vs1, d1, ds1, p1, q1, rfl, rfl, rfl, h1, r1⟩ := trodAll_cons r0
  obtain ⟨v2, vs2, d2, ds2, p2, q2, rfl, rfl, rfl, h2, r2⟩ := trodAll_cons r1
  obtain ⟨v3, vs3, d3, ds3, p3, q3, rfl, rfl, rfl, h3, r3⟩ := trodAll_cons r2
  obtain ⟨rfl, rfl, rfl⟩ := trodAll_nil r3
  obtain rfl : args = #[v0, v1, v2, v3] := by cases args; simp_all
  obtain ⟨a2, rfl, rfl, rfl, w2⟩ := open_int Tryz.underlying3 (hval 2 3 v2 rfl rfl) h2
  obtain ⟨a3, rfl, rfl, rfl, w3⟩ := open_int Tryz.underlying5 (hval 3 5 v3 rfl rfl) h3
  obtain ⟨rfl, rfl⟩ := trodVars_none hV
  clear hA0 hval0
  refine (textScripts.walk (gl_of hL hsh) v0 d0 p0 (hval 0 22 v0 rfl rfl) h0 (reach_any hsz 0 rfl rfl) v1 d1 p1 (hval 1 23 v1 rfl rfl) h1 (reach_any hsz 1 rfl rfl) a2 w2 a3 w3 W).mono fun e W' ⟨he, hg⟩ => ?_
  subst he
  exact ⟨_, rfl, law_post (tb := 4) Tryz.laidOut rfl Tryz.underlying4 (by kernel_rfl) rfl hW' rfl hg⟩

set_option maxRecDepth 100000 in
theorem lifted (os : Os) (started : os.Started) (H : Type) (enc : TypeId × Value → H) :
    ReturnsInHanded {} Tryz.checked os 3 .any (fun w args => (Rows.textScriptsSpec.pre enc Tryz.prog Tryz.f3 Rows.textScriptsRow.domain false w args ∧ laidMetH Tryz.prog Rows.textScriptsRow.laid w) ∧ sizedMet enc Tryz.prog Tryz.f3 (OpenSpec.ofChange Rows.textScriptsSpec) false w args)
      (Rows.textScriptsSpec.post enc Tryz.prog Tryz.f3 false true false false) := by
  refine wrap (C := Tryz.checked) (X := fun w _ => laidMetH Tryz.prog Rows.textScriptsRow.laid w) (fun _ _ _ hh h => h.of_heap hh) Tryz.own started (by kernel_rfl) Tryz.func3
    (ChangeSpec.witness_shaped (enc := enc) (C := Tryz.checked) (os := os) (X := fun w _ => laidMetH Tryz.prog Rows.textScriptsRow.laid w) false (World.laidAll Tryz.prog os Rows.textScriptsRow.laid) #[.slice none 0 0, .slice none 0 0, .int .i64 0, .int .u8 0] 12 (World.laidAll_os _ _ _)
      (World.shaped_of_ZipB (by kernel_rfl) (by kernel_rfl)) (by kernel_rfl) (by kernel_rfl) (by kernel_rfl)
      (by rw [MakeChecks.laidMetH_plain _ _ _ (by kernel_rfl)]; exact laidMet_laidAll _ (by kernel_rfl) (by kernel_rfl))) ?_
  intro W base args ds gs before hval hW hsz hL hsh
  exact contract H enc W base args ds gs before hval hW hsz hL hsh

theorem over : Rows.textScriptsRow.holds Tryz.pinned (OpenSpec.ofChange Rows.textScriptsSpec) :=
  OpenClaim.holds_of_wide 3 Tryz.f3 rfl rfl rfl rfl rfl rfl rfl ⟨rfl, rfl, rfl, rfl, rfl⟩ rfl rfl rfl rfl rfl (by kernel_rfl) Tryz.func3 (by kernel_rfl)
    (of_decide_eq_true (by kernel_rfl)) (by unfold Func.isWrapper; first | (rw [if_pos (by decide +kernel)]; kernel_rfl) | (rw [if_neg (by decide +kernel)]; exact ⟨rfl, rfl⟩))
    (fun os started H enc _ => lifted os started H enc)

/-- THE STATEMENT. -/
theorem proved : Rows.TextScriptsCardSaid :=
  Claim7.holds_tied_plain_at .later [] [.data, .data, .data, .data, .sentinel, .sentinel, .pinned] true (true, "5ed3c190071d2fc3b5588c03639a734ad0d501b47dc98744a89044c9b7acbfb9") true over (fun _ h => by cases h) (by kernel_rfl) (fun _ h => by cases h) textScripts_row_tie rfl ⟨rfl, rfl⟩ (by kernel_rfl) rfl
    (fun f fn hf hfn => by
      obtain rfl : f = 3 := Option.some.inj ((show Tryz.prog.funcNamed "zoneappend/zoneappendlaw37.TextScripts" = some 3 by kernel_rfl).symm.trans hf) |>.symm
      obtain rfl : fn = Tryz.f3 := (Option.some.inj (Tryz.func3.symm.trans hfn)).symm
      exact ⟨by kernel_rfl, fun j t ht => by
        rw [Tryz.params3] at ht
        have hm : t ∈ [22, 23, 3, 5] := by simpa using Array.mem_of_getElem? ht
        have hall : ([22, 23, 3, 5].all fun u => !Tryz.prog.wantsStandIn u) = true := by kernel_rfl
        exact (show Tryz.prog.wantsStandIn t = false by simpa using List.all_eq_true.1 hall t hm)⟩)
    (by kernel_rfl)
#print axioms proved
end Go.Proofs.YtikchieadclbhaaGreatDoor.textScripts

