/- Hexadecimal digits. No condition. -/
import Derived.Test.YtikchieadclbhaaGreatDoorZ21
import Derived.SizedLaws
import Derived.Test.YtikchieadclbhaaGreatDoorZ03
namespace Go.Proofs.YtikchieadclbhaaGreatDoor.Ab
set_option linter.unusedVariables false
set_option linter.unusedSimpArgs false
open Go.RowKit Go.WideShapes

section
variable {H : Type} {enc : TypeId × Value → H} {P : Program} {T : Nat → TI} {w : World} {base : Nat} {spare : Nat → Bool} {held : Bool}

theorem slice_bound0 (hT : TabOk P T) {t e fuel : Nat} (hk : (T t).k = .slice e) {v : Value} {x : DataW H × List MemPlace} (h : DataW.trod enc P w base spare held fuel t [v] = some x) {B : Nat} (hw : ∀ n ∈ x.1.weights P t, n ≤ B)
    {w2 : World} {ok : Nat → Prop} {es : List (List IV)} (hr : RepI w2 ok (.sl es) v) : es.length * P.bytesOf e ≤ B := by
  have hd := hT.desc t
  rw [hk] at hd
  rcases DataW.trod_slice hd h with ⟨e1, _⟩ | ⟨ad, len, cap, elems, rest, n, _, e1, rfl, hb, hl, hm, hlen, _⟩
  · have : es = [] := by
      injection e1 with e1
      subst e1
      cases hr with
      | nil A c hm => rfl
    subst this
    simp
  · have hle : es.length = len := by
      injection e1 with e1
      subst e1
      cases hr with
      | nil A c hm => rfl
      | sl es sz ad c f hok hc hm hlen hcell hr => rfl
    have := hw ((elems.length + rest.length) * P.bytesOf e) (by simp [DataW.weights, show P.underlying t = _ from hd])
    refine Nat.le_trans ?_ this
    exact Nat.mul_le_mul_right _ (by omega)

theorem slice_bound (hT : TabOk P T) {t e : Nat} (hk : (T t).k = .slice e) {v : Value} {d : DataW H} {p : List MemPlace} (h : DataW.Trod enc P w base spare held t v d p) {B : Nat} (hw : ∀ n ∈ d.weights P t, n ≤ B)
    {w2 : World} {ok : Nat → Prop} {es : List (List IV)} (hr : RepI w2 ok (.sl es) v) : es.length * P.bytesOf e ≤ B := by
  obtain ⟨fuel, h⟩ := h
  have : v.cells.toList = [v] := by cases hr <;> rfl
  rw [this] at h
  exact slice_bound0 hT hk h hw hr

theorem field_bound (hT : TabOk P T) {t e o g : Nat} {fs : List (Nat × Nat)} (hk : (T t).k = .struct fs) (hm : (o, g) ∈ fs) (hg : (T g).k = .slice e) (hz : (T g).size = 1) {cs : Array Value} {d : DataW H} {p : List MemPlace}
    (h : DataW.Trod enc P w base spare held t (.agg cs) d p) {B : Nat} (hw : ∀ n ∈ d.weights P t, n ≤ B) {u : Value} (hu : cs[o]? = some u)
    {w2 : World} {ok : Nat → Prop} {es : List (List IV)} (hr : RepI w2 ok (.sl es) u) : es.length * P.bytesOf e ≤ B := by
  obtain ⟨fuel, h⟩ := h
  have e : (Value.agg cs).cells = cs := rfl
  rw [e] at h
  have hd := hT.desc t
  rw [hk] at hd
  obtain ⟨Fs, hFs, hfs⟩ := hd
  obtain ⟨xs, n, _, hx, hcl, hxl, hxs⟩ := DataW.trod_struct hFs h
  rw [← hfs] at hm
  obtain ⟨G, hG, hGe⟩ := List.mem_map.1 hm
  obtain ⟨i, hi, hgi⟩ := List.getElem_of_mem hG
  have hi' : i < Fs.size := by simpa using hi
  have hgi' : Fs[i]? = some G := by rw [Array.getElem?_eq_getElem hi', ← hgi]; simp
  have h1 := hxs i G hgi'
  injection hGe with g1 g2
  have hc := cellsOf_eq hT (t := g) (by rw [hg]; intro h; cases h)
  rw [g1, g2, hc, hz, List.getElem?_eq_getElem (by omega)] at h1
  have hdt : (cs.toList.drop o).take 1 = [u] := by
    have ho : o < cs.size := (Array.getElem?_eq_some_iff.1 hu).1
    have hu' : cs.toList[o]? = some u := by simpa using hu
    rw [List.drop_eq_getElem_cons (by simpa using ho)]
    simp only [List.take_succ_cons, List.take_zero]
    rw [List.getElem?_eq_getElem (by simpa using ho)] at hu'
    injection hu' with hu'
    rw [hu']
  rw [hdt] at h1
  refine slice_bound0 hT hg h1 (fun m hm => hw m ?_) hr
  have hd1 : d = .agg (xs.map (·.1)) := by injection hx
  rw [hd1]
  simp only [DataW.weights, hFs]
  exact DataW.weights_mem_each (j := i) (t := g) (d := xs[i].1) (by simp [hgi', g2]) (by rw [List.getElem?_map, List.getElem?_eq_getElem (by omega)]; rfl) m hm

theorem bytesOf_eq (hT : TabOk P T) {e : Nat} (hk : (T e).k ≠ .none) : P.bytesOf e = (T e).bytes := by
  obtain ⟨i, z, h1, h2, h3, _⟩ := tab_info hT hk
  simp [Program.bytesOf, h1, h3]
/-- The arguments of a call, one by one. -/
def RepsV (w : World) (ok : Nat → Prop) (σ : Nat → Nat → Value) (G : Nat → Nat) : List Value → List AV → Prop
  | v :: vs, x :: xs => RepV w ok σ G x v ∧ RepsV w ok σ G vs xs
  | [], [] => True
  | _, _ => False
theorem reps_get {ok : Nat → Prop} {σ : Nat → Nat → Value} {G : Nat → Nat} : ∀ {vs : List Value} {xs : List AV}, RepsV w ok σ G vs xs → ∀ (j : Nat) (z : Value) (x : AV), vs.toArray[j]? = some z → xs[j]? = some x → RepV w ok σ G x z
  | v :: vs, y :: xs, h, 0, z, x, hz, hx => by simp at hz hx; subst hz hx; exact h.1
  | v :: vs, y :: xs, h, j + 1, z, x, hz, hx => reps_get h.2 j z x (by simpa using hz) (by simpa using hx)
  | [], _, _, j, z, x, hz, hx => by simp at hz
  | v :: vs, [], h, _, _, _, _, _ => h.elim
end
end Go.Proofs.YtikchieadclbhaaGreatDoor.Ab
namespace Go.Proofs.YtikchieadclbhaaGreatDoor.Ab
set_option linter.unusedVariables false
set_option linter.unusedSimpArgs false
open Go.RowKit

section
variable {P : Program} {T : Nat → TI} {W0 : Ent} {w w' : World} {ok ok' : Nat → Prop} {σ σc : Nat → Nat → Value} {S : St} {a : Act}

/-- THE CONTRACT, from the walk. -/
theorem fun_of_vc_g (hT : TabOk P T) (hm : P.follows .mixedOrders = true) {f : FuncId} {fn : Func} {c : Code} {args : List AV} {bs : List Blk} {res : AT} {rs : List ResultVar} (hf : P.funcs[f]? = some fn) (hb : fn.body = some c) (hn : (fn.name == "runtime.NumGoroutine") = false)
    (hr : fn.results = rs.toArray) (hargs : args.all (fun x => okV 0 x) = true) (m : Nat)
    (h : vc T P c (St0 args fn.ntmps m) (fun e S' => match e with
      | .exit _ => False
      | _ => ∃ S2, Ghost S' S2 ∧ ∃ ids : List Nat, ids.Nodup ∧ endK T S2 rs ids fun bs' res' => bs' = bs ∧ res' = res)) : Fun P f args bs res := by
  refine ⟨⟨fn, hf, by rw [hb]; rfl, hn⟩, fun w ok argv hok hsz hrep => ?_⟩
  refine calls_of_wp hf hb (wp_mono (vc_sound (W0 := ⟨w, ok, [], none, hok.ent [] (by simp)⟩) hT hm c ⟨ok, fun _ _ => undef, ?_⟩ h) ?_)
  · refine ⟨⟨rfl, rfl, rfl, Nat.le_refl _, fun _ _ _ => rfl⟩, fun _ _ _ e => (by cases e), fun k => ⟨fun h => h, Or.inl⟩, rfl, hok.1, by simp [St0]; omega, fun i v x hv hx => ?_, fun b B hB => ?_, fun b b' B B' hB hB' hne n hn => ?_⟩
    · simp only [St0] at hx
      rw [List.getElem?_append] at hx
      split at hx
      · rename_i hi
        rw [List.length_map] at hi
        rw [List.getElem?_map] at hx
        obtain ⟨y, hy, rfl⟩ := Option.map_eq_some_iff.1 hx
        rw [Array.getElem?_append, if_pos (by omega)] at hv
        have hk : okV 0 y = true := List.all_eq_true.1 hargs y (List.mem_of_getElem? hy)
        exact ok0_rep (x := .v y) hk (hrep i v y hv hy)
      · have := List.mem_of_getElem? hx
        rw [List.eq_of_mem_replicate this]
        exact trivial
    · have := List.mem_of_getElem? hB
      simp only [St0] at this
      rw [List.eq_of_mem_replicate this]
      exact trivial
    · have := List.mem_of_getElem? hB
      simp only [St0] at this
      rw [List.eq_of_mem_replicate this] at hn
      simp [Blk.at] at hn
  · have fin : ∀ {a' : Act} {w' : World} {S' : St}, (∃ ok' σ', Conf ⟨w, ok, [], none, hok.ent [] (by simp)⟩ ok' σ' S' a' w') → (∃ S2, Ghost S' S2 ∧ ∃ ids : List Nat, ids.Nodup ∧ endK T S2 rs ids fun bs' res' => bs' = bs ∧ res' = res) →
        a'.defers = [] ∧ ∃ v, (results fn a'.tmps).run P w' = .ok v w' ∧ ∃ v1 ok' σ, Ending.returned v = .returned v1 ∧ Below w.heap.size w w' ∧ (∀ k, ok k → ok' k) ∧ (∀ k, ok' k → ok k ∨ (w.heap.size ≤ k ∧ k < w'.heap.size)) ∧
          RepT w' ok' σ (fun _ => 0) res v1 ∧ (∀ (b : Nat) B, bs[b]? = some B → B.gen = 0 ∧ RepB w.heap.size w' ok' σ (fun _ => 0) b B) ∧
          (∀ (b b' : Nat) B B', bs[b]? = some B → bs[b']? = some B' → b ≠ b' → ∀ n, B.at σ b = some n → B'.at σ b' ≠ some n) := by
      rintro a' w' S1 ⟨ok1, σ1, hC1⟩ ⟨S', hgh, ids, hnd, hE⟩
      obtain ⟨ok', σ', hC⟩ := hgh _ _ _ _ _ hC1
      obtain ⟨xs, v, vs, h1, h2, h3, h4, h5⟩ := run_results (fn := fn) hT hC hr hE
      obtain ⟨ys, k1, k2, k3⟩ := outVs_rep hC xs h3 h4 h1
      obtain ⟨bs', ⟨rfl, rfl⟩, k5⟩ := outB_rep hC hnd ids (i := 0) (fun j => by rw [Nat.zero_add]) k1
      refine ⟨hC.defers, v, h2, v, OutOk S' σ' ok' ids, outσ S' σ' ids, rfl, ⟨hC.below.os, hC.below.tape, hC.below.output, hC.below.size, fun k hk => hC.below.block k hk (by simp)⟩, fun k hk => Or.inl ((hC.base k).1 hk), fun k hk => ?_, ?_, fun b B hB => ?_, fun b b' B B' hB hB' hne n hn hn' => ?_⟩
      · rcases hk with hk | ⟨b, B, _, hB, hn⟩
        · rcases (hC.base k).2 hk with h | h
          · exact Or.inl h
          · exact Or.inr ⟨h.resolve_right (fun e => by cases e), hC.okb k hk⟩
        · exact Or.inr ⟨(at_bounds (hC.blk b B hB) hn).1.resolve_right (fun e => by cases e), (at_bounds (hC.blk b B hB) hn).2.1⟩
      · rw [h5]
        have hl : vs.length = ys.length := by omega
        match ys, vs, hl with
        | [], [], _ => exact ⟨#[], by simp, rfl, fun j u x hu hx => by simp at hx⟩
        | [y], [u], _ => exact k3 0 y u rfl rfl
        | y :: y' :: ys, u :: u' :: us, hl =>
          refine ⟨(u :: u' :: us).toArray, by simp, by simpa using hl, fun j z x hz hx => k3 j x z hx (by simpa using hz)⟩
      · have := k5 b B hB
        rw [Nat.zero_add] at this
        exact ⟨this.1, this.2.1⟩
      · obtain ⟨_, _, c, C, e1, e2, e3⟩ := k5 b B hB
        obtain ⟨_, _, c', C', e1', e2', e3'⟩ := k5 b' B' hB'
        rw [Nat.zero_add] at e1 e3 e1' e3'
        rw [e3] at hn
        rw [e3'] at hn'
        have hcc : c ≠ c' := by
          intro e
          subst e
          have hb : b < ids.length := (List.getElem?_eq_some_iff.1 e1).1
          have hb' : b' < ids.length := (List.getElem?_eq_some_iff.1 e1').1
          exact hne ((List.getElem?_inj hb hnd).1 (e1.trans e1'.symm))
        exact hC.apart c c' C C' e2 e2' hcc n hn hn'
    intro e a' w' he
    cases e with
    | normal => obtain ⟨S', hC, hE⟩ := he; exact fin hC hE
    | ret => obtain ⟨S', hC, hE⟩ := he; exact fin hC hE
    | exit id => obtain ⟨S', hC, hE⟩ := he; exact hE.elim
    | goto l => exact he.elim
    | panic c => exact he.elim
    | outgrown => exact he.elim

/-- A contract of the library's: plain values in, a plain value out. -/
theorem fun_of_calls {f : FuncId} {args : List Value} {v : Value} (hE : Enters P f) (h1 : v.oneCell' = true) (h : ∀ w, Calls P f args.toArray w fun e w' => e = .returned v ∧ Below w.heap.size w w') : Fun P f (args.map fun x => .c (.i (.sc x))) [] (.v (.c (.i (.sc v)))) := by
  refine ⟨hE, fun w ok argv hok hsz hrep => ?_⟩
  have ha : argv = args.toArray := by
    apply Array.ext
    · simpa using hsz
    · intro i h1 h2
      have := hrep i argv[i] (.c (.i (.sc args[i]))) (Array.getElem?_eq_getElem h1) (by simp at h2; simp [h2])
      have := RepI_sc this
      simpa using this
  rw [ha]
  refine (h w).mono ?_
  rintro e w' ⟨rfl, hb⟩
  exact ⟨v, ok, fun _ _ => undef, rfl, hb, fun _ h => h, fun k hk => Or.inl hk, .sc v h1, fun b B hB => by simp at hB, fun b b' B B' hB => by simp at hB⟩
end
end Go.Proofs.YtikchieadclbhaaGreatDoor.Ab
namespace Go.Proofs.YtikchieadclbhaaGreatDoor.Ab
set_option linter.unusedVariables false
set_option linter.unusedSimpArgs false
open Go.RowKit Go.WideShapes

section
variable {H : Type} {enc : TypeId × Value → H} {P : Program} {T : Nat → TI} {w : World} {base : Nat} {spare : Nat → Bool} {held : Bool}
theorem weights_all {e : TypeId} {n : Nat} : ∀ {l : List (DataW H)} {d : DataW H}, d ∈ l → n ∈ d.weights P e → n ∈ DataW.weightsAll P e l
  | [], d, h, _ => by cases h
  | x :: l, d, h, hn => by
    simp only [DataW.weightsAll, List.mem_append]
    rcases List.mem_cons.1 h with rfl | h
    · exact Or.inl hn
    · exact Or.inr (weights_all h hn)
theorem strs_bound (hT : TabOk P T) {t e : Nat} (hk : (T t).k = .slice e) (he : (T e).k = .str) (hz : (T e).size = 1) {v : Value} {d : DataW H} {p : List MemPlace} (h : DataW.Trod enc P w base spare held t v d p) {B : Nat} (hw : ∀ n ∈ d.weights P t, n ≤ B)
    {ok : Nat → Prop} {ss : List ByteArray} (hr : RepI w ok (.sl (ss.map fun s => [.sc (.string s)])) v) : ∀ s ∈ ss, s.size ≤ B := by
  obtain ⟨fuel, h⟩ := h
  have hv : v.cells.toList = [v] := by
    obtain ⟨A, c, e, _⟩ := slice_of hr
    rw [e]
    rfl
  rw [hv] at h
  have hd := hT.desc t
  rw [hk] at hd
  have hde := hT.desc e
  rw [he] at hde
  have hce : P.cellsOf e = 1 := by rw [cellsOf_eq hT (by rw [he]; intro h; cases h), hz]
  intro s hs
  obtain ⟨k, hkl, rfl⟩ := List.getElem_of_mem hs
  rcases DataW.trod_slice hd h with ⟨e1, _⟩ | ⟨ad, len, cap, elems, rest, n, _, e1, e2, hb, hl, hm, hlen, hel, _, _⟩
  · injection e1 with e1
    subst e1
    generalize hX : (ss.map fun s => [IV.sc (.string s)]) = X at hr
    cases hr with
    | nil A c hm =>
      have := congrArg List.length hX
      simp at this
      rw [this] at hkl
      simp at hkl
  · injection e1 with e1
    subst e1
    generalize hX : (ss.map fun s => [IV.sc (.string s)]) = X at hr
    cases hr with
    | nil A c hm =>
      have := congrArg List.length hX
      simp at this
      rw [this] at hkl
      simp at hkl
    | sl es sz ad c f hok hc hm hlen2 hcell hrr =>
      have hXl : X.length = ss.length := by rw [← hX, List.length_map]
      have h1 := hel k (by omega)
      rw [List.getElem?_eq_getElem (by omega)] at h1
      obtain ⟨ci, hci, h2⟩ := Option.bind_eq_some_iff.1 h1
      obtain ⟨_, c2, c3⟩ := World.cells?_some hci
      rw [hce] at c2 c3
      obtain ⟨s', q1, q2, _⟩ := DataW.trod_string hde h2
      have hx : X[k]? = some [IV.sc (.string ss[k])] := by rw [← hX, List.getElem?_map, List.getElem?_eq_getElem hkl]; rfl
      have hsz1 : sz = 1 := (hlen2 _ (List.mem_of_getElem? hx)).symm
      have hf := RepI_sc (hrr k _ 0 _ hx rfl)
      subst hsz1
      rw [Nat.mul_one, Nat.add_zero] at hf
      have hck := hcell k (by omega)
      have hck2 := c3 0 (by omega)
      rw [Nat.mul_one, q1] at hck2
      rw [show (ad.add k).add 0 = ad.add k by simp [Addr.add]] at hck2
      rw [hck, hf] at hck2
      have hss : s' = ss[k] := by
        simp at hck2
        exact hck2.symm
      have hin : ss[k].data.toList.length ∈ d.weights P t := by
        have e3 : d = .slice (elems.map (·.1)) (rest.map (·.1)) := congrArg Prod.fst e2
        rw [e3]
        simp only [DataW.weights, show P.underlying t = _ from hd]
        refine List.mem_cons_of_mem _ (List.mem_append_left _ (weights_all (d := .lit (.string s'.data.toList)) ?_ ?_))
        · refine List.mem_map.2 ⟨elems[k]'(by omega), List.getElem_mem _, ?_⟩
          rw [q2]
        · rw [hss]
          simp [DataW.weights]
      exact hw _ hin
end
end Go.Proofs.YtikchieadclbhaaGreatDoor.Ab
namespace Go.Proofs.YtikchieadclbhaaGreatDoor.Ab
set_option linter.unusedVariables false
set_option linter.unusedSimpArgs false
open Go.RowKit Go.Lib

def digA : Array Value := #[.int .u8 48, .int .u8 49, .int .u8 50, .int .u8 51, .int .u8 52, .int .u8 53, .int .u8 54, .int .u8 55, .int .u8 56, .int .u8 57, .int .u8 97, .int .u8 98, .int .u8 99, .int .u8 100, .int .u8 101, .int .u8 102]
theorem digA_one : digA.all (·.oneCell') = true := by simp [digA, Value.oneCell']
theorem digA_size : (Tryz.prog.info? 89).map (·.size) = some digA.size := by kernel_rfl
theorem below_setRow {B : Nat} {a w : World} (h : Below B a w) {g : Nat} (hg : B ≤ g) (cs : Array Value) : Below B a (w.setRow g cs) :=
  h.trans ⟨rfl, rfl, rfl, by simp [World.setRow], fun k hk => setRow_other w g k cs (by omega)⟩
def zer16 : Array Value := #[.int .u8 0, .int .u8 0, .int .u8 0, .int .u8 0, .int .u8 0, .int .u8 0, .int .u8 0, .int .u8 0, .int .u8 0, .int .u8 0, .int .u8 0, .int .u8 0, .int .u8 0, .int .u8 0, .int .u8 0, .int .u8 0]
theorem zer_dig : zer16.size = digA.size := by rfl
set_option maxHeartbeats 1000000 in
set_option maxRecDepth 100000 in
theorem digC (w : World) : Calls Tryz.prog 52 #[] w fun e w' => e = .returned (.agg digA) ∧ Below w.heap.size w w' := by
  have h0 : (w.alloc (.cells zer16 89)).heap[w.heap.size]? = some (.cells zer16 89) := heap_alloc_new w _
  go_enter Tryz.func52, Tryz.ntmps52
  go_wp2_with (refine wpList_store_row rfl 89 _ _ rfl w.heap.size digA rfl rfl 89 zer16 h0 digA_size zer_dig digA_one ?_)
  exact bodyPost_ret (v := .agg digA) (results_cell_row rfl _ _ w.heap.size 89 digA _ _ rfl (setRow_heap _ _ _ _ _ _ h0) Tryz.underlying89 rfl (by kernel_rfl)) rfl
        ⟨rfl, below_setRow ((Below.refl _ _).alloc (Nat.le_refl _) _) (Nat.le_refl _) _⟩
def digL : List Nat := [48, 49, 50, 51, 52, 53, 54, 55, 56, 57, 97, 98, 99, 100, 101, 102]
theorem digL_at (b : UInt8) : digL[(b / 16).toNat]? = some (hdg (b / 16)).toNat ∧ digL[(b % 16).toNat]? = some (hdg (b % 16)).toNat := by
  refine byte_all (p := fun b => digL[(b / 16).toNat]? = some (hdg (b / 16)).toNat ∧ digL[(b % 16).toNat]? = some (hdg (b % 16)).toNat) ?_ b
  decide +kernel
theorem digA_L : digA.toList = digL.map fun n => Value.int .u8 (n : Nat) := rfl
theorem digA_at (b : UInt8) : digA[(b / 16).toNat]? = some (.int .u8 (hdg (b / 16)).toNat) ∧ digA[(b % 16).toNat]? = some (.int .u8 (hdg (b % 16)).toNat) := by
  have h := digL_at b
  rw [← Array.getElem?_toList, ← Array.getElem?_toList, digA_L, List.getElem?_map, List.getElem?_map, h.1, h.2]
  exact ⟨rfl, rfl⟩
theorem hex_snoc : ∀ (l : List UInt8) (b : UInt8), hexL (l ++ [b]) = hexL l ++ [hdg (b / 16), hdg (b % 16)]
  | [], b => rfl
  | x :: l, b => by rw [List.cons_append, hexL, hex_snoc l b, hexL]; rfl
theorem hex_len : ∀ (l : List UInt8), (hexL l).length = 2 * l.length
  | [] => rfl
  | x :: l => by rw [hexL, List.length_cons, List.length_cons, hex_len l, List.length_cons]; omega
set_option maxHeartbeats 4000000 in
set_option maxRecDepth 100000 in
theorem hexC (s : ByteArray) (w : World) (hs : s.size ≤ 35184372088832) : Calls Tryz.prog 58 #[.string s] w fun e w' => e = .returned (.string ⟨(hexL s.data.toList).toArray⟩) ∧ Below w.heap.size w w' := by
  go_enter Tryz.func58, Tryz.ntmps58
  go_wp2_with fail
  refine (digC _).mono ?_
  rintro e w1 ⟨rfl, hb⟩
  have hh : ((w1.alloc (.cells #[.int .u8 0, .int .u8 0, .int .u8 0, .int .u8 0, .int .u8 0, .int .u8 0, .int .u8 0, .int .u8 0, .int .u8 0, .int .u8 0, .int .u8 0, .int .u8 0, .int .u8 0, .int .u8 0, .int .u8 0, .int .u8 0] 89))).heap[w1.heap.size]? = some (.cells #[.int .u8 0, .int .u8 0, .int .u8 0, .int .u8 0, .int .u8 0, .int .u8 0, .int .u8 0, .int .u8 0, .int .u8 0, .int .u8 0, .int .u8 0, .int .u8 0, .int .u8 0, .int .u8 0, .int .u8 0, .int .u8 0] 89) := heap_alloc_new w1 _
  go_wp2_with (refine wpList_store_row rfl 89 _ _ rfl w1.heap.size digA rfl rfl 89 _ hh digA_size zer_dig digA_one ?_)
  have hb2 : Below w.heap.size w ((w1.alloc (.cells #[.int .u8 0, .int .u8 0, .int .u8 0, .int .u8 0, .int .u8 0, .int .u8 0, .int .u8 0, .int .u8 0, .int .u8 0, .int .u8 0, .int .u8 0, .int .u8 0, .int .u8 0, .int .u8 0, .int .u8 0, .int .u8 0] 89)).setRow w1.heap.size digA) := below_setRow (hb.alloc hb.size _) hb.size _
  have hh2 := setRow_heap _ _ _ digA _ _ hh
  have hsz : ((w1.alloc (.cells #[.int .u8 0, .int .u8 0, .int .u8 0, .int .u8 0, .int .u8 0, .int .u8 0, .int .u8 0, .int .u8 0, .int .u8 0, .int .u8 0, .int .u8 0, .int .u8 0, .int .u8 0, .int .u8 0, .int .u8 0, .int .u8 0] 89)).setRow w1.heap.size digA).heap.size = w1.heap.size + 1 := by simp [World.setRow]
  generalize ((w1.alloc (.cells #[.int .u8 0, .int .u8 0, .int .u8 0, .int .u8 0, .int .u8 0, .int .u8 0, .int .u8 0, .int .u8 0, .int .u8 0, .int .u8 0, .int .u8 0, .int .u8 0, .int .u8 0, .int .u8 0, .int .u8 0, .int .u8 0] 89)).setRow w1.heap.size digA) = w2 at *
  go_loopw [5] (fun i wr => ∃ k : Nat, k ≤ s.size ∧ i = .int .i64 k ∧ Lib.IsBuilder 93 5 (w1.heap.size + 1) (w1.heap.size + 1) (Lib.byteCells (hexL (s.data.toList.take k))) wr ∧ Below (w1.heap.size + 1) w2 wr) (fun i _ => s.size - (RowKit.intOf i).toNat)
  case atStart =>
    refine ⟨0, Nat.zero_le _, rfl, ?_, (Below.refl _ _).alloc (Nat.le_of_eq hsz.symm) _⟩
    have e0 : Lib.byteCells (hexL (s.data.toList.take 0)) = [] := by rw [List.take_zero]; rfl
    rw [e0]
    have hn := heap_alloc_new w2 (.cells #[.pointer none, .slice none 0 0] 93)
    rw [hsz] at hn
    exact Or.inl ⟨Nat.le_refl _, _, hn, World.ownsRow_nil _ _ _ _, by simp [Value.ownBlock]⟩
  case round =>
    obtain ⟨k, hk, rfl, hB, hbw⟩ := hrel
    by_cases hlt : k < s.size
    · have hlen : k < s.data.toList.length := hlt
      have hbb := s[k].toNat_lt
      have h16 : s[k].toNat / 16 < 16 := by omega
      have hcell : ∀ wx : World, Below (w1.heap.size + 1) w2 wx → wx.cell? ⟨w1.heap.size, s[k].toNat / 16, none⟩ = some (.int .u8 ((hdg (s[k] / 16)).toNat : Nat)) ∧ wx.cell? ⟨w1.heap.size, s[k].toNat % 16, none⟩ = some (.int .u8 ((hdg (s[k] % 16)).toNat : Nat)) := by
        intro wx hx
        have e1 : wx.heap[w1.heap.size]? = some (.cells digA 89) := (hx.block _ (Nat.lt_succ_self _)).trans hh2
        have e2 := digA_at s[k]
        rw [UInt8.toNat_div, UInt8.toNat_mod] at e2
        rw [cell_of_row _ _ _ _ _ _ e1, cell_of_row _ _ _ _ _ _ e1]
        exact e2
      have hc1 := (hcell wr hbw).1
      have hln : (Lib.byteCells (hexL (s.data.toList.take k))).length ≤ 2 * k := by
        rw [Lib.byteCells_length, hex_len, List.length_take]
        omega
      have hB1 := bByte (w1.heap.size + 1) (w1.heap.size + 1) _ ((hdg (s[k] / 16)).toNat : Nat) wr hB (by omega) (by have := hbw.size; omega)
      go_wp2_with fail
      refine hB1.mono ?_
      rintro e w3 ⟨rfl, hB2, hb3⟩
      have hbw3 := hbw.trans hb3
      have hc2 := (hcell w3 hbw3).2
      have hB3 := bByte (w1.heap.size + 1) (w1.heap.size + 1) _ ((hdg (s[k] % 16)).toNat : Nat) w3 (Or.inr hB2) (by rw [List.length_append, List.length_singleton]; omega) (by have := hbw3.size; omega)
      go_wp2_with fail
      refine hB3.mono ?_
      rintro e w4 ⟨rfl, hB4, hb4⟩
      have hbw4 := hbw3.trans hb4
      have htk : s.data.toList.take (k + 1) = s.data.toList.take k ++ [s[k]] := List.take_succ_eq_append_getElem hlen
      have hby : Lib.byteCells (hexL (s.data.toList.take k)) ++ [.int .u8 ((hdg (s[k] / 16)).toNat : Nat)] ++ [.int .u8 ((hdg (s[k] % 16)).toNat : Nat)] = Lib.byteCells (hexL (s.data.toList.take (k + 1))) := by
        rw [htk, hex_snoc, Lib.byteCells_append, List.append_assoc]
        rfl
      rw [hby] at hB4
      have HB4 := Lib.hid hB4
      clear hB4 hby htk
      go_wp2
      go_roundw
      case rel => exact ⟨k + 1, by omega, by go_num, Or.inr HB4.out, hbw4⟩
      case measure => simp [RowKit.intOf]; omega
    · obtain rfl : k = s.size := by omega
      have hst := Tryz.Builder_String_any _ _ _ _ hB (by have := hbw.size; omega)
      go_wp2_with fail
      refine hst.mono ?_
      rintro e w4 ⟨rfl, hb4⟩
      go_wp2
      go_ret
      rw [show List.take s.size s.data.toList = s.data.toList from List.take_of_length_le (Nat.le_refl _)]
      have hbs := hb.size
      exact ⟨rfl, (hb2.trans (hbw.mono (by omega))).trans (hb4.mono (by omega))⟩
theorem hexF (s : ByteArray) (hs : s.size ≤ 35184372088832) : Fun Tryz.prog 58 [.c (.i (.sc (.string s)))] [] (.v (.c (.i (.sc (.string ⟨(hexL s.data.toList).toArray⟩))))) :=
  fun_of_calls (args := [.string s]) (v := .string ⟨(hexL s.data.toList).toArray⟩) ⟨_, Tryz.func58, rfl, rfl⟩ rfl (fun w => hexC s w hs)
end Go.Proofs.YtikchieadclbhaaGreatDoor.Ab
