/- The law of raw maps. -/
import Derived.Test.YtgjcljjgifnjdaaWl
import Derived.Test.YtgjcljjgifnjdaaFu
namespace Go.Proofs.Ytgjcljjgifnjdaa.Ab
set_option linter.unusedVariables false
set_option linter.unusedSimpArgs false
open Go.RowKit Go.WideShapes

section
variable {H : Type} {enc : TypeId × Value → H} {P : Program} {T : Nat → TI} {w : World} {base : Nat} {spare : Nat → Bool} {held : Bool}
theorem field_trod (hT : TabOk P T) {t e o g : Nat} {fs : List (Nat × Nat)} (hk : (T t).k = .struct fs) (hm : (o, g) ∈ fs) (hg : (T g).k = .slice e) (hz : (T g).size = 1) {cs : Array Value} {d : DataW H} {p : List MemPlace}
    (h : DataW.Trod enc P w base spare held t (.agg cs) d p) {B : Nat} (hw : ∀ n ∈ d.weights P t, n ≤ B) {u : Value} (hu : cs[o]? = some u) :
    ∃ fuel x, DataW.trod enc P w base spare held fuel g [u] = some x ∧ ∀ n ∈ x.1.weights P g, n ≤ B := by
  obtain ⟨fuel, h⟩ := h
  have e : (Value.agg cs).cells = cs := rfl
  rw [e] at h
  have hd := hT.desc t
  rw [hk] at hd
  obtain ⟨Fs, hFs, hfs⟩ := hd
  obtain ⟨xs, n, _, hx, hcl, hxl, hxs⟩ := DataW.trod_struct hFs h
  rw [← hfs] at hm
  obtain ⟨G, hG, hGe⟩ := List.mem_map.1 hm
  obtain ⟨i, hi, hgi⟩ := List.getElem_of_mem hG
  have hi' : i < Fs.size := by simpa using hi
  have hgi' : Fs[i]? = some G := by rw [Array.getElem?_eq_getElem hi', ← hgi]; simp
  have h1 := hxs i G hgi'
  injection hGe with g1 g2
  have hc := cellsOf_eq hT (t := g) (by rw [hg]; intro h; cases h)
  rw [g1, g2, hc, hz, List.getElem?_eq_getElem (by omega)] at h1
  have hdt : (cs.toList.drop o).take 1 = [u] := by
    have ho : o < cs.size := (Array.getElem?_eq_some_iff.1 hu).1
    have hu' : cs.toList[o]? = some u := by simpa using hu
    rw [List.drop_eq_getElem_cons (by simpa using ho)]
    simp only [List.take_succ_cons, List.take_zero]
    rw [List.getElem?_eq_getElem (by simpa using ho)] at hu'
    injection hu' with hu'
    rw [hu']
  rw [hdt] at h1
  refine ⟨_, _, h1, fun m hm => hw m ?_⟩
  have hd1 : d = .agg (xs.map (·.1)) := by injection hx
  rw [hd1]
  simp only [DataW.weights, hFs]
  exact DataW.weights_mem_each (j := i) (t := g) (d := xs[i].1) (by simp [hgi', g2]) (by rw [List.getElem?_map, List.getElem?_eq_getElem (by omega)]; rfl) m hm
theorem rows_bound (hT : TabOk P T) {t e f fuel : Nat} (hk : (T t).k = .slice e) (he : (T e).k = .slice f) (hz : (T e).size = 1) {v : Value} {x : DataW H × List MemPlace} (h : DataW.trod enc P w base spare held fuel t [v] = some x) {B : Nat} (hw : ∀ n ∈ x.1.weights P t, n ≤ B)
    {ok : Nat → Prop} {ls : List (List (List IV))} (hr : RepI w ok (.sl (ls.map fun l => [.sl l])) v) : ∀ l ∈ ls, l.length * P.bytesOf f ≤ B := by
  have hd := hT.desc t
  rw [hk] at hd
  have hce : P.cellsOf e = 1 := by rw [cellsOf_eq hT (by rw [he]; intro h; cases h), hz]
  intro s hs
  obtain ⟨k, hkl, rfl⟩ := List.getElem_of_mem hs
  rcases DataW.trod_slice hd h with ⟨e1, _⟩ | ⟨ad, len, cap, elems, rest, n, _, e1, e2, hb, hl, hm, hlen, hel, _, _⟩
  · injection e1 with e1
    subst e1
    generalize hX : (ls.map fun s => [IV.sl s]) = X at hr
    cases hr with
    | nil A c hm =>
      have := congrArg List.length hX
      simp at this
      rw [this] at hkl
      simp at hkl
  · injection e1 with e1
    subst e1
    generalize hX : (ls.map fun s => [IV.sl s]) = X at hr
    cases hr with
    | nil A c hm =>
      have := congrArg List.length hX
      simp at this
      rw [this] at hkl
      simp at hkl
    | sl es sz ad c g hok hc hm hlen2 hcell hrr =>
      have hXl : X.length = ls.length := by rw [← hX, List.length_map]
      have h1 := hel k (by omega)
      rw [List.getElem?_eq_getElem (by omega)] at h1
      obtain ⟨ci, hci, h2⟩ := Option.bind_eq_some_iff.1 h1
      obtain ⟨_, c2, c3⟩ := World.cells?_some hci
      rw [hce] at c2 c3
      have hx : X[k]? = some [IV.sl ls[k]] := by rw [← hX, List.getElem?_map, List.getElem?_eq_getElem hkl]; rfl
      have hsz1 : sz = 1 := (hlen2 _ (List.mem_of_getElem? hx)).symm
      have hf := hrr k _ 0 _ hx rfl
      subst hsz1
      rw [Nat.mul_one, Nat.add_zero] at hf
      have hck := hcell k (by omega)
      have hck2 := c3 0 (by omega)
      rw [Nat.mul_one] at hck2
      rw [show (ad.add k).add 0 = ad.add k by simp [Addr.add]] at hck2
      obtain ⟨u, rfl⟩ : ∃ u, ci = [u] := by
        match ci, c2 with
        | [u], _ => exact ⟨u, rfl⟩
      have hfu : g k = u := by
        rw [hck] at hck2
        simp at hck2
        exact hck2
      rw [hfu] at hf
      refine slice_bound0 hT he h2 (fun m hm => hw m ?_) hf
      have e3 : x.1 = .slice (elems.map (·.1)) (rest.map (·.1)) := congrArg Prod.fst e2
      rw [e3]
      simp only [DataW.weights, show P.underlying t = _ from hd]
      refine List.mem_cons_of_mem _ (List.mem_append_left _ (weights_all (d := (elems[k]'(by omega)).1) ?_ hm))
      exact List.mem_map.2 ⟨elems[k]'(by omega), List.getElem_mem _, rfl⟩
end
theorem etysB_of {d : Nat} (es : List (List IV)) (h : ∀ r ∈ es, ShI tab (d + 2 + 1) 34 r) : ∃ xs : List Ety, es = eR xs ∧ ∀ x ∈ xs, x.b ≤ 9223372036854775807 := by
  induction es with
  | nil => exact ⟨[], rfl, fun x hx => by cases hx⟩
  | cons e es ih =>
    obtain ⟨xs, rfl, hx⟩ := ih (fun r hr => h r (List.mem_cons_of_mem _ hr))
    obtain ⟨_, _, rfl, ⟨b, rfl, hb⟩, _, _, rfl, ⟨k, rfl, _⟩, _, _, rfl, ⟨v, rfl, _⟩, _, _, rfl, ⟨m, rfl, _⟩, _, _, rfl, ⟨_, _, rfl, ⟨z, rfl, _⟩, _, _, rfl, ⟨o, rfl, _⟩, rfl⟩, rfl⟩ := h e List.mem_cons_self
    refine ⟨⟨b, k, v, m, z, o⟩ :: xs, rfl, fun x hxm => ?_⟩
    rcases List.mem_cons.1 hxm with rfl | hxm
    · have h1 : (decide (-9223372036854775808 ≤ b) && decide (b ≤ 9223372036854775807)) = true := hb
      rw [Bool.and_eq_true] at h1
      exact of_decide_eq_true h1.2
    · exact hx x hxm
theorem maps_of {d : Nat} (es : List (List IV)) (h : ∀ r ∈ es, ShI tab (d + 2 + 1 + 1) 28 r) : ∃ M : List (List Ety), es = mR M ∧ mB M := by
  induction es with
  | nil => exact ⟨[], rfl, fun x hx => by cases hx⟩
  | cons e es ih =>
    obtain ⟨M, rfl, hx⟩ := ih (fun r hr => h r (List.mem_cons_of_mem _ hr))
    obtain ⟨l, rfl, _, hl⟩ := h e List.mem_cons_self
    obtain ⟨xs, rfl, hb⟩ := etysB_of l (fun r hr => (hl r hr).2)
    refine ⟨xs :: M, rfl, fun x hxm => ?_⟩
    rcases List.mem_cons.1 hxm with rfl | hxm
    · exact hb
    · exact hx x hxm
set_option maxRecDepth 100000 in
set_option maxHeartbeats 16000000 in
theorem l2pRawF (M : List (List Ety)) (h1 : M.length ≤ 5864062014805) (h2 : ∀ l ∈ M, l.length ≤ 2932031007402) (hb : mB M) (eb ek ev em ez eo : Int) (b v c fz fo tz to : Int) : Fun Try.prog 9 [mpV M, eA eb ek ev em ez eo, i64V b, i64V v, i64V c, plV fz fo, plV tz to] [] (ATbool true) := by
  have hl := mlightF M h1
  have hw := mawakeF
  have ha := fun h => magreeF M ⟨h1, h2, fun h8 => mlw_light h8 h2 h⟩ hb eb ek ev em ez eo b v c fz fo tz to
  by_cases h : mlw M M.length ≤ 200
  · rw [decide_eq_true h] at hl
    have ha := ha h
    refine fun_of_vc tabOk mixOk Try.func9 rfl (by rfl) (rs := [.tmp 14]) rfl rfl 35 ?_; rw [Try.ntmps9]
    (conv => whnf); repeat ((first | refine And.intro DrawOk.go ?_ | refine And.intro rfl ?_ | refine And.intro (fun _ => ?_) (fun h => Bool.noConfusion h) | refine And.intro (fun h => Bool.noConfusion h) (fun _ => ?_)); conv => whnf)
    repeat' (first | ((refine And.intro (fun h => ?_) (fun h => ?_)) <;> (try simp at h) <;> ((conv => whnf); repeat ((first | refine And.intro DrawOk.go ?_ | refine And.intro rfl ?_ | refine And.intro (fun _ => ?_) (fun h => Bool.noConfusion h) | refine And.intro (fun h => Bool.noConfusion h) (fun _ => ?_)); conv => whnf))) | (refine ⟨_, _, hl, ?_⟩; ((conv => whnf); repeat ((first | refine And.intro DrawOk.go ?_ | refine And.intro rfl ?_ | refine And.intro (fun _ => ?_) (fun h => Bool.noConfusion h) | refine And.intro (fun h => Bool.noConfusion h) (fun _ => ?_)); conv => whnf))) | (refine ⟨_, _, ha, ?_⟩; ((conv => whnf); repeat ((first | refine And.intro DrawOk.go ?_ | refine And.intro rfl ?_ | refine And.intro (fun _ => ?_) (fun h => Bool.noConfusion h) | refine And.intro (fun h => Bool.noConfusion h) (fun _ => ?_)); conv => whnf))) | (refine ⟨_, _, hw, ?_⟩; ((conv => whnf); repeat ((first | refine And.intro DrawOk.go ?_ | refine And.intro rfl ?_ | refine And.intro (fun _ => ?_) (fun h => Bool.noConfusion h) | refine And.intro (fun h => Bool.noConfusion h) (fun _ => ?_)); conv => whnf))) | fail)
    all_goals
      (refine Exists.intro [] (And.intro List.nodup_nil ?_); ((conv => whnf); repeat ((first | refine And.intro DrawOk.go ?_ | refine And.intro rfl ?_ | refine And.intro (fun _ => ?_) (fun h => Bool.noConfusion h) | refine And.intro (fun h => Bool.noConfusion h) (fun _ => ?_)); conv => whnf))
       rfl)
  · rw [decide_eq_false h] at hl
    refine fun_of_vc tabOk mixOk Try.func9 rfl (by rfl) (rs := [.tmp 14]) rfl rfl 35 ?_; rw [Try.ntmps9]
    (conv => whnf); repeat ((first | refine And.intro DrawOk.go ?_ | refine And.intro rfl ?_ | refine And.intro (fun _ => ?_) (fun h => Bool.noConfusion h) | refine And.intro (fun h => Bool.noConfusion h) (fun _ => ?_)); conv => whnf)
    repeat' (first | ((refine And.intro (fun h => ?_) (fun h => ?_)) <;> (try simp at h) <;> ((conv => whnf); repeat ((first | refine And.intro DrawOk.go ?_ | refine And.intro rfl ?_ | refine And.intro (fun _ => ?_) (fun h => Bool.noConfusion h) | refine And.intro (fun h => Bool.noConfusion h) (fun _ => ?_)); conv => whnf))) | (refine ⟨_, _, hl, ?_⟩; ((conv => whnf); repeat ((first | refine And.intro DrawOk.go ?_ | refine And.intro rfl ?_ | refine And.intro (fun _ => ?_) (fun h => Bool.noConfusion h) | refine And.intro (fun h => Bool.noConfusion h) (fun _ => ?_)); conv => whnf))) | (refine ⟨_, _, hw, ?_⟩; ((conv => whnf); repeat ((first | refine And.intro DrawOk.go ?_ | refine And.intro rfl ?_ | refine And.intro (fun _ => ?_) (fun h => Bool.noConfusion h) | refine And.intro (fun h => Bool.noConfusion h) (fun _ => ?_)); conv => whnf))) | fail)
    all_goals
      (refine Exists.intro [] (And.intro List.nodup_nil ?_); ((conv => whnf); repeat ((first | refine And.intro DrawOk.go ?_ | refine And.intro rfl ?_ | refine And.intro (fun _ => ?_) (fun h => Bool.noConfusion h) | refine And.intro (fun h => Bool.noConfusion h) (fun _ => ?_)); conv => whnf))
       rfl)
end Go.Proofs.Ytgjcljjgifnjdaa.Ab
namespace Go.Proofs.Ytgjcljjgifnjdaa
set_option linter.unusedVariables false
set_option linter.unusedSimpArgs false
open Ab
set_option maxRecDepth 100000 in
theorem l2pRaw.walk {H : Type} {enc : TypeId × Value → H} {W : World} {base : Nat} (v : Value) (d : DataW H) (p : List MemPlace) (hv : Value.okWide Try.prog W .any base 52 v)
    (h : DataW.Trod enc Try.prog W 0 (fun _ => true) true 52 v d p) (hw : ∀ n ∈ d.weights Try.prog 52, n ≤ 140737488351232)
    (v2 : Value) (d2 : DataW H) (p2 : List MemPlace) (hv2 : Value.okWide Try.prog W .any base 34 v2) (h2 : DataW.Trod enc Try.prog W 0 (fun _ => true) true 34 v2 d2 p2) (_hw2 : ∀ n ∈ d2.weights Try.prog 34, n ≤ 140737488351232)
    (a2 : Int) (_w2 : (Lit.int .i64 a2).wf = true) (a3 : Int) (_w3 : (Lit.int .i64 a3).wf = true) (a4 : Int) (_w4 : (Lit.int .i64 a4).wf = true)
    (v5 : Value) (d5 : DataW H) (p5 : List MemPlace) (hv5 : Value.okWide Try.prog W .any base 32 v5) (h5 : DataW.Trod enc Try.prog W 0 (fun _ => true) true 32 v5 d5 p5) (_hw5 : ∀ n ∈ d5.weights Try.prog 32, n ≤ 140737488351232)
    (v6 : Value) (d6 : DataW H) (p6 : List MemPlace) (hv6 : Value.okWide Try.prog W .any base 32 v6) (h6 : DataW.Trod enc Try.prog W 0 (fun _ => true) true 32 v6 d6 p6) (_hw6 : ∀ n ∈ d6.weights Try.prog 32, n ≤ 140737488351232)
    (W' : World) (hW : W' = W := by rfl) : Calls Try.prog 9 #[v, v2, .int .i64 a2, .int .i64 a3, .int .i64 a4, v5, v6] W' (True1 W') := by
  subst hW
  obtain ⟨r1, p1, p2⟩ := open_agg tabOk 8 (t := 52) (by decide +kernel) (by rfl) hv h
  obtain ⟨_, _, rfl, ⟨ls, rfl, _, hls⟩, rfl⟩ := p1
  obtain ⟨M, rfl, hb⟩ := maps_of (d := 3) ls (fun r hr => (hls r hr).2)
  obtain ⟨arr, rfl, hsz, hcells⟩ := p2 (fun _ _ => undef) (fun _ => 0)
  have hsz : arr.size = 1 := hsz
  have c0 := field_bound tabOk (t := 52) (o := 0) (g := 50) (e := 28) rfl (by decide) rfl rfl h hw (Array.getElem?_eq_getElem (by omega)) (hcells 0 _ _ (Array.getElem?_eq_getElem (by omega)) rfl).1
  rw [bytesOf_eq tabOk (fun h => TK.noConfusion h)] at c0
  have c0 : (mR M).length * 24 ≤ 140737488351232 := c0
  rw [mLen] at c0
  obtain ⟨fuel, x, ht, hx⟩ := field_trod tabOk (t := 52) (o := 0) (g := 50) (e := 28) rfl (by decide) rfl rfl h hw (Array.getElem?_eq_getElem (by omega))
  have hr := (hcells 0 _ _ (Array.getElem?_eq_getElem (by omega)) rfl).1
  have hmr : mR M = (M.map eR).map fun l => [IV.sl l] := by simp [mR, Function.comp_def]
  rw [hmr] at hr
  have c1 := rows_bound tabOk (t := 50) (e := 28) (f := 34) rfl rfl rfl ht hx hr
  have c2 : ∀ l ∈ M, l.length ≤ 2932031007402 := by
    intro l hl
    have := c1 (eR l) (List.mem_map.2 ⟨l, hl, rfl⟩)
    rw [bytesOf_eq tabOk (fun h => TK.noConfusion h)] at this
    have this : (eR l).length * 48 ≤ 140737488351232 := this
    rw [show (eR l).length = l.length by simp [eR]] at this
    omega
  obtain ⟨r2, q1, q2⟩ := open_agg tabOk 6 (t := 34) (by decide +kernel) (by rfl) hv2 h2
  obtain ⟨⟨eb, ek, ev, em, ez, eo⟩, rfl⟩ := ety_of (d := 3) q1
  obtain ⟨r5, s1, s2⟩ := open_agg tabOk 6 (t := 32) (by decide +kernel) (by rfl) hv5 h5
  obtain ⟨fz, fo, rfl⟩ := place_of (d := 4) s1
  obtain ⟨r6, s3, s4⟩ := open_agg tabOk 6 (t := 32) (by decide +kernel) (by rfl) hv6 h6
  obtain ⟨tz, to, rfl⟩ := place_of (d := 4) s3
  exact law_of_fun (l2pRawF M (by omega) c2 hb eb ek ev em ez eo a2 a3 a4 fz fo tz to) rfl (reps_get (vs := [_, _, _, _, _, _, _]) ⟨p2 _ _, q2 _ _, .sc _ rfl, .sc _ rfl, .sc _ rfl, s2 _ _, s4 _ _, trivial⟩)
end Go.Proofs.Ytgjcljjgifnjdaa
