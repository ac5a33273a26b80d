/- Checkpoints: the example; CheckpointRaw. No condition. -/
import Derived.Test.YtkpicojhnnkibaaKd
namespace Go.Proofs.Ytkpicojhnnkibaa.Ab
set_option linter.unusedVariables false
set_option linter.unusedSimpArgs false
open Go.RowKit

def b1 : Bse := ⟨1, 1, 1, []⟩
theorem b1_ok : cchk b1 = 0 := by
  refine (cchk_go (b := b1) ?_ (by decide)).trans rfl
  unfold badB
  decide
theorem b1_head : (rR (cenc b1))[((0 : Int)).toNat]? = some (rRow (headR b1)) := rfl
set_option maxRecDepth 100000 in
set_option maxHeartbeats 16000000 in
theorem ckAwake : Fun Try.prog 9 [] [] (ATbool true) := by
  have e1 := cencF 1 1 1 []
  rw [show (⟨1, 1, 1, []⟩ : Bse) = b1 from rfl, cencode_yes b1_ok] at e1
  have d1 := cdecF (cenc b1) (by decide) (fun r hr => by
    have : r = headR b1 ∨ r = footR b1 := by simpa [cenc, bodyR, b1] using hr
    rcases this with rfl | rfl
    · have := nu_le b1.n 6
      have := nu_le b1.c 6
      show (nu b1.n 6 ++ nu b1.c 6).size ≤ _
      rw [size_append]
      omega
    · show (sS (putB (crcN (bodies (bodyR b1))) 4)).size ≤ _
      rw [sS_size, putB_len]
      decide)
  rw [cdec_enc b1_ok] at d1
  have s1 := csameF 1 1 1 [] 1 1 1 [] (by decide) (by decide)
  rw [bsame_iff.2 rfl] at s1
  have c1 := cchkF 0 0 0 []
  rw [cchk_bad (by unfold badB; decide)] at c1
  have hi := b1_head
  have hl : (rR (cenc b1)).length = 2 := rfl
  have hk : (headR b1).k = 4 := rfl
  dsimp only at e1 d1
  generalize headR b1 = h0 at hi hk
  generalize cenc b1 = M at e1 d1 hi hl
  refine fun_of_vc tabOk mixOk Try.func9 rfl (by rfl) (rs := [.tmp 0]) rfl rfl 49 ?_; rw [Try.ntmps9]
  (conv => whnf); repeat ((first | refine And.intro DrawOk.go ?_ | refine And.intro rfl ?_ | refine And.intro (fun _ => ?_) (fun h => Bool.noConfusion h) | refine And.intro (fun h => Bool.noConfusion h) (fun _ => ?_)); conv => whnf)
  refine ⟨_, _, e1, ?_⟩
  (conv => whnf); repeat ((first | refine And.intro DrawOk.go ?_ | refine And.intro rfl ?_ | refine And.intro (fun _ => ?_) (fun h => Bool.noConfusion h) | refine And.intro (fun h => Bool.noConfusion h) (fun _ => ?_)); conv => whnf)
  refine ⟨_, _, d1, ?_⟩
  (conv => whnf); repeat ((first | refine And.intro DrawOk.go ?_ | refine And.intro rfl ?_ | refine And.intro (fun _ => ?_) (fun h => Bool.noConfusion h) | refine And.intro (fun h => Bool.noConfusion h) (fun _ => ?_)); conv => whnf)
  rw [hl]
  repeat' (first | ((refine And.intro (fun h => ?_) (fun h => ?_)) <;> (try simp at h) <;> ((conv => whnf); repeat ((first | refine And.intro DrawOk.go ?_ | refine And.intro rfl ?_ | refine And.intro (fun _ => ?_) (fun h => Bool.noConfusion h) | refine And.intro (fun h => Bool.noConfusion h) (fun _ => ?_)); conv => whnf))) | (refine ⟨_, _, s1, ?_⟩; ((conv => whnf); repeat ((first | refine And.intro DrawOk.go ?_ | refine And.intro rfl ?_ | refine And.intro (fun _ => ?_) (fun h => Bool.noConfusion h) | refine And.intro (fun h => Bool.noConfusion h) (fun _ => ?_)); conv => whnf))) | (refine ⟨_, _, c1, ?_⟩; ((conv => whnf); repeat ((first | refine And.intro DrawOk.go ?_ | refine And.intro rfl ?_ | refine And.intro (fun _ => ?_) (fun h => Bool.noConfusion h) | refine And.intro (fun h => Bool.noConfusion h) (fun _ => ?_)); conv => whnf))) | (refine ⟨by decide, _, hi, rfl, ?_⟩; ((conv => whnf); repeat ((first | refine And.intro DrawOk.go ?_ | refine And.intro rfl ?_ | refine And.intro (fun _ => ?_) (fun h => Bool.noConfusion h) | refine And.intro (fun h => Bool.noConfusion h) (fun _ => ?_)); conv => whnf))) | fail)
  all_goals first
    | (refine Exists.intro [] (And.intro List.nodup_nil ?_); ((conv => whnf); repeat ((first | refine And.intro DrawOk.go ?_ | refine And.intro rfl ?_ | refine And.intro (fun _ => ?_) (fun h => Bool.noConfusion h) | refine And.intro (fun h => Bool.noConfusion h) (fun _ => ?_)); conv => whnf))
       rfl)
    | (exfalso; simp [hk] at *; done)
set_option maxRecDepth 100000 in
set_option maxHeartbeats 16000000 in
theorem crawF (s n c : Int) (es : List Ety) (l : List Rec) (hes : es.length ≤ 140737488355328) (hl : l.length ≤ 2932031007317) (hp : ∀ r ∈ l, r.p.size ≤ 9223372036854775807) :
    Fun Try.prog 3 [bseA s n c es, slV (rR l)] [] (ATbool true) := by
  have aw := ckAwake
  refine fun_of_vc tabOk mixOk Try.func3 rfl (by rfl) (rs := [.tmp 4]) rfl rfl 91 ?_; rw [Try.ntmps3]
  (conv => whnf); repeat ((first | refine And.intro DrawOk.go ?_ | refine And.intro rfl ?_ | refine And.intro (fun _ => ?_) (fun h => Bool.noConfusion h) | refine And.intro (fun h => Bool.noConfusion h) (fun _ => ?_)); conv => whnf)
  refine vc_loop [1, 2, 4] [2] (X := Nat × Int) (fun x gs => [(6, ATint x.1), (5, .v (i64V x.2))]) (fun _ _ => []) (fun x => x.1 ≤ l.length) (fun x => l.length - x.1) _ (Ghost.refl _) (0, iwrap .i64 (((eR es).length : Int) + ((rR l).length : Int))) (Nat.zero_le _) ?_ ?_
  · (refine And.intro rfl (And.intro rfl ?_)); (repeat' (first | exact trivial | exact rfl | apply And.intro | (refine congrArg (Value.int .i64) (w64_nat ?_); omega)))
  rintro gs ⟨k, N⟩ hk
  dsimp only at hk ⊢
  (conv => whnf); repeat ((first | refine And.intro DrawOk.go ?_ | refine And.intro rfl ?_ | refine And.intro (fun _ => ?_) (fun h => Bool.noConfusion h) | refine And.intro (fun h => Bool.noConfusion h) (fun _ => ?_)); conv => whnf)
  refine And.intro (fun h => ?_) (fun h => ?_)
  · have hlt : k < l.length := by have := of_decide_eq_true h; rw [rLen] at this; omega
    (conv => whnf); repeat ((first | refine And.intro DrawOk.go ?_ | refine And.intro rfl ?_ | refine And.intro (fun _ => ?_) (fun h => Bool.noConfusion h) | refine And.intro (fun h => Bool.noConfusion h) (fun _ => ?_)); conv => whnf)
    refine ⟨by omega, _, rItem hlt, rfl, ?_⟩
    (conv => whnf); repeat ((first | refine And.intro DrawOk.go ?_ | refine And.intro rfl ?_ | refine And.intro (fun _ => ?_) (fun h => Bool.noConfusion h) | refine And.intro (fun h => Bool.noConfusion h) (fun _ => ?_)); conv => whnf)
    refine ⟨by decide, ?_⟩
    (conv => whnf); repeat ((first | refine And.intro DrawOk.go ?_ | refine And.intro rfl ?_ | refine And.intro (fun _ => ?_) (fun h => Bool.noConfusion h) | refine And.intro (fun h => Bool.noConfusion h) (fun _ => ?_)); conv => whnf)
    refine again (k + 1, iwrap .i64 (N + iwrap .i64 (((l[k].p.size : Nat) : Int).tdiv 50))) hlt (by dsimp only; omega) ?_
    (refine And.intro rfl (And.intro rfl ?_)); (repeat' (first | exact trivial | exact rfl | apply And.intro | (refine congrArg (Value.int .i64) (w64_nat ?_); omega)))
  · (conv => whnf); repeat ((first | refine And.intro DrawOk.go ?_ | refine And.intro rfl ?_ | refine And.intro (fun _ => ?_) (fun h => Bool.noConfusion h) | refine And.intro (fun h => Bool.noConfusion h) (fun _ => ?_)); conv => whnf)
    refine And.intro (fun h2 => ?_) (fun h2 => ?_)
    · (conv => whnf); repeat ((first | refine And.intro DrawOk.go ?_ | refine And.intro rfl ?_ | refine And.intro (fun _ => ?_) (fun h => Bool.noConfusion h) | refine And.intro (fun h => Bool.noConfusion h) (fun _ => ?_)); conv => whnf)
      refine ⟨_, _, aw, ?_⟩
      (conv => whnf); repeat ((first | refine And.intro DrawOk.go ?_ | refine And.intro rfl ?_ | refine And.intro (fun _ => ?_) (fun h => Bool.noConfusion h) | refine And.intro (fun h => Bool.noConfusion h) (fun _ => ?_)); conv => whnf)
      refine Exists.intro [] (And.intro List.nodup_nil ?_); ((conv => whnf); repeat ((first | refine And.intro DrawOk.go ?_ | refine And.intro rfl ?_ | refine And.intro (fun _ => ?_) (fun h => Bool.noConfusion h) | refine And.intro (fun h => Bool.noConfusion h) (fun _ => ?_)); conv => whnf))
      rfl
    have x1 := cencF s n c es
    have x2 := cencF' s n c es
    have x3 := cdecF l (by omega) hp
    have x4 := cdecF' l hl hp
    have x5 := cchkF s n c es
    have x6 := cchkF' s n c es
    have hE : (cencode ⟨s, n, c, es⟩).1.length ≤ 130 := by
      unfold cencode
      split
      · rename_i h
        have := (cchk_ok h).2.1
        dsimp only at this ⊢
        rw [cenc_len]
        dsimp only
        omega
      · simp
    have hD : (cdecode l).1.es.length ≤ 2932031007317 := by
      rcases cdecode_err l with h | h
      · unfold cdecode at h ⊢
        split
        · split
          · rw [cand_es]
            simp only [List.length_cons] at hl
            omega
          · simp [b0]
        · simp [b0]
      · rw [h]
        simp [b0]
    have x7 := csrF (cencode ⟨s, n, c, es⟩).1 (cencode ⟨s, n, c, es⟩).1 (by omega) (by omega)
    have x8 := csameF (cdecode l).1.s (cdecode l).1.n (cdecode l).1.c (cdecode l).1.es (cdecode l).1.s (cdecode l).1.n (cdecode l).1.c (cdecode l).1.es (by omega) (by omega)
    rw [decide_eq_true rfl] at x7
    rw [bsame_iff.2 rfl] at x8
    clear hE hD hes hl hp
    generalize cchk ⟨s, n, c, es⟩ = C at x5 x6
    generalize cencode ⟨s, n, c, es⟩ = E at x1 x2 x7
    generalize cdecode l = D at x3 x4 x8
    obtain ⟨E, e⟩ := E
    obtain ⟨⟨ds, dn, dc, des⟩, d⟩ := D
    dsimp only at x1 x2 x3 x4 x7 x8
    (conv => whnf); repeat ((first | refine And.intro DrawOk.go ?_ | refine And.intro rfl ?_ | refine And.intro (fun _ => ?_) (fun h => Bool.noConfusion h) | refine And.intro (fun h => Bool.noConfusion h) (fun _ => ?_)); conv => whnf)
    refine ⟨_, _, x1, ?_⟩
    (conv => whnf); repeat ((first | refine And.intro DrawOk.go ?_ | refine And.intro rfl ?_ | refine And.intro (fun _ => ?_) (fun h => Bool.noConfusion h) | refine And.intro (fun h => Bool.noConfusion h) (fun _ => ?_)); conv => whnf)
    refine ⟨_, _, x2, ?_⟩
    (conv => whnf); repeat ((first | refine And.intro DrawOk.go ?_ | refine And.intro rfl ?_ | refine And.intro (fun _ => ?_) (fun h => Bool.noConfusion h) | refine And.intro (fun h => Bool.noConfusion h) (fun _ => ?_)); conv => whnf)
    refine ⟨_, _, x3, ?_⟩
    (conv => whnf); repeat ((first | refine And.intro DrawOk.go ?_ | refine And.intro rfl ?_ | refine And.intro (fun _ => ?_) (fun h => Bool.noConfusion h) | refine And.intro (fun h => Bool.noConfusion h) (fun _ => ?_)); conv => whnf)
    refine ⟨_, _, x4, ?_⟩
    (conv => whnf); repeat ((first | refine And.intro DrawOk.go ?_ | refine And.intro rfl ?_ | refine And.intro (fun _ => ?_) (fun h => Bool.noConfusion h) | refine And.intro (fun h => Bool.noConfusion h) (fun _ => ?_)); conv => whnf)
    repeat' (first | ((refine And.intro (fun h => ?_) (fun h => ?_)) <;> (try simp at h) <;> ((conv => whnf); repeat ((first | refine And.intro DrawOk.go ?_ | refine And.intro rfl ?_ | refine And.intro (fun _ => ?_) (fun h => Bool.noConfusion h) | refine And.intro (fun h => Bool.noConfusion h) (fun _ => ?_)); conv => whnf))) | (refine ⟨_, _, x5, ?_⟩; ((conv => whnf); repeat ((first | refine And.intro DrawOk.go ?_ | refine And.intro rfl ?_ | refine And.intro (fun _ => ?_) (fun h => Bool.noConfusion h) | refine And.intro (fun h => Bool.noConfusion h) (fun _ => ?_)); conv => whnf))) | (refine ⟨_, _, x6, ?_⟩; ((conv => whnf); repeat ((first | refine And.intro DrawOk.go ?_ | refine And.intro rfl ?_ | refine And.intro (fun _ => ?_) (fun h => Bool.noConfusion h) | refine And.intro (fun h => Bool.noConfusion h) (fun _ => ?_)); conv => whnf))) | (refine ⟨_, _, x7, ?_⟩; ((conv => whnf); repeat ((first | refine And.intro DrawOk.go ?_ | refine And.intro rfl ?_ | refine And.intro (fun _ => ?_) (fun h => Bool.noConfusion h) | refine And.intro (fun h => Bool.noConfusion h) (fun _ => ?_)); conv => whnf))) | (refine ⟨_, _, x8, ?_⟩; ((conv => whnf); repeat ((first | refine And.intro DrawOk.go ?_ | refine And.intro rfl ?_ | refine And.intro (fun _ => ?_) (fun h => Bool.noConfusion h) | refine And.intro (fun h => Bool.noConfusion h) (fun _ => ?_)); conv => whnf))) | (refine ⟨_, _, aw, ?_⟩; ((conv => whnf); repeat ((first | refine And.intro DrawOk.go ?_ | refine And.intro rfl ?_ | refine And.intro (fun _ => ?_) (fun h => Bool.noConfusion h) | refine And.intro (fun h => Bool.noConfusion h) (fun _ => ?_)); conv => whnf))) | fail)
    all_goals first
      | (refine Exists.intro [] (And.intro List.nodup_nil ?_); ((conv => whnf); repeat ((first | refine And.intro DrawOk.go ?_ | refine And.intro rfl ?_ | refine And.intro (fun _ => ?_) (fun h => Bool.noConfusion h) | refine And.intro (fun h => Bool.noConfusion h) (fun _ => ?_)); conv => whnf))
         rfl)
      | (exfalso; simp at *; done)
theorem bse_of {d : Nat} {e : List IV} (h : ShI tab (d + 1 + 1 + 2 + 1) 24 e) : ∃ (s n c : Int) (es : List Ety), e = [.sc (.int .i64 s), .sc (.int .i64 n), .sc (.int .i64 c), .sl (eR es)] := by
  obtain ⟨_, _, rfl, ⟨s, rfl, _⟩, _, _, rfl, ⟨n, rfl, _⟩, _, _, rfl, ⟨c, rfl, _⟩, _, _, rfl, ⟨l, rfl, _, hl⟩, rfl⟩ := h
  obtain ⟨es, rfl⟩ := etys_of (d := d) l (fun r hr => (hl r hr).2)
  exact ⟨s, n, c, es, rfl⟩
end Go.Proofs.Ytkpicojhnnkibaa.Ab
namespace Go.Proofs.Ytkpicojhnnkibaa
set_option linter.unusedVariables false
set_option linter.unusedSimpArgs false
open Ab
set_option maxRecDepth 100000 in
theorem checkpointRaw.walk {H : Type} {enc : TypeId × Value → H} {W : World} {base : Nat} (v : Value) (d : DataW H) (p : List MemPlace) (hv : Value.okWide Try.prog W .any base 24 v)
    (h : DataW.Trod enc Try.prog W 0 (fun _ => true) true 24 v d p) (hw : ∀ n ∈ d.weights Try.prog 24, n ≤ 140737488351232)
    (v6 : Value) (d6 : DataW H) (p6 : List MemPlace) (hv6 : Value.okWide Try.prog W .any base 25 v6) (h6 : DataW.Trod enc Try.prog W 0 (fun _ => true) true 25 v6 d6 p6) (hw6 : ∀ n ∈ d6.weights Try.prog 25, n ≤ 140737488351232)
    (W' : World) (hW : W' = W := by rfl) : Calls Try.prog 3 #[v, v6] W' (True1 W') := by
  subst hW
  obtain ⟨r, s1, s2⟩ := open_agg tabOk 6 (t := 24) (by decide +kernel) (by rfl) hv h
  obtain ⟨s, n, c, es, rfl⟩ := bse_of (d := 1) s1
  obtain ⟨l, _, q5, q6⟩ := open_sl tabOk 5 (t := 25) (by decide +kernel) rfl hv6 h6
  obtain ⟨xs, rfl, hxs⟩ := recs_of (d := 3) l (fun r hr => (q5 r hr).2)
  have b3 := slice_bound tabOk (e := 27) rfl h6 hw6 (q6 (fun _ _ => undef) (fun _ => 0))
  rw [bytesOf_eq tabOk (fun h => TK.noConfusion h)] at b3
  have b3' : (rR xs).length * 48 ≤ 140737488351232 := b3
  obtain ⟨arr, rfl, hsz, hcells⟩ := s2 (fun _ _ => undef) (fun _ => 0)
  have hsz' : arr.size = 4 := hsz
  have c0 := field_bound tabOk (t := 24) (o := 3) (g := 22) (e := 84) rfl (by decide) rfl rfl h hw (Array.getElem?_eq_getElem (by omega)) (hcells 3 _ _ (Array.getElem?_eq_getElem (by omega)) rfl).1
  rw [bytesOf_eq tabOk (fun h => TK.noConfusion h)] at c0
  have c0' : (eR es).length * 48 ≤ 140737488351232 := c0
  rw [rLen] at b3'
  rw [eLen] at c0'
  exact law_of_fun (crawF s n c es xs (by omega) (by omega) (fun r hr => hxs r hr)) rfl (reps_get (vs := [_, _]) ⟨s2 _ _, q6 _ _, trivial⟩)
end Go.Proofs.Ytkpicojhnnkibaa
