/- A region whose order is drawn: what it leaves is what it leaves in the text's order, if what is not ordered does not meet. No condition. -/
import Derived.Test.YtikchieadclbhaaGreatDoorZ17
namespace Go.Proofs.YtikchieadclbhaaGreatDoor.Ab
set_option linter.unusedVariables false
set_option linter.unusedSimpArgs false
open Go.RowKit

section
variable {P : Program} {T : Nat → TI} {W0 : Ent} {w : World} {ok : Nat → Prop} {σ : Nat → Nat → Value} {S S1 S2 S' : St} {a : Act} {Q : Exit → Act → World → Prop} {f : List Oper}

def glue (g : Bool) (r r' : AT) : Prop := (g = false ∧ r' = r) ∨ (g = true ∧ ((∃ b, r = .v (.c (.i (.sc (.bool b)))) ∧ r' = .v (.c (.lit b))) ∨ ∃ b, r = .v (.c (.lit b)) ∧ r' = r))
/-- What one operation does at a state. -/
def Ef (T : Nat → TI) (P : Program) (f : List Oper) (k : Nat) (o : Oper) (S : St) (r : AT) (u : List (Nat × Blk)) (d : List Nat) : Prop :=
  (wantK f o S = some true ∧ ∃ r0, eff T P S.h.length o.dst S.ev S.blk (fun r' u' d' => r' = r0 ∧ u' = u ∧ d' = d) o.op ∧ glue (isG f k) r0 r) ∨ (wantK f o S = some false ∧ r = .tup [] ∧ u = [] ∧ d = [])

theorem ef_of_step {k : Nat} {o : Oper} {K : St → List Nat → List Nat → Prop} (h : stepK T P f k o S K) : ∃ r u d, Ef T P f k o S r u d ∧ K (S.put o.dst r u) d (u.map (·.1)) := by
  unfold stepK at h
  split at h
  · rename_i hw
    obtain ⟨r0, u, d, h1, h2⟩ := rp_eff h
    have hx := h2 S.ev S.blk (fun r' u' d' => r' = r0 ∧ u' = u ∧ d' = d) (fun _ _ => rfl) (fun _ _ => rfl) ⟨rfl, rfl, rfl⟩
    have : ∃ r, glue (isG f k) r0 r ∧ K (S.put o.dst r u) d (u.map (·.1)) := by
      unfold gsplit at h1
      split at h1
      · rename_i hg
        rw [putK_eq] at h1
        exact ⟨r0, Or.inl ⟨hg, rfl⟩, h1⟩
      · rename_i hg
        split at h1
        · rename_i b
          cases b with
          | true => have := h1.1 rfl; simp only [putK_eq] at this; exact ⟨_, Or.inr ⟨hg, Or.inl ⟨true, rfl, rfl⟩⟩, this⟩
          | false => have := h1.2 rfl; simp only [putK_eq] at this; exact ⟨_, Or.inr ⟨hg, Or.inl ⟨false, rfl, rfl⟩⟩, this⟩
        · rename_i b
          rw [putK_eq] at h1
          exact ⟨_, Or.inr ⟨hg, Or.inr ⟨b, rfl, rfl⟩⟩, h1⟩
        · exact h1.elim
    obtain ⟨r, hr, hk⟩ := this
    exact ⟨r, u, d, Or.inl ⟨hw, r0, hx, hr⟩, hk⟩
  · rename_i hw
    rw [putK_eq] at h
    exact ⟨_, [], [], Or.inr ⟨hw, rfl, rfl, rfl⟩, h⟩
  · exact h.elim

theorem step_of_ef {k : Nat} {o : Oper} {r : AT} {u : List (Nat × Blk)} {d : List Nat} (h : Ef T P f k o S r u d) : stepK T P f k o S fun S' _ _ => S' = S.put o.dst r u := by
  unfold stepK
  rcases h with ⟨hw, r0, hx, hg⟩ | ⟨hw, rfl, rfl, rfl⟩
  · rw [hw]
    dsimp only
    obtain ⟨r1, u1, d1, ⟨rfl, rfl, rfl⟩, h2⟩ := rp_eff hx
    refine h2 S.ev S.blk _ (fun _ _ => rfl) (fun _ _ => rfl) ?_
    unfold gsplit
    rcases hg with ⟨hg, rfl⟩ | ⟨hg, ⟨b, rfl, rfl⟩ | ⟨b, rfl, rfl⟩⟩
    · rw [hg]; dsimp only; rw [putK_eq]
    · rw [hg]
      exact ⟨fun e => by subst e; simp only [putK_eq], fun e => by subst e; simp only [putK_eq]⟩
    · rw [hg]; dsimp only; rw [putK_eq]
  · rw [hw]
    dsimp only
    rw [putK_eq]

theorem ef_local {k : Nat} {o : Oper} {r : AT} {u : List (Nat × Blk)} {d : List Nat} (h : Ef T P f k o S r u d) (hw : wantK f o S2 = wantK f o S) (he : ∀ x ∈ o.op.operands.toList, S2.ev x = S.ev x) (hb : ∀ b ∈ d, S2.blk b = S.blk b)
    (hl : S2.h.length = S.h.length) : Ef T P f k o S2 r u d := by
  rcases h with ⟨h0, r0, hx, hg⟩ | ⟨h0, h1⟩
  · refine Or.inl ⟨hw.trans h0, r0, ?_, hg⟩
    obtain ⟨r1, u1, d1, ⟨rfl, rfl, rfl⟩, h2⟩ := rp_eff hx
    rw [hl]
    exact h2 S2.ev S2.blk _ he hb ⟨rfl, rfl, rfl⟩
  · exact Or.inr ⟨hw.trans h0, h1⟩

theorem foldl_set_len (u : List (Nat × Blk)) : ∀ (h : List Blk), (u.foldl (fun h p => h.set p.1 p.2) h).length = h.length := by
  induction u with
  | nil => intro h; rfl
  | cons p u ih => intro h; simp [ih]
theorem foldl_set_one (u : List (Nat × Blk)) : ∀ (h : List Blk) (b : Nat) (B : Blk), b ∉ u.map (·.1) → u.foldl (fun h p => h.set p.1 p.2) (h.set b B) = (u.foldl (fun h p => h.set p.1 p.2) h).set b B := by
  induction u with
  | nil => intro h b B _; rfl
  | cons p u ih =>
    intro h b B hb
    simp only [List.map_cons, List.mem_cons, not_or] at hb
    simp only [List.foldl_cons]
    rw [List.set_comm _ _ hb.1, ih _ b B hb.2]
theorem foldl_set_comm (u v : List (Nat × Blk)) : ∀ (h : List Blk), (∀ b ∈ u.map (·.1), b ∉ v.map (·.1)) → v.foldl (fun h p => h.set p.1 p.2) (u.foldl (fun h p => h.set p.1 p.2) h) = u.foldl (fun h p => h.set p.1 p.2) (v.foldl (fun h p => h.set p.1 p.2) h) := by
  induction u with
  | nil => intro h _; rfl
  | cons p u ih =>
    intro h hd
    simp only [List.foldl_cons]
    rw [ih _ (fun b hb => hd b (by simp only [List.map_cons]; exact List.mem_cons_of_mem _ hb))]
    rw [foldl_set_one v h p.1 p.2 (hd p.1 (by simp))]

theorem put_blk {dst : Option Tmp} {r : AT} {u : List (Nat × Blk)} {b : Nat} (hb : b ∉ u.map (·.1)) : (S.put dst r u).blk b = S.blk b := by
  unfold St.blk
  rw [nthO_eq, nthO_eq]
  show (((u.foldl (fun h p => h.set p.1 p.2) S.h)[b]?).getD _) = _
  rw [foldl_set_get u S.h b hb]
theorem put_ev {dst : Option Tmp} {r : AT} {u : List (Nat × Blk)} {x : Operand} (hx : ∀ t, dst = some t → x ≠ .tmp t) : (S.put dst r u).ev x = S.ev x := by
  cases dst with
  | none => cases x <;> rfl
  | some t =>
    cases x with
    | tmp t' =>
      have hne : t ≠ t' := fun e => hx t rfl (by rw [e])
      simp only [St.ev, St.put, nthO_eq]
      rw [List.getElem?_set_ne hne]
    | _ => rfl
theorem put_want {dst : Option Tmp} {r : AT} {u : List (Nat × Blk)} {o : Oper} (h : ∀ t, dst = some t → t ∉ o.looksAt f.toArray) : wantK f o (S.put dst r u) = wantK f o S := by
  unfold wantK
  cases hg : o.guard with
  | none => rfl
  | some jw =>
    obtain ⟨j, want⟩ := jw
    dsimp only
    cases ht : (nthO f j).bind (·.dst) with
    | none => rfl
    | some t =>
      dsimp only
      have hin : t ∈ o.looksAt f.toArray := by
        have e : ((f.toArray[j]?).bind (·.dst)) = some t := by rw [List.getElem?_toArray, ← nthO_eq]; exact ht
        unfold Oper.looksAt
        rw [hg]
        refine List.mem_append_right _ ?_
        simp only [Option.bind_some, e]
        exact List.mem_singleton.2 rfl
      have e : nthO (S.put dst r u).t t = nthO S.t t := by
        cases dst with
        | none => rfl
        | some t' =>
          have hne : t' ≠ t := fun e => h t' rfl (e ▸ hin)
          simp only [St.put, nthO_eq]
          rw [List.getElem?_set_ne hne]
      rw [e]

/-- Two operations that do not meet can change places. -/
theorem ef_swap {k k' : Nat} {o o' : Oper} {r r' : AT} {u u' : List (Nat × Blk)} {d d' : List Nat} (h : Ef T P f k o S r u d) (h' : Ef T P f k' o' (S.put o.dst r u) r' u' d') (hap : o.apart f.toArray o' = true)
    (h1 : ∀ b ∈ u.map (·.1), b ∉ d') (h2 : ∀ b ∈ u'.map (·.1), b ∉ d) (h3 : ∀ b ∈ u.map (·.1), b ∉ u'.map (·.1)) :
    Ef T P f k' o' S r' u' d' ∧ Ef T P f k o (S.put o'.dst r' u') r u d ∧ (S.put o.dst r u).put o'.dst r' u' = (S.put o'.dst r' u').put o.dst r u := by
  obtain ⟨a1, a2, a3⟩ := Oper.apart_spec hap
  have hops : ∀ {o : Oper} {t : Tmp} {x : Operand}, t ∉ o.looksAt f.toArray → x ∈ o.op.operands.toList → x ≠ .tmp t := by
    intro o t x hn hx e
    subst e
    exact hn (List.mem_append_left _ (List.mem_filterMap.2 ⟨.tmp t, hx, rfl⟩))
  refine ⟨?_, ?_, ?_⟩
  · refine ef_local h' ?_ (fun x hx => ?_) (fun b hb => ?_) ?_
    · exact (put_want (fun t ht => a1 t ht)).symm
    · exact (put_ev (fun t ht => hops (a1 t ht) hx)).symm
    · exact (put_blk (fun hm => h1 b hm hb)).symm
    · simp [St.put, foldl_set_len]
  · refine ef_local h ?_ (fun x hx => ?_) (fun b hb => ?_) ?_
    · exact put_want (fun t ht => a3 t ht)
    · exact put_ev (fun t ht => hops (a3 t ht) hx)
    · exact put_blk (fun hm => h2 b hm hb)
    · simp [St.put, foldl_set_len]
  · simp only [St.put]
    congr 1
    · cases hd : o.dst with
      | none => cases o'.dst <;> rfl
      | some t =>
        cases hd' : o'.dst with
        | none => rfl
        | some t' =>
          have hne : t ≠ t' := fun e => a2 t hd (by rw [hd', e])
          exact List.set_comm _ _ hne
    · exact foldl_set_comm u u' S.h h3

/-- What the operations of a list of places do, one after the other. -/
def Chain (T : Nat → TI) (P : Program) (f : List Oper) (fp : Nat → List Nat × List Nat) : List Nat → St → St → Prop
  | [], S, S' => S = S'
  | k :: ks, S, S' => ∃ o r u d, f[k]? = some o ∧ Ef T P f k o S r u d ∧ fp k = (d, u.map (·.1)) ∧ Chain T P f fp ks (S.put o.dst r u) S'

def disj (l m : List Nat) : Bool := l.all fun x => !m.contains x
theorem disj_spec {l m : List Nat} (h : disj l m = true) : ∀ b ∈ l, b ∉ m := by
  intro b hb hm
  have := List.all_eq_true.1 h b hb
  simp [hm] at this
/-- Do two operations not meet? -/
def indep (f : List Oper) (fp : Nat → List Nat × List Nat) (k i : Nat) : Bool :=
  match nthO f k, nthO f i with
  | some o, some o' => o.apart f.toArray o' && disj (fp k).2 (fp i).1 && disj (fp i).2 (fp k).1 && disj (fp k).2 (fp i).2
  | _, _ => false

theorem chain_front {fp : Nat → List Nat × List Nat} {i : Nat} {post : List Nat} (pre : List Nat) : ∀ {S : St}, Chain T P f fp (pre ++ i :: post) S S' → (∀ k ∈ pre, indep f fp k i = true) → Chain T P f fp (i :: (pre ++ post)) S S' := by
  induction pre with
  | nil => intro S h _; exact h
  | cons k pre ih =>
    intro S h hi
    obtain ⟨o, r, u, d, ho, he, hf, h⟩ := h
    obtain ⟨o', r', u', d', ho', he', hf', h⟩ := ih h (fun k hk => hi k (List.mem_cons_of_mem _ hk))
    have hk := hi k List.mem_cons_self
    unfold indep at hk
    rw [nthO_eq, nthO_eq, ho, ho', hf, hf'] at hk
    simp only [Bool.and_eq_true] at hk
    obtain ⟨⟨⟨k1, k2⟩, k3⟩, k4⟩ := hk
    obtain ⟨s1, s2, s3⟩ := ef_swap he he' k1 (disj_spec k2) (disj_spec k3) (disj_spec k4)
    rw [s3] at h
    exact ⟨o', r', u', d', ho', s1, hf', o, r, u, d, ho, s2, hf, h⟩

/-! ### The closed check of a region -/
def edgesLow (f : List Oper) : Bool := (List.range f.length).all fun j => match nthO f j with
  | some o => o.after.toList.all fun e => !Region.binds .any e || Nat.blt e.on j
  | none => true
/-- What stands before each operation. -/
def mkAnc (f : List Oper) : List (List Nat) := f.foldl (fun acc o => acc ++ [((o.after.toList.filter (Region.binds .any ·)).flatMap fun e => e.on :: (nthO acc e.on).getD []).eraseDups]) []
def okAnc (f : List Oper) (A : List (List Nat)) : Bool := (List.range f.length).all fun i => match nthO f i with
  | some o => ((nthO A i).getD []).all fun k => o.after.toList.any fun e => Region.binds .any e && (Nat.beq k e.on || ((nthO A e.on).getD []).contains k)
  | none => true
def fpOf (fps : List (List Nat × List Nat)) (k : Nat) : List Nat × List Nat := (nthO fps k).getD ([], [])
def pairsOk (f : List Oper) (A : List (List Nat)) (fps : List (List Nat × List Nat)) : Bool := (List.range f.length).all fun i => (List.range i).all fun k => ((nthO A i).getD []).contains k || indep f (fpOf fps) k i
def drawOk (f : List Oper) (fps : List (List Nat × List Nat)) : Bool := edgesLow f && okAnc f (mkAnc f) && pairsOk f (mkAnc f) fps
structure DrawOk (f : List Oper) (fps : List (List Nat × List Nat)) : Prop where
  ok : drawOk f fps = true
theorem DrawOk.go {f : List Oper} {fps : List (List Nat × List Nat)} (h : drawOk f fps = true := by first | (simp only [List.map_cons, List.map_nil, List.nil_append, List.cons_append, List.append_nil, updsL, List.length_cons, List.length_nil]; decide +kernel) | exact rfl) : DrawOk f fps := ⟨h⟩

/-- What is listed and what is still to do. -/
structure Left (f : List Oper) (listed : Array Bool) (todo : List Nat) : Prop where
  size : listed.size = f.length
  lt : ∀ j ∈ todo, j < f.length
  iff : ∀ j, j < f.length → (listed.getD j true = false ↔ j ∈ todo)
  sorted : todo.Pairwise (· < ·)
  down : ∀ (j : Nat) o, f[j]? = some o → j ∉ todo → ∀ e ∈ o.after, Region.binds .any e = true → e.on ∉ todo

theorem low_spec (h : edgesLow f = true) {j : Nat} {o : Oper} (ho : f[j]? = some o) {e : Edge} (he : e ∈ o.after) (hb : Region.binds .any e = true) : e.on < j := by
  have hj : j < f.length := (List.getElem?_eq_some_iff.1 ho).1
  have h1 := List.all_eq_true.1 h j (List.mem_range.2 hj)
  rw [nthO_eq, ho] at h1
  have h2 := List.all_eq_true.1 h1 e (by simpa using he)
  simp only [hb, Bool.not_true, Bool.false_or, Nat.blt_eq] at h2
  exact h2

theorem anc_spec {A : List (List Nat)} (hl : edgesLow f = true) (h : okAnc f A = true) {listed : Array Bool} {todo : List Nat} (hL : Left f listed todo) : ∀ (i : Nat) o, f[i]? = some o → (∀ e ∈ o.after, Region.binds .any e = true → e.on ∉ todo) → ∀ k ∈ (nthO A i).getD [], k ∉ todo := by
  intro i
  induction i using Nat.strongRecOn with
  | _ i ih =>
    intro o ho hpre k hk
    have hi : i < f.length := (List.getElem?_eq_some_iff.1 ho).1
    have h1 := List.all_eq_true.1 h i (List.mem_range.2 hi)
    rw [nthO_eq, ho] at h1
    have h2 := List.all_eq_true.1 h1 k hk
    obtain ⟨e, he, h3⟩ := List.any_eq_true.1 h2
    simp only [Bool.and_eq_true, Bool.or_eq_true] at h3
    obtain ⟨hb, h3⟩ := h3
    have he' : e ∈ o.after := by simpa using he
    rcases h3 with h3 | h3
    · rw [Nat.eq_of_beq_eq_true h3]
      exact hpre e he' hb
    · have hlow := low_spec hl ho he' hb
      have hon : e.on < f.length := by omega
      refine ih e.on hlow _ (List.getElem?_eq_getElem hon) (hL.down e.on _ (List.getElem?_eq_getElem hon) (hpre e he' hb)) k ?_
      simpa using h3

theorem listed_of {listed : Array Bool} {todo : List Nat} (hL : Left f listed todo) {j : Nat} (hj : j < f.length) (hn : j ∉ todo) : listed.getD j false = true := by
  have h1 := hL.iff j hj
  have hs : j < listed.size := by rw [hL.size]; exact hj
  cases hb : listed[j] with
  | true => simp [hs, hb]
  | false => exact absurd (h1.1 (by simp [hs, hb])) hn
theorem not_of_listed {listed : Array Bool} {todo : List Nat} (hL : Left f listed todo) {j : Nat} (hj : listed.getD j false = true) : j ∉ todo := by
  intro hm
  have hlt := hL.lt j hm
  have hs : j < listed.size := by rw [hL.size]; exact hlt
  have h1 := (hL.iff j hlt).2 hm
  simp [hs] at h1 hj
  rw [h1] at hj
  cases hj

theorem draw_any (hT : TabOk P T) {fps : List (List Nat × List Nat)} (hlow : edgesLow f = true) (hanc : okAnc f (mkAnc f) = true) (hpairs : pairsOk f (mkAnc f) fps = true) {K : St → Prop}
    (hQ : ∀ S' a' w', (∃ ok σ, Conf W0 ok σ S' a' w') → K S' → Q .normal a' w') (hK : K S') : ∀ (n : Nat) (listed : Array Bool) (todo : List Nat) (S : St) (a : Act) (w : World), todo.length = n → Left f listed todo →
    (∃ ok σ, Conf W0 ok σ S a w) → Chain T P f (fpOf fps) todo S S' → wpAny P .any f.toArray Q n listed a w := by
  intro n
  induction n with
  | zero =>
    intro listed todo S a w hn hL hC hCh
    obtain rfl : todo = [] := List.eq_nil_of_length_eq_zero hn
    have hready : Region.ready .any f.toArray listed = [] := by
      rw [List.eq_nil_iff_forall_not_mem]
      intro j hj
      obtain ⟨h0, o, ho, _⟩ := mem_ready.1 hj
      have hlt : j < f.length := by rw [List.getElem?_toArray] at ho; exact (List.getElem?_eq_some_iff.1 ho).1
      have := (hL.iff j hlt).1 h0
      cases this
    exact ⟨hready, hQ S' a w (by rw [show S' = S from hCh.symm]; exact hC) hK⟩
  | succ n ih =>
    intro listed todo S a w hn hL hC hCh
    cases todo with
    | nil => cases hn
    | cons t0 rest =>
      refine ⟨fun hr => ?_, fun i hi => ?_⟩
      · exfalso
        have ht0 := hL.lt t0 List.mem_cons_self
        have hmem : t0 ∈ Region.ready .any f.toArray listed := by
          refine mem_ready.2 ⟨(hL.iff t0 ht0).2 List.mem_cons_self, f[t0], by rw [List.getElem?_toArray]; exact List.getElem?_eq_getElem ht0, fun e he hb => ?_⟩
          have hl := low_spec hlow (List.getElem?_eq_getElem ht0) he hb
          refine listed_of hL (by omega) (fun hm => ?_)
          rcases List.mem_cons.1 hm with e1 | hm
          · omega
          · have := (List.pairwise_cons.1 hL.sorted).1 _ hm
            omega
        rw [hr] at hmem
        cases hmem
      · obtain ⟨h0, o, ho, hall⟩ := mem_ready.1 hi
        have ho' : f[i]? = some o := by rwa [List.getElem?_toArray] at ho
        have hlt : i < f.length := (List.getElem?_eq_some_iff.1 ho').1
        have him : i ∈ t0 :: rest := (hL.iff i hlt).1 h0
        have hpre : ∀ e ∈ o.after, Region.binds .any e = true → e.on ∉ t0 :: rest := fun e he hb => not_of_listed hL (hall e he hb)
        obtain ⟨pre, post, hsplit⟩ := List.append_of_mem him
        rw [hsplit] at hCh hL hn
        have hindep : ∀ k ∈ pre, indep f (fpOf fps) k i = true := by
          intro k hk
          have hki : k < i := by
            have := hL.sorted
            rw [List.pairwise_append] at this
            exact this.2.2 k hk i List.mem_cons_self
          have h1 := List.all_eq_true.1 hpairs i (List.mem_range.2 hlt)
          have h2 := List.all_eq_true.1 h1 k (List.mem_range.2 hki)
          simp only [Bool.or_eq_true] at h2
          rcases h2 with h2 | h2
          · exfalso
            have := anc_spec hlow hanc hL i o ho' (by rw [← hsplit]; exact hpre) k (by simpa using h2)
            exact this (List.mem_append_left _ hk)
          · exact h2
        obtain ⟨o1, r, u, d, ho1, he, _, hCh'⟩ := chain_front pre hCh hindep
        obtain rfl : o = o1 := by rw [ho'] at ho1; injection ho1
        obtain ⟨ok, σ, hC0⟩ := hC
        have hL' : Left f (listed.setIfInBounds i true) (pre ++ post) := by
          have hnd : i ∉ pre ++ post := by
            have := hL.sorted
            rw [List.pairwise_append, List.pairwise_cons] at this
            intro hm
            rcases List.mem_append.1 hm with hm | hm
            · have := this.2.2 i hm i List.mem_cons_self; omega
            · have := this.2.1.1 i hm; omega
          have hsub : ∀ {j}, j ∈ pre ++ post → j ∈ pre ++ i :: post := by
            intro j hj
            rcases List.mem_append.1 hj with hj | hj
            · exact List.mem_append_left _ hj
            · exact List.mem_append_right _ (List.mem_cons_of_mem _ hj)
          have hsub' : ∀ {j}, j ∈ pre ++ i :: post → j ≠ i → j ∈ pre ++ post := by
            intro j hj hne
            rcases List.mem_append.1 hj with hj | hj
            · exact List.mem_append_left _ hj
            · rcases List.mem_cons.1 hj with hj | hj
              · exact absurd hj hne
              · exact List.mem_append_right _ hj
          refine ⟨by simpa using hL.size, fun j hj => hL.lt j (hsub hj), fun j hj => ?_, ?_, fun j o2 ho2 hj e he hb hm => ?_⟩
          · by_cases hji : j = i
            · subst hji
              have hs : j < listed.size := by rw [hL.size]; exact hj
              constructor
              · intro h; simp [hs] at h
              · intro h; exact absurd h hnd
            · rw [getD_set_ne true (fun e => hji e.symm)]
              exact ⟨fun h => hsub' ((hL.iff j hj).1 h) hji, fun h => (hL.iff j hj).2 (hsub h)⟩
          · have := hL.sorted
            rw [List.pairwise_append, List.pairwise_cons] at this
            rw [List.pairwise_append]
            exact ⟨this.1, this.2.1.2, fun a ha b hb => this.2.2 a ha b (List.mem_cons_of_mem _ hb)⟩
          · by_cases hji : j = i
            · subst hji
              rw [ho'] at ho2
              injection ho2 with ho2
              subst ho2
              exact hpre e he hb (by rw [hsplit]; exact hsub hm)
            · exact hL.down j o2 ho2 (fun h => hj (hsub' h hji)) e he hb (hsub hm)
        have hlen : (pre ++ post).length = n := by simp at hn ⊢; omega
        unfold wpOp
        rw [ho]
        have hst := step_wp (Q := Q) hT hC0 (step_of_ef he) (R := wpAny P .any f.toArray Q n (listed.setIfInBounds i true)) (fun S2 _ _ a' w' hC' hS => ih _ _ _ a' w' hlen hL' (by rw [← hS]; exact hC') hCh')
        dsimp only
        split
        · rename_i hw; rw [if_pos hw] at hst; exact Or.inl hst
        · rename_i hw; rw [if_neg hw] at hst; exact hst

/-- The operations of a drawn region, in the text's order; what each one looks at and turns is kept. -/
def vcOpsF (T : Nat → TI) (P : Program) (f : List Oper) (k : Nat) (l : List Oper) (S : St) (acc : List (List Nat × List Nat)) (K : St → List (List Nat × List Nat) → Prop) : Prop :=
  List.rec (motive := fun _ => Nat → St → List (List Nat × List Nat) → (St → List (List Nat × List Nat) → Prop) → Prop) (fun _ S acc K => K S acc) (fun o _ ih k S acc K => stepK T P f k o S fun S' d u => ih (k + 1) S' (acc ++ [(d, u)]) K) l k S acc K
def vcDraw (T : Nat → TI) (P : Program) (f : List Oper) (S : St) (K : St → Prop) : Prop := vcOpsF T P f 0 f S [] fun S' fps => DrawOk f fps ∧ K S'

theorem chain_congr {fp fp' : Nat → List Nat × List Nat} (l : List Nat) (h : ∀ k ∈ l, fp k = fp' k) : ∀ {S : St}, Chain T P f fp l S S' → Chain T P f fp' l S S' := by
  induction l with
  | nil => intro S h; exact h
  | cons k l ih =>
    intro S hc
    obtain ⟨o, r, u, d, ho, he, hf, hc⟩ := hc
    exact ⟨o, r, u, d, ho, he, by rw [← h k List.mem_cons_self]; exact hf, ih (fun k hk => h k (List.mem_cons_of_mem _ hk)) hc⟩

theorem chain_of_ops (l : List Oper) : ∀ {k : Nat} {S : St} {acc : List (List Nat × List Nat)} {K : St → List (List Nat × List Nat) → Prop}, (∀ j, l[j]? = f[k + j]?) → acc.length = k → vcOpsF T P f k l S acc K →
    ∃ fps S', K S' (acc ++ fps) ∧ Chain T P f (fpOf (acc ++ fps)) (List.range' k l.length) S S' := by
  induction l with
  | nil => intro k S acc K _ _ h; exact ⟨[], S, by rw [List.append_nil]; exact h, rfl⟩
  | cons o l ih =>
    intro k S acc K hl ha h
    replace h : stepK T P f k o S fun S' d u => vcOpsF T P f (k + 1) l S' (acc ++ [(d, u)]) K := h
    obtain ⟨r, u, d, he, h⟩ := ef_of_step h
    obtain ⟨fps, S', hK, hc⟩ := ih (k := k + 1) (fun j => by have := hl (j + 1); rw [show k + 1 + j = k + (j + 1) by omega]; simpa using this) (by simp [ha]) h
    refine ⟨(d, u.map (·.1)) :: fps, S', by rw [show acc ++ (d, u.map (·.1)) :: fps = acc ++ [(d, u.map (·.1))] ++ fps by simp]; exact hK, ?_⟩
    rw [List.length_cons, List.range'_succ]
    refine ⟨o, r, u, d, by have := hl 0; simpa using this.symm, he, ?_, ?_⟩
    · unfold fpOf
      rw [nthO_eq, List.getElem?_append_right (by omega), ha, Nat.sub_self]
      rfl
    · rw [show acc ++ (d, u.map (·.1)) :: fps = acc ++ [(d, u.map (·.1))] ++ fps by simp]
      exact hc

theorem Conf.drew (hC : Conf W0 ok σ S a w) : Conf W0 ok σ S a { w with drawn := w.drawn + 1 } := by
  have := hC.stay (w' := { w with drawn := w.drawn + 1 }) (dst := none) (r := .v (.c .un)) (v := undef) ⟨rfl, rfl, rfl, Nat.le_refl _, fun _ _ _ => rfl⟩ (fun _ h => h) hC.okb (fun _ h => Or.inl h) trivial
  exact this

theorem draw_sound (hT : TabOk P T) (hm : P.follows .mixedOrders = true) {K : St → Prop} {id : Nat} (hC : Conf W0 ok σ S a w) (h : vcDraw T P f S K)
    (hQ : ∀ S' a' w', (∃ ok σ, Conf W0 ok σ S' a' w') → K S' → Q .normal a' w') : (Code.region id f.toArray true).wp P Q a w := by
  obtain ⟨fps, S', ⟨hd, hK⟩, hc⟩ := chain_of_ops f (k := 0) (fun j => by rw [Nat.zero_add]) rfl h
  rw [List.nil_append] at hd hc
  replace hd := hd.ok
  unfold drawOk at hd
  simp only [Bool.and_eq_true] at hd
  obtain ⟨⟨d1, d2⟩, d3⟩ := hd
  refine wp_region_any hm ?_
  have hL : Left f (Array.replicate f.length false) (List.range' 0 f.length) := by
    refine ⟨by simp, fun j hj => by simpa [List.mem_range'_1] using hj, fun j hj => ?_, List.pairwise_lt_range', fun j o ho hj => ?_⟩
    · simp [hj, List.mem_range'_1]
    · exact absurd (by simp [List.mem_range'_1]; exact (List.getElem?_eq_some_iff.1 ho).1) hj
  have := draw_any (S' := S') hT d1 d2 d3 hQ hK f.length _ _ S a { w with drawn := w.drawn + 1 } (by simp) hL ⟨ok, σ, hC.drew⟩ hc
  simpa using this
end
/-! What is plainly so is passed by. -/
theorem zD {f : List Oper} {fps : List (List Nat × List Nat)} {q : Prop} (h : q) (hd : drawOk f fps = true := by first | (simp only [List.map_cons, List.map_nil, List.nil_append, List.cons_append, List.append_nil, updsL, List.length_cons, List.length_nil]; decide +kernel) | exact rfl) : DrawOk f fps ∧ q := ⟨⟨hd⟩, h⟩
theorem zA {α : Type} {a : α} {q : Prop} (h : q) : a = a ∧ q := ⟨rfl, h⟩
theorem zT {p q : Prop} (h : p) : (true = true → p) ∧ (true = false → q) := ⟨fun _ => h, fun h => Bool.noConfusion h⟩
theorem zF {p q : Prop} (h : q) : (false = true → p) ∧ (false = false → q) := ⟨fun h => Bool.noConfusion h, fun _ => h⟩
end Go.Proofs.YtikchieadclbhaaGreatDoor.Ab
