/- Statements, loops, and the contract of a whole function. No condition. -/
import Derived.Test.YtikchieadclbhaaGreatDoorZ18
import Derived.Scope
namespace Go.Proofs.YtikchieadclbhaaGreatDoor.Ab
set_option linter.unusedVariables false
set_option linter.unusedSimpArgs false
open Go.RowKit

inductive Ex where
  | normal
  | exit (id : Nat)
  | ret

/-- A slot, or an entry, may be forgotten. -/
def weakT : List AT → List AT → Prop
  | [], [] => True
  | x :: l, y :: m => (y = .v (.c .un) ∨ x = y) ∧ weakT l m
  | _, _ => False
def weakH : List Blk → List Blk → Prop
  | [], [] => True
  | x :: l, y :: m => (y = .dead x.gen ∨ x = y) ∧ weakH l m
  | _, _ => False
def Weak (S S' : St) : Prop := weakT S.t S'.t ∧ weakH S.h S'.h

theorem weakT_get {l m : List AT} (h : weakT l m) : l.length = m.length ∧ ∀ (i : Nat) x y, l[i]? = some x → m[i]? = some y → y = .v (.c .un) ∨ x = y := by
  induction l generalizing m with
  | nil => cases m with
    | nil => exact ⟨rfl, fun i x y hx => by simp at hx⟩
    | cons y m => exact h.elim
  | cons x l ih => cases m with
    | nil => exact h.elim
    | cons y m =>
      obtain ⟨h1, h2⟩ := ih h.2
      refine ⟨by simp [h1], fun i x' y' hx hy => ?_⟩
      cases i with
      | zero => simp at hx hy; subst hx hy; exact h.1
      | succ i => exact h2 i x' y' (by simpa using hx) (by simpa using hy)
theorem weakH_get {l m : List Blk} (h : weakH l m) : l.length = m.length ∧ ∀ (i : Nat) x y, l[i]? = some x → m[i]? = some y → y = .dead x.gen ∨ x = y := by
  induction l generalizing m with
  | nil => cases m with
    | nil => exact ⟨rfl, fun i x y hx => by simp at hx⟩
    | cons y m => exact h.elim
  | cons x l ih => cases m with
    | nil => exact h.elim
    | cons y m =>
      obtain ⟨h1, h2⟩ := ih h.2
      refine ⟨by simp [h1], fun i x' y' hx hy => ?_⟩
      cases i with
      | zero => simp at hx hy; subst hx hy; exact h.1
      | succ i => exact h2 i x' y' (by simpa using hx) (by simpa using hy)

theorem weak_G {S S' : St} (h : Weak S S') : S'.G = S.G := by
  obtain ⟨h1, h2⟩ := weakH_get h.2
  funext c
  unfold St.G
  by_cases hc : c < S.h.length
  · rw [List.getElem?_eq_getElem hc, List.getElem?_eq_getElem (show c < S'.h.length by omega)]
    rcases h2 c _ _ (List.getElem?_eq_getElem hc) (List.getElem?_eq_getElem (show c < S'.h.length by omega)) with e | e
    · simp only [Option.getD_some]; rw [e]; rfl
    · simp only [Option.getD_some]; rw [e]
  · rw [List.getElem?_eq_none (by omega), List.getElem?_eq_none (by omega)]

section
variable {P : Program} {T : Nat → TI} {W0 : Ent} {w w' : World} {ok ok' : Nat → Prop} {σ σc : Nat → Nat → Value} {S : St} {a : Act} {o : Oper} {K : Kont} {Q : Exit → Act → World → Prop}

theorem Conf.weak (hC : Conf W0 ok σ S a w) {S' : St} (h : Weak S S') : Conf W0 ok σ S' a w := by
  have hG := weak_G h
  obtain ⟨t1, t2⟩ := weakT_get h.1
  obtain ⟨h1, h2⟩ := weakH_get h.2
  have old : ∀ (b : Nat) B, S'.h[b]? = some B → (∃ g, B = .dead g) ∨ S.h[b]? = some B := by
    intro b B hB
    have hb : b < S.h.length := by rw [h1]; exact (List.getElem?_eq_some_iff.1 hB).1
    rcases h2 b _ _ (List.getElem?_eq_getElem hb) hB with e | e
    · exact Or.inl ⟨_, e⟩
    · exact Or.inr (by rw [List.getElem?_eq_getElem hb, e])
  refine ⟨hC.below, hC.hole, hC.base, hC.defers, hC.okb, by rw [hC.size, t1], fun i v x hv hx => ?_, fun b B hB => ?_, fun b b' B B' hB hB' hne n hn hn' => ?_⟩
  · have hi : i < S.t.length := by rw [t1]; exact (List.getElem?_eq_some_iff.1 hx).1
    rw [hG]
    rcases t2 i _ _ (List.getElem?_eq_getElem hi) hx with e | e
    · rw [e]; exact trivial
    · exact hC.tmp i v x hv (by rw [List.getElem?_eq_getElem hi, e])
  · rw [hG]
    rcases old b B hB with ⟨g, e⟩ | e
    · rw [e]; exact trivial
    · exact hC.blk b B e
  · rcases old b B hB with ⟨g, e⟩ | e
    · rw [e] at hn; simp [Blk.at] at hn
    rcases old b' B' hB' with ⟨g, e'⟩ | e'
    · rw [e'] at hn'; simp [Blk.at] at hn'
    exact hC.apart b b' B B' e e' hne n hn hn'

/-- A change of the description alone. -/
def Ghost (S S' : St) : Prop := ∀ (W0 : Ent) (ok : Nat → Prop) (σ : Nat → Nat → Value) (a : Act) (w : World), Conf W0 ok σ S a w → ∃ ok' σ', Conf W0 ok' σ' S' a w
theorem Ghost.refl (S : St) : Ghost S S := fun _ _ _ _ _ h => ⟨_, _, h⟩
theorem Ghost.trans {S S' S2 : St} (h : Ghost S S') (k : Ghost S' S2) : Ghost S S2 := fun W0 ok σ a w hC => by
  obtain ⟨_, _, hC'⟩ := h W0 ok σ a w hC
  exact k W0 _ _ a w hC'
theorem Ghost.weak {S S' : St} (h : Weak S S') : Ghost S S' := fun _ _ _ _ _ hC => ⟨_, _, hC.weak h⟩

/-- What a state that fits S can be described as. -/
def Starts (S : St) (I : Nat → St → Prop) : Prop := ∀ (W0 : Ent) (ok : Nat → Prop) (σ : Nat → Nat → Value) (a : Act) (w : World), Conf W0 ok σ S a w → ∃ n S0, (∃ ok' σ', Conf W0 ok' σ' S0 a w) ∧ I n S0
theorem Starts.of {S S0 : St} {I : Nat → St → Prop} {n : Nat} (h : Ghost S S0) (hI : I n S0) : Starts S I := fun W0 ok σ a w hC => ⟨n, S0, h W0 ok σ a w hC, hI⟩
/-- A loop: what holds at the head of each round. -/
inductive LoopVC (W : St → (Ex → St → Prop) → Prop) (S : St) (Q : Ex → St → Prop) : Prop
  | mk (h : ∃ I : Nat → St → Prop, Starts S I ∧ ∀ n S0, I n S0 → W S0 fun e S' => match e with
    | .normal => ∃ m S1, Ghost S' S1 ∧ I m S1 ∧ m < n
    | .exit id => Q (.exit id) S'
    | .ret => Q .ret S') : LoopVC W S Q

/-- Ways that join again: what holds behind them. -/
inductive JoinVC (W : (Ex → St → Prop) → Prop) (Y : St → Prop) (Q : Ex → St → Prop) : Prop
  | mk (h : ∃ J : St → Prop, (W fun e S' => match e with
    | .normal => ∃ S1, Ghost S' S1 ∧ J S1
    | .exit id => Q (.exit id) S'
    | .ret => Q .ret S') ∧ ∀ S1, J S1 → Y S1) : JoinVC W Y Q
/-- Is the place marked? 4000000 + t: a test of slot t; 5000000 + id: a block. -/
def joinB (T : Nat → TI) : Code → Bool
  | .cond (.tmp k) _ _ => markedB T (4000000 + k)
  | .block id _ => markedB T (5000000 + id)
  | .seq _ y => joinB T y
  | _ => false

/-- Statements. -/
def vc (T : Nat → TI) (P : Program) : Code → St → (Ex → St → Prop) → Prop
  | .skip, S, Q => Q .normal S
  | .seq x y, S, Q => match joinB T x with
    | true => JoinVC (fun K => vc T P x S K) (fun S' => vc T P y S' Q) Q
    | false => vc T P x S fun e S' => match e with
      | .normal => vc T P y S' Q
      | .exit id => Q (.exit id) S'
      | .ret => Q .ret S'
  | .cond c x y, S, Q => match S.ev c with
    | .v (.c .bl) => vc T P x S Q ∧ vc T P y S Q
    | .v (.c (.i (.sc (.bool b)))) => (b = true → vc T P x S Q) ∧ (b = false → vc T P y S Q)
    | .v (.c (.lit true)) => vc T P x S Q
    | .v (.c (.lit false)) => vc T P y S Q
    | _ => False
  | .block id x, S, Q => vc T P x S fun e S' => match e with
    | .normal => Q .normal S'
    | .exit id' => match Nat.beq id' id with
      | true => Q .normal S'
      | false => Q (.exit id') S'
    | .ret => Q .ret S'
  | .loop x, S, Q => LoopVC (fun S0 K => vc T P x S0 K) S Q
  | .exit id, S, Q => Q (.exit id) S
  | .ret, S, Q => Q .ret S
  | .scope x, S, Q => vc T P x S Q
  | .label _, S, Q => Q .normal S
  | .region _ ⟨f⟩ false, S, Q => vcOps T P f 0 f S (Q .normal)
  | .region _ ⟨f⟩ true, S, Q => vcDraw T P f S (Q .normal)
  | _, _, _ => False

/-- The end of a statement, as the model has it. -/
def exQ (W0 : Ent) (Q : Ex → St → Prop) : Exit → Act → World → Prop
  | .normal, a, w => ∃ S, (∃ ok σ, Conf W0 ok σ S a w) ∧ Q .normal S
  | .exit id, a, w => ∃ S, (∃ ok σ, Conf W0 ok σ S a w) ∧ Q (.exit id) S
  | .ret, a, w => ∃ S, (∃ ok σ, Conf W0 ok σ S a w) ∧ Q .ret S
  | _, _, _ => False

theorem vc_sound (hT : TabOk P T) (hm : P.follows .mixedOrders = true) (c : Code) : ∀ {S : St} {a : Act} {w : World} {Q : Ex → St → Prop}, (∃ ok σ, Conf W0 ok σ S a w) → vc T P c S Q → c.wp P (exQ W0 Q) a w := by
  induction c with
  | skip => intro S a w Q hC h; exact wp_skip ⟨S, hC, h⟩
  | seq x y ihx ihy =>
    intro S a w Q hC h
    unfold vc at h
    split at h
    · obtain ⟨J, hx, hy⟩ := h
      refine wp_seq (wp_mono (ihx hC hx) fun e a' w' he => ?_)
      cases e with
      | normal =>
        obtain ⟨S', ⟨ok, σ, hC'⟩, S1, hG, hJ⟩ := he
        exact ihy (hG _ _ _ _ _ hC') (hy S1 hJ)
      | exit id => exact he
      | ret => exact he
      | goto l => exact he
      | panic c => exact he
      | outgrown => exact he
    · refine wp_seq (wp_mono (ihx hC h) fun e a' w' he => ?_)
      cases e with
      | normal => obtain ⟨S', hC', h'⟩ := he; exact ihy hC' h'
      | exit id => exact he
      | ret => exact he
      | goto l => exact he
      | panic c => exact he
      | outgrown => exact he
  | cond c x y ihx ihy =>
    intro S a w Q hC h
    obtain ⟨ok, σ, hC0⟩ := hC
    have hc := ev_rep hC0 c
    unfold vc at h
    split at h
    · rename_i hev
      rw [hev] at hc
      obtain ⟨b, hc'⟩ := hc
      exact wp_cond_split hc' (fun _ => ihx ⟨ok, σ, hC0⟩ h.1) (fun _ => ihy ⟨ok, σ, hC0⟩ h.2)
    · rename_i b hev
      rw [hev] at hc
      have hc' : a.eval c = .bool b := RepI_sc hc
      exact wp_cond_split hc' (fun e => ihx ⟨ok, σ, hC0⟩ (h.1 e)) (fun e => ihy ⟨ok, σ, hC0⟩ (h.2 e))
    · rename_i hev
      rw [hev] at hc
      exact wp_cond_true hc (ihx ⟨ok, σ, hC0⟩ h)
    · rename_i hev
      rw [hev] at hc
      exact wp_cond_false hc (ihy ⟨ok, σ, hC0⟩ h)
    · exact h.elim
  | block id x ih =>
    intro S a w Q hC h
    refine wp_block (wp_mono (ih hC h) fun e a' w' he => ?_)
    cases e with
    | normal => exact he
    | exit id' =>
      obtain ⟨S', hC', h'⟩ := he
      by_cases hid : id' = id
      · subst hid
        have hb : Nat.beq id' id' = true := Nat.beq_refl id'
        simp only [hb] at h'
        simp only [Exit.inBlock, if_true]
        exact ⟨S', hC', h'⟩
      · have hb : Nat.beq id' id = false := by
          cases hh : Nat.beq id' id with
          | true => exact absurd (Nat.eq_of_beq_eq_true hh) hid
          | false => rfl
        simp only [hb] at h'
        simp only [Exit.inBlock, if_neg hid]
        exact ⟨S', hC', h'⟩
    | ret => exact he
    | goto l => exact he
    | panic c => exact he
    | outgrown => exact he
  | label l =>
    intro S a w Q hC h
    exact wp_label ⟨S, hC, h⟩
  | scope x ih =>
    intro S a w Q hC h
    refine wp_scope_straight (wp_mono (ih hC h) fun e a' w' he => ?_)
    cases e with
    | goto l => exact he.elim
    | normal => exact he
    | exit id => exact he
    | ret => exact he
    | panic c => exact he
    | outgrown => exact he
  | loop x ih =>
    intro S a w Q hC h
    obtain ⟨I, hst, hstep⟩ := h
    obtain ⟨ok, σ, hC0⟩ := hC
    obtain ⟨n0, S0, hw0, hI0⟩ := hst _ _ _ _ _ hC0
    intro b k cs
    have key : ∀ n S a w, I n S → (∃ ok σ, Conf W0 ok σ S a w) → ∃ e a' w', exQ W0 Q e a' w' ∧ Arrives P (lone (b.at a (.code x :: .inLoop x :: k)) cs w) b k cs e a' w' := by
      intro n
      induction n using Nat.strongRecOn with
      | _ n ihn =>
        intro S a w hI hC
        obtain ⟨e, a1, w1, hq, harr⟩ := ih hC (hstep n S hI) b (.inLoop x :: k) cs
        cases e with
        | normal =>
          obtain ⟨S', ⟨ok', σ', hC'⟩, m, S1, hw1, hI1, hlt⟩ := hq
          obtain ⟨e2, a2, w2, hq2, harr2⟩ := ihn m hlt S1 a1 w1 hI1 (hw1 _ _ _ _ _ hC')
          exact ⟨e2, a2, w2, hq2, .of_steps (Steps.trans harr (.one step_inLoop)) harr2⟩
        | exit id =>
          obtain ⟨S', hC', h'⟩ := hq
          exact ⟨.exit id, a1, w1, ⟨S', hC', h'⟩, .pass (x := .inLoop x) rfl (fun _ _ => .inl (by simp)) harr⟩
        | ret =>
          obtain ⟨S', hC', h'⟩ := hq
          exact ⟨.ret, a1, w1, ⟨S', hC', h'⟩, .pass (x := .inLoop x) rfl (fun _ _ => .inl (by simp)) harr⟩
        | goto l => exact hq.elim
        | panic c => exact hq.elim
        | outgrown => exact hq.elim
    obtain ⟨e, a', w', hq, harr⟩ := key n0 S0 a w hI0 hw0
    exact ⟨e, a', w', hq, .of_steps (.one step_loop) harr⟩
  | exit id => intro S a w Q hC h; exact wp_exit ⟨S, hC, h⟩
  | ret => intro S a w Q hC h; exact wp_ret ⟨S, hC, h⟩
  | region id ops draw =>
    intro S a w Q hC h
    obtain ⟨f⟩ := ops
    obtain ⟨ok, σ, hC0⟩ := hC
    cases draw with
    | false => exact wp_region_lit (vcOps_sound hT f hC0 h fun S' a' w' hC' hQ => ⟨S', hC', hQ⟩)
    | true => exact draw_sound hT hm hC0 h fun S' a' w' hC' hQ => ⟨S', hC', hQ⟩
  | _ => intro S a w Q hC h; exact h.elim
end
end Go.Proofs.YtikchieadclbhaaGreatDoor.Ab
