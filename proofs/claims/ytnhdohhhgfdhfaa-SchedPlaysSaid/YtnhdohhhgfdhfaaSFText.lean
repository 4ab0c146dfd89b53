/- No channels here: what the engine asks of them. No texts here: what the engine asks of them. -/
import Derived.Test.YtnhdohhhgfdhfaaSFList
import Derived.Conc.LoneSelect
import Derived.Laws.RangeAny
import Derived.Laws.RangeString
import Derived.Laws.IdiomStrings
namespace Go.SF
set_option linter.unusedVariables false
set_option linter.unusedSimpArgs false
open Go.Conc

/-- The channels that there are. -/
def chanAt : Nat → List AObj → Option (Nat × List CK × Nat × SL)
  | _, [] => none
  | i, .abs (.chans ks cap) A :: _ => some (i, ks, cap, A)
  | i, _ :: r => chanAt (i + 1) r
def makeChanOp (P : Program) (s : St) (pc : List SB) (t : TypeId) (n : AV) : Outs := none
def chanLen (P : Program) (s : St) (pc : List SB) (o : Op) : Outs := none
def commOp (P : Program) (s : St) (pc : List SB) (o : Op) : Outs := none
/-! ### the rest of a region, from the machine's side -/
def wpI (P : Program) (ops : Array Oper) (Q : Exit → Act → World → Prop) (l : List Nat) (a : Act) (w : World) : Prop :=
  ∀ (b : Frame) (k : List Item) (cs : List Frame), ∃ e a' w', Q e a' w' ∧ Arrives P (lone (b.at a (.inRegion ops l :: k)) cs w) b k cs e a' w'

section
variable {P : Program} {ops : Array Oper} {Q : Exit → Act → World → Prop} {a : Act} {w : World} {i : Nat} {rest : List Nat} {o : Oper}
theorem wpI_nil (h : Q .normal a w) : wpI P ops Q [] a w := fun b k cs => ⟨.normal, a, w, h, .one step_region_end⟩
theorem wpI_skip (ho : ops[i]? = some o) (hw : Region.wanted o (yielded ops a.tmps) = false) (h : wpI P ops Q rest (a.put o.dst undef) w) : wpI P ops Q (i :: rest) a w := by
  intro b k cs
  obtain ⟨e, a', w', hq, harr⟩ := h b k cs
  have hs := step_op_skip (P := P) (b := b) (a := a) (k := k) (cs := cs) (w := w) (ops := ops) (i := i) (rest := rest) (by simp [ho, hw])
  simp only [ho, Option.bind_some] at hs
  exact ⟨e, a', w', hq, .of_steps (.one hs) harr⟩
/-- One step of the machine. -/
theorem wpI_step {x : Value} {w1 : World} (h1 : ∀ (b : Frame) (k : List Item) (cs : List Frame), step P (lone (b.at a (.inRegion ops (i :: rest) :: k)) cs w) = .next (lone (b.at (a.put o.dst x) (.inRegion ops rest :: k)) cs w1))
    (h : wpI P ops Q rest (a.put o.dst x) w1) : wpI P ops Q (i :: rest) a w := by
  intro b k cs
  obtain ⟨e, a', w', hq, harr⟩ := h b k cs
  exact ⟨e, a', w', hq, .of_steps (.one (h1 b k cs)) harr⟩
theorem wpI_op (ho : ops[i]? = some o) (hw : Region.wanted o (yielded ops a.tmps) = true) (h : o.wp P a w (wpI P ops Q rest) (fun _ _ _ => False)) : wpI P ops Q (i :: rest) a w := by
  intro b k cs
  have hg := stepG_op (P := P) (b := b) (k := k) (cs := cs) (w := w) (rest := rest) ho hw
  have hfin : ∀ (a1 : Act) (v : Value), (b.at a1 (.inRegion ops (i :: rest) :: k)).finish v = b.at (a1.put o.dst v) (.inRegion ops rest :: k) := by
    intro a1 v
    have := Frame.finish_at b a1 ops i rest k v
    rw [ho] at this
    exact this
  unfold Oper.wp at h
  cases hr : (execOp a.eval o).run P w with
  | halt x w' =>
    rw [hr] at h
    cases x <;> exact h.elim
  | ok n w' =>
    rw [hr] at h
    cases n with
    | value v =>
      obtain ⟨e, a', w'', hq, harr⟩ := h b k cs
      exact ⟨e, a', w'', hq, .of_steps (.one (step_lone_go (by rw [hg, ← hfin a v]; simp [stepG.apply, hr]))) harr⟩
    | skip =>
      obtain ⟨e, a', w'', hq, harr⟩ := h b k cs
      exact ⟨e, a', w'', hq, .of_steps (.one (step_lone_go (by rw [hg, ← hfin a undef]; simp [stepG.apply, hr]))) harr⟩
    | defer d =>
      obtain ⟨e, a', w'', hq, harr⟩ := h b k cs
      refine ⟨e, a', w'', hq, .of_steps (.one (step_lone_go ?_)) harr⟩
      have := hfin { a with defers := d :: a.defers } undef
      rw [hg]
      simp only [stepG.apply, Sem.runT_eq, hr, GStep.bare_after]
      exact congrArg (fun fr => GStep.go { frame := fr, callers := cs, status := .running, dying := none } w') this
    | enter f args =>
      obtain ⟨e, w2, fr, hR, hsteps, _, hleave⟩ := h (b.at a (.inRegion ops (i :: rest) :: k) :: cs)
      cases e with
      | returned v =>
        obtain ⟨e, a', w3, hq, harr⟩ := hR b k cs
        have s1 : step P (lone (b.at a (.inRegion ops (i :: rest) :: k)) cs w) = .next (lone (Frame.enter P f args .normal) (b.at a (.inRegion ops (i :: rest) :: k) :: cs) w') :=
          step_lone_go (by rw [hg]; simp [stepG.apply, hr, Frame.at])
        have s2 := step_leave_returned (c := b.at a (.inRegion ops (i :: rest) :: k)) (cs := cs) hleave
        rw [hfin a v] at s2
        exact ⟨e, a', w3, hq, .of_steps (.head s1 (hsteps.trans (.one s2))) harr⟩
      | panicked chain => exact hR.elim
      | outgrown => obtain ⟨_, _, hf⟩ := hR; exact hf.elim
    | row row args =>
      obtain ⟨v, w2, hR, hsteps⟩ := h (b.at a (.inRegion ops (i :: rest) :: k)) cs
      obtain ⟨e, a', w3, hq, harr⟩ := hR b k cs
      have s1 : step P (lone (b.at a (.inRegion ops (i :: rest) :: k)) cs w) = .next (lone (Frame.ofRow P row args .normal) (b.at a (.inRegion ops (i :: rest) :: k) :: cs) w') :=
        step_lone_go (by rw [hg]; simp [stepG.apply, hr, Frame.at])
      rw [hfin a v] at hsteps
      exact ⟨e, a', w3, hq, .of_steps (.head s1 hsteps) harr⟩
    | _ => exact h.elim
theorem wp_region_I {id : Nat} (h : wpI P ops Q (List.range ops.size) a w) : (Code.region id ops false).wp P Q a w :=
  fun b k cs => let ⟨e, a', w', q, r⟩ := h b k cs; ⟨e, a', w', q, .of_steps (.one step_region) r⟩
end
section
variable {Φ : Sig} {ρ : Env} {μ : List Loc} {P : Program} {B : Base} {w : World} {s : St} {a : Act} {pc : List SB}
theorem chanLen_ok (hT : TRel Φ ρ μ s.n s.t a) (hM : MRel Φ ρ μ B s.m w) (hp : holds Φ ρ pc) (o : Oper) {outs : List (List SB × Option (AV × Mem))} (h : chanLen P s pc o.op = some outs) :
    (∃ pc', (pc', none) ∈ outs ∧ holds Φ ρ pc') ∨ ∃ pc' v u, (pc', some (v, s.m)) ∈ outs ∧ holds Φ ρ pc' ∧ (execOp a.eval o).run P w = .ok (.value u) w ∧ den Φ ρ μ v = some u := by
  unfold chanLen at h
  cases h
theorem makeChan_ok (hM : MRel Φ ρ μ B s.m w) (hp : holds Φ ρ pc) {t : TypeId} {x : AV} {vx : Value} {outs : List (List SB × Option (AV × Mem))} (h : makeChanOp P s pc t x = some outs) (hx : den Φ ρ μ x = some vx) :
    ∃ pc' v m' ρ' ν w' u, (pc', some (v, m')) ∈ outs ∧ (s.m.nx ≤ m'.nx ∧ AgrB s.m.nx ρ ρ' ∧ (m'.nx = s.m.nx → ρ' = ρ)) ∧ holds Φ ρ' pc' ∧ (Instr.makeChan t vx).run P w = .ok u w' ∧ den Φ ρ' (μ ++ ν) v = some u ∧ MRel Φ ρ' (μ ++ ν) B m' w' := by
  unfold makeChanOp at h
  cases h
def CommGood (Φ : Sig) (ρ : Env) (μ : List Loc) (P : Program) (B : Base) (s : St) (w : World) (a : Act) (o : Oper) (outs : List (List SB × Option (AV × Mem))) : Prop :=
  (∃ pc', (pc', none) ∈ outs ∧ holds Φ ρ pc') ∨ ∃ pc' v m' w' x, (pc', some (v, m')) ∈ outs ∧ holds Φ ρ pc' ∧ den Φ ρ μ v = some x ∧ m'.nx = s.m.nx ∧ MRel Φ ρ μ B m' w' ∧
    ∀ (ops : Array Oper) (i : Nat) (rest : List Nat), ops[i]? = some o → Region.wanted o (yielded ops a.tmps) = true → ∀ (b : Frame) (k : List Item) (cs : List Frame),
      step P (lone (b.at a (.inRegion ops (i :: rest) :: k)) cs w) = .next (lone (b.at (a.put o.dst x) (.inRegion ops rest :: k)) cs w')
theorem comm_ok (hT : TRel Φ ρ μ s.n s.t a) (hM : MRel Φ ρ μ B s.m w) (hp : holds Φ ρ pc) (o : Oper) {outs : List (List SB × Option (AV × Mem))} (h : commOp P s pc o.op = some outs) : CommGood Φ ρ μ P B s w a o outs := by
  unfold commOp at h
  cases h
end
end Go.SF
namespace Go.SF
set_option linter.unusedVariables false
set_option linter.unusedSimpArgs false

def textOp (P : Program) (s : St) (pc : List SB) (o : Op) : Outs := none
def nextS (s : St) (pc : List SB) (x : AV) : Outs := none
section
variable {Φ : Sig} {ρ : Env} {μ : List Loc} {P : Program} {B : Base} {w : World} {s : St} {a : Act} {pc : List SB}
def TextGood (Φ : Sig) (ρ : Env) (μ : List Loc) (P : Program) (B : Base) (s : St) (w : World) (a : Act) (o : Oper) (outs : List (List SB × Option (AV × Mem))) : Prop :=
  (∃ pc', (pc', none) ∈ outs ∧ holds Φ ρ pc') ∨ ∃ pc' v m' ν w' x n, (pc', some (v, m')) ∈ outs ∧ holds Φ ρ pc' ∧ (execOp a.eval o).run P w = .ok n w' ∧ (n = .value x ∨ (n = .skip ∧ x = undef)) ∧ den Φ ρ (μ ++ ν) v = some x ∧ MRel Φ ρ (μ ++ ν) B m' w'
theorem text_ok (hT : TRel Φ ρ μ s.n s.t a) (hM : MRel Φ ρ μ B s.m w) (hp : holds Φ ρ pc) (o : Oper) {outs : List (List SB × Option (AV × Mem))} (h : textOp P s pc o.op = some outs) : TextGood Φ ρ μ P B s w a o outs := by
  unfold textOp at h
  cases h
theorem nextS_ok (hM : MRel Φ ρ μ B s.m w) (hp : holds Φ ρ pc) {x : AV} {outs : List (List SB × Option (AV × Mem))} {vx : Value} (ty : TypeId) (h : nextS s pc x = some outs) (hx : den Φ ρ μ x = some vx) :
    ∃ pc' v m' ρ' w' u, (pc', some (v, m')) ∈ outs ∧ (s.m.nx ≤ m'.nx ∧ AgrB s.m.nx ρ ρ' ∧ (m'.nx = s.m.nx → ρ' = ρ)) ∧ holds Φ ρ' pc' ∧ (Instr.next vx true ty).run P w = .ok u w' ∧ den Φ ρ' μ v = some u ∧ MRel Φ ρ' μ B m' w' := by
  unfold nextS at h
  cases h
end
end Go.SF
