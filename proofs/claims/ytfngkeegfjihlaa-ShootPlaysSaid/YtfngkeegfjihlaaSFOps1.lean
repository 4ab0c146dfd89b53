/- Each operation that only computes does what the machine of unknowns says. -/
import Derived.Test.YtfngkeegfjihlaaSFRel
import Derived.Test.YtfngkeegfjihlaaSFEval
namespace Go.SF
set_option linter.unusedVariables false
set_option linter.unusedSimpArgs false

theorem int_beq (a b : Int) : (a == b) = decide (a = b) := by rw [Bool.eq_iff_iff]; simp

section
variable {Φ : Sig} {ρ : Env} {μ : List Loc} {P : Program} {B : Base} {w : World} {s : St} {a : Act} {pc : List SB}

theorem absC_ok {v : Value} {c : CV} (h : absC v = some c) : denC Φ ρ μ c = some v := by
  unfold absC at h
  split at h
  all_goals first
    | (simp at h; subst h; simp [denC, denPts]; done)
    | (simp at h; subst h; simp [denC, qVal, strB_enc]; done)
    | skip
  · split at h
    · rename_i f x y hh
      simp only [Bool.and_eq_true, Array.isEmpty_iff] at hh
      obtain ⟨rfl, rfl, hb⟩ := hh
      simp at h; subst h
      simp at hb
      simp [denC, denPts, fnVal, hb]
    · cases h
  · cases h

theorem absL_ok : ∀ {vs : List Value} {cs : List CV}, absL vs = some cs → denL Φ ρ μ cs = some vs
  | [], cs, h => by simp [absL] at h; subst h; rfl
  | v :: vs, cs, h => by
    simp only [absL] at h
    cases h1 : absC v with
    | none => rw [h1] at h; cases h
    | some c =>
      cases h2 : absL vs with
      | none => rw [h1, h2] at h; cases h
      | some ds => rw [h1, h2] at h; simp at h; subst h; simp [denL, absC_ok h1, absL_ok h2]

theorem absV_ok {v : Value} {x : AV} (h : absV v = some x) : den Φ ρ μ x = some v := by
  unfold absV at h
  split at h
  · simp only [Option.map_eq_some_iff] at h
    obtain ⟨cs, hc, rfl⟩ := h
    simp [den, absL_ok hc]
  · simp only [Option.map_eq_some_iff] at h
    obtain ⟨c, hc, rfl⟩ := h
    simp [den, absC_ok hc]

theorem absV_noTup {v : Value} {x : AV} (h : absV v = some x) : ∀ vs, x ≠ .tup vs := by
  unfold absV at h
  split at h
  all_goals
    simp only [Option.map_eq_some_iff] at h
    obtain ⟨_, _, rfl⟩ := h
    intro vs e; cases e

theorem opnd_ok (hT : TRel Φ ρ μ s.n s.t a) {x : Operand} {v : AV} (h : opnd s x = some v) : den Φ ρ μ v = some (a.eval x) := by
  cases x with
  | tmp t => exact (hT.tm t v h).2
  | const c => exact absV_ok h
  | func f =>
    simp only [opnd] at h
    split at h
    · cases h
    · rename_i hb
      simp only [Option.some.injEq] at h; subst h
      simp only [den, denC, denPts, Option.map_some, fnVal]
      rw [if_neg hb]; rfl
  | global g => simp [opnd] at h

/-- Does it make or write memory? -/
def mutOp : Op → Bool
  | .alloc _ | .box .. | .store .. | .buildSlice .. | .makeSlice .. | .makeMap .. | .mapUpdate .. | .range .. => true
  | .call { callee := .builtin .append, .. } => true
  | .call { callee := .builtin .delete, .. } => true
  | .call { callee := .builtin .copy, .. } => true
  | _ => false

/-- What is asked of an operation's ways. -/
def StepGood (Φ : Sig) (ρ : Env) (μ : List Loc) (P : Program) (B : Base) (w : World) (a : Act) (o : Oper) (outs : List (List SB × Option (AV × Mem))) : Prop :=
  (∃ pc', (pc', none) ∈ outs ∧ holds Φ ρ pc') ∨
  ∃ pc' v m' ν w' x n, (pc', some (v, m')) ∈ outs ∧ holds Φ ρ pc' ∧ (execOp a.eval o).run P w = .ok n w' ∧ (n = .value x ∨ n = .skip ∧ x = undef) ∧
    den Φ ρ (μ ++ ν) v = some x ∧ MRel Φ ρ (μ ++ ν) B m' w' ∧ (mutOp o.op = false → w' = w ∧ ν = [])

theorem good_one (hM : MRel Φ ρ μ B s.m w) (hp : holds Φ ρ pc) {o : Oper} {v : AV} {x : Value} (hr : (execOp a.eval o).run P w = .ok (.value x) w) (hv : den Φ ρ μ v = some x) :
    StepGood Φ ρ μ P B w a o [(pc, some (v, s.m))] :=
  .inr ⟨pc, v, s.m, [], w, x, _, by simp, hp, hr, .inl rfl, by simpa using hv, by simpa using hM, fun _ => ⟨rfl, rfl⟩⟩

theorem one_inv {pc : List SB} {s : St} {v : Option AV} {outs : List (List SB × Option (AV × Mem))} (h : one pc s v = some outs) : ∃ x, v = some x ∧ outs = [(pc, some (x, s.m))] := by
  unfold one at h
  simp only [Option.map_eq_some_iff] at h
  obtain ⟨x, hx, rfl⟩ := h
  exact ⟨x, hx, rfl⟩

theorem binI_ok (hp : holds Φ ρ pc) {op : BinOp} {k : IntKind} {x y : SI} {c : CV} (h : binI pc op k x y = some c) (t : TypeId) :
    ∃ v, denC Φ ρ μ c = some v ∧ (binOp op t (.int k (x.ev Φ ρ)) (.int k (y.ev Φ ρ))).run P w = .ok v w := by
  cases op <;> simp only [binI] at h
  case quo =>
    split at h
    · rename_i m
      split at h
      · cases h
      · rename_i hm; simp at h; subst h
        exact ⟨_, rfl, by simp [binOp, Op.intDiv, hm, ev_mkWrap Φ ρ hp]⟩
    · split at h
      · rename_i hk
        have hm := known_ok Φ ρ hp _ _ hk
        simp at hm h; subst h
        exact ⟨_, rfl, by simp [binOp, Op.intDiv, hm, ev_mkWrap Φ ρ hp]⟩
      · cases h
  case rem =>
    split at h
    · rename_i m
      split at h
      · cases h
      · rename_i hm; simp at h; subst h
        exact ⟨_, rfl, by simp [binOp, Op.intDiv, hm]⟩
    · split at h
      · rename_i hk
        have hm := known_ok Φ ρ hp _ _ hk
        simp at hm h; subst h
        exact ⟨_, rfl, by simp [binOp, Op.intDiv, hm]⟩
      · cases h
  case shl => cases h
  case shr => cases h
  all_goals simp at h; try subst h
  case add => exact ⟨_, rfl, by simp [binOp, Op.intArith, ev_mkWrap Φ ρ hp]⟩
  case sub => exact ⟨_, rfl, by simp [binOp, Op.intArith, ev_mkWrap Φ ρ hp]⟩
  case mul => exact ⟨_, rfl, by simp [binOp, Op.intArith, ev_mkWrap Φ ρ hp]⟩
  case and => exact ⟨_, rfl, by simp [binOp, Op.intBits, Go.bits]⟩
  case or => exact ⟨_, rfl, by simp [binOp, Op.intBits, Go.bits]⟩
  case xor => exact ⟨_, rfl, by simp [binOp, Op.intBits, Go.bits]⟩
  case andNot => exact ⟨_, rfl, by simp [binOp, Op.intBits, Go.bits]⟩
  case eql => exact ⟨_, rfl, by simp only [binOp, Op.intCmp]; simp [int_beq]⟩
  case neq => exact ⟨_, rfl, by simp only [binOp, Op.intCmp]; simp [bne, int_beq]⟩
  case lss => exact ⟨_, rfl, by simp [binOp, Op.intCmp]⟩
  case leq => exact ⟨_, rfl, by simp [binOp, Op.intCmp]⟩
  case gtr => exact ⟨_, rfl, by simp [binOp, Op.intCmp]⟩
  case geq => exact ⟨_, rfl, by simp [binOp, Op.intCmp]⟩
end
end Go.SF
