/- Slots, guards, results: what the machine of unknowns says of them is so. The machine of unknowns is right: one induction over how deep it goes. The machine of unknowns is right: regions in whatever order, calls, code; and the induction. -/
import Derived.Test.YtnhdohhhgfdhfaaSFCode
import Derived.Test.YtnhdohhhgfdhfaaSFAny
import Derived.Test.YtnhdohhhgfdhfaaSFAgr
import Derived.Tactics
namespace Go.SF
set_option linter.unusedVariables false
set_option linter.unusedSimpArgs false

section
variable {Φ : Sig} {ρ : Env} {μ ν : List Loc} {P : Program} {B : Base} {w : World} {s : St} {a : Act} {pc : List SB}

theorem put_ok {d : Option Nat} {v : AV} {m : Mem} {s' : St} {x : Value} (h : put s d v m = some s') (hT : TRel Φ ρ μ s.n s.t a) (hv : den Φ ρ (μ ++ ν) v = some x) :
    TRel Φ ρ (μ ++ ν) s'.n s'.t (a.put d x) ∧ s'.m = m := by
  unfold put at h
  cases d with
  | none =>
    simp at h; subst h
    exact ⟨hT.mono, rfl⟩
  | some d =>
    simp only at h
    split at h
    · rename_i hd
      have hd : d < s.n := by simpa [Nat.blt_eq] using hd
      simp at h; subst h
      refine ⟨⟨by simp [Act.put, hT.sz], fun u y hy => ?_, hT.df⟩, rfl⟩
      simp only [get] at hy
      split at hy
      · rename_i e
        have e := Nat.eq_of_beq_eq_true e
        subst e
        simp at hy; subst hy
        refine ⟨by simp [Act.put, hT.sz, hd], ?_⟩
        rw [hv]
        simp [Act.put, hT.sz, hd]
      · rename_i e
        obtain ⟨h1, h2⟩ := hT.tm u y hy
        refine ⟨by simpa [Act.put] using h1, ?_⟩
        rw [den_mono h2]
        have hne : ¬ d = u := fun e' => e (by rw [e']; exact Nat.beq_refl u)
        simp [Act.put, Array.getElem?_setIfInBounds, hne]
    · cases h

theorem wanted_ok {all : Array Oper} {o : Oper} {ws : List (Bool × List SB)} (h : wantedOp all o s pc = some ws) (hT : TRel Φ ρ μ s.n s.t a) (hp : holds Φ ρ pc) :
    ∃ b pc', (b, pc') ∈ ws ∧ holds Φ ρ pc' ∧ Region.wanted o (yielded all a.tmps) = b := by
  unfold wantedOp at h
  split at h
  · rename_i hg
    simp at h; subst h
    exact ⟨true, pc, by simp, hp, by simp [Region.wanted, hg]⟩
  · rename_i j want hg
    split at h
    · cases h
    · rename_i d hd
      have look : ∀ v x, get d s.t = some v → den Φ ρ μ v = some x → yielded all a.tmps j = match x with | .bool b => some b | _ => none := by
        intro v x hv hx
        obtain ⟨h1, h2⟩ := hT.tm d v hv
        rw [hx] at h2
        simp at h2
        unfold yielded
        rw [hd]
        have : a.tmps[d]? = some x := by
          rw [Array.getElem?_eq_getElem h1]
          rw [h2]
          simp [h1]
        simp only [Option.bind_some, this]
        cases x <;> rfl
      have non : ∀ v x, get d s.t = some v → den Φ ρ μ v = some x → (∀ b, x ≠ .bool b) → Region.wanted o (yielded all a.tmps) = false := by
        intro v x hv hx hb
        have := look v x hv hx
        simp only [Region.wanted, hg, this]
        cases x <;> first | rfl | (exact absurd rfl (hb _))
      split at h
      · rename_i x hv
        simp at h; subst h
        obtain ⟨b, pc', hmem, hev, hp'⟩ := ways_ok Φ ρ x hp
        refine ⟨b == want, pc', List.mem_map.2 ⟨(b, pc'), hmem, rfl⟩, hp', ?_⟩
        have := look _ (.bool b) hv (by simp [den, denC, hev])
        simp [Region.wanted, hg, this]
      · rename_i k y hv
        simp at h; subst h
        exact ⟨false, pc, by simp, hp, non _ _ hv (by simp only [den, denC]; rfl) (fun b e => by cases e)⟩
      · rename_i y hv
        simp at h; subst h
        refine ⟨false, pc, by simp, hp, ?_⟩
        have hx := (hT.tm d _ hv).2
        refine non _ _ hv hx fun b e => ?_
        rw [e] at hx
        cases y with
        | none => simp [den, denC] at hx
        | some p => obtain ⟨_, _, he⟩ := den_ptr hx; cases he
      · rename_i vs hv
        simp at h; subst h
        refine ⟨false, pc, by simp, hp, ?_⟩
        have hx := (hT.tm d _ hv).2
        refine non _ _ hv hx fun b e => ?_
        rw [e] at hx
        simp only [den, Option.map_eq_some_iff] at hx
        obtain ⟨_, _, he⟩ := hx; cases he
      · cases h

theorem args_ok (hT : TRel Φ ρ μ s.n s.t a) : ∀ {xs : List Operand} {vs : List AV}, argsOf s xs = some vs → vs.length = xs.length ∧ ∀ (i : Nat) (v : AV) (x : Operand), vs[i]? = some v → xs[i]? = some x → den Φ ρ μ v = some (a.eval x)
  | [], vs, h => by simp [argsOf] at h; subst h; simp
  | x :: xs, vs, h => by
    simp only [argsOf] at h
    split at h
    · rename_i u us hu hus
      simp at h; subst h
      obtain ⟨hl, hr⟩ := args_ok hT hus
      refine ⟨by simp [hl], fun i v y hv hy => ?_⟩
      cases i with
      | zero => simp at hv hy; subst hv; subst hy; exact opnd_ok hT hu
      | succ i => exact hr i v y (by simpa using hv) (by simpa using hy)
    · cases h

/-- Values that stand for a list of values. -/
def DenAll (Φ : Sig) (ρ : Env) (μ : List Loc) (vs : List AV) (xs : List Value) : Prop :=
  vs.length = xs.length ∧ ∀ (i : Nat) (v : AV) (x : Value), vs[i]? = some v → xs[i]? = some x → den Φ ρ μ v = some x

theorem get_number : ∀ (vs : List AV) (k u : Nat) (v : AV), get u (number k vs) = some v → ∃ i, u = k + i ∧ vs[i]? = some v
  | [], k, u, v, h => by simp [number, get] at h
  | x :: vs, k, u, v, h => by
    simp only [number, get] at h
    split at h
    · rename_i e; have e := Nat.eq_of_beq_eq_true e; simp at h; subst h; exact ⟨0, by omega, rfl⟩
    · obtain ⟨i, hi, hv⟩ := get_number vs (k + 1) u v h
      exact ⟨i + 1, by omega, by simpa using hv⟩

/-- The frame that a call enters. -/
theorem enter_ok {vs : List AV} {xs : List Value} (h : DenAll Φ ρ μ vs xs) (nt : Nat) :
    TRel Φ ρ μ (vs.length + (nt - vs.length)) (number 0 vs) { tmps := xs.toArray ++ Array.replicate (nt - xs.toArray.size) undef, defers := [] } := by
  refine ⟨by simp [h.1], fun u v hv => ?_, rfl⟩
  obtain ⟨i, rfl, hi⟩ := get_number vs 0 u v hv
  have hil : i < vs.length := (List.getElem?_eq_some_iff.1 hi).1
  have hix : i < xs.length := by rw [← h.1]; exact hil
  have hx : xs[i]? = some xs[i] := List.getElem?_eq_getElem hix
  refine ⟨by simp; omega, ?_⟩
  rw [h.2 i v _ hi hx]
  simp [Array.getElem?_append, hix]

theorem run_asAddr_ptr (x : Addr) : (asAddr (.pointer (some x))).run P w = .ok x w := rfl

theorem res_ok (hT : TRel Φ ρ μ s.n s.t a) (hM : MRel Φ ρ μ B s.m w) (hp : holds Φ ρ pc) : ∀ {rs : List ResultVar} {vs : List AV}, resOf P s pc rs = some vs →
    ∃ xs, DenAll Φ ρ μ vs xs ∧ (rs.mapM (fun | .tmp t => pure (a.tmps.getD t undef) | .cell b t => do loadVar t (← asAddr (a.tmps.getD b undef)) : ResultVar → Sem Value)).run P w = .ok xs w
  | [], vs, h => by simp [resOf] at h; subst h; exact ⟨[], ⟨rfl, by simp⟩, rfl⟩
  | .tmp t :: rs, vs, h => by
    simp only [resOf] at h
    split at h
    · rename_i v us hv hus
      simp at h; subst h
      obtain ⟨xs, hd, hr⟩ := res_ok hT hM hp hus
      refine ⟨a.tmps.getD t undef :: xs, ⟨by simp [hd.1], fun i u x hu hx => ?_⟩, ?_⟩
      · cases i with
        | zero => simp at hu hx; subst hu; rw [← hx]; simpa using (hT.tm t v hv).2
        | succ i => exact hd.2 i u x (by simpa using hu) (by simpa using hx)
      · simp only [List.mapM_cons, Sem.run_bind, Sem.run_pure, Result.andThen_ok, hr]
    · cases h
  | .cell b t :: rs, vs, h => by
    simp only [resOf] at h
    split at h
    · rename_i av hav
      split at h
      · rename_i v us hv hus
        simp at h; subst h
        obtain ⟨xs, hd, hr⟩ := res_ok hT hM hp hus
        obtain ⟨v, fs⟩ := v
        obtain ⟨_, u, hu, hru⟩ := load_ok hM hp hv (hT.tm b av hav).2
        have hptr : ∃ x, a.tmps.getD b undef = .pointer (some x) := by
          have hx := (hT.tm b av hav).2
          unfold loadOp at hv
          split at hv
          · obtain ⟨x, _, he⟩ := den_ptr hx; exact ⟨x, he⟩
          · cases hv
        obtain ⟨x, hx⟩ := hptr
        rw [hx] at hru
        simp only [Instr.loadAt, Instr.sureAddr, Sem.run_bind, Sem.run_pure, Result.andThen_ok] at hru
        refine ⟨u :: xs, ⟨by simp [hd.1], fun i v' x' hv' hx' => ?_⟩, ?_⟩
        · cases i with
          | zero => simp at hv' hx'; subst hv'; subst hx'; exact hu
          | succ i => exact hd.2 i v' x' (by simpa using hv') (by simpa using hx')
        · simp only [List.mapM_cons, Sem.run_bind, hx, run_asAddr_ptr, Result.andThen_ok, hru, hr, Sem.run_pure]
      · cases h
    · cases h

theorem tup_ok : ∀ {vs : List AV} {ts : List (CV ⊕ List CV)} {xs : List Value}, tupOf vs = some ts → DenAll Φ ρ μ vs xs → denT Φ ρ μ ts = some xs
  | [], ts, xs, h, hd => by
    simp [tupOf] at h; subst h
    have : xs = [] := List.eq_nil_of_length_eq_zero hd.1.symm
    subst this; rfl
  | v :: vs, ts, [], h, hd => by have := hd.1; simp at this
  | .cv c :: vs, ts, x :: xs, h, hd => by
    simp only [tupOf, Option.map_eq_some_iff] at h
    obtain ⟨us, hus, rfl⟩ := h
    have h0 := hd.2 0 (.cv c) x rfl rfl
    have ht := tup_ok hus (xs := xs) ⟨by simpa using hd.1, fun i v x hv hx => hd.2 (i + 1) v x (by simpa using hv) (by simpa using hx)⟩
    simp only [den] at h0
    simp [denT, h0, ht]
  | .agg c :: vs, ts, x :: xs, h, hd => by
    simp only [tupOf, Option.map_eq_some_iff] at h
    obtain ⟨us, hus, rfl⟩ := h
    obtain ⟨ys, hy, rfl⟩ := den_agg (hd.2 0 (.agg c) x rfl rfl)
    have ht := tup_ok hus (xs := xs) ⟨by simpa using hd.1, fun i v x hv hx => hd.2 (i + 1) v x (by simpa using hv) (by simpa using hx)⟩
    simp [denT, hy, ht]
  | .tup t :: vs, ts, x :: xs, h, hd => by simp [tupOf] at h

/-- What a call hands back. -/
theorem results_ok {fn : Func} {vs : List AV} {v : AV} (hT : TRel Φ ρ μ s.n s.t a) (hM : MRel Φ ρ μ B s.m w) (hp : holds Φ ρ pc) (h : resOf P s pc fn.results.toList = some vs) (hv : resV vs = some v) :
    ∃ x, den Φ ρ μ v = some x ∧ (results fn a.tmps).run P w = .ok x w := by
  obtain ⟨xs, hd, hr⟩ := res_ok hT hM hp h
  have hrun : ∀ y, (if h : xs.toArray.size = 1 then xs.toArray[0] else Value.tuple xs.toArray) = y → (results fn a.tmps).run P w = .ok y w := by
    intro y hy
    unfold results
    rw [Array.mapM_eq_mapM_toList]
    simp only [Sem.run_bind]
    have : ((List.toArray <$> fn.results.toList.mapM (fun | .tmp t => pure (a.tmps.getD t undef) | .cell b t => do loadVar t (← asAddr (a.tmps.getD b undef)) : ResultVar → Sem Value)) : Sem (Array Value)).run P w = .ok xs.toArray w := by
      rw [map_eq_pure_bind]
      simp only [Sem.run_bind, hr, Result.andThen_ok, Sem.run_pure]
    refine (congrArg (fun r => Result.andThen r _) this).trans ?_
    simp only [Result.andThen_ok, Sem.run_pure, hy]
  unfold resV at hv
  split at hv
  · rename_i v'
    simp at hv; subst hv
    have hl := hd.1
    obtain ⟨x, rfl⟩ : ∃ x, xs = [x] := by
      match xs, hl with
      | [x], _ => exact ⟨x, rfl⟩
    exact ⟨x, hd.2 0 _ x rfl rfl, hrun x (by simp)⟩
  · rename_i hne
    simp only [Option.map_eq_some_iff] at hv
    obtain ⟨ts, hts, rfl⟩ := hv
    refine ⟨.tuple xs.toArray, by simp [den, tup_ok hts hd], hrun _ ?_⟩
    have : ¬ xs.toArray.size = 1 := by
      intro e
      have hl : vs.length = 1 := by rw [hd.1]; simpa using e
      match vs, hl with
      | [v], _ => exact hne v rfl
    rw [dif_neg this]
end
end Go.SF
namespace Go.SF
set_option linter.unusedVariables false
set_option linter.unusedSimpArgs false

section
variable {Φ : Sig} {ρ : Env} {μ ν : List Loc} {P : Program} {tbl : Tbl} {B : Base} {w : World} {s : St} {a : Act} {pc : List SB}

def toQ (Q : Exit → Act → World → Prop) : Ex → Act → World → Prop
  | .norm, a, w => Q .normal a w
  | .exit i, a, w => Q (.exit i) a w
  | .ret, a, w => Q .ret a w
  | .panic, _, _ => False

/-- How what the unknowns stand for may go on: from the counter n0 on some may have been drawn. -/
structure On (n0 : Nat) (ρ : Env) (n1 : Nat) (ρ' : Env) : Prop where
  le : n0 ≤ n1
  ag : AgrB n0 ρ ρ'
  eq : n1 = n0 → ρ' = ρ
theorem On.refl {n : Nat} {ρ : Env} : On n ρ n ρ := ⟨Nat.le_refl _, .refl, fun _ => rfl⟩
theorem On.trans {n0 n1 n2 : Nat} {ρ0 ρ1 ρ2 : Env} (h : On n0 ρ0 n1 ρ1) (k : On n1 ρ1 n2 ρ2) : On n0 ρ0 n2 ρ2 :=
  ⟨Nat.le_trans h.le k.le, h.ag.trans (k.ag.less h.le), fun e => by
    have h1 := h.le; have h2 := k.le
    rw [k.eq (by omega), h.eq (by omega)]⟩

/-- What is to hold at every way out. -/
def Post (Φ : Sig) (n0 : Nat) (ρ : Env) (μ : List Loc) (B : Base) (outs : List Out) (Q : Ex → Act → World → Prop) : Prop :=
  ∀ o ∈ outs, (o.ex = .panic → ∀ ρ', AgrB n0 ρ ρ' → ¬ holds Φ ρ' o.pc) ∧
    ∀ ρ', On n0 ρ o.st.m.nx ρ' → holds Φ ρ' o.pc → ∀ ν a' w', TRel Φ ρ' (μ ++ ν) o.st.n o.st.t a' → MRel Φ ρ' (μ ++ ν) B o.st.m w' → Q o.ex a' w'

def VPost (Φ : Sig) (n0 : Nat) (ρ : Env) (μ : List Loc) (B : Base) (outs : List (List SB × Option (AV × Mem))) (K : Value → World → Prop) : Prop :=
  ∀ o ∈ outs, match o.2 with
    | none => ∀ ρ', AgrB n0 ρ ρ' → ¬ holds Φ ρ' o.1
    | some (v, m') => ∀ ρ', On n0 ρ m'.nx ρ' → holds Φ ρ' o.1 → ∀ ν w' x, den Φ ρ' (μ ++ ν) v = some x → MRel Φ ρ' (μ ++ ν) B m' w' → K x w'

def CallOK (Φ : Sig) (ρ : Env) (P : Program) (f : Nat) (vs : List AV) (m : Mem) (pc : List SB) (outs : List (List SB × Option (AV × Mem))) : Prop :=
  ∀ (μ : List Loc) (B : Base) (w : World) (xs : List Value), DenAll Φ ρ μ vs xs → MRel Φ ρ μ B m w → holds Φ ρ pc →
    ∀ R : Value → World → Prop, VPost Φ m.nx ρ μ B outs R → Calls P f xs.toArray w (fun e w' => ∃ x, e = .returned x ∧ R x w')


def OneOK (Φ : Sig) (ρ : Env) (P : Program) (o : Oper) (s : St) (pc : List SB) (outs : List (List SB × Option (AV × Mem))) : Prop :=
  ∀ (μ : List Loc) (B : Base) (w : World) (a : Act), TRel Φ ρ μ s.n s.t a → MRel Φ ρ μ B s.m w → holds Φ ρ pc →
    ∀ K : Act → World → Prop, VPost Φ s.m.nx ρ μ B outs (fun x w' => K (a.put o.dst x) w') → o.wp P a w K noQ

def OpsOK (Φ : Sig) (ρ : Env) (P : Program) (all : Array Oper) (rest : List Oper) (s : St) (pc : List SB) (outs : List Out) : Prop :=
  ∀ (μ : List Loc) (B : Base) (w : World) (a : Act), TRel Φ ρ μ s.n s.t a → MRel Φ ρ μ B s.m w → holds Φ ρ pc →
    ∀ Q : Exit → Act → World → Prop, Post Φ s.m.nx ρ μ B outs (toQ Q) → ∀ pre : List Oper, all.toList = pre ++ rest → wpI P all Q (List.range' pre.length rest.length) a w

/-- The rounds of a loop, from the body's start on. -/
def wpL (P : Program) (c : Code) (Q : Exit → Act → World → Prop) (a : Act) (w : World) : Prop :=
  ∀ (b : Frame) (k : List Item) (cs : List Frame), ∃ e a' w', Q e a' w' ∧ Arrives P (lone (b.at a (.code c :: .inLoop c :: k)) cs w) b k cs e a' w'

theorem wp_of_wpL {c : Code} {Q : Exit → Act → World → Prop} (h : wpL P c Q a w) : (Code.loop c).wp P Q a w := fun b k cs =>
  let ⟨e, a', w', hq, harr⟩ := h b k cs
  ⟨e, a', w', hq, .of_steps (.one step_loop) harr⟩

theorem wpL_round {c : Code} {Q : Exit → Act → World → Prop} (h : c.wp P (Exit.then (wpL P c Q) Q) a w) : wpL P c Q a w := by
  intro b k cs
  obtain ⟨e, a₁, w₁, hq, harr⟩ := h b (.inLoop c :: k) cs
  cases e with
  | normal =>
    obtain ⟨e₂, a₂, w₂, hq₂, harr₂⟩ := hq b k cs
    exact ⟨e₂, a₂, w₂, hq₂, .of_steps (Steps.trans harr (.one step_inLoop)) harr₂⟩
  | exit id => exact ⟨_, a₁, w₁, hq, .pass (x := .inLoop c) rfl (fun _ _ => .inl (by simp)) harr⟩
  | goto l => exact ⟨_, a₁, w₁, hq, .pass (x := .inLoop c) rfl (fun _ _ => .inl (by simp)) harr⟩
  | ret => exact ⟨_, a₁, w₁, hq, .pass (x := .inLoop c) rfl (fun _ _ => .inl (by simp)) harr⟩
  | panic ch => exact ⟨_, a₁, w₁, hq, .pass (x := .inLoop c) rfl (fun _ _ => .inl (by simp)) harr⟩
  | outgrown => exact ⟨_, a₁, w₁, hq, .pass (x := .inLoop c) rfl (fun _ _ => .inl (by simp)) harr⟩

/-- The texts of the loops in a text. -/
def loopsOf : Code → List Code
  | .seq a b => loopsOf a ++ loopsOf b
  | .cond x a b => .cond x a b :: (loopsOf a ++ loopsOf b)
  | .block i c => .block i c :: loopsOf c
  | .loop c => c :: loopsOf c
  | _ => []
def fLoops (P : Program) (f : Nat) : List Code := match P.funcs[f]? with
  | some fn => match fn.body with
    | some b => loopsOf b
    | none => []
  | none => []

def LoopOK (Φ : Sig) (ρ : Env) (P : Program) (c : Code) (s : St) (pc : List SB) (outs : List Out) : Prop :=
  ∀ (μ : List Loc) (B : Base) (w : World) (a : Act), TRel Φ ρ μ s.n s.t a → MRel Φ ρ μ B s.m w → holds Φ ρ pc →
    ∀ Q : Exit → Act → World → Prop, Post Φ s.m.nx ρ μ B outs (toQ Q) → match isPart c with | true => c.wp P Q a w | false => wpL P c Q a w

structure TblOK (Φ : Sig) (ρ : Env) (P : Program) (tbl : Tbl) : Prop where
  fn : ∀ f g, tbl.fn f = some g → ∀ vs m pc outs, g vs m pc = some outs → CallOK Φ ρ P f vs m pc outs
  lp : ∀ f id g, tbl.lp f id = some g → ∀ c ∈ fLoops P f, key c = some id → ∀ s pc outs, g s pc = some outs → LoopOK Φ ρ P c s pc outs

def CodeOK (Φ : Sig) (ρ : Env) (P : Program) (f : Nat) (c : Code) (s : St) (pc : List SB) (outs : List Out) : Prop :=
  (∀ x ∈ loopsOf c, x ∈ fLoops P f) → ∀ (μ : List Loc) (B : Base) (w : World) (a : Act), TRel Φ ρ μ s.n s.t a → MRel Φ ρ μ B s.m w → holds Φ ρ pc →
    ∀ Q : Exit → Act → World → Prop, Post Φ s.m.nx ρ μ B outs (toQ Q) → c.wp P Q a w ∧ ∀ c', c = .loop c' → wpL P c' Q a w

/-- What the objects of S stand for is as it was. -/
def Kept (μ : List Loc) (S : List Nat) (w0 w' : World) : Prop := ∀ i ∈ S, ∀ l, μ[i]? = some l → ∀ b ∈ l.own, w'.heap[b]? = w0.heap[b]?

def unl (l : Array Bool) : Nat := l.toList.count false

/-- The objects of S were there at the beginning. -/
def Was (μ : List Loc) (S : List Nat) (B : Base) : Prop := ∀ i ∈ S, i < B.k ∧ ∃ l, μ[i]? = some l ∧ ∀ b ∈ l.own, b < B.w.heap.size

def AnyOK (Φ : Sig) (ρ : Env) (P : Program) (S : List Nat) (st : Bool) (all : Array Oper) (l : Array Bool) (s : St) (pc : List SB) (outs : List Out) : Prop :=
  Region.noSelect all = true → (st = true → staticFree all = true) → clean S s.m = true → ∀ (μ ν : List Loc) (B : Base) (w : World) (a : Act), Was μ S B →
    TRel Φ ρ (μ ++ ν) s.n s.t a → MRel Φ ρ (μ ++ ν) B s.m w → holds Φ ρ pc →
    ∀ Q : Ex → Act → World → Prop, (∀ a w, ¬ Q .panic a w) → Post Φ s.m.nx ρ (μ ++ ν) B outs Q → ∀ n, unl l ≤ n → anyG P all (Kept μ S B.w) (Q .norm) n l a w

variable {n0 : Nat}
theorem VPost.sub {outs outs' : List (List SB × Option (AV × Mem))} {K : Value → World → Prop} (h : VPost Φ n0 ρ μ B outs K) (hs : ∀ o ∈ outs', o ∈ outs) : VPost Φ n0 ρ μ B outs' K :=
  fun o ho => h o (hs o ho)
theorem Post.sub {outs outs' : List Out} {Q : Ex → Act → World → Prop} (h : Post Φ n0 ρ μ B outs Q) (hs : ∀ o ∈ outs', o ∈ outs) : Post Φ n0 ρ μ B outs' Q :=
  fun o ho => h o (hs o ho)
theorem Post.later {outs : List Out} {Q : Ex → Act → World → Prop} (h : Post Φ n0 ρ μ B outs Q) : Post Φ n0 ρ (μ ++ ν) B outs Q := by
  intro o ho
  refine ⟨(h o ho).1, fun ρ' hρ hp ν' a' w' hT hM => ?_⟩
  rw [List.append_assoc] at hT hM
  exact (h o ho).2 ρ' hρ hp (ν ++ ν') a' w' hT hM
theorem Post.on {n1 : Nat} {ρ' : Env} {outs : List Out} {Q : Ex → Act → World → Prop} (h : Post Φ n0 ρ μ B outs Q) (hρ : On n0 ρ n1 ρ') : Post Φ n1 ρ' μ B outs Q :=
  fun o ho => ⟨fun e ρ'' h' => (h o ho).1 e ρ'' (hρ.ag.trans (h'.less hρ.le)), fun ρ'' h' => (h o ho).2 ρ'' (hρ.trans h')⟩
theorem Post.at {o : Out} {outs : List Out} {Q : Ex → Act → World → Prop} (h : Post Φ n0 ρ μ B outs Q) (ho : o ∈ outs) (hn : o.st.m.nx = n0) (hp : holds Φ ρ o.pc) {a' : Act} {w' : World}
    (hT : TRel Φ ρ μ o.st.n o.st.t a') (hM : MRel Φ ρ μ B o.st.m w') : Q o.ex a' w' :=
  (h o ho).2 ρ (by rw [hn]; exact .refl) hp [] a' w' (by simpa using hT) (by simpa using hM)
theorem keep_ok {s : St} {m : Mem} {ρ' : Env} {a : Act} (hk : keepB s m = true) (hρ : On s.m.nx ρ m.nx ρ') (hT : TRel Φ ρ μ s.n s.t a) : TRel Φ ρ' μ s.n s.t a := by
  unfold keepB at hk
  rw [Bool.or_eq_true] at hk
  rcases hk with hk | hk
  · rw [hρ.eq (Nat.eq_of_beq_eq_true hk)]; exact hT
  · rw [Bool.and_eq_true] at hk
    exact hT.bl hρ.ag hk.2

theorem callFunc_enter {f : Nat} {fn : Func} (hf : P.funcs[f]? = some fn) (hn : (fn.name == "runtime.NumGoroutine") = false) (hb : fn.body.isNone = false) (xs : Array Value) :
    (callFunc f xs).run P w = .ok (.enter f xs) w := by
  have hp : (program : Sem Program).run P w = .ok P w := rfl
  unfold callFunc
  simp only [Sem.run_bind, hp, Result.andThen_ok, hf, hn, hb]
  rfl

theorem DenAll.app {vs us : List AV} {xs ys : List Value} (h : DenAll Φ ρ μ vs xs) (h' : DenAll Φ ρ μ us ys) : DenAll Φ ρ μ (vs ++ us) (xs ++ ys) := by
  refine ⟨by simp [h.1, h'.1], fun i v x hv hx => ?_⟩
  by_cases hi : i < vs.length
  · rw [List.getElem?_append_left hi] at hv
    rw [List.getElem?_append_left (h.1 ▸ hi)] at hx
    exact h.2 i v x hv hx
  · rw [List.getElem?_append_right (Nat.le_of_not_lt hi)] at hv
    rw [List.getElem?_append_right (h.1 ▸ Nat.le_of_not_lt hi), ← h.1] at hx
    exact h'.2 _ v x hv hx

theorem denAll_pts : ∀ {ps : List Pt} {xs : List Value}, denPts Φ ρ μ ps = some xs → DenAll Φ ρ μ (ps.map fun p => .cv (.p (some p))) xs
  | [], xs, h => by simp [denPts] at h; subst h; exact ⟨rfl, by simp⟩
  | p :: ps, xs, h => by
    simp only [denPts] at h
    split at h
    · rename_i ad us had hus
      simp at h; subst h
      have ih := denAll_pts hus
      refine ⟨by simpa using ih.1, fun i v x hv hx => ?_⟩
      cases i with
      | zero => simp at hv hx; subst hv; subst hx; simp [den, denC, had]
      | succ i => exact ih.2 i v x (by simpa using hv) (by simpa using hx)
    · cases h

theorem one_ok {fuel : Nat} (hcall : ∀ f vs m pc outs, exCall P tbl fuel f vs m pc = some outs → CallOK Φ ρ P f vs m pc outs) {o : Oper} {outs : List (List SB × Option (AV × Mem))}
    (h : exOne P tbl (fuel + 1) o s pc = some outs) : OneOK Φ ρ P o s pc outs := by
  intro μ w0 w a hT hM hp K hK
  simp only [exOne] at h
  split at h
  · rename_i outs' hs
    split at h
    case isFalse => cases h
    rename_i hnx
    simp at h; subst h
    rcases list_ok hT hM hp o hs with ⟨pc', hmem, hp'⟩ | ⟨pc', v, m', ν, w', x, n, hmem, hp', hr, hn, hd, hM'⟩
    · exact (hK _ hmem ρ .refl hp').elim
    · have hk := hK _ hmem
      simp only at hk
      have hnx := List.all_eq_true.1 hnx _ hmem
      simp only at hnx
      have hk := hk ρ (by rw [Nat.eq_of_beq_eq_true hnx]; exact .refl) hp' ν w' x hd hM'
      unfold Oper.wp
      rw [hr]
      rcases hn with rfl | ⟨rfl, rfl⟩
      · exact hk
      · exact hk
  split at h
  · rename_i outs' hs
    split at h
    case isFalse => cases h
    rename_i hnx
    simp at h; subst h
    rcases step_ok hT hM hp o hs with ⟨pc', hmem, hp'⟩ | ⟨pc', v, m', ν, w', x, n, hmem, hp', hr, hn, hd, hM', _⟩
    · exact (hK _ hmem ρ .refl hp').elim
    · have hk := hK _ hmem
      simp only at hk
      have hnx := List.all_eq_true.1 hnx _ hmem
      simp only at hnx
      have hk := hk ρ (by rw [Nat.eq_of_beq_eq_true hnx]; exact .refl) hp' ν w' x hd hM'
      unfold Oper.wp
      rw [hr]
      rcases hn with rfl | ⟨rfl, rfl⟩
      · exact hk
      · exact hk
  split at h
  · rename_i outs' hs
    split at h
    case isFalse => cases h
    rename_i hnx
    simp at h; subst h
    rcases chanLen_ok hT hM hp o hs with ⟨pc', hmem, hp'⟩ | ⟨pc', v, x, hmem, hp', hr, hd⟩
    · exact (hK _ hmem ρ .refl hp').elim
    · have hk := hK _ hmem
      simp only at hk
      have hk := hk ρ .refl hp' [] w x (by simpa using hd) (by simpa using hM)
      unfold Oper.wp
      rw [hr]
      exact hk
  split at h
  · rename_i outs' hs
    split at h
    case isFalse => cases h
    rename_i hnx
    simp at h; subst h
    rcases text_ok hT hM hp o hs with ⟨pc', hmem, hp'⟩ | ⟨pc', v, m', ν, w', x, n, hmem, hp', hr, hn, hd, hM'⟩
    · exact (hK _ hmem ρ .refl hp').elim
    · have hk := hK _ hmem
      simp only at hk
      have hnx := List.all_eq_true.1 hnx _ hmem
      simp only at hnx
      have hk := hk ρ (by rw [Nat.eq_of_beq_eq_true hnx]; exact .refl) hp' ν w' x hd hM'
      unfold Oper.wp
      rw [hr]
      rcases hn with rfl | ⟨rfl, rfl⟩
      · exact hk
      · exact hk
  · split at h
    · rename_i x hop
      split at h
      · rename_i ax hax
        obtain ⟨pc', v, m', ρ', w', u, hmem, ⟨h1, h2, h3⟩, hp', hrun, hd, hM'⟩ := nextS_ok (P := P) hM hp o.type h (opnd_ok hT hax)
        have hk := hK _ hmem
        simp only at hk
        have hk := hk ρ' ⟨h1, h2, h3⟩ hp' [] w' u (by simpa using hd) (by simpa using hM')
        have he : (execOp a.eval o).run P w = .ok (.value u) w' := by
          simp only [execOp, hop, Sem.run_bind, hrun, Result.andThen_ok, Sem.run_pure]
        unfold Oper.wp
        rw [he]
        exact hk
      · cases h
    · rename_i t x hop
      split at h
      · rename_i ax hax
        obtain ⟨pc', v, m', ρ', ν, w', u, hmem, ⟨h1, h2, h3⟩, hp', hrun, hd, hM'⟩ := makeChan_ok (P := P) hM hp h (opnd_ok hT hax)
        have hk := hK _ hmem
        simp only at hk
        have hk := hk ρ' ⟨h1, h2, h3⟩ hp' ν w' u hd hM'
        have he : (execOp a.eval o).run P w = .ok (.value u) w' := by
          simp only [execOp, hop, Sem.run_bind, hrun, Result.andThen_ok, Sem.run_pure]
        unfold Oper.wp
        rw [he]
        exact hk
      · cases h
    · rename_i c hc
      split at h
      · rename_i f vs hcal
        split at h
        · rename_i fn hf
          split at h
          · cases h
          · rename_i hname
            split at h
            · cases h
            · rename_i hbody
              obtain ⟨xs, hx, hrun⟩ : ∃ xs, DenAll Φ ρ μ vs xs ∧ (execOp a.eval o).run P w = .ok (.enter f xs.toArray) w := by
                unfold callee at hcal
                split at hcal
                · rename_i fo hfo
                  split at hcal
                  · rename_i f' caps hfv
                    split at hcal
                    · rename_i us hus
                      obtain ⟨hl, hd⟩ := args_ok hT hus
                      have hv := opnd_ok hT hfv
                      simp only [den, denC, Option.map_eq_some_iff] at hv
                      obtain ⟨cs, hcs, he⟩ := hv
                      have hargs : DenAll Φ ρ μ us (c.args.toList.map a.eval) := ⟨by simp [hl], fun i v x hv hx => by
                        simp only [List.getElem?_map, Option.map_eq_some_iff] at hx
                        obtain ⟨y, hy, rfl⟩ := hx
                        exact hd i v y hv hy⟩
                      split at hcal
                      · rename_i hb
                        simp only [Option.some.injEq, Prod.mk.injEq] at hcal
                        obtain ⟨hfe, rfl⟩ := hcal
                        refine ⟨cs ++ c.args.toList.map a.eval, DenAll.app (denAll_pts hcs) hargs, ?_⟩
                        simp only [fnVal] at he
                        rw [if_pos hb, hfe] at he
                        clear hfe hb
                        have e1 : (resolve a.eval c o.type).run P w = .ok { target := .fn (.func f) #[], args := cs.toArray ++ c.args.map a.eval } w := by
                          simp only [resolve, hfo, ← he, Deferred.ofValue]; rfl
                        simp only [execOp, hc, Sem.run_bind, e1, Result.andThen_ok, invoke]
                        rw [callFunc_enter hf (Bool.eq_false_iff.2 hname) (Bool.eq_false_iff.2 hbody)]
                        congr 2
                        simp
                      rename_i hb
                      simp only [fnVal] at he
                      rw [if_neg hb] at he
                      simp at hcal
                      obtain ⟨rfl, rfl⟩ := hcal
                      refine ⟨c.args.toList.map a.eval ++ cs, ?_, ?_⟩
                      · refine DenAll.app ⟨by simp [hl], fun i v x hv hx => ?_⟩ (denAll_pts hcs)
                        simp only [List.getElem?_map, Option.map_eq_some_iff] at hx
                        obtain ⟨y, hy, rfl⟩ := hx
                        exact hd i v y hv hy
                      · have e1 : (resolve a.eval c o.type).run P w = .ok { target := .fn (.func f') cs.toArray, args := #[] ++ c.args.map a.eval } w := by
                          simp only [resolve, hfo, ← he, Deferred.ofValue]; rfl
                        simp only [execOp, hc, Sem.run_bind, e1, Result.andThen_ok, invoke]
                        rw [callFunc_enter hf (Bool.eq_false_iff.2 hname) (Bool.eq_false_iff.2 hbody)]
                        congr 2
                        simp
                    · cases hcal
                  · cases hcal
                · cases hcal
              unfold Oper.wp
              rw [hrun]
              refine Calls.mono (hcall f vs s.m pc outs h μ w0 w xs hx hM hp _ hK) fun e w' he => ?_
              obtain ⟨x, rfl, hk⟩ := he
              exact hk
        · cases h
      · cases h
    · rename_i x hop
      split at h
      · rename_i ax hax
        obtain ⟨pc', v, m', ρ', w', u, hmem, ⟨h1, h2, h3⟩, hp', hrun, hd, hM'⟩ := next_ok (P := P) hM hp o.type h (opnd_ok hT hax)
        have hk := hK _ hmem
        simp only at hk
        have hk := hk ρ' ⟨h1, h2, h3⟩ hp' [] w' u (by simpa using hd) (by simpa using hM')
        have he : (execOp a.eval o).run P w = .ok (.value u) w' := by
          simp only [execOp, hop, Sem.run_bind, hrun, Result.andThen_ok, Sem.run_pure]
        unfold Oper.wp
        rw [he]
        exact hk
      · cases h
    · cases h

theorem undef_ok : den Φ ρ μ undefV = some undef := by simp [undefV, den, denT, undef]

theorem ops_ok {fuel : Nat} (hone : ∀ o s pc outs, exOne P tbl fuel o s pc = some outs → OneOK Φ ρ P o s pc outs)
    (hops : ∀ (n0 n1 : Nat) (ρ' : Env), On n0 ρ n1 ρ' → ∀ all rest s pc outs, exOps P tbl fuel all rest s pc = some outs → OpsOK Φ ρ' P all rest s pc outs) {all : Array Oper} {rest : List Oper} {outs : List Out}
    (h : exOps P tbl (fuel + 1) all rest s pc = some outs) : OpsOK Φ ρ P all rest s pc outs := by
  intro μ w0 w a hT hM hp Q hQ pre hpre
  cases rest with
  | nil =>
    simp [exOps] at h; subst h
    exact wpI_nil (hQ.at (List.mem_singleton.2 rfl) rfl hp hT hM)
  | cons o rest =>
    have ho : all[pre.length]? = some o := by rw [← Array.getElem?_toList, hpre]; simp
    have hpre' : all.toList = (pre ++ [o]) ++ rest := by simp [hpre]
    have hl : (pre ++ [o]).length = pre.length + 1 := by simp
    simp only [exOps] at h
    split at h
    · cases h
    · rename_i ws hws
      obtain ⟨b, pc', hmem, hp', hb⟩ := wanted_ok hws hT hp
      obtain ⟨ys, hys, hsub⟩ := bindO_mem h _ hmem
      have hQ' := hQ.sub hsub
      rw [List.length_cons, List.range'_succ, ← hl]
      cases b with
      | false =>
        simp only at hys
        split at hys
        · cases hys
        · rename_i s' hs'
          obtain ⟨hT', hm'⟩ := put_ok (ν := []) hs' hT (x := undef) undef_ok
          exact wpI_skip ho hb (hops 0 0 ρ .refl _ _ _ _ _ hys μ w0 w _ (by simpa using hT') (hm' ▸ hM) hp' Q (hm' ▸ hQ') _ hpre')
      | true =>
        simp only at hys
        split at hys
        · cases hys
        · rename_i outs1 ho1
          have next : ∀ y ∈ outs1, match y.2 with
              | none => ∀ ρ', AgrB s.m.nx ρ ρ' → ¬ holds Φ ρ' y.1
              | some (v, m') => ∀ ρ', On s.m.nx ρ m'.nx ρ' → holds Φ ρ' y.1 → ∀ ν w' x, den Φ ρ' (μ ++ ν) v = some x → MRel Φ ρ' (μ ++ ν) w0 m' w' → wpI P all Q (List.range' (pre ++ [o]).length rest.length) (a.put o.dst x) w' := by
            intro y hy
            obtain ⟨zs, hzs, hsub2⟩ := bindO_mem hys _ hy
            obtain ⟨py, vy⟩ := y
            cases vy with
            | none =>
              simp at hzs; subst hzs
              exact (hQ' _ (hsub2 _ (List.mem_singleton.2 rfl))).1 rfl
            | some vm =>
              obtain ⟨v, m⟩ := vm
              intro ρ' hρ hpy ν w' x hd hM'
              simp only at hzs
              split at hzs
              case isFalse => cases hzs
              rename_i hkp
              split at hzs
              · cases hzs
              · rename_i s' hs'
                obtain ⟨hT', hm'⟩ := put_ok hs' (keep_ok hkp hρ hT) hd
                exact hops _ _ ρ' hρ _ _ _ _ _ hzs (μ ++ ν) w0 w' _ hT' (hm' ▸ hM') hpy Q (hm' ▸ ((hQ'.sub hsub2).later.on hρ)) _ hpre'
          split at ho1
          · rename_i outs2 hcomm
            simp only [Option.some.injEq] at ho1
            subst ho1
            rcases comm_ok hT hM hp' o hcomm with ⟨pc2, hmem2, hp2⟩ | ⟨pc2, v, m', w', x, hmem2, hp2, hd, hnx, hM', hst⟩
            · exact (next _ hmem2 ρ .refl hp2).elim
            · have := next _ hmem2 ρ (by rw [hnx]; exact .refl) hp2 [] w' x (by simpa using hd) (by simpa using hM')
              exact wpI_step (fun b k cs => hst all pre.length _ ho hb b k cs) this
          · exact wpI_op ho hb (hone _ _ _ _ ho1 μ w0 w a hT hM hp' _ next)

theorem kept_ok {S : List Nat} {m : Mem} (hM : MRel Φ ρ (μ ++ ν) B m w) (hc : clean S m = true) (hS : Was μ S B) : Kept μ S B.w w := by
  intro i hi l hl b hb
  obtain ⟨hk, l', hl', hlt⟩ := hS i hi
  rw [hl] at hl'; cases hl'
  simp only [clean, Bool.and_eq_true, List.all_eq_true] at hc
  have hal := hc.2 i hi
  unfold aliveAt at hal
  split at hal
  · rename_i o ho
    refine hM.fr b (hlt b hb) fun k lk hkw hkk hlk hbk => ?_
    refine hM.wap k i o lk l b hkw hkk hk (fun hi' => ?_) ho hal hlk ?_ hbk hb
    · have := hc.1 i hi'
      simp [hi] at this
    · rw [List.getElem?_append_left (List.getElem?_eq_some_iff.1 hl).1]; exact hl
  · cases hal

theorem maskL_get (S : List Nat) : ∀ (os : List AObj) (k i : Nat), (maskL S k os)[i]? = os[i]?.map fun o => if S.contains (k + i) then o else .dead
  | [], k, i => by simp [maskL]
  | o :: os, k, 0 => by simp [maskL]
  | o :: os, k, i + 1 => by
    simp only [maskL, List.getElem?_cons_succ]
    rw [maskL_get S os (k + 1) i, show k + 1 + i = k + (i + 1) by omega]
theorem maskL_length (S : List Nat) : ∀ (os : List AObj) (k : Nat), (maskL S k os).length = os.length
  | [], k => rfl
  | o :: os, k => by simp [maskL, maskL_length S os (k + 1)]
theorem maskL_alive {S : List Nat} {os : List AObj} {i : Nat} {o : AObj} (h : (maskL S 0 os)[i]? = some o) (ha : o.alive = true) : i ∈ S ∧ os[i]? = some o := by
  rw [maskL_get] at h
  simp only [Option.map_eq_some_iff] at h
  obtain ⟨o', ho', he⟩ := h
  split at he
  · rename_i hc
    subst he
    exact ⟨by simpa using hc, ho'⟩
  · subst he; simp [AObj.alive] at ha

theorem mask_ok {S : List Nat} {w' : World} (hM : MRel Φ ρ (μ ++ ν) B s.m w) (hc : clean S s.m = true) (hS : Was μ S B) (hk : Kept μ S B.w w') :
    MRel Φ ρ (μ ++ ν) ⟨w', s.m.o.length⟩ (mask S s).m w' := by
  have hk0 := kept_ok hM hc hS
  have hh : ∀ i ∈ S, ∀ l, (μ ++ ν)[i]? = some l → ∀ b ∈ l.own, w'.heap[b]? = w.heap[b]? := by
    intro i hi l hl b hb
    obtain ⟨_, l', hl', hlt⟩ := hS i hi
    rw [List.getElem?_append_left (List.getElem?_eq_some_iff.1 hl').1] at hl
    rw [hk i hi l hl b hb, hk0 i hi l hl b hb]
  constructor
  · simp [mask, maskL_length, ← hM.len]
  · simp [mask, maskL_length]
  · intro i j oi oj li lj b hi hj he ho hli hlj hbi hbj
    obtain ⟨_, hi'⟩ := maskL_alive hi (AObj.excl_alive he)
    obtain ⟨_, hj'⟩ := maskL_alive hj ho
    exact hM.apart i j oi oj li lj b hi' hj' he ho hli hlj hbi hbj
  · intro i o l hi hl
    cases ha : o.alive with
    | true =>
      obtain ⟨hS', hi'⟩ := maskL_alive hi ha
      exact (hM.obj i o l hi' hl).of_heap (hh i hS' l hl)
    | false => rw [dead_of ha]; trivial
  · intro i o l hi ha hl b hb
    obtain ⟨hS', hi'⟩ := maskL_alive hi ha
    have h1 := hM.lt i o l hi' ha hl b hb
    have h2 := hh i hS' l hl b hb
    rw [Array.getElem?_eq_getElem h1] at h2
    exact (Array.getElem?_eq_some_iff.1 h2).1
  · intro b hb _; rfl
  · intro i l b hi hl _
    have := (List.getElem?_eq_some_iff.1 hl).1
    rw [hM.len] at this
    simp at hi; omega
  · intro i j o li lj b hi; simp [mask] at hi
  · exact Nat.le_refl _
  · exact ⟨rfl, rfl, rfl⟩

theorem mutB_eq (o : Op) : mutB o = mutOp o := rfl

theorem quiet_ok {S : List Nat} {all : Array Oper} {o : Oper} {pc' : List SB} {v : AV} (hq : quietStep P S all s pc o = some (pc', v)) (hT : TRel Φ ρ (μ ++ ν) s.n s.t a) (hM : MRel Φ ρ (μ ++ ν) B s.m w)
    (hp : holds Φ ρ pc) (hc : clean S s.m = true) (hS : Was μ S B) :
    holds Φ ρ pc' ∧ ∃ x, den Φ ρ (μ ++ ν) v = some x ∧ YS P all (Kept μ S B.w) o x a := by
  unfold quietStep at hq
  split at hq
  · rename_i pc1 hw
    simp at hq; obtain ⟨rfl, rfl⟩ := hq
    obtain ⟨b, pc2, hmem, hp', hb⟩ := wanted_ok hw hT hp
    simp at hmem; obtain ⟨rfl, rfl⟩ := hmem
    exact ⟨hp', undef, undef_ok, .inr ⟨hb, rfl⟩⟩
  · rename_i pc1 hw
    obtain ⟨b, pc2, hmem, hp', hb⟩ := wanted_ok hw hT hp
    simp at hmem; obtain ⟨rfl, rfl⟩ := hmem
    split at hq
    · cases hq
    · rename_i hmut
      rw [mutB_eq] at hmut
      split at hq
      · rename_i pc3 v3 m3 hst
        simp at hq; obtain ⟨rfl, rfl⟩ := hq
        have key : ∀ w', Kept μ S B.w w' → ∃ x n, holds Φ ρ pc3 ∧ den Φ ρ (μ ++ ν) v3 = some x ∧ (execOp a.eval o).run P w' = .ok n w' ∧ (n = .value x ∨ n = .skip ∧ x = undef) := by
          intro w' hk
          rcases step_ok (s := mask S s) hT (mask_ok hM hc hS hk) hp' o hst with ⟨_, hm, _⟩ | ⟨pc4, v4, m4, ν4, w4, x, n, hm, hp4, hr, hn, hd, _, hq4⟩
          · simp at hm
          · simp at hm; obtain ⟨rfl, rfl, rfl⟩ := hm
            obtain ⟨rfl, rfl⟩ := hq4 (by simpa using hmut)
            exact ⟨x, n, hp4, by simpa using hd, hr, hn⟩
        obtain ⟨x, _, hp3, hd, _⟩ := key w (kept_ok hM hc hS)
        refine ⟨hp3, x, hd, .inl ⟨hb, fun w' hk => ?_⟩⟩
        obtain ⟨x', n, _, hd', hr, hn⟩ := key w' hk
        rw [hd] at hd'; cases hd'
        exact ⟨n, hr, hn⟩
      · cases hq
  · cases hq
end
end Go.SF
namespace Go.SF
set_option linter.unusedVariables false
set_option linter.unusedSimpArgs false

section
variable {Φ : Sig} {ρ : Env} {μ ν : List Loc} {P : Program} {tbl : Tbl} {B : Base} {w : World} {s : St} {a : Act} {pc : List SB}

theorem unl_set {l : Array Bool} {i n : Nat} (h : l.getD i true = false) (hn : unl l ≤ n) : ∃ k, n = k + 1 ∧ unl (l.setIfInBounds i true) ≤ k := by
  have hi : i < l.size := by
    rcases Nat.lt_or_ge i l.size with h' | h'
    · exact h'
    · simp [Array.getD, Nat.not_lt.2 h'] at h
  have hv : l[i] = false := by simpa [Array.getD, hi] using h
  have hc : (l.toList.set i true).count false = l.toList.count false - 1 := by
    rw [List.count_set (by simpa using hi)]
    simp [hv]
  have hpos : 0 < l.toList.count false := List.count_pos_iff.2 (by
    rw [← hv]; simp)
  unfold unl at hn ⊢
  rw [Array.toList_setIfInBounds, hc]
  exact ⟨n - 1, by omega, by omega⟩

theorem static_spec {all : Array Oper} {l : Array Bool} {i : Nat} {o : Oper} (ho : all[i]? = some o) (h : staticFree all = true) (hr : i ∈ Region.ready .any all l) :
    ∀ j oj, all[j]? = some oj → j ≠ i → l.getD j true = false → (∀ e ∈ oj.after, Region.binds .any e = true → e.on ≠ i) → o.apart all oj = true := by
  intro j oj hoj hne hun hno
  have hi := (Array.getElem?_eq_some_iff.1 ho).1
  have hj := (Array.getElem?_eq_some_iff.1 hoj).1
  simp only [staticFree, List.all_eq_true, List.mem_range] at h
  have h1 := h i hi j hj
  simp only [ho, hoj, Bool.or_eq_true] at h1
  rcases h1 with h1 | (h1 | h1) | h1
  · exact absurd (Nat.eq_of_beq_eq_true h1).symm hne
  · obtain ⟨e, he, hb⟩ := Array.any_eq_true'.1 h1
    simp only [Bool.and_eq_true] at hb
    exact absurd (Nat.eq_of_beq_eq_true hb.2) (hno e he hb.1)
  · obtain ⟨e, he, hb⟩ := Array.any_eq_true'.1 h1
    simp only [Bool.and_eq_true] at hb
    obtain ⟨_, o', ho', hall⟩ := mem_ready.1 hr
    rw [ho] at ho'; cases ho'
    have h2 := hall e he hb.1
    rw [Nat.eq_of_beq_eq_true hb.2] at h2
    rcases Nat.lt_or_ge j l.size with h' | h'
    · simp [Array.getD, h'] at h2 hun; rw [h2] at hun; cases hun
    · simp [Array.getD, Nat.not_lt.2 h'] at h2
  · exact h1

theorem ready_of {all : Array Oper} {l : Array Bool} {i : Nat} (h : readyB all l i = true) : i ∈ Region.ready .any all l := by
  simp only [readyB, Bool.and_eq_true] at h
  simp only [Region.ready, List.mem_filter, List.mem_range, Bool.and_eq_true]
  exact ⟨by simpa [Nat.blt_eq] using h.1.1, h.1.2, h.2⟩

theorem any_ok {fuel : Nat} {S : List Nat} {st : Bool} (hone : ∀ o s pc outs, exOne P tbl fuel o s pc = some outs → OneOK Φ ρ P o s pc outs)
    (hany : ∀ (n0 n1 : Nat) (ρ' : Env), On n0 ρ n1 ρ' → ∀ S st all l todo s pc outs, exAny P tbl S st fuel all l todo s pc = some outs → AnyOK Φ ρ' P S st all l s pc outs) {all : Array Oper} {l : Array Bool} {todo : List Nat} {outs : List Out}
    (h : exAny P tbl S st (fuel + 1) all l todo s pc = some outs) : AnyOK Φ ρ P S st all l s pc outs := by
  intro hsel hst hc μ ν B w a hS hT hM hp Q hQn hQ n hn
  simp only [exAny] at h
  have hI := kept_ok hM hc hS
  have pick : ∀ i ∈ Region.ready .any all l, ∃ k, n = k + 1 ∧ unl (l.setIfInBounds i true) ≤ k := fun i hi => unl_set (mem_ready.1 hi).1 hn
  split at h
  · rename_i i o pc' v hfq
    have hfq' : ∀ is, firstQuiet P S st all l s pc is = some (i, o, pc', v) → all[i]? = some o ∧ readyB all l i = true ∧ (st || Region.free .any all l i) = true ∧ quietStep P S all s pc o = some (pc', v) := by
      intro is
      induction is with
      | nil => intro h; simp [firstQuiet] at h
      | cons j js ih =>
        intro h
        simp only [firstQuiet] at h
        split at h
        · rename_i oj hoj
          split at h
          · rename_i hfr
            rw [Bool.and_eq_true] at hfr
            split at h
            · rename_i p1 v1 hq1
              simp at h
              obtain ⟨rfl, rfl, rfl, rfl⟩ := h
              exact ⟨hoj, hfr.1, hfr.2, hq1⟩
            · exact ih h
          · exact ih h
        · exact ih h
    obtain ⟨ho, hrd, hfr, hq⟩ := hfq' _ hfq
    have hmem := ready_of hrd
    obtain ⟨k, rfl, hk⟩ := pick i hmem
    obtain ⟨hp', x, hd, hy⟩ := quiet_ok hq hT hM hp hc hS
    split at h
    · cases h
    · rename_i s' hs'
      obtain ⟨hT', hm'⟩ := put_ok (ν := []) hs' hT (by simpa using hd)
      have hrest := hany 0 0 ρ .refl S st all _ _ s' pc' outs h hsel hst (hm' ▸ hc) μ ν B w _ hS (by simpa using hT') (hm' ▸ hM) hp' Q hQn (hm' ▸ hQ) k hk
      refine anyG_first ho (Region.noSelect_spec hsel) k l a w ?_ hmem hy hrest
      rw [Bool.or_eq_true] at hfr
      rcases hfr with hfr | hfr
      · exact static_spec ho (hst hfr) hmem
      · exact Region.free_spec ho hfr
  · split at h
    · rename_i hr
      simp at h; subst h
      have hq : Q .norm a w := hQ.at (List.mem_singleton.2 rfl) rfl hp hT hM
      cases n with
      | zero => exact ⟨hI, hr, hq⟩
      | succ n => exact ⟨hI, fun _ => hq, fun i hi => by rw [hr] at hi; cases hi⟩
    · rename_i i0 is hr
      cases n with
      | zero =>
        obtain ⟨k, hk, _⟩ := pick i0 (by rw [hr]; simp)
        omega
      | succ k =>
        refine ⟨hI, fun h0 => (by rw [hr] at h0; cases h0), fun i hi => ?_⟩
        obtain ⟨k', hk', hku⟩ := pick i hi
        obtain rfl : k = k' := by omega
        rw [hr] at hi
        obtain ⟨us, hus, hsub⟩ := bindO_mem h _ hi
        have hQ1 := hQ.sub hsub
        split at hus
        · cases hus
        · rename_i o ho
          refine ⟨o, ho, ?_⟩
          split at hus
          · cases hus
          · rename_i ws hws
            obtain ⟨b, pc', hmem, hp', hb⟩ := wanted_ok hws hT hp
            obtain ⟨ys, hys, hsub1⟩ := bindO_mem hus _ hmem
            have hQ' := hQ1.sub hsub1
            rw [hb]
            cases b with
            | false =>
              simp only at hys
              split at hys
              · cases hys
              · rename_i s' hs'
                obtain ⟨hT', hm'⟩ := put_ok (ν := []) hs' hT (x := undef) undef_ok
                rw [if_neg (by simp)]
                exact hany 0 0 ρ .refl S st all _ _ s' pc' _ hys hsel hst (hm' ▸ hc) μ ν B w _ hS (by simpa using hT') (hm' ▸ hM) hp' Q hQn (hm' ▸ hQ') k hku
            | true =>
              simp only at hys
              split at hys
              · cases hys
              · rename_i outs1 ho1
                rw [if_pos rfl]
                refine hone _ _ _ _ ho1 (μ ++ ν) B w a hT hM hp' _ ?_
                intro y hy
                obtain ⟨zs, hzs, hsub2⟩ := bindO_mem hys _ hy
                obtain ⟨py, vy⟩ := y
                cases vy with
                | none =>
                  simp at hzs; subst hzs
                  exact (hQ' _ (hsub2 _ (List.mem_singleton.2 rfl))).1 rfl
                | some vm =>
                  obtain ⟨v, m⟩ := vm
                  intro ρ' hρ hpy ν' w' x hd hM'
                  simp only at hzs
                  split at hzs
                  · rename_i hcl
                    rw [Bool.and_eq_true] at hcl
                    split at hzs
                    · cases hzs
                    · rename_i s' hs'
                      obtain ⟨hT', hm'⟩ := put_ok hs' (keep_ok hcl.2 hρ hT) hd
                      rw [List.append_assoc] at hT' hM'
                      have hlater := ((hQ'.sub hsub2).later (ν := ν')).on hρ
                      rw [List.append_assoc] at hlater
                      exact hany _ _ ρ' hρ S st all _ _ s' py _ hzs hsel hst (hm' ▸ hcl.1) μ (ν ++ ν') B w' _ hS hT' (hm' ▸ hM') hpy Q hQn (hm' ▸ hlater) k hku
                  · cases hzs

theorem leave_ok {fn : Func} : ∀ {os : List Out} {outs : List (List SB × Option (AV × Mem))}, leave P fn os = some outs → ∀ o ∈ os, match o.ex with
    | .norm | .ret => ∃ vs v, resOf P o.st o.pc fn.results.toList = some vs ∧ resV vs = some v ∧ (o.pc, some (v, o.st.m)) ∈ outs
    | .panic => (o.pc, none) ∈ outs
    | .exit _ => False
  | [], outs, h, o, ho => by cases ho
  | o' :: os, outs, h, o, ho => by
    simp only [leave] at h
    split at h
    · cases h
    · rename_i l hl
      have ih := leave_ok hl
      rcases List.mem_cons.1 ho with rfl | ho
      · cases he : o.ex <;> simp only [he] at h ⊢
        case exit => cases h
        case panic => simp at h; subst h; simp
        all_goals
          split at h
          · cases h
          · rename_i vs hvs
            split at h
            · cases h
            · rename_i v hv
              simp at h; subst h
              exact ⟨vs, v, hvs, hv, by simp⟩
      · have := ih o ho
        have hsub : ∀ x ∈ l, x ∈ outs := by
          intro x hx
          cases he : o'.ex <;> simp only [he] at h
          case exit => cases h
          case panic => simp at h; subst h; simp [hx]
          all_goals
            split at h
            · cases h
            · split at h
              · cases h
              · simp at h; subst h; simp [hx]
        cases he : o.ex <;> simp only [he] at this ⊢
        case panic => exact hsub _ this
        all_goals
          obtain ⟨vs, v, h1, h2, h3⟩ := this
          exact ⟨vs, v, h1, h2, hsub _ h3⟩

theorem body_ok {fuel : Nat} (hcode : ∀ f c s pc outs, exCode P tbl fuel f c s pc = some outs → CodeOK Φ ρ P f c s pc outs)
    {f : Nat} {vs : List AV} {m : Mem} {outs : List (List SB × Option (AV × Mem))} (h : exBody P tbl fuel f vs m pc = some outs) : CallOK Φ ρ P f vs m pc outs := by
  unfold exBody at h
  split at h
  · cases h
  · rename_i fn hf
    split at h
    · cases h
    · rename_i body hb
      split at h
      · cases h
      · rename_i os hos
        intro μ B w xs hx hM hp R hR
        have hsub : ∀ x ∈ loopsOf body, x ∈ fLoops P f := by intro x hx; simp only [fLoops, hf, hb]; exact hx
        refine calls_of_wp hf hb ?_
        have hl := leave_ok h
        refine (hcode _ _ _ _ _ hos hsub μ B w _ (enter_ok hx fn.ntmps) hM hp _ ?_).1
        intro o ho
        have := hl o ho
        cases he : o.ex <;> simp only [he] at this
        case panic => exact ⟨fun _ => hR _ this, fun ρ' hρ hpo => absurd hpo (hR _ this ρ' hρ.ag)⟩
        all_goals
          obtain ⟨us, v, h1, h2, h3⟩ := this
          refine ⟨fun e => (by cases e), fun ρ' hρ hpo ν a' w' hT hM' => ?_⟩
          obtain ⟨x, hd, hrun⟩ := results_ok (s := o.st) hT hM' hpo h1 h2
          exact ⟨hT.df, x, hrun, x, rfl, hR _ h3 ρ' hρ hpo ν w' x hd hM'⟩
theorem call_ok {fuel : Nat} (htbl : TblOK Φ ρ P tbl) (hcode : ∀ f c s pc outs, exCode P tbl fuel f c s pc = some outs → CodeOK Φ ρ P f c s pc outs)
    {f : Nat} {vs : List AV} {m : Mem} {outs : List (List SB × Option (AV × Mem))} (h : exCall P tbl (fuel + 1) f vs m pc = some outs) : CallOK Φ ρ P f vs m pc outs := by
  simp only [exCall] at h
  split at h
  · rename_i outs' hg
    simp only [Option.bind_eq_some_iff] at hg
    obtain ⟨g, hg, hgo⟩ := hg
    simp at h; subst h
    exact htbl.fn f g hg vs m pc _ hgo
  · exact body_ok hcode h

theorem rebase0 {w' : World} (hM : MRel Φ ρ μ B s.m w) (he : w'.heap = w.heap) : MRel Φ ρ μ ⟨w', s.m.o.length⟩ { s.m with wr := [] } w' where
  len := hM.len
  kle := Nat.le_refl _
  apart := hM.apart
  obj := fun i o l ho hl => (hM.obj i o l ho hl).of_heap (fun b _ => by rw [he])
  lt := fun i o l ho ha hl b hb => by rw [he]; exact hM.lt i o l ho ha hl b hb
  fr := fun _ _ _ => rfl
  new := fun i l b hi hl _ => by
    have := (List.getElem?_eq_some_iff.1 hl).1
    rw [hM.len] at this
    simp at hi; omega
  wap := fun i j o li lj b hi => by cases hi
  sz := Nat.le_refl _
  os := ⟨rfl, rfl, rfl⟩

theorem aliveLe_ok : ∀ {os os' : List AObj} {j : Nat} {o : AObj}, aliveLe os os' = true → j < os.length → os'[j]? = some o → o.alive = true → ∃ o', os[j]? = some o' ∧ o'.alive = true
  | [], os', j, o, _, hj, _, _ => by simp at hj
  | x :: os, [], j, o, _, _, h, _ => by simp at h
  | x :: os, y :: os', 0, o, h, _, ho, ha => by
    simp at ho; subst ho
    simp only [aliveLe, Bool.and_eq_true, Bool.or_eq_true, Bool.not_eq_true'] at h
    rcases h.1 with h1 | h1
    · rw [h1] at ha; cases ha
    · exact ⟨x, rfl, h1⟩
  | x :: os, y :: os', j + 1, o, h, hj, ho, ha => by
    simp only [aliveLe, Bool.and_eq_true] at h
    simpa using aliveLe_ok h.2 (by simpa using hj) (by simpa using ho) ha

theorem rebase1 {ρ0 : Env} {m0 m1 : Mem} {wR wR' w1 : World} (hM : MRel Φ ρ0 μ B m0 wR) (hM1 : MRel Φ ρ (μ ++ ν) ⟨wR', m0.o.length⟩ m1 w1) (hh : wR'.heap = wR.heap) (hos : wR'.os = wR.os ∧ wR'.tape = wR.tape ∧ wR'.output = wR.output)
    (hle : aliveLe m0.o m1.o = true) : MRel Φ ρ (μ ++ ν) B { m1 with wr := m1.wr ++ m0.wr } w1 where
  len := hM1.len
  kle := Nat.le_trans hM.kle hM1.kle
  apart := hM1.apart
  obj := hM1.obj
  lt := hM1.lt
  fr := fun b hb hne => by
    have hbR : b < wR.heap.size := Nat.lt_of_lt_of_le hb hM.sz
    have old : ∀ (i : Nat) (l : Loc), i ∈ m0.wr → i < B.k → μ[i]? = some l → b ∉ l.own := fun i l hi hk hl => hne i l (List.mem_append.2 (.inr hi)) hk (get_app hl)
    rw [hM1.fr b (by rw [hh]; exact hbR) (fun i l hi hk hl hbl => ?_), hh]
    · exact hM.fr b hb old
    · by_cases hik : i < B.k
      · exact hne i l (List.mem_append.2 (.inl hi)) hik hl hbl
      · have hil : i < μ.length := by rw [hM.len]; exact hk
        rw [List.getElem?_append_left hil] at hl
        rcases hM.new i l b (Nat.le_of_not_lt hik) hl hbl with h1 | ⟨j, lj, h1, h2, h3, h4⟩
        · omega
        · exact old j lj h1 h2 h3 h4
  new := fun i l b hi hl hb => by
    by_cases hil : i < μ.length
    · rw [List.getElem?_append_left hil] at hl
      rcases hM.new i l b hi hl hb with h1 | ⟨j, lj, h1, h2, h3, h4⟩
      · exact .inl h1
      · exact .inr ⟨j, lj, List.mem_append.2 (.inr h1), h2, get_app h3, h4⟩
    · rcases hM1.new i l b (by rw [← hM.len]; exact Nat.le_of_not_lt hil) hl hb with h1 | ⟨j, lj, h1, h2, h3, h4⟩
      · rw [hh] at h1; exact .inl (Nat.le_trans hM.sz h1)
      · by_cases hjk : j < B.k
        · exact .inr ⟨j, lj, List.mem_append.2 (.inl h1), hjk, h3, h4⟩
        · have hjl : j < μ.length := by rw [hM.len]; exact h2
          rw [List.getElem?_append_left hjl] at h3
          rcases hM.new j lj b (Nat.le_of_not_lt hjk) h3 h4 with h5 | ⟨j', lj', h5, h6, h7, h8⟩
          · exact .inl h5
          · exact .inr ⟨j', lj', List.mem_append.2 (.inr h5), h6, get_app h7, h8⟩
  wap := fun i j o li lj b hi hik hjk hj ho ha hli hlj hbi => by
    have hj1 : j ∉ m1.wr := fun h => hj (List.mem_append.2 (.inl h))
    have hj0 : j ∉ m0.wr := fun h => hj (List.mem_append.2 (.inr h))
    have hkl := hM.kle
    rcases List.mem_append.1 hi with hi | hi
    · exact hM1.wap i j o li lj b hi (by simp only; omega) (by simp only; omega) hj1 ho ha hli hlj hbi
    · have hil : i < μ.length := by rw [hM.len]; omega
      have hjl : j < μ.length := by rw [hM.len]; omega
      rw [List.getElem?_append_left hil] at hli
      rw [List.getElem?_append_left hjl] at hlj
      obtain ⟨o', ho', ha'⟩ := aliveLe_ok hle (by rw [← hM.len]; exact hjl) ho ha
      exact hM.wap i j o' li lj b hi hik hjk hj0 ho' ha' hli hlj hbi
  sz := Nat.le_trans hM.sz (hh ▸ hM1.sz)
  os := ⟨hM1.os.1.trans (hos.1.trans hM.os.1), hM1.os.2.1.trans (hos.2.1.trans hM.os.2.1), hM1.os.2.2.trans (hos.2.2.trans hM.os.2.2)⟩

theorem covers_ok {pc1 pc2 : List SB} {s1 s2 : St} (h : covers pc1 s1 pc2 s2 = true) (hp : holds Φ ρ pc2) (hT : TRel Φ ρ μ s2.n s2.t a) (hM : MRel Φ ρ μ B s2.m w) :
    holds Φ ρ pc1 ∧ TRel Φ ρ μ s1.n s1.t a ∧ MRel Φ ρ μ B s1.m w := by
  simp only [covers, Bool.and_eq_true, List.all_eq_true] at h
  obtain ⟨⟨⟨⟨⟨⟨h1, h0⟩, h2⟩, h3⟩, h4⟩, h5⟩, h6⟩ := h
  have h1 := Nat.eq_of_beq_eq_true h1
  have h2 := sameOs_eq h2
  have h3 : ∀ i ∈ s1.m.wr, i ∈ s2.m.wr := fun i hi => by simpa using h3 i hi
  have h4 : ∀ i ∈ s2.m.wr, i ∈ s1.m.wr := fun i hi => by simpa using h4 i hi
  refine ⟨fun x hx => ?_, ⟨by rw [h1]; exact hT.sz, fun u v hv => ?_, hT.df⟩, ?_⟩
  · obtain ⟨y, hy, hs⟩ := List.any_eq_true.1 (h5 x hx)
    rw [SB.same_eq _ _ hs]; exact hp y hy
  · have hmem : ∀ (t : List (Nat × AV)), get u t = some v → ∃ y, (u, y) ∈ t := by
      intro t
      induction t with
      | nil => intro h; simp [get] at h
      | cons x t ih =>
        obtain ⟨k, y⟩ := x
        intro h
        simp only [get] at h
        split at h
        · rename_i e
          have e := Nat.eq_of_beq_eq_true e
          subst e; exact ⟨y, List.mem_cons_self ..⟩
        · obtain ⟨z, hz⟩ := ih h; exact ⟨z, List.mem_cons_of_mem _ hz⟩
    obtain ⟨y, hy⟩ := hmem _ hv
    have := h6 _ hy
    simp only [hv] at this
    split at this
    · rename_i v' u' hv' hu'
      cases hu'
      rw [AV.sameT_eq this]
      exact hT.tm u v' hv'
    · cases this
  · have e1 : s1.m = ⟨s2.m.o, s1.m.wr, s1.m.nx⟩ := by rw [← h2]
    rw [e1]
    constructor
    · exact hM.len
    · exact hM.kle
    · exact hM.apart
    · exact hM.obj
    · exact hM.lt
    · exact fun b hb hn => hM.fr b hb fun i l hi => hn i l (h4 i hi)
    · intro i l b hi hl hb
      rcases hM.new i l b hi hl hb with h | ⟨j, lj, g1, g2⟩
      · exact .inl h
      · exact .inr ⟨j, lj, h4 j g1, g2⟩
    · exact fun i j o li lj b hi hik hjk hj => hM.wap i j o li lj b (h3 i hi) hik hjk (fun e => hj (h4 j e))
    · exact hM.sz
    · exact hM.os

theorem covers_nx {pc1 pc2 : List SB} {s1 s2 : St} (h : covers pc1 s1 pc2 s2 = true) : s1.m.nx = s2.m.nx := by
  simp only [covers, Bool.and_eq_true] at h
  exact Nat.eq_of_beq_eq_true h.1.1.1.1.1.2
theorem dedup_sub : ∀ {os : List Out} {o : Out}, o ∈ dedup os → o ∈ os
  | [], o, h => h
  | x :: r, o, h => by
    simp only [dedup] at h
    split at h
    · exact List.mem_cons_of_mem _ (dedup_sub h)
    · rcases List.mem_cons.1 h with rfl | h
      · exact List.mem_cons_self ..
      · exact List.mem_cons_of_mem _ (dedup_sub h)
theorem dedup_ok : ∀ {os : List Out} {o : Out}, o ∈ os → o ∈ dedup os ∨ ∃ x ∈ dedup os, x.ex = .norm ∧ o.ex = .norm ∧ covers x.pc x.st o.pc o.st = true
  | [], o, h => by cases h
  | x :: r, o, h => by
    rcases List.mem_cons.1 h with rfl | h
    · simp only [dedup]
      split
      · rename_i hc
        obtain ⟨y, hy, hs⟩ := List.any_eq_true.1 hc
        simp only [Bool.and_eq_true] at hs
        refine .inr ⟨y, hy, ?_, ?_, hs.2⟩
        · have h1 := hs.1.1
          unfold isNorm at h1
          split at h1 <;> simp_all
        · have h1 := hs.1.2
          unfold isNorm at h1
          split at h1 <;> simp_all
      · exact .inl (List.mem_cons_self ..)
    · have := dedup_ok h
      simp only [dedup]
      split
      · exact this
      · rcases this with h | ⟨y, hy, h⟩
        · exact .inl (List.mem_cons_of_mem _ h)
        · exact .inr ⟨y, List.mem_cons_of_mem _ hy, h⟩

theorem code_ok {fuel : Nat} (htbl : TblOK Φ ρ P tbl) (hops : ∀ all rest s pc outs, exOps P tbl fuel all rest s pc = some outs → OpsOK Φ ρ P all rest s pc outs)
    (hany : ∀ S st all l todo s pc outs, exAny P tbl S st fuel all l todo s pc = some outs → AnyOK Φ ρ P S st all l s pc outs)
    (hcode : ∀ (n0 n1 : Nat) (ρ' : Env), On n0 ρ n1 ρ' → ∀ f c s pc outs, exCode P tbl fuel f c s pc = some outs → CodeOK Φ ρ' P f c s pc outs) {f : Nat} {c : Code} {outs : List Out} (h : exCode P tbl (fuel + 1) f c s pc = some outs) : CodeOK Φ ρ P f c s pc outs := by
  intro hl0 μ B w a hT hM hp Q hQ
  have here : ∀ {ex : Ex}, outs = [⟨pc, ex, s⟩] → toQ Q ex a w := fun he => by
    subst he
    exact hQ.at (List.mem_singleton.2 rfl) rfl hp hT hM
  cases c with
  | skip => simp only [exCode, Option.some.injEq] at h; exact ⟨wp_skip (here h.symm), fun _ e => by cases e⟩
  | exit id => simp only [exCode, Option.some.injEq] at h; exact ⟨wp_exit (here h.symm), fun _ e => by cases e⟩
  | ret => simp only [exCode, Option.some.injEq] at h; exact ⟨wp_ret (here h.symm), fun _ e => by cases e⟩
  | region id ops draw =>
    refine ⟨?_, fun _ e => by cases e⟩
    cases draw with
    | false => simp only [exCode] at h; exact wp_region_I (by rw [List.range_eq_range', ← Array.length_toList]; exact hops _ _ _ _ _ h μ B w a hT hM hp Q hQ [] rfl)
    | true =>
      simp only [exCode] at h
      split at h
      · rename_i hcond
        simp only [Bool.and_eq_true] at hcond
        split at h
        · cases h
        · rename_i pre hpre
          split at h
          · cases h
          · rename_i os hos
            split at h
            · cases h
            · rename_i hle
              simp at h; subst h
              simp only [Bool.not_eq_false, List.all_eq_true] at hle
              refine wp_region_any hcond.2 ?_
              have hb := rebase0 (w' := { w with drawn := w.drawn + 1 }) hM rfl
              have halive : ∀ i, aliveAt s.m i = true → ∃ o l, s.m.o[i]? = some o ∧ o.alive = true ∧ μ[i]? = some l := by
                intro i hi
                unfold aliveAt at hi
                split at hi
                · rename_i o ho
                  have hlt : i < μ.length := by rw [hM.len]; exact (List.getElem?_eq_some_iff.1 ho).1
                  exact ⟨o, _, ho, hi, List.getElem?_eq_getElem hlt⟩
                · cases hi
              refine wpAny_of_anyG (fun _ _ h => h) _ _ _ _ (hany _ _ _ _ _ _ _ _ hos hcond.1 (fun h => h) ?_ μ [] ⟨{ w with drawn := w.drawn + 1 }, s.m.o.length⟩ { w with drawn := w.drawn + 1 } a ?_ (by simpa using hT) (by simpa using hb) hp
                (toQ Q) (fun _ _ h => h) ?_ ops.size ?_)
              · unfold clean
                rw [Bool.and_eq_true]
                refine ⟨rfl, List.all_eq_true.2 fun i hi => ?_⟩
                have := (List.mem_filter.1 hi).2
                simp only [Bool.and_eq_true] at this
                exact this.2
              · intro i hi
                have h1 := (List.mem_filter.1 hi).1
                have := (List.mem_filter.1 hi).2
                simp only [Bool.and_eq_true] at this
                obtain ⟨o, l, ho, ha, hl⟩ := halive i this.2
                exact ⟨by simpa using h1, l, hl, hM.lt i o l ho ha hl⟩
              · intro o ho
                rcases dedup_ok ho with hd | ⟨x, hx, hxe, hoe, hcov⟩
                · refine ⟨(hQ _ (List.mem_map_of_mem hd)).1, fun ρ' hρ hpo ν a' w' hT' hM' => ?_⟩
                  simp only [List.append_nil] at hT' hM'
                  exact (hQ _ (List.mem_map_of_mem hd)).2 ρ' hρ hpo ν a' w' hT' (rebase1 hM hM' rfl ⟨rfl, rfl, rfl⟩ (hle o ho))
                · refine ⟨fun e => (by rw [hoe] at e; cases e), fun ρ' hρ hpo ν a' w' hT' hM' => ?_⟩
                  simp only [List.append_nil] at hT' hM'
                  obtain ⟨g1, g2, g3⟩ := covers_ok hcov hpo hT' hM'
                  have := (hQ _ (List.mem_map_of_mem hx)).2 ρ' (by simp only [covers_nx hcov]; exact hρ) g1 ν a' w' g2 (rebase1 hM g3 rfl ⟨rfl, rfl, rfl⟩ (hle x (dedup_sub hx)))
                  simp only [hxe] at this
                  rw [hoe]
                  exact this
              · unfold unl
                refine Nat.le_trans List.count_le_length ?_
                simp
      · cases h
  | seq x y =>
    refine ⟨?_, fun _ e => by cases e⟩
    simp only [exCode] at h
    split at h
    · cases h
    · rename_i os hos
      refine wp_seq (hcode 0 0 ρ .refl _ _ _ _ _ hos (fun z hz => hl0 z (by simp [loopsOf, hz])) μ B w a hT hM hp _ ?_).1
      intro o ho
      obtain ⟨ys, hys, hsub⟩ := bindO_mem h _ ho
      cases he : o.ex <;> simp only [he] at hys
      case norm => exact ⟨fun e => (by cases e), fun ρ' hρ hpo ν a' w' hT' hM' => (hcode _ _ ρ' hρ _ _ _ _ _ hys (fun z hz => hl0 z (by simp [loopsOf, hz])) (μ ++ ν) B w' a' hT' hM' hpo Q ((hQ.sub hsub).later.on hρ)).1⟩
      case panic =>
        simp at hys; subst hys
        exact ⟨fun _ => (hQ.sub hsub _ (List.mem_singleton.2 rfl)).1 rfl, fun ρ' hρ hpo => absurd hpo ((hQ.sub hsub _ (List.mem_singleton.2 rfl)).1 rfl ρ' hρ.ag)⟩
      all_goals
        simp at hys; subst hys
        exact ⟨fun e => (by cases e), fun ρ' hρ hpo ν a' w' hT' hM' => (hQ.sub hsub _ (List.mem_singleton.2 rfl)).2 ρ' hρ hpo ν a' w' hT' hM'⟩
  | cond x c1 c2 =>
    refine ⟨?_, fun _ e => by cases e⟩
    simp only [exCode] at h
    split at h
    · rename_i outs' hg
      simp only [Option.bind_eq_some_iff] at hg
      obtain ⟨g, ⟨id, hid, hg⟩, hgo⟩ := hg
      simp at h; subst h
      exact htbl.lp f id g hg _ (hl0 _ (by simp [loopsOf])) hid s pc _ hgo μ B w a hT hM hp Q hQ
    split at h
    · rename_i b hb
      obtain ⟨t, pc', hmem, hev, hp'⟩ := ways_ok Φ ρ b hp
      obtain ⟨ys, hys, hsub⟩ := bindO_mem h _ hmem
      have hv := opnd_ok hT hb
      simp only [den, denC, hev, Option.some.injEq] at hv
      refine wp_cond hv.symm (hcode 0 0 ρ .refl _ _ _ _ _ hys (fun z hz => hl0 z ?_) μ B w a hT hM hp' Q (hQ.sub hsub)).1
      cases t <;> simp_all [loopsOf]
    · cases h
  | block id c =>
    refine ⟨?_, fun _ e => by cases e⟩
    simp only [exCode] at h
    split at h
    · rename_i outs' hg
      simp only [Option.bind_eq_some_iff] at hg
      obtain ⟨g, ⟨id, hid, hg⟩, hgo⟩ := hg
      simp at h; subst h
      exact htbl.lp f id g hg _ (hl0 _ (by simp [loopsOf])) hid s pc _ hgo μ B w a hT hM hp Q hQ
    split at h
    · cases h
    · rename_i os hos
      simp at h; subst h
      refine wp_block (hcode 0 0 ρ .refl _ _ _ _ _ hos (fun z hz => hl0 z (by simp [loopsOf, hz])) μ B w a hT hM hp _ ?_).1
      intro o ho
      have := hQ _ (List.mem_map_of_mem ho)
      cases he : o.ex <;> simp only [he] at this
      case panic => exact ⟨fun _ => this.1 trivial, fun ρ' hρ hpo => absurd hpo (this.1 trivial ρ' hρ.ag)⟩
      case exit i =>
        refine ⟨fun e => (by cases e), fun ρ' hρ hpo ν a' w' hT' hM' => ?_⟩
        simp only [toQ, Exit.inBlock]
        split
        · rename_i hid
          rw [if_pos hid] at this
          exact this.2 ρ' hρ hpo ν a' w' hT' hM'
        · rename_i hid
          rw [if_neg hid] at this
          have := this.2 ρ' hρ hpo ν a' w' hT' hM'
          first | exact this | (rw [he] at this; exact this)
      all_goals
        refine ⟨fun e => (by cases e), fun ρ' hρ hpo ν a' w' hT' hM' => ?_⟩
        have := this.2 ρ' hρ hpo ν a' w' hT' hM'
        first | exact this | (rw [he] at this; exact this)
  | loop c =>
    have hin : c ∈ fLoops P f := hl0 c (by simp [loopsOf])
    simp only [exCode] at h
    split at h
    · rename_i outs' hg
      split at hg
      · cases hg
      rename_i hpart
      simp only [Option.bind_eq_some_iff] at hg
      obtain ⟨g, ⟨id, hid, hg⟩, hgo⟩ := hg
      simp at h; subst h
      have hw := htbl.lp f id g hg c hin hid s pc _ hgo μ B w a hT hM hp Q hQ
      rw [Bool.not_eq_true] at hpart
      rw [hpart] at hw
      have hw : wpL P c Q a w := hw
      exact ⟨wp_of_wpL hw, fun c' e => by cases e; exact hw⟩
    · split at h
      · cases h
      · rename_i os hos
        have hw : wpL P c Q a w := by
          refine wpL_round (hcode 0 0 ρ .refl _ _ _ _ _ hos (fun z hz => hl0 z (by simp [loopsOf, hz])) μ B w a hT hM hp _ ?_).1
          intro o ho
          obtain ⟨ys, hys, hsub⟩ := bindO_mem h _ ho
          cases he : o.ex <;> simp only [he] at hys
          case norm => exact ⟨fun e => (by cases e), fun ρ' hρ hpo ν a' w' hT' hM' => (hcode _ _ ρ' hρ _ _ _ _ _ hys hl0 (μ ++ ν) B w' a' hT' hM' hpo Q ((hQ.sub hsub).later.on hρ)).2 c rfl⟩
          case panic =>
            simp at hys; subst hys
            exact ⟨fun _ => (hQ.sub hsub _ (List.mem_singleton.2 rfl)).1 rfl, fun ρ' hρ hpo => absurd hpo ((hQ.sub hsub _ (List.mem_singleton.2 rfl)).1 rfl ρ' hρ.ag)⟩
          all_goals
            simp at hys; subst hys
            exact ⟨fun e => (by cases e), fun ρ' hρ hpo ν a' w' hT' hM' => (hQ.sub hsub _ (List.mem_singleton.2 rfl)).2 ρ' hρ hpo ν a' w' hT' hM'⟩
        exact ⟨wp_of_wpL hw, fun c' e => by cases e; exact hw⟩
  | _ => simp [exCode] at h

/-- What the machine of unknowns says, at a depth, is so. -/
structure AtFuel (Φ : Sig) (P : Program) (tbl : Tbl) (fuel : Nat) (ρ : Env) : Prop where
  one : ∀ o s pc outs, exOne P tbl fuel o s pc = some outs → OneOK Φ ρ P o s pc outs
  ops : ∀ all rest s pc outs, exOps P tbl fuel all rest s pc = some outs → OpsOK Φ ρ P all rest s pc outs
  any : ∀ S st all l todo s pc outs, exAny P tbl S st fuel all l todo s pc = some outs → AnyOK Φ ρ P S st all l s pc outs
  call : ∀ f vs m pc outs, exCall P tbl fuel f vs m pc = some outs → CallOK Φ ρ P f vs m pc outs
  code : ∀ f c s pc outs, exCode P tbl fuel f c s pc = some outs → CodeOK Φ ρ P f c s pc outs
/-- Whatever the machine of unknowns says of a call, or of a text, is so. -/
theorem all_ok {R : Env → Prop} (hR : ∀ (n0 n1 : Nat) (ρ ρ' : Env), R ρ → On n0 ρ n1 ρ' → R ρ') (htbl : ∀ ρ, R ρ → TblOK Φ ρ P tbl) : ∀ (fuel : Nat) (ρ : Env), R ρ → AtFuel Φ P tbl fuel ρ
  | 0, ρ, _ => ⟨fun _ _ _ _ h => by simp [exOne] at h, fun _ _ _ _ _ h => by simp [exOps] at h, fun _ _ _ _ _ _ _ _ h => by simp [exAny] at h,
      fun _ _ _ _ _ h => by simp [exCall] at h, fun _ _ _ _ _ h => by simp [exCode] at h⟩
  | fuel + 1, ρ, hρ => by
    have ih := all_ok hR htbl fuel
    have h0 := ih ρ hρ
    exact ⟨fun o s pc outs h => one_ok h0.call h, fun all rest s pc outs h => ops_ok h0.one (fun n0 n1 ρ' h' => (ih ρ' (hR n0 n1 ρ ρ' hρ h')).ops) h,
      fun S st all l todo s pc outs h => any_ok h0.one (fun n0 n1 ρ' h' => (ih ρ' (hR n0 n1 ρ ρ' hρ h')).any) h,
      fun f vs m pc outs h => call_ok (htbl ρ hρ) h0.code h, fun f c s pc outs h => code_ok (htbl ρ hρ) h0.ops h0.any (fun n0 n1 ρ' h' => (ih ρ' (hR n0 n1 ρ ρ' hρ h')).code) h⟩
end
end Go.SF
