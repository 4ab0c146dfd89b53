/- Slots, guards, results: what the machine of unknowns says of them is so. -/
import Derived.Test.YtfngkeegfjihlaaSFCode
import Derived.Test.YtfngkeegfjihlaaSFAny
namespace Go.SF
set_option linter.unusedVariables false
set_option linter.unusedSimpArgs false

section
variable {Φ : Sig} {ρ : Env} {μ ν : List Loc} {P : Program} {B : Base} {w : World} {s : St} {a : Act} {pc : List SB}

theorem put_ok {d : Option Nat} {v : AV} {m : Mem} {s' : St} {x : Value} (h : put s d v m = some s') (hT : TRel Φ ρ μ s.n s.t a) (hv : den Φ ρ (μ ++ ν) v = some x) :
    TRel Φ ρ (μ ++ ν) s'.n s'.t (a.put d x) ∧ s'.m = m := by
  unfold put at h
  cases d with
  | none =>
    simp at h; subst h
    exact ⟨hT.mono, rfl⟩
  | some d =>
    simp only at h
    split at h
    · rename_i hd
      have hd : d < s.n := by simpa [Nat.blt_eq] using hd
      simp at h; subst h
      refine ⟨⟨by simp [Act.put, hT.sz], fun u y hy => ?_, hT.df⟩, rfl⟩
      simp only [get] at hy
      split at hy
      · rename_i e
        have e := Nat.eq_of_beq_eq_true e
        subst e
        simp at hy; subst hy
        refine ⟨by simp [Act.put, hT.sz, hd], ?_⟩
        rw [hv]
        simp [Act.put, hT.sz, hd]
      · rename_i e
        obtain ⟨h1, h2⟩ := hT.tm u y hy
        refine ⟨by simpa [Act.put] using h1, ?_⟩
        rw [den_mono h2]
        have hne : ¬ d = u := fun e' => e (by rw [e']; exact Nat.beq_refl u)
        simp [Act.put, Array.getElem?_setIfInBounds, hne]
    · cases h

theorem wanted_ok {all : Array Oper} {o : Oper} {ws : List (Bool × List SB)} (h : wantedOp all o s pc = some ws) (hT : TRel Φ ρ μ s.n s.t a) (hp : holds Φ ρ pc) :
    ∃ b pc', (b, pc') ∈ ws ∧ holds Φ ρ pc' ∧ Region.wanted o (yielded all a.tmps) = b := by
  unfold wantedOp at h
  split at h
  · rename_i hg
    simp at h; subst h
    exact ⟨true, pc, by simp, hp, by simp [Region.wanted, hg]⟩
  · rename_i j want hg
    split at h
    · cases h
    · rename_i d hd
      have look : ∀ v x, get d s.t = some v → den Φ ρ μ v = some x → yielded all a.tmps j = match x with | .bool b => some b | _ => none := by
        intro v x hv hx
        obtain ⟨h1, h2⟩ := hT.tm d v hv
        rw [hx] at h2
        simp at h2
        unfold yielded
        rw [hd]
        have : a.tmps[d]? = some x := by
          rw [Array.getElem?_eq_getElem h1]
          rw [h2]
          simp [h1]
        simp only [Option.bind_some, this]
        cases x <;> rfl
      have non : ∀ v x, get d s.t = some v → den Φ ρ μ v = some x → (∀ b, x ≠ .bool b) → Region.wanted o (yielded all a.tmps) = false := by
        intro v x hv hx hb
        have := look v x hv hx
        simp only [Region.wanted, hg, this]
        cases x <;> first | rfl | (exact absurd rfl (hb _))
      split at h
      · rename_i x hv
        simp at h; subst h
        obtain ⟨b, pc', hmem, hev, hp'⟩ := ways_ok Φ ρ x hp
        refine ⟨b == want, pc', List.mem_map.2 ⟨(b, pc'), hmem, rfl⟩, hp', ?_⟩
        have := look _ (.bool b) hv (by simp [den, denC, hev])
        simp [Region.wanted, hg, this]
      · rename_i k y hv
        simp at h; subst h
        exact ⟨false, pc, by simp, hp, non _ _ hv (by simp only [den, denC]; rfl) (fun b e => by cases e)⟩
      · rename_i y hv
        simp at h; subst h
        refine ⟨false, pc, by simp, hp, ?_⟩
        have hx := (hT.tm d _ hv).2
        refine non _ _ hv hx fun b e => ?_
        rw [e] at hx
        cases y with
        | none => simp [den, denC] at hx
        | some p => obtain ⟨_, _, he⟩ := den_ptr hx; cases he
      · rename_i vs hv
        simp at h; subst h
        refine ⟨false, pc, by simp, hp, ?_⟩
        have hx := (hT.tm d _ hv).2
        refine non _ _ hv hx fun b e => ?_
        rw [e] at hx
        simp only [den, Option.map_eq_some_iff] at hx
        obtain ⟨_, _, he⟩ := hx; cases he
      · cases h

theorem args_ok (hT : TRel Φ ρ μ s.n s.t a) : ∀ {xs : List Operand} {vs : List AV}, argsOf s xs = some vs → vs.length = xs.length ∧ ∀ (i : Nat) (v : AV) (x : Operand), vs[i]? = some v → xs[i]? = some x → den Φ ρ μ v = some (a.eval x)
  | [], vs, h => by simp [argsOf] at h; subst h; simp
  | x :: xs, vs, h => by
    simp only [argsOf] at h
    split at h
    · rename_i u us hu hus
      simp at h; subst h
      obtain ⟨hl, hr⟩ := args_ok hT hus
      refine ⟨by simp [hl], fun i v y hv hy => ?_⟩
      cases i with
      | zero => simp at hv hy; subst hv; subst hy; exact opnd_ok hT hu
      | succ i => exact hr i v y (by simpa using hv) (by simpa using hy)
    · cases h

/-- Values that stand for a list of values. -/
def DenAll (Φ : Sig) (ρ : Env) (μ : List Loc) (vs : List AV) (xs : List Value) : Prop :=
  vs.length = xs.length ∧ ∀ (i : Nat) (v : AV) (x : Value), vs[i]? = some v → xs[i]? = some x → den Φ ρ μ v = some x

theorem get_number : ∀ (vs : List AV) (k u : Nat) (v : AV), get u (number k vs) = some v → ∃ i, u = k + i ∧ vs[i]? = some v
  | [], k, u, v, h => by simp [number, get] at h
  | x :: vs, k, u, v, h => by
    simp only [number, get] at h
    split at h
    · rename_i e; have e := Nat.eq_of_beq_eq_true e; simp at h; subst h; exact ⟨0, by omega, rfl⟩
    · obtain ⟨i, hi, hv⟩ := get_number vs (k + 1) u v h
      exact ⟨i + 1, by omega, by simpa using hv⟩

/-- The frame that a call enters. -/
theorem enter_ok {vs : List AV} {xs : List Value} (h : DenAll Φ ρ μ vs xs) (nt : Nat) :
    TRel Φ ρ μ (vs.length + (nt - vs.length)) (number 0 vs) { tmps := xs.toArray ++ Array.replicate (nt - xs.toArray.size) undef, defers := [] } := by
  refine ⟨by simp [h.1], fun u v hv => ?_, rfl⟩
  obtain ⟨i, rfl, hi⟩ := get_number vs 0 u v hv
  have hil : i < vs.length := (List.getElem?_eq_some_iff.1 hi).1
  have hix : i < xs.length := by rw [← h.1]; exact hil
  have hx : xs[i]? = some xs[i] := List.getElem?_eq_getElem hix
  refine ⟨by simp; omega, ?_⟩
  rw [h.2 i v _ hi hx]
  simp [Array.getElem?_append, hix]

theorem run_asAddr_ptr (x : Addr) : (asAddr (.pointer (some x))).run P w = .ok x w := rfl

theorem res_ok (hT : TRel Φ ρ μ s.n s.t a) (hM : MRel Φ ρ μ B s.m w) (hp : holds Φ ρ pc) : ∀ {rs : List ResultVar} {vs : List AV}, resOf P s pc rs = some vs →
    ∃ xs, DenAll Φ ρ μ vs xs ∧ (rs.mapM (fun | .tmp t => pure (a.tmps.getD t undef) | .cell b t => do loadVar t (← asAddr (a.tmps.getD b undef)) : ResultVar → Sem Value)).run P w = .ok xs w
  | [], vs, h => by simp [resOf] at h; subst h; exact ⟨[], ⟨rfl, by simp⟩, rfl⟩
  | .tmp t :: rs, vs, h => by
    simp only [resOf] at h
    split at h
    · rename_i v us hv hus
      simp at h; subst h
      obtain ⟨xs, hd, hr⟩ := res_ok hT hM hp hus
      refine ⟨a.tmps.getD t undef :: xs, ⟨by simp [hd.1], fun i u x hu hx => ?_⟩, ?_⟩
      · cases i with
        | zero => simp at hu hx; subst hu; rw [← hx]; simpa using (hT.tm t v hv).2
        | succ i => exact hd.2 i u x (by simpa using hu) (by simpa using hx)
      · simp only [List.mapM_cons, Sem.run_bind, Sem.run_pure, Result.andThen_ok, hr]
    · cases h
  | .cell b t :: rs, vs, h => by
    simp only [resOf] at h
    split at h
    · rename_i av hav
      split at h
      · rename_i v us hv hus
        simp at h; subst h
        obtain ⟨xs, hd, hr⟩ := res_ok hT hM hp hus
        obtain ⟨v, fs⟩ := v
        obtain ⟨_, u, hu, hru⟩ := load_ok hM hp hv (hT.tm b av hav).2
        have hptr : ∃ x, a.tmps.getD b undef = .pointer (some x) := by
          have hx := (hT.tm b av hav).2
          unfold loadOp at hv
          split at hv
          · obtain ⟨x, _, he⟩ := den_ptr hx; exact ⟨x, he⟩
          · cases hv
        obtain ⟨x, hx⟩ := hptr
        rw [hx] at hru
        simp only [Instr.loadAt, Instr.sureAddr, Sem.run_bind, Sem.run_pure, Result.andThen_ok] at hru
        refine ⟨u :: xs, ⟨by simp [hd.1], fun i v' x' hv' hx' => ?_⟩, ?_⟩
        · cases i with
          | zero => simp at hv' hx'; subst hv'; subst hx'; exact hu
          | succ i => exact hd.2 i v' x' (by simpa using hv') (by simpa using hx')
        · simp only [List.mapM_cons, Sem.run_bind, hx, run_asAddr_ptr, Result.andThen_ok, hru, hr, Sem.run_pure]
      · cases h
    · cases h

theorem tup_ok : ∀ {vs : List AV} {ts : List (CV ⊕ List CV)} {xs : List Value}, tupOf vs = some ts → DenAll Φ ρ μ vs xs → denT Φ ρ μ ts = some xs
  | [], ts, xs, h, hd => by
    simp [tupOf] at h; subst h
    have : xs = [] := List.eq_nil_of_length_eq_zero hd.1.symm
    subst this; rfl
  | v :: vs, ts, [], h, hd => by have := hd.1; simp at this
  | .cv c :: vs, ts, x :: xs, h, hd => by
    simp only [tupOf, Option.map_eq_some_iff] at h
    obtain ⟨us, hus, rfl⟩ := h
    have h0 := hd.2 0 (.cv c) x rfl rfl
    have ht := tup_ok hus (xs := xs) ⟨by simpa using hd.1, fun i v x hv hx => hd.2 (i + 1) v x (by simpa using hv) (by simpa using hx)⟩
    simp only [den] at h0
    simp [denT, h0, ht]
  | .agg c :: vs, ts, x :: xs, h, hd => by
    simp only [tupOf, Option.map_eq_some_iff] at h
    obtain ⟨us, hus, rfl⟩ := h
    obtain ⟨ys, hy, rfl⟩ := den_agg (hd.2 0 (.agg c) x rfl rfl)
    have ht := tup_ok hus (xs := xs) ⟨by simpa using hd.1, fun i v x hv hx => hd.2 (i + 1) v x (by simpa using hv) (by simpa using hx)⟩
    simp [denT, hy, ht]
  | .tup t :: vs, ts, x :: xs, h, hd => by simp [tupOf] at h

/-- What a call hands back. -/
theorem results_ok {fn : Func} {vs : List AV} {v : AV} (hT : TRel Φ ρ μ s.n s.t a) (hM : MRel Φ ρ μ B s.m w) (hp : holds Φ ρ pc) (h : resOf P s pc fn.results.toList = some vs) (hv : resV vs = some v) :
    ∃ x, den Φ ρ μ v = some x ∧ (results fn a.tmps).run P w = .ok x w := by
  obtain ⟨xs, hd, hr⟩ := res_ok hT hM hp h
  have hrun : ∀ y, (if h : xs.toArray.size = 1 then xs.toArray[0] else Value.tuple xs.toArray) = y → (results fn a.tmps).run P w = .ok y w := by
    intro y hy
    unfold results
    rw [Array.mapM_eq_mapM_toList]
    simp only [Sem.run_bind]
    have : ((List.toArray <$> fn.results.toList.mapM (fun | .tmp t => pure (a.tmps.getD t undef) | .cell b t => do loadVar t (← asAddr (a.tmps.getD b undef)) : ResultVar → Sem Value)) : Sem (Array Value)).run P w = .ok xs.toArray w := by
      rw [map_eq_pure_bind]
      simp only [Sem.run_bind, hr, Result.andThen_ok, Sem.run_pure]
    refine (congrArg (fun r => Result.andThen r _) this).trans ?_
    simp only [Result.andThen_ok, Sem.run_pure, hy]
  unfold resV at hv
  split at hv
  · rename_i v'
    simp at hv; subst hv
    have hl := hd.1
    obtain ⟨x, rfl⟩ : ∃ x, xs = [x] := by
      match xs, hl with
      | [x], _ => exact ⟨x, rfl⟩
    exact ⟨x, hd.2 0 _ x rfl rfl, hrun x (by simp)⟩
  · rename_i hne
    simp only [Option.map_eq_some_iff] at hv
    obtain ⟨ts, hts, rfl⟩ := hv
    refine ⟨.tuple xs.toArray, by simp [den, tup_ok hts hd], hrun _ ?_⟩
    have : ¬ xs.toArray.size = 1 := by
      intro e
      have hl : vs.length = 1 := by rw [hd.1]; simpa using e
      match vs, hl with
      | [v], _ => exact hne v rfl
    rw [dif_neg this]
end
end Go.SF
