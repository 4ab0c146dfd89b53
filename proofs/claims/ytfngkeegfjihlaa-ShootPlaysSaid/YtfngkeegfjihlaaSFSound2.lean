/- The machine of unknowns is right: one induction over how deep it goes. -/
import Derived.Test.YtfngkeegfjihlaaSFSound1
import Derived.Test.YtfngkeegfjihlaaSFAgr
import Derived.Tactics
namespace Go.SF
set_option linter.unusedVariables false
set_option linter.unusedSimpArgs false

section
variable {Φ : Sig} {ρ : Env} {μ ν : List Loc} {P : Program} {tbl : Tbl} {B : Base} {w : World} {s : St} {a : Act} {pc : List SB}

def toQ (Q : Exit → Act → World → Prop) : Ex → Act → World → Prop
  | .norm, a, w => Q .normal a w
  | .exit i, a, w => Q (.exit i) a w
  | .ret, a, w => Q .ret a w
  | .panic, _, _ => False

/-- How what the unknowns stand for may go on: from the counter n0 on some may have been drawn. -/
structure On (n0 : Nat) (ρ : Env) (n1 : Nat) (ρ' : Env) : Prop where
  le : n0 ≤ n1
  ag : AgrB n0 ρ ρ'
  eq : n1 = n0 → ρ' = ρ
theorem On.refl {n : Nat} {ρ : Env} : On n ρ n ρ := ⟨Nat.le_refl _, .refl, fun _ => rfl⟩
theorem On.trans {n0 n1 n2 : Nat} {ρ0 ρ1 ρ2 : Env} (h : On n0 ρ0 n1 ρ1) (k : On n1 ρ1 n2 ρ2) : On n0 ρ0 n2 ρ2 :=
  ⟨Nat.le_trans h.le k.le, h.ag.trans (k.ag.less h.le), fun e => by
    have h1 := h.le; have h2 := k.le
    rw [k.eq (by omega), h.eq (by omega)]⟩

/-- What is to hold at every way out. -/
def Post (Φ : Sig) (n0 : Nat) (ρ : Env) (μ : List Loc) (B : Base) (outs : List Out) (Q : Ex → Act → World → Prop) : Prop :=
  ∀ o ∈ outs, (o.ex = .panic → ∀ ρ', AgrB n0 ρ ρ' → ¬ holds Φ ρ' o.pc) ∧
    ∀ ρ', On n0 ρ o.st.m.nx ρ' → holds Φ ρ' o.pc → ∀ ν a' w', TRel Φ ρ' (μ ++ ν) o.st.n o.st.t a' → MRel Φ ρ' (μ ++ ν) B o.st.m w' → Q o.ex a' w'

def VPost (Φ : Sig) (n0 : Nat) (ρ : Env) (μ : List Loc) (B : Base) (outs : List (List SB × Option (AV × Mem))) (K : Value → World → Prop) : Prop :=
  ∀ o ∈ outs, match o.2 with
    | none => ∀ ρ', AgrB n0 ρ ρ' → ¬ holds Φ ρ' o.1
    | some (v, m') => ∀ ρ', On n0 ρ m'.nx ρ' → holds Φ ρ' o.1 → ∀ ν w' x, den Φ ρ' (μ ++ ν) v = some x → MRel Φ ρ' (μ ++ ν) B m' w' → K x w'

def CallOK (Φ : Sig) (ρ : Env) (P : Program) (f : Nat) (vs : List AV) (m : Mem) (pc : List SB) (outs : List (List SB × Option (AV × Mem))) : Prop :=
  ∀ (μ : List Loc) (B : Base) (w : World) (xs : List Value), DenAll Φ ρ μ vs xs → MRel Φ ρ μ B m w → holds Φ ρ pc →
    ∀ R : Value → World → Prop, VPost Φ m.nx ρ μ B outs R → Calls P f xs.toArray w (fun e w' => ∃ x, e = .returned x ∧ R x w')


def OneOK (Φ : Sig) (ρ : Env) (P : Program) (o : Oper) (s : St) (pc : List SB) (outs : List (List SB × Option (AV × Mem))) : Prop :=
  ∀ (μ : List Loc) (B : Base) (w : World) (a : Act), TRel Φ ρ μ s.n s.t a → MRel Φ ρ μ B s.m w → holds Φ ρ pc →
    ∀ K : Act → World → Prop, VPost Φ s.m.nx ρ μ B outs (fun x w' => K (a.put o.dst x) w') → o.wp P a w K noQ

def OpsOK (Φ : Sig) (ρ : Env) (P : Program) (all : Array Oper) (rest : List Oper) (s : St) (pc : List SB) (outs : List Out) : Prop :=
  ∀ (μ : List Loc) (B : Base) (w : World) (a : Act), TRel Φ ρ μ s.n s.t a → MRel Φ ρ μ B s.m w → holds Φ ρ pc →
    ∀ Q : Exit → Act → World → Prop, Post Φ s.m.nx ρ μ B outs (toQ Q) → ∀ pre : List Oper, all.toList = pre ++ rest → wpI P all Q (List.range' pre.length rest.length) a w

/-- The rounds of a loop, from the body's start on. -/
def wpL (P : Program) (c : Code) (Q : Exit → Act → World → Prop) (a : Act) (w : World) : Prop :=
  ∀ (b : Frame) (k : List Item) (cs : List Frame), ∃ e a' w', Q e a' w' ∧ Arrives P (lone (b.at a (.code c :: .inLoop c :: k)) cs w) b k cs e a' w'

theorem wp_of_wpL {c : Code} {Q : Exit → Act → World → Prop} (h : wpL P c Q a w) : (Code.loop c).wp P Q a w := fun b k cs =>
  let ⟨e, a', w', hq, harr⟩ := h b k cs
  ⟨e, a', w', hq, .of_steps (.one step_loop) harr⟩

theorem wpL_round {c : Code} {Q : Exit → Act → World → Prop} (h : c.wp P (Exit.then (wpL P c Q) Q) a w) : wpL P c Q a w := by
  intro b k cs
  obtain ⟨e, a₁, w₁, hq, harr⟩ := h b (.inLoop c :: k) cs
  cases e with
  | normal =>
    obtain ⟨e₂, a₂, w₂, hq₂, harr₂⟩ := hq b k cs
    exact ⟨e₂, a₂, w₂, hq₂, .of_steps (Steps.trans harr (.one step_inLoop)) harr₂⟩
  | exit id => exact ⟨_, a₁, w₁, hq, .pass (x := .inLoop c) rfl (fun _ _ => .inl (by simp)) harr⟩
  | goto l => exact ⟨_, a₁, w₁, hq, .pass (x := .inLoop c) rfl (fun _ _ => .inl (by simp)) harr⟩
  | ret => exact ⟨_, a₁, w₁, hq, .pass (x := .inLoop c) rfl (fun _ _ => .inl (by simp)) harr⟩
  | panic ch => exact ⟨_, a₁, w₁, hq, .pass (x := .inLoop c) rfl (fun _ _ => .inl (by simp)) harr⟩
  | outgrown => exact ⟨_, a₁, w₁, hq, .pass (x := .inLoop c) rfl (fun _ _ => .inl (by simp)) harr⟩

/-- The texts of the loops in a text. -/
def loopsOf : Code → List Code
  | .seq a b => loopsOf a ++ loopsOf b
  | .cond x a b => .cond x a b :: (loopsOf a ++ loopsOf b)
  | .block i c => .block i c :: loopsOf c
  | .loop c => c :: loopsOf c
  | _ => []
def fLoops (P : Program) (f : Nat) : List Code := match P.funcs[f]? with
  | some fn => match fn.body with
    | some b => loopsOf b
    | none => []
  | none => []

def LoopOK (Φ : Sig) (ρ : Env) (P : Program) (c : Code) (s : St) (pc : List SB) (outs : List Out) : Prop :=
  ∀ (μ : List Loc) (B : Base) (w : World) (a : Act), TRel Φ ρ μ s.n s.t a → MRel Φ ρ μ B s.m w → holds Φ ρ pc →
    ∀ Q : Exit → Act → World → Prop, Post Φ s.m.nx ρ μ B outs (toQ Q) → match isPart c with | true => c.wp P Q a w | false => wpL P c Q a w

structure TblOK (Φ : Sig) (ρ : Env) (P : Program) (tbl : Tbl) : Prop where
  fn : ∀ f g, tbl.fn f = some g → ∀ vs m pc outs, g vs m pc = some outs → CallOK Φ ρ P f vs m pc outs
  lp : ∀ f id g, tbl.lp f id = some g → ∀ c ∈ fLoops P f, key c = some id → ∀ s pc outs, g s pc = some outs → LoopOK Φ ρ P c s pc outs

def CodeOK (Φ : Sig) (ρ : Env) (P : Program) (f : Nat) (c : Code) (s : St) (pc : List SB) (outs : List Out) : Prop :=
  (∀ x ∈ loopsOf c, x ∈ fLoops P f) → ∀ (μ : List Loc) (B : Base) (w : World) (a : Act), TRel Φ ρ μ s.n s.t a → MRel Φ ρ μ B s.m w → holds Φ ρ pc →
    ∀ Q : Exit → Act → World → Prop, Post Φ s.m.nx ρ μ B outs (toQ Q) → c.wp P Q a w ∧ ∀ c', c = .loop c' → wpL P c' Q a w

/-- What the objects of S stand for is as it was. -/
def Kept (μ : List Loc) (S : List Nat) (w0 w' : World) : Prop := ∀ i ∈ S, ∀ l, μ[i]? = some l → ∀ b ∈ l.own, w'.heap[b]? = w0.heap[b]?

def unl (l : Array Bool) : Nat := l.toList.count false

/-- The objects of S were there at the beginning. -/
def Was (μ : List Loc) (S : List Nat) (B : Base) : Prop := ∀ i ∈ S, i < B.k ∧ ∃ l, μ[i]? = some l ∧ ∀ b ∈ l.own, b < B.w.heap.size

def AnyOK (Φ : Sig) (ρ : Env) (P : Program) (S : List Nat) (st : Bool) (all : Array Oper) (l : Array Bool) (s : St) (pc : List SB) (outs : List Out) : Prop :=
  Region.noSelect all = true → (st = true → staticFree all = true) → clean S s.m = true → ∀ (μ ν : List Loc) (B : Base) (w : World) (a : Act), Was μ S B →
    TRel Φ ρ (μ ++ ν) s.n s.t a → MRel Φ ρ (μ ++ ν) B s.m w → holds Φ ρ pc →
    ∀ Q : Ex → Act → World → Prop, (∀ a w, ¬ Q .panic a w) → Post Φ s.m.nx ρ (μ ++ ν) B outs Q → ∀ n, unl l ≤ n → anyG P all (Kept μ S B.w) (Q .norm) n l a w

variable {n0 : Nat}
theorem VPost.sub {outs outs' : List (List SB × Option (AV × Mem))} {K : Value → World → Prop} (h : VPost Φ n0 ρ μ B outs K) (hs : ∀ o ∈ outs', o ∈ outs) : VPost Φ n0 ρ μ B outs' K :=
  fun o ho => h o (hs o ho)
theorem Post.sub {outs outs' : List Out} {Q : Ex → Act → World → Prop} (h : Post Φ n0 ρ μ B outs Q) (hs : ∀ o ∈ outs', o ∈ outs) : Post Φ n0 ρ μ B outs' Q :=
  fun o ho => h o (hs o ho)
theorem Post.later {outs : List Out} {Q : Ex → Act → World → Prop} (h : Post Φ n0 ρ μ B outs Q) : Post Φ n0 ρ (μ ++ ν) B outs Q := by
  intro o ho
  refine ⟨(h o ho).1, fun ρ' hρ hp ν' a' w' hT hM => ?_⟩
  rw [List.append_assoc] at hT hM
  exact (h o ho).2 ρ' hρ hp (ν ++ ν') a' w' hT hM
theorem Post.on {n1 : Nat} {ρ' : Env} {outs : List Out} {Q : Ex → Act → World → Prop} (h : Post Φ n0 ρ μ B outs Q) (hρ : On n0 ρ n1 ρ') : Post Φ n1 ρ' μ B outs Q :=
  fun o ho => ⟨fun e ρ'' h' => (h o ho).1 e ρ'' (hρ.ag.trans (h'.less hρ.le)), fun ρ'' h' => (h o ho).2 ρ'' (hρ.trans h')⟩
theorem Post.at {o : Out} {outs : List Out} {Q : Ex → Act → World → Prop} (h : Post Φ n0 ρ μ B outs Q) (ho : o ∈ outs) (hn : o.st.m.nx = n0) (hp : holds Φ ρ o.pc) {a' : Act} {w' : World}
    (hT : TRel Φ ρ μ o.st.n o.st.t a') (hM : MRel Φ ρ μ B o.st.m w') : Q o.ex a' w' :=
  (h o ho).2 ρ (by rw [hn]; exact .refl) hp [] a' w' (by simpa using hT) (by simpa using hM)
theorem keep_ok {s : St} {m : Mem} {ρ' : Env} {a : Act} (hk : keepB s m = true) (hρ : On s.m.nx ρ m.nx ρ') (hT : TRel Φ ρ μ s.n s.t a) : TRel Φ ρ' μ s.n s.t a := by
  unfold keepB at hk
  rw [Bool.or_eq_true] at hk
  rcases hk with hk | hk
  · rw [hρ.eq (Nat.eq_of_beq_eq_true hk)]; exact hT
  · rw [Bool.and_eq_true] at hk
    exact hT.bl hρ.ag hk.2

theorem callFunc_enter {f : Nat} {fn : Func} (hf : P.funcs[f]? = some fn) (hn : (fn.name == "runtime.NumGoroutine") = false) (hb : fn.body.isNone = false) (xs : Array Value) :
    (callFunc f xs).run P w = .ok (.enter f xs) w := by
  have hp : (program : Sem Program).run P w = .ok P w := rfl
  unfold callFunc
  simp only [Sem.run_bind, hp, Result.andThen_ok, hf, hn, hb]
  rfl

theorem DenAll.app {vs us : List AV} {xs ys : List Value} (h : DenAll Φ ρ μ vs xs) (h' : DenAll Φ ρ μ us ys) : DenAll Φ ρ μ (vs ++ us) (xs ++ ys) := by
  refine ⟨by simp [h.1, h'.1], fun i v x hv hx => ?_⟩
  by_cases hi : i < vs.length
  · rw [List.getElem?_append_left hi] at hv
    rw [List.getElem?_append_left (h.1 ▸ hi)] at hx
    exact h.2 i v x hv hx
  · rw [List.getElem?_append_right (Nat.le_of_not_lt hi)] at hv
    rw [List.getElem?_append_right (h.1 ▸ Nat.le_of_not_lt hi), ← h.1] at hx
    exact h'.2 _ v x hv hx

theorem denAll_pts : ∀ {ps : List Pt} {xs : List Value}, denPts Φ ρ μ ps = some xs → DenAll Φ ρ μ (ps.map fun p => .cv (.p (some p))) xs
  | [], xs, h => by simp [denPts] at h; subst h; exact ⟨rfl, by simp⟩
  | p :: ps, xs, h => by
    simp only [denPts] at h
    split at h
    · rename_i ad us had hus
      simp at h; subst h
      have ih := denAll_pts hus
      refine ⟨by simpa using ih.1, fun i v x hv hx => ?_⟩
      cases i with
      | zero => simp at hv hx; subst hv; subst hx; simp [den, denC, had]
      | succ i => exact ih.2 i v x (by simpa using hv) (by simpa using hx)
    · cases h

theorem one_ok {fuel : Nat} (hcall : ∀ f vs m pc outs, exCall P tbl fuel f vs m pc = some outs → CallOK Φ ρ P f vs m pc outs) {o : Oper} {outs : List (List SB × Option (AV × Mem))}
    (h : exOne P tbl (fuel + 1) o s pc = some outs) : OneOK Φ ρ P o s pc outs := by
  intro μ w0 w a hT hM hp K hK
  simp only [exOne] at h
  split at h
  · rename_i outs' hs
    split at h
    case isFalse => cases h
    rename_i hnx
    simp at h; subst h
    rcases list_ok hT hM hp o hs with ⟨pc', hmem, hp'⟩ | ⟨pc', v, m', ν, w', x, n, hmem, hp', hr, hn, hd, hM'⟩
    · exact (hK _ hmem ρ .refl hp').elim
    · have hk := hK _ hmem
      simp only at hk
      have hnx := List.all_eq_true.1 hnx _ hmem
      simp only at hnx
      have hk := hk ρ (by rw [Nat.eq_of_beq_eq_true hnx]; exact .refl) hp' ν w' x hd hM'
      unfold Oper.wp
      rw [hr]
      rcases hn with rfl | ⟨rfl, rfl⟩
      · exact hk
      · exact hk
  split at h
  · rename_i outs' hs
    split at h
    case isFalse => cases h
    rename_i hnx
    simp at h; subst h
    rcases step_ok hT hM hp o hs with ⟨pc', hmem, hp'⟩ | ⟨pc', v, m', ν, w', x, n, hmem, hp', hr, hn, hd, hM', _⟩
    · exact (hK _ hmem ρ .refl hp').elim
    · have hk := hK _ hmem
      simp only at hk
      have hnx := List.all_eq_true.1 hnx _ hmem
      simp only at hnx
      have hk := hk ρ (by rw [Nat.eq_of_beq_eq_true hnx]; exact .refl) hp' ν w' x hd hM'
      unfold Oper.wp
      rw [hr]
      rcases hn with rfl | ⟨rfl, rfl⟩
      · exact hk
      · exact hk
  split at h
  · rename_i outs' hs
    split at h
    case isFalse => cases h
    rename_i hnx
    simp at h; subst h
    rcases chanLen_ok hT hM hp o hs with ⟨pc', hmem, hp'⟩ | ⟨pc', v, x, hmem, hp', hr, hd⟩
    · exact (hK _ hmem ρ .refl hp').elim
    · have hk := hK _ hmem
      simp only at hk
      have hk := hk ρ .refl hp' [] w x (by simpa using hd) (by simpa using hM)
      unfold Oper.wp
      rw [hr]
      exact hk
  split at h
  · rename_i outs' hs
    split at h
    case isFalse => cases h
    rename_i hnx
    simp at h; subst h
    rcases text_ok hT hM hp o hs with ⟨pc', hmem, hp'⟩ | ⟨pc', v, m', ν, w', x, n, hmem, hp', hr, hn, hd, hM'⟩
    · exact (hK _ hmem ρ .refl hp').elim
    · have hk := hK _ hmem
      simp only at hk
      have hnx := List.all_eq_true.1 hnx _ hmem
      simp only at hnx
      have hk := hk ρ (by rw [Nat.eq_of_beq_eq_true hnx]; exact .refl) hp' ν w' x hd hM'
      unfold Oper.wp
      rw [hr]
      rcases hn with rfl | ⟨rfl, rfl⟩
      · exact hk
      · exact hk
  · split at h
    · rename_i x hop
      split at h
      · rename_i ax hax
        obtain ⟨pc', v, m', ρ', w', u, hmem, ⟨h1, h2, h3⟩, hp', hrun, hd, hM'⟩ := nextS_ok (P := P) hM hp o.type h (opnd_ok hT hax)
        have hk := hK _ hmem
        simp only at hk
        have hk := hk ρ' ⟨h1, h2, h3⟩ hp' [] w' u (by simpa using hd) (by simpa using hM')
        have he : (execOp a.eval o).run P w = .ok (.value u) w' := by
          simp only [execOp, hop, Sem.run_bind, hrun, Result.andThen_ok, Sem.run_pure]
        unfold Oper.wp
        rw [he]
        exact hk
      · cases h
    · rename_i t x hop
      split at h
      · rename_i ax hax
        obtain ⟨pc', v, m', ρ', ν, w', u, hmem, ⟨h1, h2, h3⟩, hp', hrun, hd, hM'⟩ := makeChan_ok (P := P) hM hp h (opnd_ok hT hax)
        have hk := hK _ hmem
        simp only at hk
        have hk := hk ρ' ⟨h1, h2, h3⟩ hp' ν w' u hd hM'
        have he : (execOp a.eval o).run P w = .ok (.value u) w' := by
          simp only [execOp, hop, Sem.run_bind, hrun, Result.andThen_ok, Sem.run_pure]
        unfold Oper.wp
        rw [he]
        exact hk
      · cases h
    · rename_i c hc
      split at h
      · rename_i f vs hcal
        split at h
        · rename_i fn hf
          split at h
          · cases h
          · rename_i hname
            split at h
            · cases h
            · rename_i hbody
              obtain ⟨xs, hx, hrun⟩ : ∃ xs, DenAll Φ ρ μ vs xs ∧ (execOp a.eval o).run P w = .ok (.enter f xs.toArray) w := by
                unfold callee at hcal
                split at hcal
                · rename_i fo hfo
                  split at hcal
                  · rename_i f' caps hfv
                    split at hcal
                    · rename_i us hus
                      obtain ⟨hl, hd⟩ := args_ok hT hus
                      have hv := opnd_ok hT hfv
                      simp only [den, denC, Option.map_eq_some_iff] at hv
                      obtain ⟨cs, hcs, he⟩ := hv
                      have hargs : DenAll Φ ρ μ us (c.args.toList.map a.eval) := ⟨by simp [hl], fun i v x hv hx => by
                        simp only [List.getElem?_map, Option.map_eq_some_iff] at hx
                        obtain ⟨y, hy, rfl⟩ := hx
                        exact hd i v y hv hy⟩
                      split at hcal
                      · rename_i hb
                        simp only [Option.some.injEq, Prod.mk.injEq] at hcal
                        obtain ⟨hfe, rfl⟩ := hcal
                        refine ⟨cs ++ c.args.toList.map a.eval, DenAll.app (denAll_pts hcs) hargs, ?_⟩
                        simp only [fnVal] at he
                        rw [if_pos hb, hfe] at he
                        clear hfe hb
                        have e1 : (resolve a.eval c o.type).run P w = .ok { target := .fn (.func f) #[], args := cs.toArray ++ c.args.map a.eval } w := by
                          simp only [resolve, hfo, ← he, Deferred.ofValue]; rfl
                        simp only [execOp, hc, Sem.run_bind, e1, Result.andThen_ok, invoke]
                        rw [callFunc_enter hf (Bool.eq_false_iff.2 hname) (Bool.eq_false_iff.2 hbody)]
                        congr 2
                        simp
                      rename_i hb
                      simp only [fnVal] at he
                      rw [if_neg hb] at he
                      simp at hcal
                      obtain ⟨rfl, rfl⟩ := hcal
                      refine ⟨c.args.toList.map a.eval ++ cs, ?_, ?_⟩
                      · refine DenAll.app ⟨by simp [hl], fun i v x hv hx => ?_⟩ (denAll_pts hcs)
                        simp only [List.getElem?_map, Option.map_eq_some_iff] at hx
                        obtain ⟨y, hy, rfl⟩ := hx
                        exact hd i v y hv hy
                      · have e1 : (resolve a.eval c o.type).run P w = .ok { target := .fn (.func f') cs.toArray, args := #[] ++ c.args.map a.eval } w := by
                          simp only [resolve, hfo, ← he, Deferred.ofValue]; rfl
                        simp only [execOp, hc, Sem.run_bind, e1, Result.andThen_ok, invoke]
                        rw [callFunc_enter hf (Bool.eq_false_iff.2 hname) (Bool.eq_false_iff.2 hbody)]
                        congr 2
                        simp
                    · cases hcal
                  · cases hcal
                · cases hcal
              unfold Oper.wp
              rw [hrun]
              refine Calls.mono (hcall f vs s.m pc outs h μ w0 w xs hx hM hp _ hK) fun e w' he => ?_
              obtain ⟨x, rfl, hk⟩ := he
              exact hk
        · cases h
      · cases h
    · rename_i x hop
      split at h
      · rename_i ax hax
        obtain ⟨pc', v, m', ρ', w', u, hmem, ⟨h1, h2, h3⟩, hp', hrun, hd, hM'⟩ := next_ok (P := P) hM hp o.type h (opnd_ok hT hax)
        have hk := hK _ hmem
        simp only at hk
        have hk := hk ρ' ⟨h1, h2, h3⟩ hp' [] w' u (by simpa using hd) (by simpa using hM')
        have he : (execOp a.eval o).run P w = .ok (.value u) w' := by
          simp only [execOp, hop, Sem.run_bind, hrun, Result.andThen_ok, Sem.run_pure]
        unfold Oper.wp
        rw [he]
        exact hk
      · cases h
    · cases h

theorem undef_ok : den Φ ρ μ undefV = some undef := by simp [undefV, den, denT, undef]

theorem ops_ok {fuel : Nat} (hone : ∀ o s pc outs, exOne P tbl fuel o s pc = some outs → OneOK Φ ρ P o s pc outs)
    (hops : ∀ (n0 n1 : Nat) (ρ' : Env), On n0 ρ n1 ρ' → ∀ all rest s pc outs, exOps P tbl fuel all rest s pc = some outs → OpsOK Φ ρ' P all rest s pc outs) {all : Array Oper} {rest : List Oper} {outs : List Out}
    (h : exOps P tbl (fuel + 1) all rest s pc = some outs) : OpsOK Φ ρ P all rest s pc outs := by
  intro μ w0 w a hT hM hp Q hQ pre hpre
  cases rest with
  | nil =>
    simp [exOps] at h; subst h
    exact wpI_nil (hQ.at (List.mem_singleton.2 rfl) rfl hp hT hM)
  | cons o rest =>
    have ho : all[pre.length]? = some o := by rw [← Array.getElem?_toList, hpre]; simp
    have hpre' : all.toList = (pre ++ [o]) ++ rest := by simp [hpre]
    have hl : (pre ++ [o]).length = pre.length + 1 := by simp
    simp only [exOps] at h
    split at h
    · cases h
    · rename_i ws hws
      obtain ⟨b, pc', hmem, hp', hb⟩ := wanted_ok hws hT hp
      obtain ⟨ys, hys, hsub⟩ := bindO_mem h _ hmem
      have hQ' := hQ.sub hsub
      rw [List.length_cons, List.range'_succ, ← hl]
      cases b with
      | false =>
        simp only at hys
        split at hys
        · cases hys
        · rename_i s' hs'
          obtain ⟨hT', hm'⟩ := put_ok (ν := []) hs' hT (x := undef) undef_ok
          exact wpI_skip ho hb (hops 0 0 ρ .refl _ _ _ _ _ hys μ w0 w _ (by simpa using hT') (hm' ▸ hM) hp' Q (hm' ▸ hQ') _ hpre')
      | true =>
        simp only at hys
        split at hys
        · cases hys
        · rename_i outs1 ho1
          have next : ∀ y ∈ outs1, match y.2 with
              | none => ∀ ρ', AgrB s.m.nx ρ ρ' → ¬ holds Φ ρ' y.1
              | some (v, m') => ∀ ρ', On s.m.nx ρ m'.nx ρ' → holds Φ ρ' y.1 → ∀ ν w' x, den Φ ρ' (μ ++ ν) v = some x → MRel Φ ρ' (μ ++ ν) w0 m' w' → wpI P all Q (List.range' (pre ++ [o]).length rest.length) (a.put o.dst x) w' := by
            intro y hy
            obtain ⟨zs, hzs, hsub2⟩ := bindO_mem hys _ hy
            obtain ⟨py, vy⟩ := y
            cases vy with
            | none =>
              simp at hzs; subst hzs
              exact (hQ' _ (hsub2 _ (List.mem_singleton.2 rfl))).1 rfl
            | some vm =>
              obtain ⟨v, m⟩ := vm
              intro ρ' hρ hpy ν w' x hd hM'
              simp only at hzs
              split at hzs
              case isFalse => cases hzs
              rename_i hkp
              split at hzs
              · cases hzs
              · rename_i s' hs'
                obtain ⟨hT', hm'⟩ := put_ok hs' (keep_ok hkp hρ hT) hd
                exact hops _ _ ρ' hρ _ _ _ _ _ hzs (μ ++ ν) w0 w' _ hT' (hm' ▸ hM') hpy Q (hm' ▸ ((hQ'.sub hsub2).later.on hρ)) _ hpre'
          split at ho1
          · rename_i outs2 hcomm
            simp only [Option.some.injEq] at ho1
            subst ho1
            rcases comm_ok hT hM hp' o hcomm with ⟨pc2, hmem2, hp2⟩ | ⟨pc2, v, m', w', x, hmem2, hp2, hd, hnx, hM', hst⟩
            · exact (next _ hmem2 ρ .refl hp2).elim
            · have := next _ hmem2 ρ (by rw [hnx]; exact .refl) hp2 [] w' x (by simpa using hd) (by simpa using hM')
              exact wpI_step (fun b k cs => hst all pre.length _ ho hb b k cs) this
          · exact wpI_op ho hb (hone _ _ _ _ ho1 μ w0 w a hT hM hp' _ next)

theorem kept_ok {S : List Nat} {m : Mem} (hM : MRel Φ ρ (μ ++ ν) B m w) (hc : clean S m = true) (hS : Was μ S B) : Kept μ S B.w w := by
  intro i hi l hl b hb
  obtain ⟨hk, l', hl', hlt⟩ := hS i hi
  rw [hl] at hl'; cases hl'
  simp only [clean, Bool.and_eq_true, List.all_eq_true] at hc
  have hal := hc.2 i hi
  unfold aliveAt at hal
  split at hal
  · rename_i o ho
    refine hM.fr b (hlt b hb) fun k lk hkw hkk hlk hbk => ?_
    refine hM.wap k i o lk l b hkw hkk hk (fun hi' => ?_) ho hal hlk ?_ hbk hb
    · have := hc.1 i hi'
      simp [hi] at this
    · rw [List.getElem?_append_left (List.getElem?_eq_some_iff.1 hl).1]; exact hl
  · cases hal

theorem maskL_get (S : List Nat) : ∀ (os : List AObj) (k i : Nat), (maskL S k os)[i]? = os[i]?.map fun o => if S.contains (k + i) then o else .dead
  | [], k, i => by simp [maskL]
  | o :: os, k, 0 => by simp [maskL]
  | o :: os, k, i + 1 => by
    simp only [maskL, List.getElem?_cons_succ]
    rw [maskL_get S os (k + 1) i, show k + 1 + i = k + (i + 1) by omega]
theorem maskL_length (S : List Nat) : ∀ (os : List AObj) (k : Nat), (maskL S k os).length = os.length
  | [], k => rfl
  | o :: os, k => by simp [maskL, maskL_length S os (k + 1)]
theorem maskL_alive {S : List Nat} {os : List AObj} {i : Nat} {o : AObj} (h : (maskL S 0 os)[i]? = some o) (ha : o.alive = true) : i ∈ S ∧ os[i]? = some o := by
  rw [maskL_get] at h
  simp only [Option.map_eq_some_iff] at h
  obtain ⟨o', ho', he⟩ := h
  split at he
  · rename_i hc
    subst he
    exact ⟨by simpa using hc, ho'⟩
  · subst he; simp [AObj.alive] at ha

theorem mask_ok {S : List Nat} {w' : World} (hM : MRel Φ ρ (μ ++ ν) B s.m w) (hc : clean S s.m = true) (hS : Was μ S B) (hk : Kept μ S B.w w') :
    MRel Φ ρ (μ ++ ν) ⟨w', s.m.o.length⟩ (mask S s).m w' := by
  have hk0 := kept_ok hM hc hS
  have hh : ∀ i ∈ S, ∀ l, (μ ++ ν)[i]? = some l → ∀ b ∈ l.own, w'.heap[b]? = w.heap[b]? := by
    intro i hi l hl b hb
    obtain ⟨_, l', hl', hlt⟩ := hS i hi
    rw [List.getElem?_append_left (List.getElem?_eq_some_iff.1 hl').1] at hl
    rw [hk i hi l hl b hb, hk0 i hi l hl b hb]
  constructor
  · simp [mask, maskL_length, ← hM.len]
  · simp [mask, maskL_length]
  · intro i j oi oj li lj b hi hj he ho hli hlj hbi hbj
    obtain ⟨_, hi'⟩ := maskL_alive hi (AObj.excl_alive he)
    obtain ⟨_, hj'⟩ := maskL_alive hj ho
    exact hM.apart i j oi oj li lj b hi' hj' he ho hli hlj hbi hbj
  · intro i o l hi hl
    cases ha : o.alive with
    | true =>
      obtain ⟨hS', hi'⟩ := maskL_alive hi ha
      exact (hM.obj i o l hi' hl).of_heap (hh i hS' l hl)
    | false => rw [dead_of ha]; trivial
  · intro i o l hi ha hl b hb
    obtain ⟨hS', hi'⟩ := maskL_alive hi ha
    have h1 := hM.lt i o l hi' ha hl b hb
    have h2 := hh i hS' l hl b hb
    rw [Array.getElem?_eq_getElem h1] at h2
    exact (Array.getElem?_eq_some_iff.1 h2).1
  · intro b hb _; rfl
  · intro i l b hi hl _
    have := (List.getElem?_eq_some_iff.1 hl).1
    rw [hM.len] at this
    simp at hi; omega
  · intro i j o li lj b hi; simp [mask] at hi
  · exact Nat.le_refl _
  · exact ⟨rfl, rfl, rfl⟩

theorem mutB_eq (o : Op) : mutB o = mutOp o := rfl

theorem quiet_ok {S : List Nat} {all : Array Oper} {o : Oper} {pc' : List SB} {v : AV} (hq : quietStep P S all s pc o = some (pc', v)) (hT : TRel Φ ρ (μ ++ ν) s.n s.t a) (hM : MRel Φ ρ (μ ++ ν) B s.m w)
    (hp : holds Φ ρ pc) (hc : clean S s.m = true) (hS : Was μ S B) :
    holds Φ ρ pc' ∧ ∃ x, den Φ ρ (μ ++ ν) v = some x ∧ YS P all (Kept μ S B.w) o x a := by
  unfold quietStep at hq
  split at hq
  · rename_i pc1 hw
    simp at hq; obtain ⟨rfl, rfl⟩ := hq
    obtain ⟨b, pc2, hmem, hp', hb⟩ := wanted_ok hw hT hp
    simp at hmem; obtain ⟨rfl, rfl⟩ := hmem
    exact ⟨hp', undef, undef_ok, .inr ⟨hb, rfl⟩⟩
  · rename_i pc1 hw
    obtain ⟨b, pc2, hmem, hp', hb⟩ := wanted_ok hw hT hp
    simp at hmem; obtain ⟨rfl, rfl⟩ := hmem
    split at hq
    · cases hq
    · rename_i hmut
      rw [mutB_eq] at hmut
      split at hq
      · rename_i pc3 v3 m3 hst
        simp at hq; obtain ⟨rfl, rfl⟩ := hq
        have key : ∀ w', Kept μ S B.w w' → ∃ x n, holds Φ ρ pc3 ∧ den Φ ρ (μ ++ ν) v3 = some x ∧ (execOp a.eval o).run P w' = .ok n w' ∧ (n = .value x ∨ n = .skip ∧ x = undef) := by
          intro w' hk
          rcases step_ok (s := mask S s) hT (mask_ok hM hc hS hk) hp' o hst with ⟨_, hm, _⟩ | ⟨pc4, v4, m4, ν4, w4, x, n, hm, hp4, hr, hn, hd, _, hq4⟩
          · simp at hm
          · simp at hm; obtain ⟨rfl, rfl, rfl⟩ := hm
            obtain ⟨rfl, rfl⟩ := hq4 (by simpa using hmut)
            exact ⟨x, n, hp4, by simpa using hd, hr, hn⟩
        obtain ⟨x, _, hp3, hd, _⟩ := key w (kept_ok hM hc hS)
        refine ⟨hp3, x, hd, .inl ⟨hb, fun w' hk => ?_⟩⟩
        obtain ⟨x', n, _, hd', hr, hn⟩ := key w' hk
        rw [hd] at hd'; cases hd'
        exact ⟨n, hr, hn⟩
      · cases hq
  · cases hq
end
end Go.SF
