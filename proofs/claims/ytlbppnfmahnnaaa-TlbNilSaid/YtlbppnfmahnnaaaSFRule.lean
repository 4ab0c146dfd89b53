/- How a contract is shown: of a call, of a loop; and what a law comes to. -/
import Derived.Test.YtlbppnfmahnnaaaSFCheck
import Derived.Below
namespace Go.SF
open Go.RowKit
set_option linter.unusedVariables false
set_option linter.unusedSimpArgs false

def sameEx : Ex → Ex → Bool
  | .norm, .norm => true
  | .ret, .ret => true
  | .panic, .panic => true
  | .exit i, .exit j => Nat.beq i j
  | _, _ => false
theorem sameEx_eq {x y : Ex} (h : sameEx x y = true) : x = y := by
  cases x <;> cases y <;> simp only [sameEx, Bool.false_eq_true] at h <;> first | rfl | rw [Nat.eq_of_beq_eq_true h]

/-- The facts that are not known, as equations. -/
def asks (pc : List SB) : List SB → List Eqn
  | [] => []
  | x :: r => match known pc x with
    | some true => asks pc r
    | _ => .T x :: asks pc r
def pick (k : Nat) (pc : List SB) (ex : Ex) (s : St) : List TOut → Option Ob
  | [] => none
  | o :: r => if sameEx o.ex ex && !(o.pc.any fun x => known pc x == some false) then
      match checkOut k o s with
      | some es => some ⟨pc, asks pc o.pc ++ es⟩
      | none => pick k pc ex s r
    else pick k pc ex s r

def mapO {α β : Type} (f : α → Option β) : List α → Option (List β)
  | [] => some []
  | x :: r => match f x, mapO f r with
    | some y, some l => some (y :: l)
    | _, _ => none

/-- What is left to be shown of a call. -/
def callOb (k : Nat) (outs : List TOut) (o : List SB × Option (AV × Mem)) : Option Ob :=
  match o.2 with
  | none => some ⟨o.1, [.T (.c false)]⟩
  | some (v, m) => pick k o.1 .norm ⟨1, [(0, v)], m⟩ outs
def Eqn.same : Eqn → Eqn → Bool
  | .I x y, .I x' y' => SI.same x x' && SI.same y y'
  | .B x y, .B x' y' => SB.same x x' && SB.same y y'
  | .L x y, .L x' y' => SL.same x x' && SL.same y y'
  | .T x, .T x' => SB.same x x'
  | _, _ => false
theorem Eqn.same_eq {x y : Eqn} (h : Eqn.same x y = true) : x = y := by
  cases x <;> cases y <;> simp only [Eqn.same, Bool.false_eq_true, Bool.and_eq_true] at h
  · rw [SI.same_eq _ _ h.1, SI.same_eq _ _ h.2]
  · rw [SB.same_eq _ _ h.1, SB.same_eq _ _ h.2]
  · rw [SL.same_eq _ _ h.1, SL.same_eq _ _ h.2]
  · rw [SB.same_eq _ _ h]
/-- What is to be shown of the second is shown by the first. -/
def Ob.covers (x y : Ob) : Bool := (x.pc.all fun p => y.pc.any fun q => SB.same p q) && y.eqs.all fun p => x.eqs.any fun q => Eqn.same p q
def trim : List Ob → List Ob
  | [] => []
  | o :: r => match o.eqs with
    | [] => trim r
    | _ => if (trim r).any fun x => x.covers o then trim r else o :: trim r
def callObs (P : Program) (tbl : Tbl) (fuel f : Nat) (vs : List AV) (o : List AObj) (pc : List SB) (outs : List TOut) : Option (List Ob) :=
  match exCall P tbl fuel f vs ⟨o, []⟩ pc with
  | some eouts => (mapO (callOb o.length outs) eouts).map trim
  | none => none

/-- A state seen as a pattern's. -/
def enterT (Φ : Sig) (T : Tm) (outs : List TOut) (s : St) : Option (List Prim × St × Sb × List Nat) :=
  match matchT T s with
  | none => none
  | some M => match runPrims s M.pr.reverse, idsOf M.φ T.o.length 0 with
    | some s, some ids =>
      if slotsAt s (slotsSb Φ ⟨M.i, M.b, M.l⟩ (ph ids s.m.o.length) T.t) && objsAt s.m ids (T.o.map (AObj.sb Φ ⟨M.i, M.b, M.l⟩ (ph ids s.m.o.length))) && nodupB ids && outs.all (wf T) then
        some (M.pr.reverse, s, ⟨M.i, M.b, M.l⟩, ids)
      else none
    | _, _ => none
/-- The rest of the rounds ends so: is it what was told of all of them? -/
def againOb (Φ : Sig) (T : Tm) (s : St) (σ : Sb) (ids : List Nat) (pc : List SB) (o : TOut) : Option Ob :=
  match addAll (o.pc.map (SB.sb Φ σ)) pc with
  | none => some ⟨pc, []⟩
  | some pc' => match checkOut T.o.length o ⟨s.n, slotsSb Φ σ (ph ids s.m.o.length) o.t, ⟨putAll s.m.o ids (o.o.map (AObj.sb Φ σ (ph ids s.m.o.length))), o.wr.map (ph ids s.m.o.length) ++ s.m.wr⟩⟩ with
    | some es => some ⟨pc', asks pc' o.pc ++ es⟩
    | none => none
def roundOb (Φ : Sig) (n : Nat) (T : Tm) (meas : SI) (outs : List TOut) (e : Out) : Option (List Ob) :=
  if Nat.beq e.st.n n = false then none else
  match e.ex with
  | .panic => some [⟨e.pc, [.T (.c false)]⟩]
  | .norm => match enterT Φ T outs e.st with
    | none => none
    | some (_, s, σ, ids) => match mapO (againOb Φ T s σ ids e.pc) outs with
      | some l => some (⟨e.pc, asks e.pc (mkLt (meas.sb Φ σ) meas :: mkLt (.c 0) meas :: T.pc.map (SB.sb Φ σ))⟩ :: l)
      | none => none
  | ex => match pick T.o.length e.pc ex e.st outs with
    | some o => some [o]
    | none => none
def loopObs (Φ : Sig) (P : Program) (tbl : Tbl) (fuel f : Nat) (c : Code) (n : Nat) (T : Tm) (meas : SI) (outs : List TOut) : Option (List Ob) :=
  match exCode P tbl fuel f c ⟨n, T.t, ⟨T.o, []⟩⟩ T.pc with
  | some eouts => (bindO eouts (roundOb Φ n T meas outs)).map trim
  | none => none

section
variable {Φ : Sig} {ρ : Env} {μ : List Loc} {P : Program} {tbl : Tbl} {B : Base} {w : World} {s : St} {a : Act} {pc : List SB}

theorem mapO_mem {α β : Type} {f : α → Option β} : ∀ {l : List α} {r : List β}, mapO f l = some r → ∀ x ∈ l, ∃ y, f x = some y ∧ y ∈ r
  | [], r, _, x, hx => by cases hx
  | z :: l, r, h, x, hx => by
    simp only [mapO] at h
    split at h
    · rename_i y r' hy hr
      simp at h; subst h
      rcases List.mem_cons.1 hx with rfl | hx
      · exact ⟨y, hy, List.mem_cons_self ..⟩
      · obtain ⟨u, h1, h2⟩ := mapO_mem hr x hx
        exact ⟨u, h1, List.mem_cons_of_mem _ h2⟩
    · cases h

theorem trim_ok {K : List AObj} : ∀ {l : List Ob}, (∀ o ∈ trim l, o.ok Φ K) → ∀ o ∈ l, o.ok Φ K
  | [], _, o, ho => by cases ho
  | x :: r, h, o, ho => by
    simp only [trim] at h
    split at h
    · rename_i hx
      rcases List.mem_cons.1 ho with rfl | ho
      · intro ρ _ _ e he; rw [hx] at he; cases he
      · exact trim_ok h o ho
    · split at h
      · rename_i hc
        rcases List.mem_cons.1 ho with rfl | ho
        · obtain ⟨y, hy, hs⟩ := List.any_eq_true.1 hc
          simp only [Ob.covers, Bool.and_eq_true, List.all_eq_true] at hs
          intro ρ hK hp e he
          obtain ⟨e', he', hse⟩ := List.any_eq_true.1 (hs.2 e he)
          rw [Eqn.same_eq hse]
          refine h y hy ρ hK (fun p hp' => ?_) e' he'
          obtain ⟨q, hq, hsq⟩ := List.any_eq_true.1 (hs.1 p hp')
          rw [SB.same_eq _ _ hsq]; exact hp q hq
        · exact trim_ok h o ho
      · rcases List.mem_cons.1 ho with rfl | ho
        · exact h _ (List.mem_cons_self ..)
        · exact trim_ok (fun y hy => h y (List.mem_cons_of_mem _ hy)) o ho

theorem asks_ok (hp : holds Φ ρ pc) : ∀ {fs : List SB}, AllOK Φ ρ (asks pc fs) → holds Φ ρ fs
  | [], _ => holds_nil Φ ρ
  | x :: r, h => by
    simp only [asks] at h
    split at h
    · rename_i hk
      exact holds_cons Φ ρ (known_ok Φ ρ hp _ _ hk) (asks_ok hp h)
    · exact holds_cons Φ ρ (h _ (List.mem_cons_self ..)) (asks_ok hp fun e he => h e (List.mem_cons_of_mem _ he))

theorem pick_ok {K : List AObj} (hK : RowsOK Φ ρ K) (hp : holds Φ ρ pc) {k : Nat} {ex : Ex} : ∀ {outs : List TOut} {ob : Ob}, pick k pc ex s outs = some ob → ob.ok Φ K →
    ∃ o ∈ outs, o.ex = ex ∧ holds Φ ρ o.pc ∧ ∃ es, checkOut k o s = some es ∧ AllOK Φ ρ es
  | [], ob, h, _ => by simp [pick] at h
  | o :: r, ob, h, hok => by
    simp only [pick] at h
    split at h
    · rename_i hc
      rw [Bool.and_eq_true] at hc
      split at h
      · rename_i es hes
        simp at h; subst h
        have := AllOK.app (hok ρ hK hp)
        exact ⟨o, List.mem_cons_self .., sameEx_eq hc.1, asks_ok hp this.1, es, hes, this.2⟩
      · obtain ⟨o', h1, h2⟩ := pick_ok hK hp h hok
        exact ⟨o', List.mem_cons_of_mem _ h1, h2⟩
    · obtain ⟨o', h1, h2⟩ := pick_ok hK hp h hok
      exact ⟨o', List.mem_cons_of_mem _ h1, h2⟩

/-- A contract of a call, shown by going through its text. -/
theorem call_rule (htbl : ∀ ρ, TblOK Φ ρ P tbl) {fuel f : Nat} {vs : List AV} {o : List AObj} {pc : List SB} {outs : List TOut} {obs : List Ob} (h : callObs P tbl fuel f vs o pc outs = some obs) (hobs : ∀ ob ∈ obs, ob.ok Φ o) :
    TmCall Φ P f vs o pc outs := by
  intro ρ μ B w xs hx hM hp R hR
  unfold callObs at h
  split at h
  · rename_i eouts he
    simp only [Option.map_eq_some_iff] at h
    obtain ⟨l, hl, rfl⟩ := h
    have hobs := trim_ok hobs
    refine (all_ok (htbl ρ) fuel).2.2.2.1 f vs _ pc eouts he μ B w xs hx hM hp R ?_
    intro eo heo hpo
    obtain ⟨ob, hob, hmem⟩ := mapO_mem hl eo heo
    have hok := hobs ob hmem
    obtain ⟨epc, ev⟩ := eo
    cases ev with
    | none =>
      simp only [callOb, Option.some.injEq] at hob
      subst hob
      have := hok ρ hM.rows hpo _ (List.mem_singleton.2 rfl)
      simp [Eqn.ok] at this
    | some vm =>
      obtain ⟨v, m⟩ := vm
      simp only [callOb] at hob
      intro ν w' x hd hM'
      obtain ⟨x1, hx1, hex, hpx, es, hes, hall⟩ := pick_ok hM.rows hpo hob hok
      have hT : TRel Φ ρ (μ ++ ν) 1 [(0, v)] { tmps := #[x], defers := [] } := by
        refine ⟨rfl, fun u y hy => ?_, rfl⟩
        simp only [get] at hy
        split at hy
        · rename_i e
          have e := Nat.eq_of_beq_eq_true e
          subst e
          simp at hy; subst hy
          exact ⟨by simp, by simpa using hd⟩
        · cases hy
      obtain ⟨ν', hT', hM2⟩ := check_ok (a := { tmps := #[x], defers := [] }) hes hall hM.len hM.kle hT hM'
      have hr := hR (x1.pc, (get 0 x1.t).map fun v => (v, ⟨x1.o, x1.wr⟩)) (List.mem_map_of_mem hx1) hpx
      simp only at hr
      cases hg : get 0 x1.t with
      | none => rw [hg] at hr; exact hr.elim
      | some v0 =>
        rw [hg] at hr
        simp only [Option.map_some] at hr
        refine hr ν' w' x ?_ hM2
        have := (hT'.tm 0 v0 hg).2
        simpa using this
  · cases h

theorem enter_spec {T : Tm} {outs : List TOut} {ps : List Prim} {s' : St} {σ : Sb} {ids : List Nat} (h : enterT Φ T outs s = some (ps, s', σ, ids)) :
    runPrims s ps = some s' ∧ ids.length = T.o.length ∧ slotsAt s' (slotsSb Φ σ (ph ids s'.m.o.length) T.t) = true ∧ objsAt s'.m ids (T.o.map (AObj.sb Φ σ (ph ids s'.m.o.length))) = true ∧ ids.Nodup ∧ ∀ o ∈ outs, wf T o = true := by
  unfold enterT at h
  split at h
  · cases h
  · rename_i M hM
    split at h
    · rename_i s1 ids1 hs hids
      split at h
      · rename_i hc
        simp only [Bool.and_eq_true, List.all_eq_true] at hc
        obtain ⟨⟨⟨c1, c2⟩, c3⟩, c5⟩ := hc
        simp at h
        obtain ⟨rfl, rfl, rfl, rfl⟩ := h
        exact ⟨hs, ids_len hids, c1, c2, nodupB_ok c3, c5⟩
      · cases h
    · cases h

/-- A contract of a loop: one round, and the rest by the contract itself. -/
theorem loop_rule (htbl : ∀ ρ, TblOK Φ ρ P tbl) {fuel f n : Nat} {c : Code} {T : Tm} {meas : SI} {outs : List TOut} {obs : List Ob} (hsub : ∀ x ∈ loopsOf c, x ∈ fLoops P f)
    (h : loopObs Φ P tbl fuel f c n T meas outs = some obs) (hobs : ∀ ob ∈ obs, ob.ok Φ T.o) : TmLoop Φ P c n T outs := by
  unfold loopObs at h
  split at h
  case h_2 => cases h
  rename_i eouts he
  simp only [Option.map_eq_some_iff] at h
  obtain ⟨l, hl, rfl⟩ := h
  have hobs := trim_ok hobs
  have key : ∀ (N : Nat) (ρ : Env), (meas.ev Φ ρ).toNat ≤ N → LoopOK Φ ρ P c ⟨n, T.t, ⟨T.o, []⟩⟩ T.pc (outs.map fun x => ⟨x.pc, x.ex, ⟨n, x.t, ⟨x.o, x.wr⟩⟩⟩) := by
    intro N
    induction N with
    | zero => ?_
    | succ N ih => ?_
    all_goals
      intro ρ hN μ B w a hT hM hp Q hQ
      refine wpL_round ((all_ok (htbl ρ) fuel).2.2.2.2 f c _ T.pc eouts he hsub μ B w a hT hM hp _ ?_).1
      intro e hemem hpe ν a' w' hTe hMe
      obtain ⟨obl, hobl, hsubl⟩ := bindO_mem hl e hemem
      unfold roundOb at hobl
      split at hobl
      · cases hobl
      rename_i hen
      have hen : e.st.n = n := Nat.eq_of_beq_eq_true (by simpa using hen)
      cases hex : e.ex with
      | panic =>
        simp only [hex, Option.some.injEq] at hobl
        subst hobl
        have := hobs _ (hsubl _ (List.mem_singleton.2 rfl)) ρ hM.rows hpe _ (List.mem_singleton.2 rfl)
        simp [Eqn.ok] at this
      | norm =>
        simp only [hex] at hobl
        split at hobl
        · cases hobl
        · rename_i ps s' σ ids hent
          split at hobl
          case h_2 => cases hobl
          rename_i ag hag
          simp only [Option.some.injEq] at hobl
          subst hobl
          have h0 := asks_ok hpe (hobs _ (hsubl _ (List.mem_cons_self ..)) ρ hM.rows hpe)
          have m1 := h0 _ (List.mem_cons_self ..)
          have m2 := h0 _ (List.mem_cons_of_mem _ (List.mem_cons_self ..))
          simp [ev_sb] at m1 m2
          first
            | (exfalso; omega)
            | (
          obtain ⟨e1, e2, e3, e4, e5, e6⟩ := enter_spec hent
          obtain ⟨ν1, hT1, hM1⟩ := prims_ok e1 (μ ++ ν) B w' a' hTe hMe
          have hsn : s'.n = n := by have := hTe.sz; have := hT1.sz; omega
          have hfit := fits_of (T := T) hM1 e2 e4 e5
          have hpT : holds Φ (ρ.sb Φ σ) T.pc := by
            intro x hx
            have := h0 (x.sb Φ σ) (List.mem_cons_of_mem _ (List.mem_cons_of_mem _ (List.mem_map_of_mem hx)))
            rw [evB_sb] at this; exact this
          refine ih (ρ.sb Φ σ) (by omega) (subLoc (μ ++ ν ++ ν1) ids) ⟨w', T.o.length⟩ w' a' (hfit.enter (hsn ▸ hT1) e3) hfit.sub hpT Q ?_
          intro o ho hpo ν' a2 w2 hTo hM2
          obtain ⟨x, hxo, rfl⟩ := List.mem_map.1 ho
          simp only at hpo hTo hM2 ⊢
          obtain ⟨pc', hpc, hp'⟩ := addAll_ok (fs := x.pc.map (SB.sb Φ σ)) hpe (fun y hy => by
            obtain ⟨z, hz, rfl⟩ := List.mem_map.1 hy
            rw [evB_sb]; exact hpo z hz)
          obtain ⟨ob, hob, hobm⟩ := mapO_mem hag x hxo
          unfold againOb at hob
          rw [hpc] at hob
          simp only at hob
          split at hob
          case h_2 => cases hob
          rename_i es hes
          simp only [Option.some.injEq] at hob
          subst hob
          have hall := AllOK.app (hobs _ (hsubl _ (List.mem_cons_of_mem _ hobm)) ρ hM.rows hp')
          have hb := hfit.back (e6 x hxo) hM2
          have ht := hfit.leave hTo
          rw [List.append_assoc, List.append_assoc] at hb ht
          obtain ⟨ν2, hT3, hM3⟩ := check_ok (s := ⟨s'.n, _, _⟩) hes hall.2 hM.len hM.kle (hsn.symm ▸ ht) hb
          exact hQ _ (List.mem_map_of_mem hxo) (asks_ok hp' hall.1) ν2 a2 w2 (hsn ▸ hT3) hM3)
      | exit i =>
        simp only [hex] at hobl
        split at hobl
        case h_2 => cases hobl
        rename_i ob hob
        simp only [Option.some.injEq] at hobl
        subst hobl
        obtain ⟨x1, hx1, hxe, hpx, es, hes, hall⟩ := pick_ok hM.rows hpe hob (hobs _ (hsubl _ (List.mem_singleton.2 rfl)))
        obtain ⟨ν2, hT3, hM3⟩ := check_ok hes hall hM.len hM.kle hTe hMe
        have := hQ _ (List.mem_map_of_mem hx1) hpx ν2 a' w' (hen ▸ hT3) hM3
        simp only [hxe] at this
        exact this
      | ret =>
        simp only [hex] at hobl
        split at hobl
        case h_2 => cases hobl
        rename_i ob hob
        simp only [Option.some.injEq] at hobl
        subst hobl
        obtain ⟨x1, hx1, hxe, hpx, es, hes, hall⟩ := pick_ok hM.rows hpe hob (hobs _ (hsubl _ (List.mem_singleton.2 rfl)))
        obtain ⟨ν2, hT3, hM3⟩ := check_ok hes hall hM.len hM.kle hTe hMe
        have := hQ _ (List.mem_map_of_mem hx1) hpx ν2 a' w' (hen ▸ hT3) hM3
        simp only [hxe] at this
        exact this
  exact fun ρ => key _ ρ (Nat.le_refl _)

/-- What a law comes to: it returns true, and what was there stays. -/
def yesOut (o : List AObj) : TOut := ⟨[], .norm, [(0, .cv (.b (.c true)))], o, []⟩
theorem top_rule {f : Nat} {vs : List AV} {o : List AObj} {pc : List SB} {xs : List Value} (h : TmCall Φ P f vs o pc [yesOut o]) (hd : DenAll Φ ρ μ vs xs) (hM : MRel Φ ρ μ ⟨w, o.length⟩ ⟨o, []⟩ w) (hp : holds Φ ρ pc) :
    Calls P f xs.toArray w fun e w' => e = .returned (.bool true) ∧ Below w.heap.size w w' := by
  refine Calls.mono (h ρ μ ⟨w, o.length⟩ w xs hd hM hp (fun x w' => x = .bool true ∧ Below w.heap.size w w') ?_) fun e w' he => ?_
  · intro eo heo hpo
    simp only [List.map_cons, List.map_nil, List.mem_singleton] at heo
    subst heo
    intro ν w' x hx hM'
    simp only [den, denC, evB_c, Option.some.injEq] at hx
    refine ⟨hx.symm, hM'.os.1, hM'.os.2.1, hM'.os.2.2, hM'.sz, fun b hb => hM'.fr b hb fun i l hi => by cases hi⟩
  · obtain ⟨x, rfl, rfl, hb⟩ := he
    exact ⟨rfl, hb⟩

/-- No contracts; one more contract. -/
def noTbl : Tbl := ⟨fun _ => none, fun _ _ => none⟩
theorem noTbl_ok : TblOK Φ ρ P noTbl := by
  constructor
  · intro f g h; cases h
  · intro f id g h; cases h
structure FnC where
  f : Nat
  vs : List AV
  o : List AObj
  pc : List SB
  outs : List TOut
/-- Where one contract does not fit, the next is tried. -/
def orElse {α β γ : Type} (g : α → β → Option γ) (h : Option (α → β → Option γ)) (x : α) (y : β) : Option γ :=
  match g x y with
  | some r => some r
  | none => match h with
    | some k => k x y
    | none => none
def orElse3 (g : List AV → Mem → List SB → Outs) (h : Option (List AV → Mem → List SB → Outs)) (vs : List AV) (m : Mem) (pc : List SB) : Outs :=
  match g vs m pc with
  | some r => some r
  | none => match h with
    | some k => k vs m pc
    | none => none
def addFn (Φ : Sig) (t : Tbl) (c : FnC) : Tbl := ⟨fun f => if Nat.beq f c.f then some (orElse3 (applyCall Φ c.vs c.o c.pc c.outs) (t.fn f)) else t.fn f, t.lp⟩
def FnC.ok (Φ : Sig) (P : Program) (c : FnC) : Prop := TmCall Φ P c.f c.vs c.o c.pc c.outs
theorem addFn_ok {t : Tbl} {c : FnC} (ht : TblOK Φ ρ P t) (hc : c.ok Φ P) : TblOK Φ ρ P (addFn Φ t c) := by
  refine ⟨fun f g hg vs m pc outs h => ?_, ht.lp⟩
  simp only [addFn] at hg
  split at hg
  · rename_i e
    have e := Nat.eq_of_beq_eq_true e
    subst e
    simp at hg; subst hg
    unfold orElse3 at h
    split at h
    · rename_i r hr
      simp at h; subst h
      exact applyCall_ok hc hr
    · split at h
      · rename_i g hg; exact ht.fn _ g hg vs m pc outs h
      · cases h
  · exact ht.fn f g hg vs m pc outs h

/-- A loop, by its function and its first region. -/
structure LpC where
  f : Nat
  id : Nat
  n : Nat
  T : Tm
  outs : List TOut
def loopAt (P : Program) (f id : Nat) : Code := ((fLoops P f).filter fun c => firstReg c == some id).headD .skip
def oneLoop (P : Program) (f id : Nat) : Bool := ((fLoops P f).filter fun c => firstReg c == some id).length == 1
def LpC.ok (Φ : Sig) (P : Program) (c : LpC) : Prop := oneLoop P c.f c.id = true ∧ TmLoop Φ P (loopAt P c.f c.id) c.n c.T c.outs
def addLp (Φ : Sig) (t : Tbl) (c : LpC) : Tbl := ⟨t.fn, fun f id => if Nat.beq f c.f && Nat.beq id c.id then some (orElse (applyLoop Φ c.n c.T c.outs) (t.lp f id)) else t.lp f id⟩
theorem loopAt_eq {f id : Nat} {c : Code} (h : oneLoop P f id = true) (hc : c ∈ fLoops P f) (hi : firstReg c = some id) : c = loopAt P f id := by
  unfold oneLoop at h
  unfold loopAt
  have hm : c ∈ (fLoops P f).filter fun c => firstReg c == some id := List.mem_filter.2 ⟨hc, by simp [hi]⟩
  generalize (fLoops P f).filter (fun c => firstReg c == some id) = l at *
  match l, h, hm with
  | [x], _, hm => simpa using hm
theorem loopAt_mem {f id : Nat} (h : oneLoop P f id = true) : loopAt P f id ∈ fLoops P f := by
  unfold oneLoop at h
  have : loopAt P f id ∈ (fLoops P f).filter fun c => firstReg c == some id := by
    unfold loopAt
    generalize (fLoops P f).filter (fun c => firstReg c == some id) = l at *
    match l, h with
    | [x], _ => simp
  exact (List.mem_filter.1 this).1
theorem loops_sub : ∀ {b : Code} {c : Code}, c ∈ loopsOf b → ∀ x ∈ loopsOf c, x ∈ loopsOf b
  | .seq y z, c, h, x, hx => by
    simp only [loopsOf, List.mem_append] at h ⊢
    exact h.imp (fun h => loops_sub h x hx) (fun h => loops_sub h x hx)
  | .cond _ y z, c, h, x, hx => by
    simp only [loopsOf, List.mem_append] at h ⊢
    exact h.imp (fun h => loops_sub h x hx) (fun h => loops_sub h x hx)
  | .block _ y, c, h, x, hx => by
    simp only [loopsOf] at h ⊢
    exact loops_sub h x hx
  | .loop y, c, h, x, hx => by
    simp only [loopsOf, List.mem_cons] at h ⊢
    rcases h with rfl | h
    · exact .inr hx
    · exact .inr (loops_sub h x hx)
  | .skip, c, h, _, _ => by cases h
  | .region .., c, h, _, _ => by cases h
  | .rangeFunc .., c, h, _, _ => by cases h
  | .exit _, c, h, _, _ => by cases h
  | .scope _, c, h, _, _ => by cases h
  | .label _, c, h, _, _ => by cases h
  | .goto _, c, h, _, _ => by cases h
  | .ret, c, h, _, _ => by cases h
  | .refuse _, c, h, _, _ => by cases h
theorem loopAt_sub {f id : Nat} (h : oneLoop P f id = true) : ∀ x ∈ loopsOf (loopAt P f id), x ∈ fLoops P f := by
  have hm := loopAt_mem h
  generalize loopAt P f id = c at *
  unfold fLoops at hm ⊢
  split at hm
  · split at hm
    · exact loops_sub hm
    · cases hm
  · cases hm
theorem addLp_ok {t : Tbl} {c : LpC} (ht : TblOK Φ ρ P t) (hc : c.ok Φ P) : TblOK Φ ρ P (addLp Φ t c) := by
  refine ⟨ht.fn, fun f id g hg k hk hki s pc outs h => ?_⟩
  simp only [addLp] at hg
  split at hg
  · rename_i e
    rw [Bool.and_eq_true] at e
    have e1 := Nat.eq_of_beq_eq_true e.1
    have e2 := Nat.eq_of_beq_eq_true e.2
    subst e1; subst e2
    simp at hg; subst hg
    unfold orElse at h
    split at h
    · rename_i r hr
      simp at h; subst h
      rw [loopAt_eq hc.1 hk hki]
      exact applyLoop_ok hc.2 hr
    · split at h
      · rename_i g hg; exact ht.lp _ _ g hg k hk hki s pc outs h
      · cases h
  · exact ht.lp f id g hg k hk hki s pc outs h
end
end Go.SF
