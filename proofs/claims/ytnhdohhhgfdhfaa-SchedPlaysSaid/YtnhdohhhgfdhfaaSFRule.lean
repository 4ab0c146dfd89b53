/- How a contract is shown: of a call, of a loop; and what a law comes to. -/
import Derived.Test.YtnhdohhhgfdhfaaSFCheck
import Derived.Below
namespace Go.SF
open Go.RowKit
set_option linter.unusedVariables false
set_option linter.unusedSimpArgs false

def sameEx : Ex → Ex → Bool
  | .norm, .norm => true
  | .ret, .ret => true
  | .panic, .panic => true
  | .exit i, .exit j => Nat.beq i j
  | _, _ => false
theorem sameEx_eq {x y : Ex} (h : sameEx x y = true) : x = y := by
  cases x <;> cases y <;> simp only [sameEx, Bool.false_eq_true] at h <;> first | rfl | rw [Nat.eq_of_beq_eq_true h]

/-- The facts that are not known, as equations. -/
def asks (pc : List SB) : List SB → List Eqn
  | [] => []
  | x :: r => match known pc x with
    | some true => asks pc r
    | _ => .T x :: asks pc r
/-- What an outcome has drawn, put in: as it is found. -/
def TOut.sbd (Φ : Sig) (σ : Sb) (o : TOut) : TOut := ⟨o.pc.map (SB.sb Φ σ), o.ex, slotsSb Φ σ (fun i => i) o.t, o.o.map (AObj.sb Φ σ (fun i => i)), o.wr⟩
def instO (Φ : Sig) (k : Nat) (o : TOut) (s : St) : TOut :=
  if o.bl 1000 then o else match matchO k ⟨o.t, o.o, []⟩ s with
    | none => o
    | some M => o.sbd Φ ⟨M.i.filter fun x => Nat.ble 1000 x.1, M.b.filter fun x => Nat.ble 1000 x.1, M.l.filter fun x => Nat.ble 1000 x.1, 0⟩
/-- Two numbers that are written out and not the same. -/
def Eqn.bad : Eqn → Bool
  | .I (.c n) (.c m) => decide (n ≠ m)
  | .B (.c a) (.c b) => a != b
  | _ => false
def pick (Φ : Sig) (k : Nat) (pc : List SB) (ex : Ex) (s : St) : List TOut → Option Ob
  | [] => none
  | o :: r => if sameEx o.ex ex && !((instO Φ k o s).pc.any fun x => known pc x == some false) then
      match checkOut k (instO Φ k o s) s with
      | some es => if es.any Eqn.bad then pick Φ k pc ex s r else some ⟨pc, asks pc (instO Φ k o s).pc ++ es⟩
      | none => pick Φ k pc ex s r
    else pick Φ k pc ex s r
def mapO {α β : Type} (f : α → Option β) : List α → Option (List β)
  | [] => some []
  | x :: r => match f x, mapO f r with
    | some y, some l => some (y :: l)
    | _, _ => none

/-- What is left to be shown of a call. -/
def callOb (Φ : Sig) (k : Nat) (outs : List TOut) (o : List SB × Option (AV × Mem)) : Option Ob :=
  match o.2 with
  | none => some ⟨o.1, [.T (.c false)]⟩
  | some (v, m) => pick Φ k o.1 .norm ⟨1, [(0, v)], m⟩ outs
def Eqn.same : Eqn → Eqn → Bool
  | .I x y, .I x' y' => SI.same x x' && SI.same y y'
  | .B x y, .B x' y' => SB.same x x' && SB.same y y'
  | .L x y, .L x' y' => SL.same x x' && SL.same y y'
  | .T x, .T x' => SB.same x x'
  | _, _ => false
theorem Eqn.same_eq {x y : Eqn} (h : Eqn.same x y = true) : x = y := by
  cases x <;> cases y <;> simp only [Eqn.same, Bool.false_eq_true, Bool.and_eq_true] at h
  · rw [SI.same_eq _ _ h.1, SI.same_eq _ _ h.2]
  · rw [SB.same_eq _ _ h.1, SB.same_eq _ _ h.2]
  · rw [SL.same_eq _ _ h.1, SL.same_eq _ _ h.2]
  · rw [SB.same_eq _ _ h]
/-- What is to be shown of the second is shown by the first. -/
def Ob.covers (x y : Ob) : Bool := (x.pc.all fun p => y.pc.any fun q => SB.same p q) && y.eqs.all fun p => x.eqs.any fun q => Eqn.same p q
def trim : List Ob → List Ob
  | [] => []
  | o :: r => match o.eqs with
    | [] => trim r
    | _ => if (trim r).any fun x => x.covers o then trim r else o :: trim r
/-- What is told behind a 'true and' is gone through case by case. -/
def starts : List SB → List (List SB) → List (List SB)
  | [], acc => acc
  | .and (.c true) x :: r, acc => starts r (acc.flatMap fun pc => ((ways pc x).filter (·.1)).map (·.2))
  | _ :: r, acc => starts r acc
def runAll {α β : Type} (g : α → Option (List β)) : List α → Option (List β)
  | [] => some []
  | x :: r => match g x, runAll g r with
    | some l, some k => some (l ++ k)
    | _, _ => none
def callObs (Φ : Sig) (P : Program) (tbl : Tbl) (fuel f : Nat) (vs : List AV) (o : List AObj) (pc : List SB) (outs : List TOut) : Option (List Ob) :=
  if o.all (AObj.bl 1000) then
    match runAll (fun pc => exBody P tbl fuel f vs ⟨o, [], 1000⟩ pc) (starts pc [pc]) with
    | some eouts => (mapO (callOb Φ o.length outs) eouts).map trim
    | none => none
  else none

/-- A state seen as a pattern's. -/
def enterT (Φ : Sig) (T : Tm) (outs : List TOut) (s : St) (pc : List SB) : Option (List Prim × St × MS × List Nat) :=
  match matchT T s with
  | none => none
  | some M => match runPrims s M.pr.reverse, idsOf M.φ T.o.length 0 with
    | some s1, some ids =>
      if slotsAt s1 (slotsSb Φ ⟨M.i, M.b, M.l, s.m.nx - 1000⟩ (ph ids s1.m.o.length) T.t) && objsAt s1.m ids (T.o.map (AObj.sb Φ ⟨M.i, M.b, M.l, s.m.nx - 1000⟩ (ph ids s1.m.o.length))) && nodupB ids &&
          outs.all (fun o => wf T o && !isPan o.ex) && Nat.ble 1000 s.m.nx && (outs.all (TOut.bl 1000) || freshB M s.m.nx s1.m pc) then
        some (M.pr.reverse, s1, M, ids)
      else none
    | _, _ => none
def MS.sb (M : MS) (nx : Nat) : Sb := ⟨M.i, M.b, M.l, nx - 1000⟩
/-- The rest of the rounds ends so: is it what was told of all of them? -/
def againOb (Φ : Sig) (T : Tm) (outs : List TOut) (s : St) (nx : Nat) (σ : Sb) (ids : List Nat) (pc : List SB) (o : TOut) : Option Ob :=
  match addAll (o.pc.map (SB.sb Φ σ)) pc with
  | none => some ⟨pc, []⟩
  | some pc' =>
    let s' : St := ⟨s.n, slotsSb Φ σ (ph ids s.m.o.length) o.t, ⟨putAll s.m.o ids (o.o.map (AObj.sb Φ σ (ph ids s.m.o.length))), o.wr.map (ph ids s.m.o.length) ++ s.m.wr, nx + (o.nx - 1000)⟩⟩
    match checkOut T.o.length (instO Φ T.o.length o s') s' with
    | some es => some ⟨pc', asks pc' (instO Φ T.o.length o s').pc ++ es⟩
    | none => pick Φ T.o.length pc' o.ex s' outs
def roundOb (Φ : Sig) (n : Nat) (T : Tm) (meas : SI) (outs : List TOut) (e : Out) : Option (List Ob) :=
  if Nat.beq e.st.n n = false then none else
  match e.ex with
  | .panic => some [⟨e.pc, [.T (.c false)]⟩]
  | .norm => match enterT Φ T outs e.st e.pc with
    | none => none
    | some (_, s, M, ids) => match mapO (againOb Φ T outs s e.st.m.nx (M.sb e.st.m.nx) ids e.pc) outs with
      | some l => some (⟨e.pc, asks e.pc (mkLt (meas.sb Φ (M.sb e.st.m.nx)) meas :: mkLt (.c 0) meas :: T.pc.map (SB.sb Φ (M.sb e.st.m.nx)))⟩ :: l)
      | none => none
  | ex => match pick Φ T.o.length e.pc ex e.st outs with
    | some o => some [o]
    | none => none
def loopObs (Φ : Sig) (P : Program) (tbl : Tbl) (fuel f : Nat) (c : Code) (n : Nat) (T : Tm) (meas : SI) (outs : List TOut) : Option (List Ob) :=
  if T.o.all (AObj.bl 1000) && meas.bl 1000 && !isPart c then
    match runAll (fun pc => exCode P tbl fuel f c ⟨n, T.t, ⟨T.o, [], 1000⟩⟩ pc) (starts T.pc [T.pc]) with
    | some eouts => (bindO eouts (roundOb Φ n T meas outs)).map trim
    | none => none
  else none

section
variable {Φ : Sig} {ρ : Env} {μ : List Loc} {P : Program} {tbl : Tbl} {B : Base} {w : World} {s : St} {a : Act} {pc : List SB}

theorem mapO_mem {α β : Type} {f : α → Option β} : ∀ {l : List α} {r : List β}, mapO f l = some r → ∀ x ∈ l, ∃ y, f x = some y ∧ y ∈ r
  | [], r, _, x, hx => by cases hx
  | z :: l, r, h, x, hx => by
    simp only [mapO] at h
    split at h
    · rename_i y r' hy hr
      simp at h; subst h
      rcases List.mem_cons.1 hx with rfl | hx
      · exact ⟨y, hy, List.mem_cons_self ..⟩
      · obtain ⟨u, h1, h2⟩ := mapO_mem hr x hx
        exact ⟨u, h1, List.mem_cons_of_mem _ h2⟩
    · cases h

theorem trim_ok {K : List AObj} : ∀ {l : List Ob}, (∀ o ∈ trim l, o.ok Φ K) → ∀ o ∈ l, o.ok Φ K
  | [], _, o, ho => by cases ho
  | x :: r, h, o, ho => by
    simp only [trim] at h
    split at h
    · rename_i hx
      rcases List.mem_cons.1 ho with rfl | ho
      · intro ρ _ _ e he; rw [hx] at he; cases he
      · exact trim_ok h o ho
    · split at h
      · rename_i hc
        rcases List.mem_cons.1 ho with rfl | ho
        · obtain ⟨y, hy, hs⟩ := List.any_eq_true.1 hc
          simp only [Ob.covers, Bool.and_eq_true, List.all_eq_true] at hs
          intro ρ hK hp e he
          obtain ⟨e', he', hse⟩ := List.any_eq_true.1 (hs.2 e he)
          rw [Eqn.same_eq hse]
          refine h y hy ρ hK (fun p hp' => ?_) e' he'
          obtain ⟨q, hq, hsq⟩ := List.any_eq_true.1 (hs.1 p hp')
          rw [SB.same_eq _ _ hsq]; exact hp q hq
        · exact trim_ok h o ho
      · rcases List.mem_cons.1 ho with rfl | ho
        · exact h _ (List.mem_cons_self ..)
        · exact trim_ok (fun y hy => h y (List.mem_cons_of_mem _ hy)) o ho

theorem asks_ok (hp : holds Φ ρ pc) : ∀ {fs : List SB}, AllOK Φ ρ (asks pc fs) → holds Φ ρ fs
  | [], _ => holds_nil Φ ρ
  | x :: r, h => by
    simp only [asks] at h
    split at h
    · rename_i hk
      exact holds_cons Φ ρ (known_ok Φ ρ hp _ _ hk) (asks_ok hp h)
    · exact holds_cons Φ ρ (h _ (List.mem_cons_self ..)) (asks_ok hp fun e he => h e (List.mem_cons_of_mem _ he))

theorem mrel_bl {n : Nat} {ρ' : Env} {m : Mem} (ha : AgrB n ρ ρ') (hm : m.o.all (AObj.bl n) = true) (h : MRel Φ ρ μ B m w) : MRel Φ ρ' μ B m w := MRel.bl ha hm h
/-- An outcome, or one with what it has drawn put in. -/
def InstOf (Φ : Sig) (o o' : TOut) : Prop :=
  (o.bl 1000 = true ∧ o' = o) ∨ (o.bl 1000 = false ∧ ∃ σ : Sb, (∀ x ∈ σ.i, 1000 ≤ x.1) ∧ (∀ x ∈ σ.l, 1000 ≤ x.1) ∧ (∀ x ∈ σ.b, 1000 ≤ x.1) ∧ σ.d = 0 ∧ o' = o.sbd Φ σ)
theorem Sb.sh0 {σ : Sb} (h : σ.d = 0) (k : Nat) : σ.sh k = k := by simp [Sb.sh, h]
theorem inst_ok {k : Nat} {o : TOut} : InstOf Φ o (instO Φ k o s) ∨ (o.bl 1000 = false ∧ instO Φ k o s = o) := by
  unfold instO
  split
  · rename_i h; exact .inl (.inl ⟨h, rfl⟩)
  · rename_i h
    have h : o.bl 1000 = false := by simpa using h
    split
    · exact .inr ⟨h, rfl⟩
    · rename_i M _
      refine .inl (.inr ⟨h, _, ?_, ?_, ?_, rfl, rfl⟩)
      rotate_left 2
      · intro x hx; exact Nat.le_of_ble_eq_true (List.mem_filter.1 hx).2
      · intro x hx; exact Nat.le_of_ble_eq_true (List.mem_filter.1 hx).2
      · intro x hx; exact Nat.le_of_ble_eq_true (List.mem_filter.1 hx).2
theorem look_ge {α : Type} {l : List (Nat × α)} (h : ∀ x ∈ l, 1000 ≤ x.1) {k : Nat} (hk : k < 1000) : look k l = none := by
  cases e : look k l with
  | none => rfl
  | some v => have := h _ (mem_look e); simp at this; omega
theorem MRel.unsb {μ : List Loc} {o : List AObj} {wr : List Nat} {σ : Sb} {n0 n1 : Nat} (h : MRel Φ ρ μ B ⟨o.map (AObj.sb Φ σ (fun i => i)), wr, n0⟩ w) : MRel Φ (ρ.sb Φ σ) μ B ⟨o, wr, n1⟩ w := by
  have g : ∀ {i : Nat} {x : AObj}, o[i]? = some x → (o.map (AObj.sb Φ σ (fun i => i)))[i]? = some (x.sb Φ σ (fun i => i)) := by
    intro i x hx; rw [List.getElem?_map, hx]; rfl
  constructor
  · simpa using h.len
  · simpa using h.kle
  · exact fun i j oi oj li lj b hi hj he ha => h.apart i j _ _ li lj b (g hi) (g hj) (by rw [sb_excl]; exact he) (by rw [sb_alive]; exact ha)
  · exact fun i x l hx hl => (obj_sb (fun j => rfl) x w l).1 (h.obj i _ l (g hx) hl)
  · exact fun i x l hx ha => h.lt i _ l (g hx) (by rw [sb_alive]; exact ha)
  · exact h.fr
  · exact h.new
  · exact fun i j x li lj b hi hik hjk hj hx ha => h.wap i j _ li lj b hi hik hjk hj (g hx) (by rw [sb_alive]; exact ha)
  · exact h.sz
  · exact h.os
/-- What was found of an outcome, told of the outcome itself. -/
theorem inst_back {o o' : TOut} (h : InstOf Φ o o') {n1 n2 : Nat} {ρ1 : Env} (hρ : On 1000 ρ n1 ρ1) (hp : holds Φ ρ1 o'.pc) {μ : List Loc} (hM : MRel Φ ρ1 μ B ⟨o'.o, o'.wr, n2⟩ w) :
    ∃ ρ2, On 1000 ρ o.nx ρ2 ∧ o.ex = o'.ex ∧ holds Φ ρ2 o.pc ∧ MRel Φ ρ2 μ B ⟨o.o, o.wr, o.nx⟩ w ∧ (∀ n a, TRel Φ ρ1 μ n o'.t a → TRel Φ ρ2 μ n o.t a) := by
  rcases h with ⟨hb, rfl⟩ | ⟨hb, σ, h1, h2, h3, h4, rfl⟩
  · have hn : o'.nx = 1000 := by simp [TOut.nx, hb]
    simp only [TOut.bl, Bool.and_eq_true] at hb
    refine ⟨ρ, by rw [hn]; exact .refl, rfl, (holds_bl hρ.ag hb.1).1 hp, ?_, fun n a hT => hT.bl hρ.ag.symm hb.2.1⟩
    have := mrel_bl hρ.ag.symm hb.2.2 hM
    exact { this with }
  · have hn : o.nx = 2000 := by simp [TOut.nx, hb]
    refine ⟨ρ1.sb Φ σ, ⟨by omega, ⟨fun k hk => ?_, fun k hk => ?_, fun k hk => ?_⟩, fun e => by omega⟩, rfl, fun x hx => ?_, hM.unsb, fun n a hT => ⟨hT.sz, fun u v hv => ?_, hT.df⟩⟩
    · simp only [Env.sb, look_ge h1 hk, Sb.sh0 h4]; exact hρ.ag.i k hk
    · simp only [Env.sb, look_ge h2 hk, Sb.sh0 h4]; exact hρ.ag.l k hk
    · simp only [Env.sb, look_ge h3 hk, Sb.sh0 h4]; exact hρ.ag.b k hk
    · rw [← evB_sb]; exact hp _ (List.mem_map_of_mem hx)
    · obtain ⟨g1, g2⟩ := hT.tm u (v.sb Φ σ (fun i => i)) (by show get u (slotsSb Φ σ _ o.t) = _; rw [get_slotsSb, hv]; rfl)
      exact ⟨g1, by rw [← den_sb (φ := fun i => i) (μ := μ) (fun j => rfl)]; exact g2⟩

theorem pick_ok {K : List AObj} (hK : RowsOK Φ ρ K) (hp : holds Φ ρ pc) {k : Nat} {ex : Ex} : ∀ {outs : List TOut} {ob : Ob}, pick Φ k pc ex s outs = some ob → ob.ok Φ K →
    ∃ o ∈ outs, ∃ o', o.ex = ex ∧ o' = instO Φ k o s ∧ holds Φ ρ o'.pc ∧ ∃ es, checkOut k o' s = some es ∧ AllOK Φ ρ es
  | [], ob, h, _ => by simp [pick] at h
  | o :: r, ob, h, hok => by
    simp only [pick] at h
    split at h
    · rename_i hc
      rw [Bool.and_eq_true] at hc
      split at h
      · rename_i es hes
        split at h
        · obtain ⟨o', h1, h2⟩ := pick_ok hK hp h hok
          exact ⟨o', List.mem_cons_of_mem _ h1, h2⟩
        simp at h; subst h
        have := AllOK.app (hok ρ hK hp)
        exact ⟨o, List.mem_cons_self .., _, sameEx_eq hc.1, rfl, asks_ok hp this.1, es, hes, this.2⟩
      · obtain ⟨o', h1, h2⟩ := pick_ok hK hp h hok
        exact ⟨o', List.mem_cons_of_mem _ h1, h2⟩
    · obtain ⟨o', h1, h2⟩ := pick_ok hK hp h hok
      exact ⟨o', List.mem_cons_of_mem _ h1, h2⟩

/-- What was found is one of the outcomes that were told. -/
theorem pick_back {K : List AObj} {n1 : Nat} {ρ1 : Env} (hρ : On 1000 ρ n1 ρ1) (hK : RowsOK Φ ρ1 K) (hp : holds Φ ρ1 pc) {k : Nat} {ex : Ex} {outs : List TOut} {ob : Ob} (h : pick Φ k pc ex s outs = some ob) (hok : ob.ok Φ K)
    {μ0 ν : List Loc} (hk : μ0.length = k) (hB : B.k ≤ k) (hT : TRel Φ ρ1 (μ0 ++ ν) s.n s.t a) (hM : MRel Φ ρ1 (μ0 ++ ν) B s.m w) :
    ∃ o ∈ outs, o.ex = ex ∧ ∃ ρ2 ν', On 1000 ρ o.nx ρ2 ∧ holds Φ ρ2 o.pc ∧ TRel Φ ρ2 (μ0 ++ ν') s.n o.t a ∧ MRel Φ ρ2 (μ0 ++ ν') B ⟨o.o, o.wr, o.nx⟩ w := by
  obtain ⟨o, ho, o', hex, he, hpo, es, hes, hall⟩ := pick_ok hK hp h hok
  obtain ⟨ν', hT', hM'⟩ := check_ok (n1 := 0) hes hall hk hB hT hM
  rcases inst_ok (Φ := Φ) (k := k) (o := o) (s := s) with hi | ⟨hb, hi⟩
  · rw [← he] at hi
    obtain ⟨ρ2, r1, _, r3, r4, r5⟩ := inst_back hi hρ hpo hM'
    exact ⟨o, ho, hex, ρ2, ν', r1, r3, r5 _ _ hT', r4⟩
  · rw [← he] at hi
    subst hi
    have hn : o'.nx = 2000 := by simp [TOut.nx, hb]
    refine ⟨o', ho, hex, ρ1, ν', ⟨by omega, hρ.ag, fun e => by omega⟩, hpo, hT', { hM' with }⟩

theorem starts_ok : ∀ {fs : List SB} {acc : List (List SB)}, holds Φ ρ fs → (∃ p ∈ acc, holds Φ ρ p) → ∃ p ∈ starts fs acc, holds Φ ρ p
  | [], acc, _, h => h
  | f :: fs, acc, hf, h => by
    have hr : holds Φ ρ fs := fun x hx => hf x (List.mem_cons_of_mem _ hx)
    have key : ∀ x, f = .and (.c true) x → ∃ p ∈ starts (f :: fs) acc, holds Φ ρ p := by
      rintro x rfl
      simp only [starts]
      refine starts_ok hr ?_
      obtain ⟨p, hp, hh⟩ := h
      obtain ⟨b, p', hm, hb, hp'⟩ := ways_ok Φ ρ x hh
      have hx := hf _ (List.mem_cons_self ..)
      simp only [evB_and, evB_c, Bool.true_and] at hx
      have : b = true := by rw [← hb]; exact hx
      subst this
      exact ⟨p', List.mem_flatMap.2 ⟨p, hp, List.mem_map.2 ⟨(true, p'), List.mem_filter.2 ⟨hm, rfl⟩, rfl⟩⟩, hp'⟩
    by_cases hf' : ∃ x, f = .and (.c true) x
    · obtain ⟨x, hx⟩ := hf'; exact key x hx
    · rw [starts]
      · exact starts_ok hr h
      · exact fun x hx => hf' ⟨x, hx⟩
theorem starts_one {pc : List SB} (hp : holds Φ ρ pc) : ∃ p ∈ starts pc [pc], holds Φ ρ p := starts_ok hp ⟨pc, List.mem_singleton.2 rfl, hp⟩
theorem runAll_mem {α β : Type} {g : α → Option (List β)} : ∀ {l : List α} {r : List β}, runAll g l = some r → ∀ x ∈ l, ∃ k, g x = some k ∧ ∀ y ∈ k, y ∈ r
  | [], r, _, x, hx => by cases hx
  | a :: l, r, h, x, hx => by
    simp only [runAll] at h
    split at h
    · rename_i k1 k2 h1 h2
      simp at h; subst h
      rcases List.mem_cons.1 hx with rfl | hx
      · exact ⟨k1, h1, fun y hy => List.mem_append.2 (.inl hy)⟩
      · obtain ⟨k, h3, h4⟩ := runAll_mem h2 x hx
        exact ⟨k, h3, fun y hy => List.mem_append.2 (.inr (h4 y hy))⟩
    · cases h
/-- A contract of a call, shown by going through its text. -/
theorem call_rule (htbl : ∀ ρ, TblOK Φ ρ P tbl) {fuel f : Nat} {vs : List AV} {o : List AObj} {pc : List SB} {outs : List TOut} {obs : List Ob} (h : callObs Φ P tbl fuel f vs o pc outs = some obs) (hobs : ∀ ob ∈ obs, ob.ok Φ o) :
    TmCall Φ P f vs o pc outs := by
  intro ρ μ B w xs hx hM hp R hR
  unfold callObs at h
  split at h
  case isFalse => cases h
  rename_i hbl
  split at h
  · rename_i eouts he
    simp only [Option.map_eq_some_iff] at h
    obtain ⟨l, hl, rfl⟩ := h
    have hobs := trim_ok hobs
    obtain ⟨pc0, hpc0, hp0⟩ := starts_one hp
    obtain ⟨eouts0, he0, hsub0⟩ := runAll_mem he pc0 hpc0
    refine body_ok (all_ok (R := fun _ => True) (fun _ _ _ _ _ _ => trivial) (fun ρ _ => htbl ρ) fuel ρ trivial).code he0 μ B w xs hx hM hp0 R ?_
    intro eo heo
    obtain ⟨ob, hob, hmem⟩ := mapO_mem hl eo (hsub0 eo heo)
    have hok := hobs ob hmem
    obtain ⟨epc, ev⟩ := eo
    cases ev with
    | none =>
      simp only [callOb, Option.some.injEq] at hob
      subst hob
      intro ρ1 hρ hpo
      have := hok ρ1 (mrel_bl hρ hbl hM).rows hpo _ (List.mem_singleton.2 rfl)
      simp [Eqn.ok] at this
    | some vm =>
      obtain ⟨v, m⟩ := vm
      simp only [callOb] at hob
      intro ρ1 hρ hpo ν w' x hd hM'
      have hT : TRel Φ ρ1 (μ ++ ν) 1 [(0, v)] { tmps := #[x], defers := [] } := by
        refine ⟨rfl, fun u y hy => ?_, rfl⟩
        simp only [get] at hy
        split at hy
        · rename_i e
          have e := Nat.eq_of_beq_eq_true e
          subst e
          simp at hy; subst hy
          exact ⟨by simp, by simpa using hd⟩
        · cases hy
      obtain ⟨x1, hx1, hex, ρ2, ν', hρ2, hp2, hT2, hM2⟩ := pick_back hρ (mrel_bl hρ.ag hbl hM).rows hpo hob hok hM.len hM.kle hT hM'
      have hr := hR (x1.pc, (get 0 x1.t).map fun v => (v, ⟨x1.o, x1.wr, x1.nx⟩)) (List.mem_map_of_mem hx1)
      simp only at hr
      cases hg : get 0 x1.t with
      | none => rw [hg] at hr; exact absurd hp2 (hr ρ2 hρ2.ag)
      | some v0 =>
        rw [hg] at hr
        simp only [Option.map_some] at hr
        refine hr ρ2 hρ2 hp2 ν' w' x ?_ hM2
        have := (hT2.tm 0 v0 hg).2
        simpa using this
  · cases h

structure Enter (Φ : Sig) (T : Tm) (outs : List TOut) (s : St) (pc : List SB) (ps : List Prim) (s' : St) (M : MS) (ids : List Nat) : Prop where
  prims : runPrims s ps = some s'
  len : ids.length = T.o.length
  slots : slotsAt s' (slotsSb Φ (M.sb s.m.nx) (ph ids s'.m.o.length) T.t) = true
  objs : objsAt s'.m ids (T.o.map (AObj.sb Φ (M.sb s.m.nx) (ph ids s'.m.o.length))) = true
  nd : ids.Nodup
  nx : 1000 ≤ s.m.nx
  wf : ∀ o ∈ outs, wf T o = true ∧ isPan o.ex = false
  fresh : (∀ o ∈ outs, o.bl 1000 = true) ∨ freshB M s.m.nx s'.m pc = true
theorem enter_spec {T : Tm} {outs : List TOut} {ps : List Prim} {s' : St} {M : MS} {ids : List Nat} (h : enterT Φ T outs s pc = some (ps, s', M, ids)) : Enter Φ T outs s pc ps s' M ids := by
  unfold enterT at h
  split at h
  · cases h
  · rename_i M hM
    split at h
    · rename_i s1 ids1 hs hids
      split at h
      · rename_i hc
        simp only [Bool.and_eq_true, List.all_eq_true, Bool.not_eq_true', Bool.or_eq_true] at hc
        obtain ⟨⟨⟨⟨⟨c1, c2⟩, c3⟩, c5⟩, c6⟩, c7⟩ := hc
        simp at h
        obtain ⟨rfl, rfl, rfl, rfl⟩ := h
        exact ⟨hs, ids_len hids, c1, c2, nodupB_ok c3, Nat.le_of_ble_eq_true c6, c5, c7⟩
      · cases h
    · cases h

/-- A contract of a loop: one round, and the rest by the contract itself. -/
theorem loop_rule (htbl : ∀ ρ, TblOK Φ ρ P tbl) {fuel f n : Nat} {c : Code} {T : Tm} {meas : SI} {outs : List TOut} {obs : List Ob} (hsub : ∀ x ∈ loopsOf c, x ∈ fLoops P f)
    (h : loopObs Φ P tbl fuel f c n T meas outs = some obs) (hobs : ∀ ob ∈ obs, ob.ok Φ T.o) : TmLoop Φ P c n T outs := by
  unfold loopObs at h
  split at h
  case isFalse => cases h
  rename_i hbl
  rw [Bool.and_eq_true, Bool.and_eq_true] at hbl
  obtain ⟨⟨hbl, hml⟩, hpart⟩ := hbl
  rw [Bool.not_eq_true'] at hpart
  split at h
  case h_2 => cases h
  rename_i eouts he
  simp only [Option.map_eq_some_iff] at h
  obtain ⟨l, hl, rfl⟩ := h
  have hobs := trim_ok hobs
  have key : ∀ (N : Nat) (ρ : Env), (meas.ev Φ ρ).toNat ≤ N → LoopOK Φ ρ P c ⟨n, T.t, ⟨T.o, [], 1000⟩⟩ T.pc (outs.map fun x => ⟨x.pc, x.ex, ⟨n, x.t, ⟨x.o, x.wr, x.nx⟩⟩⟩) := by
    intro N
    induction N with
    | zero => ?_
    | succ N ih => ?_
    all_goals
      intro ρ hN μ B w a hT hM hp Q hQ
      obtain ⟨pc0, hpc0, hp0⟩ := starts_one hp
      obtain ⟨eouts0, he0, hsub0⟩ := runAll_mem he pc0 hpc0
      rw [hpart]
      refine wpL_round ((all_ok (R := fun _ => True) (fun _ _ _ _ _ _ => trivial) (fun ρ _ => htbl ρ) fuel ρ trivial).code f c _ pc0 eouts0 he0 hsub μ B w a hT hM hp0 _ ?_).1
      intro e hemem
      obtain ⟨obl, hobl, hsubl⟩ := bindO_mem hl e (hsub0 e hemem)
      unfold roundOb at hobl
      split at hobl
      · cases hobl
      rename_i hen
      have hen : e.st.n = n := Nat.eq_of_beq_eq_true (by simpa using hen)
      cases hex : e.ex with
      | panic =>
        simp only [hex, Option.some.injEq] at hobl
        subst hobl
        have no : ∀ ρ1, AgrB 1000 ρ ρ1 → ¬ holds Φ ρ1 e.pc := fun ρ1 hρ hpe => by
          have := hobs _ (hsubl _ (List.mem_singleton.2 rfl)) ρ1 (mrel_bl hρ hbl hM).rows hpe _ (List.mem_singleton.2 rfl)
          simp [Eqn.ok] at this
        exact ⟨fun _ => no, fun ρ1 hρ hpe => absurd hpe (no ρ1 hρ.ag)⟩
      | norm =>
        refine ⟨fun e => (by cases e), fun ρ1 hρ hpe ν a' w' hTe hMe => ?_⟩
        have hrows := (mrel_bl hρ.ag hbl hM).rows
        simp only [hex] at hobl
        split at hobl
        · cases hobl
        · rename_i ps s' M ids hent
          split at hobl
          case h_2 => cases hobl
          rename_i ag hag
          simp only [Option.some.injEq] at hobl
          subst hobl
          have h0 := asks_ok hpe (hobs _ (hsubl _ (List.mem_cons_self ..)) ρ1 hrows hpe)
          have m1 := h0 _ (List.mem_cons_self ..)
          have m2 := h0 _ (List.mem_cons_of_mem _ (List.mem_cons_self ..))
          simp [ev_sb] at m1 m2
          have m3 : meas.ev Φ ρ1 = meas.ev Φ ρ := ev_bl hρ.ag meas hml
          rw [m3] at m1 m2
          first
            | (exfalso; omega)
            | (
          have E := enter_spec hent
          obtain ⟨ν1, hT1, hM1⟩ := prims_ok E.prims (μ ++ ν) B w' a' hTe hMe
          have hsn : s'.n = n := by have := hTe.sz; have := hT1.sz; omega
          have hfit := fits_of (T := T) hM1 E.len E.objs E.nd
          have hpT : holds Φ (ρ1.sb Φ (M.sb e.st.m.nx)) T.pc := by
            intro x hx
            have := h0 (x.sb Φ (M.sb e.st.m.nx)) (List.mem_cons_of_mem _ (List.mem_cons_of_mem _ (List.mem_map_of_mem hx)))
            rw [evB_sb] at this; exact this
          have ih' := ih (ρ1.sb Φ (M.sb e.st.m.nx)) (by omega)
          unfold LoopOK at ih'
          rw [hpart] at ih'
          refine ih' (subLoc (μ ++ ν ++ ν1) ids) ⟨w', T.o.length⟩ w' a' (hfit.enter (hsn ▸ hT1) E.slots) hfit.sub hpT Q ?_
          intro o ho
          obtain ⟨x, hxo, rfl⟩ := List.mem_map.1 ho
          refine ⟨fun e' => (by have := (E.wf x hxo).2; simp only at e'; rw [e'] at this; cases this), fun ρT hρT hpo ν' a2 w2 hTo hM2 => ?_⟩
          simp only at hpo hTo hM2 ⊢
          obtain ⟨ρ2, hρ2, hsb, hfit2, hpe2⟩ := shift_back E.nx rfl E.fresh E.len E.objs E.nd hM1 hpe hxo hρT
          subst hsb
          have hρ02 := hρ.trans hρ2
          obtain ⟨pc', hpc, hp'⟩ := addAll_ok (fs := x.pc.map (SB.sb Φ (M.sb e.st.m.nx))) hpe2 (fun y hy => by
            obtain ⟨z, hz, rfl⟩ := List.mem_map.1 hy
            rw [evB_sb]; exact hpo z hz)
          obtain ⟨ob, hob, hobm⟩ := mapO_mem hag x hxo
          unfold againOb at hob
          rw [hpc] at hob
          simp only at hob
          have hb := hfit2.back (n1 := e.st.m.nx + (x.nx - 1000)) (E.wf x hxo).1 hM2
          have ht := hfit2.leave hTo
          rw [List.append_assoc, List.append_assoc] at hb ht
          split at hob
          case h_2 =>
            obtain ⟨x1, hx1, hxe, ρ3, ν2, hρ3, hp3, hT3, hM3⟩ := pick_back (s := ⟨s'.n, _, _⟩) hρ02 (mrel_bl hρ02.ag hbl hM).rows hp' hob (hobs _ (hsubl _ (List.mem_cons_of_mem _ hobm))) hM.len hM.kle (hsn.symm ▸ ht) hb
            have := (hQ _ (List.mem_map_of_mem hx1)).2 ρ3 hρ3 hp3 ν2 a2 w2 (hsn ▸ hT3) hM3
            simp only [hxe] at this
            exact this
          rename_i es hes
          simp only [Option.some.injEq] at hob
          subst hob
          have hall := AllOK.app (hobs _ (hsubl _ (List.mem_cons_of_mem _ hobm)) ρ2 (mrel_bl hρ02.ag hbl hM).rows hp')
          obtain ⟨ν2, hT3, hM3⟩ := check_ok (n1 := 0) (s := ⟨s'.n, _, _⟩) hes hall.2 hM.len hM.kle (hsn.symm ▸ ht) hb
          have hpx := asks_ok hp' hall.1
          have fin : ∃ ρ3, On 1000 ρ x.nx ρ3 ∧ holds Φ ρ3 x.pc ∧ MRel Φ ρ3 (μ ++ ν2) B ⟨x.o, x.wr, x.nx⟩ w2 ∧ TRel Φ ρ3 (μ ++ ν2) s'.n x.t a2 := by
            rcases inst_ok (Φ := Φ) (k := T.o.length) (o := x) (s := ⟨s'.n, slotsSb Φ (M.sb e.st.m.nx) (ph ids s'.m.o.length) x.t, ⟨putAll s'.m.o ids (x.o.map (AObj.sb Φ (M.sb e.st.m.nx) (ph ids s'.m.o.length))), x.wr.map (ph ids s'.m.o.length) ++ s'.m.wr, e.st.m.nx + (x.nx - 1000)⟩⟩) with hi | ⟨hb, hi⟩
            · obtain ⟨ρ3, r1, _, r3, r4, r5⟩ := inst_back hi hρ02 hpx hM3
              exact ⟨ρ3, r1, r3, r4, r5 _ _ hT3⟩
            · rw [hi] at hpx hM3 hT3
              have hn : x.nx = 2000 := by simp [TOut.nx, hb]
              exact ⟨ρ2, ⟨by omega, hρ02.ag, fun e' => by omega⟩, hpx, { hM3 with }, hT3⟩
          obtain ⟨ρ3, r1, r2, r3, r4⟩ := fin
          exact (hQ _ (List.mem_map_of_mem hxo)).2 ρ3 r1 r2 ν2 a2 w2 (hsn ▸ r4) r3)
      | exit i =>
        refine ⟨fun e => (by cases e), fun ρ1 hρ hpe ν a' w' hTe hMe => ?_⟩
        simp only [hex] at hobl
        split at hobl
        case h_2 => cases hobl
        rename_i ob hob
        simp only [Option.some.injEq] at hobl
        subst hobl
        obtain ⟨x1, hx1, hxe, ρ2, ν2, hρ2, hp2, hT2, hM2⟩ := pick_back hρ (mrel_bl hρ.ag hbl hM).rows hpe hob (hobs _ (hsubl _ (List.mem_singleton.2 rfl))) hM.len hM.kle hTe hMe
        have := (hQ _ (List.mem_map_of_mem hx1)).2 ρ2 hρ2 hp2 ν2 a' w' (hen ▸ hT2) hM2
        simp only [hxe] at this
        exact this
      | ret =>
        refine ⟨fun e => (by cases e), fun ρ1 hρ hpe ν a' w' hTe hMe => ?_⟩
        simp only [hex] at hobl
        split at hobl
        case h_2 => cases hobl
        rename_i ob hob
        simp only [Option.some.injEq] at hobl
        subst hobl
        obtain ⟨x1, hx1, hxe, ρ2, ν2, hρ2, hp2, hT2, hM2⟩ := pick_back hρ (mrel_bl hρ.ag hbl hM).rows hpe hob (hobs _ (hsubl _ (List.mem_singleton.2 rfl))) hM.len hM.kle hTe hMe
        have := (hQ _ (List.mem_map_of_mem hx1)).2 ρ2 hρ2 hp2 ν2 a' w' (hen ▸ hT2) hM2
        simp only [hxe] at this
        exact this
  exact fun ρ => key _ ρ (Nat.le_refl _)

/-- What is left to be shown of a block, or a case. -/
def partOb (Φ : Sig) (n k : Nat) (outs : List TOut) (e : Out) : Option Ob :=
  if Nat.beq e.st.n n = false then none else
  match e.ex with
  | .panic => some ⟨e.pc, [.T (.c false)]⟩
  | ex => pick Φ k e.pc ex e.st outs
def partObs (Φ : Sig) (P : Program) (tbl : Tbl) (fuel f : Nat) (c : Code) (n : Nat) (T : Tm) (outs : List TOut) : Option (List Ob) :=
  if T.o.all (AObj.bl 1000) && isPart c then
    match runAll (fun pc => exCode P tbl fuel f c ⟨n, T.t, ⟨T.o, [], 1000⟩⟩ pc) (starts T.pc [T.pc]) with
    | some eouts => (mapO (partOb Φ n T.o.length outs) eouts).map trim
    | none => none
  else none
/-- A contract of a block, or a case. -/
theorem part_rule (htbl : ∀ ρ, TblOK Φ ρ P tbl) {fuel f n : Nat} {c : Code} {T : Tm} {outs : List TOut} {obs : List Ob} (hsub : ∀ x ∈ loopsOf c, x ∈ fLoops P f)
    (h : partObs Φ P tbl fuel f c n T outs = some obs) (hobs : ∀ ob ∈ obs, ob.ok Φ T.o) : TmLoop Φ P c n T outs := by
  unfold partObs at h
  split at h
  case isFalse => cases h
  rename_i hbl
  rw [Bool.and_eq_true] at hbl
  obtain ⟨hbl, hpart⟩ := hbl
  split at h
  case h_2 => cases h
  rename_i eouts he
  simp only [Option.map_eq_some_iff] at h
  obtain ⟨l, hl, rfl⟩ := h
  have hobs := trim_ok hobs
  intro ρ μ B w a hT hM hp Q hQ
  obtain ⟨pc0, hpc0, hp0⟩ := starts_one hp
  obtain ⟨eouts0, he0, hsub0⟩ := runAll_mem he pc0 hpc0
  rw [hpart]
  refine ((all_ok (R := fun _ => True) (fun _ _ _ _ _ _ => trivial) (fun ρ _ => htbl ρ) fuel ρ trivial).code f c _ pc0 eouts0 he0 hsub μ B w a hT hM hp0 Q ?_).1
  intro e hemem
  obtain ⟨ob, hob, hobm⟩ := mapO_mem hl e (hsub0 e hemem)
  unfold partOb at hob
  split at hob
  · cases hob
  rename_i hen
  have hen : e.st.n = n := Nat.eq_of_beq_eq_true (by simpa using hen)
  have go : ∀ {ex : Ex}, e.ex = ex → pick Φ T.o.length e.pc ex e.st outs = some ob → ∀ ρ1, On 1000 ρ e.st.m.nx ρ1 → holds Φ ρ1 e.pc → ∀ ν a' w', TRel Φ ρ1 (μ ++ ν) e.st.n e.st.t a' → MRel Φ ρ1 (μ ++ ν) B e.st.m w' → toQ Q ex a' w' := by
    intro ex hex hob ρ1 hρ hpe ν a' w' hTe hMe
    obtain ⟨x1, hx1, hxe, ρ2, ν2, hρ2, hp2, hT2, hM2⟩ := pick_back hρ (mrel_bl hρ.ag hbl hM).rows hpe hob (hobs _ hobm) hM.len hM.kle hTe hMe
    have := (hQ _ (List.mem_map_of_mem hx1)).2 ρ2 hρ2 hp2 ν2 a' w' (hen ▸ hT2) hM2
    simp only [hxe] at this
    exact this
  cases hex : e.ex with
  | panic =>
    simp only [hex, Option.some.injEq] at hob
    subst hob
    have no : ∀ ρ1, AgrB 1000 ρ ρ1 → ¬ holds Φ ρ1 e.pc := fun ρ1 hρ hpe => by
      have := hobs _ hobm ρ1 (mrel_bl hρ hbl hM).rows hpe _ (List.mem_singleton.2 rfl)
      simp [Eqn.ok] at this
    exact ⟨fun _ => no, fun ρ1 hρ hpe => absurd hpe (no ρ1 hρ.ag)⟩
  | norm =>
    simp only [hex] at hob
    exact ⟨fun e => (by cases e), fun ρ1 hρ hpe ν a' w' hTe hMe => go hex hob ρ1 hρ hpe ν a' w' hTe hMe⟩
  | exit i =>
    simp only [hex] at hob
    exact ⟨fun e => (by cases e), fun ρ1 hρ hpe ν a' w' hTe hMe => go hex hob ρ1 hρ hpe ν a' w' hTe hMe⟩
  | ret =>
    simp only [hex] at hob
    exact ⟨fun e => (by cases e), fun ρ1 hρ hpe ν a' w' hTe hMe => go hex hob ρ1 hρ hpe ν a' w' hTe hMe⟩

/-- What a law comes to: it returns true, and what was there stays. -/
def yesOut (o : List AObj) : TOut := ⟨[], .norm, [(0, .cv (.b (.c true)))], o, []⟩
theorem top_rule {f : Nat} {vs : List AV} {o : List AObj} {pc : List SB} {xs : List Value} (h : TmCall Φ P f vs o pc [yesOut o]) (hd : DenAll Φ ρ μ vs xs) (hM : MRel Φ ρ μ ⟨w, o.length⟩ ⟨o, [], 1000⟩ w) (hp : holds Φ ρ pc) :
    Calls P f xs.toArray w fun e w' => e = .returned (.bool true) ∧ Below w.heap.size w w' := by
  refine Calls.mono (h ρ μ ⟨w, o.length⟩ w xs hd hM hp (fun x w' => x = .bool true ∧ Below w.heap.size w w') ?_) fun e w' he => ?_
  · intro eo heo
    simp only [List.map_cons, List.map_nil, List.mem_singleton] at heo
    subst heo
    intro ρ' hρ hpo ν w' x hx hM'
    simp only [den, denC, evB_c, Option.some.injEq] at hx
    refine ⟨hx.symm, hM'.os.1, hM'.os.2.1, hM'.os.2.2, hM'.sz, fun b hb => hM'.fr b hb fun i l hi => by cases hi⟩
  · obtain ⟨x, rfl, rfl, hb⟩ := he
    exact ⟨rfl, hb⟩

/-- No contracts; one more contract. -/
def noTbl : Tbl := ⟨fun _ => none, fun _ _ => none⟩
theorem noTbl_ok : TblOK Φ ρ P noTbl := by
  constructor
  · intro f g h; cases h
  · intro f id g h; cases h
structure FnC where
  f : Nat
  vs : List AV
  o : List AObj
  pc : List SB
  outs : List TOut
/-- Where one contract does not fit, the next is tried. -/
def orElse {α β γ : Type} (g : α → β → Option γ) (h : Option (α → β → Option γ)) (x : α) (y : β) : Option γ :=
  match g x y with
  | some r => some r
  | none => match h with
    | some k => k x y
    | none => none
def orElse3 (g : List AV → Mem → List SB → Outs) (h : Option (List AV → Mem → List SB → Outs)) (vs : List AV) (m : Mem) (pc : List SB) : Outs :=
  match g vs m pc with
  | some r => some r
  | none => match h with
    | some k => k vs m pc
    | none => none
def addFn (Φ : Sig) (t : Tbl) (c : FnC) : Tbl := ⟨fun f => if Nat.beq f c.f then some (orElse3 (applyCall Φ c.vs c.o c.pc c.outs) (t.fn f)) else t.fn f, t.lp⟩
def FnC.ok (Φ : Sig) (P : Program) (c : FnC) : Prop := TmCall Φ P c.f c.vs c.o c.pc c.outs
theorem addFn_ok {t : Tbl} {c : FnC} (ht : TblOK Φ ρ P t) (hc : c.ok Φ P) : TblOK Φ ρ P (addFn Φ t c) := by
  refine ⟨fun f g hg vs m pc outs h => ?_, ht.lp⟩
  simp only [addFn] at hg
  split at hg
  · rename_i e
    have e := Nat.eq_of_beq_eq_true e
    subst e
    simp at hg; subst hg
    unfold orElse3 at h
    split at h
    · rename_i r hr
      simp at h; subst h
      exact applyCall_ok hc hr
    · split at h
      · rename_i g hg; exact ht.fn _ g hg vs m pc outs h
      · cases h
  · exact ht.fn f g hg vs m pc outs h

/-- A loop, by its function and its first region. -/
structure LpC where
  f : Nat
  id : Nat
  n : Nat
  T : Tm
  outs : List TOut
def loopAt (P : Program) (f id : Nat) : Code := ((fLoops P f).filter fun c => key c == some id).headD .skip
def oneLoop (P : Program) (f id : Nat) : Bool := ((fLoops P f).filter fun c => key c == some id).length == 1
def LpC.ok (Φ : Sig) (P : Program) (c : LpC) : Prop := oneLoop P c.f c.id = true ∧ TmLoop Φ P (loopAt P c.f c.id) c.n c.T c.outs
def addLp (Φ : Sig) (t : Tbl) (c : LpC) : Tbl := ⟨t.fn, fun f id => if Nat.beq f c.f && Nat.beq id c.id then some (orElse (applyLoop Φ c.n c.T c.outs) (t.lp f id)) else t.lp f id⟩
theorem loopAt_eq {f id : Nat} {c : Code} (h : oneLoop P f id = true) (hc : c ∈ fLoops P f) (hi : key c = some id) : c = loopAt P f id := by
  unfold oneLoop at h
  unfold loopAt
  have hm : c ∈ (fLoops P f).filter fun c => key c == some id := List.mem_filter.2 ⟨hc, by simp [hi]⟩
  generalize (fLoops P f).filter (fun c => key c == some id) = l at *
  match l, h, hm with
  | [x], _, hm => simpa using hm
theorem loopAt_mem {f id : Nat} (h : oneLoop P f id = true) : loopAt P f id ∈ fLoops P f := by
  unfold oneLoop at h
  have : loopAt P f id ∈ (fLoops P f).filter fun c => key c == some id := by
    unfold loopAt
    generalize (fLoops P f).filter (fun c => key c == some id) = l at *
    match l, h with
    | [x], _ => simp
  exact (List.mem_filter.1 this).1
theorem loops_sub : ∀ {b : Code} {c : Code}, c ∈ loopsOf b → ∀ x ∈ loopsOf c, x ∈ loopsOf b
  | .seq y z, c, h, x, hx => by
    simp only [loopsOf, List.mem_append] at h ⊢
    exact h.imp (fun h => loops_sub h x hx) (fun h => loops_sub h x hx)
  | .cond v y z, c, h, x, hx => by
    simp only [loopsOf, List.mem_append, List.mem_cons] at h
    rcases h with rfl | h | h
    · exact hx
    · exact List.mem_cons_of_mem _ (List.mem_append_left _ (loops_sub h x hx))
    · exact List.mem_cons_of_mem _ (List.mem_append_right _ (loops_sub h x hx))
  | .block i y, c, h, x, hx => by
    simp only [loopsOf, List.mem_cons] at h
    rcases h with rfl | h
    · exact hx
    · exact List.mem_cons_of_mem _ (loops_sub h x hx)
  | .loop y, c, h, x, hx => by
    simp only [loopsOf, List.mem_cons] at h ⊢
    rcases h with rfl | h
    · exact .inr hx
    · exact .inr (loops_sub h x hx)
  | .skip, c, h, _, _ => by cases h
  | .region .., c, h, _, _ => by cases h
  | .rangeFunc .., c, h, _, _ => by cases h
  | .exit _, c, h, _, _ => by cases h
  | .scope _, c, h, _, _ => by cases h
  | .label _, c, h, _, _ => by cases h
  | .goto _, c, h, _, _ => by cases h
  | .ret, c, h, _, _ => by cases h
  | .refuse _, c, h, _, _ => by cases h
theorem loopAt_sub {f id : Nat} (h : oneLoop P f id = true) : ∀ x ∈ loopsOf (loopAt P f id), x ∈ fLoops P f := by
  have hm := loopAt_mem h
  generalize loopAt P f id = c at *
  unfold fLoops at hm ⊢
  split at hm
  · split at hm
    · exact loops_sub hm
    · cases hm
  · cases hm
theorem addLp_ok {t : Tbl} {c : LpC} (ht : TblOK Φ ρ P t) (hc : c.ok Φ P) : TblOK Φ ρ P (addLp Φ t c) := by
  refine ⟨ht.fn, fun f id g hg k hk hki s pc outs h => ?_⟩
  simp only [addLp] at hg
  split at hg
  · rename_i e
    rw [Bool.and_eq_true] at e
    have e1 := Nat.eq_of_beq_eq_true e.1
    have e2 := Nat.eq_of_beq_eq_true e.2
    subst e1; subst e2
    simp at hg; subst hg
    unfold orElse at h
    split at h
    · rename_i r hr
      simp at h; subst h
      rw [loopAt_eq hc.1 hk hki]
      exact applyLoop_ok hc.2 hr
    · split at h
      · rename_i g hg; exact ht.lp _ _ g hg k hk hki s pc outs h
      · cases h
  · exact ht.lp f id g hg k hk hki s pc outs h
end
end Go.SF
