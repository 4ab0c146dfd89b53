/- Is what has come out what was told? What is left to be shown is told as equations. -/
import Derived.Test.YtnhdohhhgfdhfaaSFApply
namespace Go.SF
set_option linter.unusedVariables false
set_option linter.unusedSimpArgs false

inductive Eqn where
  | I (a b : SI)
  | B (a b : SB)
  | L (a b : SL)
  | T (x : SB)
def Eqn.ok (Φ : Sig) (ρ : Env) : Eqn → Prop
  | .I a b => a.ev Φ ρ = b.ev Φ ρ
  | .B a b => a.ev Φ ρ = b.ev Φ ρ
  | .L a b => a.ev Φ ρ = b.ev Φ ρ
  | .T x => x.ev Φ ρ = true
/-- What is left to be shown: under these facts, these equations. -/
structure Ob where
  pc : List SB
  eqs : List Eqn
/-- The rows of the tables among objects are of their kinds. -/
def rowsOf : AObj → Option (SL × List CK)
  | .ext A ks => some (A, ks)
  | .abs (.vec ks _) A => some (A, ks)
  | .abs (.map kk ks _) A => some (A, .i kk :: ks)
  | .iter _ kk ks _ M _ => some (M, .i kk :: (ks ++ [.b]))
  | _ => none
/-- Tables whose keys rise. -/
def keysOf : AObj → Option SL
  | .abs (.map _ _ _) A => some A
  | .iter _ _ _ _ M _ => some M
  | _ => none
def RowsOK (Φ : Sig) (ρ : Env) (K : List AObj) : Prop := ∀ (i : Nat) (o : AObj), K[i]? = some o → (match rowsOf o with
  | some x => ∀ row ∈ x.1.ev Φ ρ, okRow x.2 row
  | none => True) ∧ match keysOf o with
  | some A => (A.ev Φ ρ).Pairwise (fun a b => hdK a < hdK b)
  | none => True
theorem RowsOK.row {Φ : Sig} {ρ : Env} {K : List AObj} (h : RowsOK Φ ρ K) (i : Nat) {o : AObj} {A : SL} {ks : List CK} (hi : K[i]? = some o) (hr : rowsOf o = some (A, ks)) : ∀ row ∈ A.ev Φ ρ, okRow ks row := by
  have := (h i o hi).1
  rw [hr] at this
  exact this
theorem RowsOK.keys {Φ : Sig} {ρ : Env} {K : List AObj} (h : RowsOK Φ ρ K) (i : Nat) {o : AObj} {A : SL} (hi : K[i]? = some o) (hr : keysOf o = some A) : (A.ev Φ ρ).Pairwise (fun a b => hdK a < hdK b) := by
  have := (h i o hi).2
  rw [hr] at this
  exact this
theorem MRel.rows {Φ : Sig} {ρ : Env} {μ : List Loc} {B : Base} {m : Mem} {w : World} (h : MRel Φ ρ μ B m w) : RowsOK Φ ρ m.o := by
  intro i o hi
  have hl : i < μ.length := by rw [h.len]; exact (List.getElem?_eq_some_iff.1 hi).1
  have := h.obj i o _ hi (List.getElem?_eq_getElem hl)
  cases o with
  | ext A ks => exact ⟨this.2.2.1, trivial⟩
  | abs k A => cases k with
    | vec ks ty => exact ⟨this.2.2.1, trivial⟩
    | map kk ks sc => exact ⟨this.2.2.1, this.2.1⟩
    | user n => exact ⟨trivial, trivial⟩
    | chans ks cap => exact ⟨trivial, trivial⟩
    | sit => exact ⟨trivial, trivial⟩
  | iter mid kk ks sc M cur =>
    obtain ⟨_, _, lm, _, _, _, _, _, p2, p3, _⟩ := this
    exact ⟨p3, p2⟩
  | cells cs ty => exact ⟨trivial, trivial⟩
  | lists => exact ⟨trivial, trivial⟩
  | dead => exact ⟨trivial, trivial⟩
/-- An obligation holds, of tables whose rows are of their kinds. -/
def Ob.ok (Φ : Sig) (K : List AObj) (o : Ob) : Prop := ∀ ρ : Env, RowsOK Φ ρ K → holds Φ ρ o.pc → ∀ e ∈ o.eqs, e.ok Φ ρ

def eqI (a b : SI) : List Eqn := if SI.same a b then [] else [.I a b]
def eqB (a b : SB) : List Eqn := if SB.same a b then [] else [.B a b]
def eqT (a b : SL) : List Eqn := if SL.same a b then [] else [.L a b]
def atIs (ids : List Nat) (j i : Nat) : Bool := match ids[j]? with
  | some k => Nat.beq k i
  | none => false
def eqPt (ids : List Nat) (p q : Pt) : Option (List Eqn) := if atIs ids p.id q.id && Nat.beq p.j q.j then some (eqI p.r q.r) else none
def appO {α : Type} : Option (List α) → Option (List α) → Option (List α)
  | some a, some b => some (a ++ b)
  | _, _ => none
def eqPts (ids : List Nat) : List Pt → List Pt → Option (List Eqn)
  | [], [] => some []
  | p :: ps, q :: qs => appO (eqPt ids p q) (eqPts ids ps qs)
  | _, _ => none
def eqCV (ids : List Nat) : CV → CV → Option (List Eqn)
  | .b x, .b y => some (eqB x y)
  | .i k x, .i l y => if k = l then some (eqI x y) else none
  | .s x, .s y => if x = y then some [] else none
  | .p none, .p none => some []
  | .p (some q), .p (some q') => eqPt ids q q'
  | .sl none x y, .sl none x' y' => some (eqI x x' ++ eqI y y')
  | .sl (some q) x y, .sl (some q') x' y' => appO (eqPt ids q q') (some (eqI x x' ++ eqI y y'))
  | .vs d x y none, .vs d' x' y' none => if atIs ids d d' then some (eqI x x' ++ eqI y y') else none
  | .vs d x y (some z), .vs d' x' y' (some z') => if atIs ids d d' then some (eqI x x' ++ eqI y y' ++ eqI z z') else none
  | .m none, .m none => some []
  | .m (some d), .m (some d') => if atIs ids d d' then some [] else none
  | .cd k x, .cd l y => if k = l then some (eqI x y) else none
  | .fn f ps, .fn g qs => if Nat.beq f g then eqPts ids ps qs else none
  | .nilfn, .nilfn => some []
  | _, _ => none
def eqCs (ids : List Nat) : List CV → List CV → Option (List Eqn)
  | [], [] => some []
  | p :: ps, q :: qs => appO (eqCV ids p q) (eqCs ids ps qs)
  | _, _ => none
def eqTs (ids : List Nat) : List (CV ⊕ List CV) → List (CV ⊕ List CV) → Option (List Eqn)
  | [], [] => some []
  | .inl p :: ps, .inl q :: qs => appO (eqCV ids p q) (eqTs ids ps qs)
  | .inr p :: ps, .inr q :: qs => appO (eqCs ids p q) (eqTs ids ps qs)
  | _, _ => none
def eqAV (ids : List Nat) : AV → AV → Option (List Eqn)
  | .cv x, .cv y => eqCV ids x y
  | .agg x, .agg y => eqCs ids x y
  | .tup x, .tup y => eqTs ids x y
  | _, _ => none
def eqObj (ids : List Nat) : AObj → AObj → Option (List Eqn)
  | .cells x t, .cells y u => if Nat.beq t u then eqCs ids x y else none
  | .ext A ks, .ext C ls => if ks = ls then some (eqT A C) else none
  | .abs k A, .abs l C => if k = l then some (eqT A C) else none
  | .iter mid kk ks sc A none, .iter mid' kk' ks' sc' C _ => if kk = kk' ∧ ks = ks' ∧ sc = sc' ∧ atIs ids mid mid' = true then some (eqT A C) else none
  | .lists mid k e t A none, .lists mid' k' e' t' C none => if k = k' ∧ e = e' ∧ t = t' ∧ atIs ids mid mid' = true then some (eqT A C) else none
  | _, _ => none
def eqSlots (ids : List Nat) (s : St) : List (Nat × AV) → Option (List Eqn)
  | [] => some []
  | (u, v) :: r => match get u s.t with
    | some v' => appO (eqAV ids v v') (eqSlots ids s r)
    | none => none
def eqObjs (ids : List Nat) (m : Mem) : List Nat → List AObj → Option (List Eqn)
  | [], [] => some []
  | i :: is, .dead :: os => eqObjs ids m is os
  | i :: is, o :: os => match m.o[i]? with
    | some o' => appO (eqObj ids o o') (eqObjs ids m is os)
    | none => none
  | _, _ => none

def idsFrom (φ : List (Nat × Nat)) (k : Nat) (n : Nat) : Option (List Nat) :=
  match idsOf φ (n - k) k with
  | some r => some (List.range k ++ r)
  | none => none
/-- Those that are alive lie at places of their own. -/
def apartB : List Nat → List AObj → Bool
  | i :: is, o :: os => (!o.alive || (is.zip os).all fun x => !x.2.alive || !Nat.beq i x.1) && apartB is os
  | _, _ => true
def relB (k : Nat) (ids : List Nat) (o : TOut) (m : Mem) : Bool :=
  Nat.ble k o.o.length && Nat.beq ids.length o.o.length && apartB ids o.o && ids.all (fun i => Nat.blt i m.o.length) &&
  (m.wr.all fun i => Nat.ble k i || o.wr.contains i) && ((ids.drop k).all fun i => Nat.ble k i || o.wr.contains i) &&
  o.wr.all fun i => Nat.ble k i || m.wr.contains i || (match m.o[i]? with | some x => x.excl | none => false)

/-- Maps that are asked for are maps again. -/
def rootsIt (T : Tm) : Nat → MS → MS
  | 0, M => M
  | n + 1, M => match endFor T (rootsIt T n M).s n n with
    | some pr => match runPrim (rootsIt T n M).s pr with
      | some s' => { rootsIt T n M with s := s', pr := pr :: (rootsIt T n M).pr }
      | none => rootsIt T n M
    | none => rootsIt T n M
/-- The objects that were there lie where they lay. -/
def rootsM (T : Tm) : Nat → Nat → MS → List (CV × Src) → MS × List (CV × Src)
  | 0, _, M, w => (M, w)
  | n + 1, j, M, w => match bindO' T M j j with
    | (M', w') => rootsM T n (j + 1) M' (w ++ w')
def matchO (k : Nat) (T : Tm) (s : St) : Option MS := match rootsM T k 0 (rootsIt T k ⟨s, [], [], [], [], []⟩) [] with
  | (M, w) => goM T 1000 (items M.s T.t ++ w) (rootsCh T M)
/-- Is this state the one that was told? -/
def checkOut (k : Nat) (o : TOut) (s : St) : Option (List Eqn) :=
  match matchO k ⟨o.t, o.o, []⟩ s with
  | none => none
  | some M => match runPrims s M.pr.reverse with
    | none => none
    | some s => match idsFrom M.φ k o.o.length with
      | none => none
      | some ids => if relB k ids o s.m then appO (eqSlots ids s o.t) (eqObjs ids s.m ids o.o) else none

section
variable {Φ : Sig} {ρ : Env} {μ : List Loc} {P : Program} {B : Base} {w : World} {s : St} {a : Act} {pc : List SB}

theorem appO_some {α : Type} {x y : Option (List α)} {r : List α} (h : appO x y = some r) : ∃ p q, x = some p ∧ y = some q ∧ r = p ++ q := by
  cases x <;> cases y <;> simp [appO] at h
  exact ⟨_, _, rfl, rfl, h.symm⟩
def AllOK (Φ : Sig) (ρ : Env) (es : List Eqn) : Prop := ∀ e ∈ es, e.ok Φ ρ
theorem AllOK.app {x y : List Eqn} (h : AllOK Φ ρ (x ++ y)) : AllOK Φ ρ x ∧ AllOK Φ ρ y :=
  ⟨fun e he => h e (List.mem_append.2 (.inl he)), fun e he => h e (List.mem_append.2 (.inr he))⟩
theorem eqI_ok {x y : SI} (h : AllOK Φ ρ (eqI x y)) : x.ev Φ ρ = y.ev Φ ρ := by
  unfold eqI at h
  split at h
  · rename_i hs; rw [SI.same_eq _ _ hs]
  · exact h _ (List.mem_singleton.2 rfl)
theorem eqB_ok {x y : SB} (h : AllOK Φ ρ (eqB x y)) : x.ev Φ ρ = y.ev Φ ρ := by
  unfold eqB at h
  split at h
  · rename_i hs; rw [SB.same_eq _ _ hs]
  · exact h _ (List.mem_singleton.2 rfl)
theorem eqT_ok {x y : SL} (h : AllOK Φ ρ (eqT x y)) : x.ev Φ ρ = y.ev Φ ρ := by
  unfold eqT at h
  split at h
  · rename_i hs; rw [SL.same_eq _ _ hs]
  · exact h _ (List.mem_singleton.2 rfl)
theorem atIs_ok {ids : List Nat} {j i : Nat} (h : atIs ids j i = true) : ids[j]? = some i := by
  unfold atIs at h
  split at h
  · rename_i k hk; rw [hk, Nat.eq_of_beq_eq_true h]
  · cases h

variable {ids : List Nat} {μ2 : List Loc} (hμ : ∀ (j i : Nat), ids[j]? = some i → μ2[j]? = μ[i]?)
include hμ
theorem eqPt_ok {p q : Pt} {es : List Eqn} (h : eqPt ids p q = some es) (he : AllOK Φ ρ es) : denPt Φ ρ μ2 p = denPt Φ ρ μ q := by
  unfold eqPt at h
  split at h
  · rename_i hc
    rw [Bool.and_eq_true] at hc
    simp at h; subst h
    have e1 := hμ _ _ (atIs_ok hc.1)
    simp only [denPt, e1, eqI_ok he, Nat.eq_of_beq_eq_true hc.2]
  · cases h
theorem eqPts_ok : ∀ {ps qs : List Pt} {es : List Eqn}, eqPts ids ps qs = some es → AllOK Φ ρ es → denPts Φ ρ μ2 ps = denPts Φ ρ μ qs
  | [], [], es, _, _ => rfl
  | p :: ps, q :: qs, es, h, he => by
    simp only [eqPts] at h
    obtain ⟨x, y, hx, hy, rfl⟩ := appO_some h
    simp only [denPts, eqPt_ok hμ hx he.app.1, eqPts_ok hy he.app.2]
  | [], _ :: _, es, h, _ => by simp [eqPts] at h
  | _ :: _, [], es, h, _ => by simp [eqPts] at h
theorem eqCV_ok {x y : CV} {es : List Eqn} (h : eqCV ids x y = some es) (he : AllOK Φ ρ es) : denC Φ ρ μ2 x = denC Φ ρ μ y := by
  unfold eqCV at h
  split at h
  · simp at h; subst h; simp only [denC, eqB_ok he]
  · split at h
    · rename_i hk; simp at h; subst h; simp only [denC, eqI_ok he, hk]
    · cases h
  · split at h
    · rename_i hk; simp only [denC, hk]
    · cases h
  · rfl
  · simp only [denC, eqPt_ok hμ h he]
  · simp at h; subst h; simp only [denC, eqI_ok he.app.1, eqI_ok he.app.2]
  · obtain ⟨p, q, hp, hq, rfl⟩ := appO_some h
    simp at hq; subst hq
    simp only [denC, eqPt_ok hμ hp he.app.1, eqI_ok he.app.2.app.1, eqI_ok he.app.2.app.2]
  · split at h
    · rename_i d x y d' x' y' hk
      simp at h; subst h
      simp only [denC, hμ _ _ (atIs_ok hk), eqI_ok he.app.1, eqI_ok he.app.2, vcap]
      cases μ[d']? <;> rfl
    · cases h
  · split at h
    · rename_i d x y z d' x' y' z' hk
      simp at h; subst h
      simp only [denC, hμ _ _ (atIs_ok hk), eqI_ok he.app.1, eqI_ok he.app.2.app.1, eqI_ok he.app.2.app.2, vcap]
      cases μ[d']? <;> rfl
    · cases h
  · rfl
  · split at h
    · rename_i hk; simp only [denC, hμ _ _ (atIs_ok hk)]
    · cases h
  · split at h
    · rename_i hk; simp at h; subst h; simp only [denC, eqI_ok he, hk]
    · cases h
  · split at h
    · rename_i hk; simp only [denC, eqPts_ok hμ h he, Nat.eq_of_beq_eq_true hk]
    · cases h
  · rfl
  · cases h
theorem eqCs_ok : ∀ {ps qs : List CV} {es : List Eqn}, eqCs ids ps qs = some es → AllOK Φ ρ es → denL Φ ρ μ2 ps = denL Φ ρ μ qs
  | [], [], es, _, _ => rfl
  | p :: ps, q :: qs, es, h, he => by
    simp only [eqCs] at h
    obtain ⟨x, y, hx, hy, rfl⟩ := appO_some h
    simp only [denL, eqCV_ok hμ hx he.app.1, eqCs_ok hy he.app.2]
  | [], _ :: _, es, h, _ => by simp [eqCs] at h
  | _ :: _, [], es, h, _ => by simp [eqCs] at h
theorem eqTs_ok : ∀ {ps qs : List (CV ⊕ List CV)} {es : List Eqn}, eqTs ids ps qs = some es → AllOK Φ ρ es → denT Φ ρ μ2 ps = denT Φ ρ μ qs
  | [], [], es, _, _ => rfl
  | .inl p :: ps, .inl q :: qs, es, h, he => by
    simp only [eqTs] at h
    obtain ⟨x, y, hx, hy, rfl⟩ := appO_some h
    simp only [denT, eqCV_ok hμ hx he.app.1, eqTs_ok hy he.app.2]
  | .inr p :: ps, .inr q :: qs, es, h, he => by
    simp only [eqTs] at h
    obtain ⟨x, y, hx, hy, rfl⟩ := appO_some h
    simp only [denT, eqCs_ok hμ hx he.app.1, eqTs_ok hy he.app.2]
  | .inl _ :: _, .inr _ :: _, es, h, _ => by simp [eqTs] at h
  | .inr _ :: _, .inl _ :: _, es, h, _ => by simp [eqTs] at h
  | [], _ :: _, es, h, _ => by simp [eqTs] at h
  | .inl _ :: _, [], es, h, _ => by simp [eqTs] at h
  | .inr _ :: _, [], es, h, _ => by simp [eqTs] at h
theorem eqAV_ok {x y : AV} {es : List Eqn} (h : eqAV ids x y = some es) (he : AllOK Φ ρ es) : den Φ ρ μ2 x = den Φ ρ μ y := by
  unfold eqAV at h
  split at h
  · exact eqCV_ok hμ h he
  · simp only [den, eqCs_ok hμ h he]
  · simp only [den, eqTs_ok hμ h he]
  · cases h
theorem eqObj_ok {x y : AObj} {es : List Eqn} (h : eqObj ids x y = some es) (he : AllOK Φ ρ es) : x.alive = y.alive ∧ x.excl = y.excl ∧ ∀ l, ObjOK Φ ρ μ w l y → ObjOK Φ ρ μ2 w l x := by
  unfold eqObj at h
  split at h
  · split at h
    · rename_i hk
      refine ⟨rfl, rfl, fun l hl => ?_⟩
      obtain ⟨h1, h2, h3, vs, h4, h5⟩ := hl
      exact ⟨h1, h2, h3, vs, by rw [eqCs_ok hμ h he]; exact h4, by rw [Nat.eq_of_beq_eq_true hk]; exact h5⟩
    · cases h
  · split at h
    · rename_i hk
      simp at h; subst h; subst hk
      refine ⟨rfl, rfl, fun l hl => ?_⟩
      have e := eqT_ok he
      obtain ⟨h1, h2, h4, h5⟩ := hl
      exact ⟨h1, by rw [e]; exact h2, by rw [e]; exact h4, by rw [e]; exact h5⟩
    · cases h
  · split at h
    · rename_i hk
      simp at h; subst h; subst hk
      refine ⟨rfl, rfl, fun l hl => ?_⟩
      show Φ.repA _ _ w l
      rw [eqT_ok he]; exact hl
    · cases h
  · split at h
    · rename_i hk
      simp at h; subst h
      obtain ⟨rfl, rfl, rfl, hm⟩ := hk
      refine ⟨rfl, rfl, fun l hl => ?_⟩
      obtain ⟨h1, h2, lm, h3, h4, h5, h6, _, h7⟩ := hl
      exact ⟨h1, h2, lm, by rw [hμ _ _ (atIs_ok hm)]; exact h3, h4, h5, h6, trivial, by rw [eqT_ok he]; exact h7⟩
    · cases h
  · split at h
    · rename_i hk
      simp at h; subst h
      obtain ⟨rfl, rfl, rfl, hm⟩ := hk
      refine ⟨rfl, rfl, fun l hl => ?_⟩
      obtain ⟨lm, h1, h2⟩ := hl
      exact ⟨lm, by rw [hμ _ _ (atIs_ok hm)]; exact h1, by rw [eqT_ok he]; exact h2⟩
    · cases h
  · cases h
omit hμ

theorem eqSlots_ok (hμ : ∀ (j i : Nat), ids[j]? = some i → μ2[j]? = μ[i]?) {n : Nat} (hT : TRel Φ ρ μ n s.t a) : ∀ {t : List (Nat × AV)} {es : List Eqn}, eqSlots ids s t = some es → AllOK Φ ρ es → TRel Φ ρ μ2 n t a
  | [], es, _, _ => ⟨hT.sz, fun u v h => by simp [get] at h, hT.df⟩
  | (k, v) :: t, es, h, he => by
    simp only [eqSlots] at h
    split at h
    · rename_i v' hv'
      obtain ⟨x, y, hx, hy, rfl⟩ := appO_some h
      have ih := eqSlots_ok hμ hT hy he.app.2
      refine ⟨hT.sz, fun u z hz => ?_, hT.df⟩
      simp only [get] at hz
      split at hz
      · rename_i e
        have e := Nat.eq_of_beq_eq_true e
        subst e
        simp at hz; subst hz
        obtain ⟨h1, h2⟩ := hT.tm _ _ hv'
        exact ⟨h1, by rw [eqAV_ok hμ hx he.app.1]; exact h2⟩
      · exact ih.tm u z hz
    · cases h

theorem eqObjs_ok {m : Mem} : ∀ {is : List Nat} {os : List AObj} {es : List Eqn}, eqObjs ids m is os = some es → AllOK Φ ρ es → ∀ (j : Nat) (o : AObj), os[j]? = some o → o = .dead ∨
    ∃ i o' es', is[j]? = some i ∧ m.o[i]? = some o' ∧ eqObj ids o o' = some es' ∧ AllOK Φ ρ es'
  | [], [], es, _, _, j, o, h => by simp at h
  | i :: is, o0 :: os, es, h, he, j, o, ho => by
    cases j with
    | zero =>
      simp at ho; subst ho
      cases hd : o0.alive with
      | false => exact .inl (dead_of hd)
      | true =>
        unfold eqObjs at h
        split at h
        · rename_i heq; cases heq
        · rename_i heq; simp at heq; obtain ⟨rfl, _⟩ := heq; simp [AObj.alive] at hd
        · rename_i i' is' o' os' _ heq1 heq2
          simp only [List.cons.injEq] at heq1 heq2
          obtain ⟨rfl, rfl⟩ := heq1
          obtain ⟨rfl, rfl⟩ := heq2
          split at h
          · rename_i o'' ho''
            obtain ⟨x, y, hx, hy, rfl⟩ := appO_some h
            exact .inr ⟨i, o'', x, rfl, ho'', hx, he.app.1⟩
          · cases h
        · cases h
    | succ j =>
      simp only [List.getElem?_cons_succ] at ho ⊢
      unfold eqObjs at h
      split at h
      · rename_i heq; cases heq
      · rename_i i' is' os' heq1 heq2
        simp only [List.cons.injEq] at heq1 heq2
        obtain ⟨rfl, rfl⟩ := heq1
        obtain ⟨_, rfl⟩ := heq2
        exact eqObjs_ok h he j o ho
      · rename_i i' is' o' os' _ heq1 heq2
        simp only [List.cons.injEq] at heq1 heq2
        obtain ⟨rfl, rfl⟩ := heq1
        obtain ⟨rfl, rfl⟩ := heq2
        split at h
        · obtain ⟨x, y, hx, hy, rfl⟩ := appO_some h
          exact eqObjs_ok hy he.app.2 j o ho
        · cases h
      · cases h
  | [], _ :: _, es, h, _, _, _, _ => by simp [eqObjs] at h
  | _ :: _, [], es, h, _, j, o, ho => by simp at ho

theorem apartB_ok : ∀ {is : List Nat} {os : List AObj}, apartB is os = true → ∀ (j k i : Nat) (x y : AObj), j < k → is[j]? = some i → is[k]? = some i → os[j]? = some x → os[k]? = some y → x.alive = true → y.alive = true → False
  | [], os, _, j, k, i, x, y, _, h, _, _, _, _, _ => by simp at h
  | _ :: _, [], _, j, k, i, x, y, _, _, _, h, _, _, _ => by simp at h
  | i0 :: is, o0 :: os, h, j, k, i, x, y, hjk, hj, hk, hx, hy, hxa, hya => by
    simp only [apartB, Bool.and_eq_true] at h
    cases k with
    | zero => omega
    | succ k =>
      cases j with
      | zero =>
        simp at hj hx hk hy; subst hj; subst hx
        have h1 := h.1
        rw [hxa] at h1
        simp only [Bool.not_true, Bool.false_or, List.all_eq_true] at h1
        have := h1 (i0, y) (List.mem_of_getElem? (i := k) (by rw [List.getElem?_zip_eq_some]; exact ⟨hk, hy⟩))
        rw [hya, Nat.beq_refl] at this
        cases this
      | succ j => exact apartB_ok h.2 j k i x y (by omega) (by simpa using hj) (by simpa using hk) (by simpa using hx) (by simpa using hy) hxa hya

/-- What was told, and only that. -/
theorem check_ok {k n1 : Nat} {o : TOut} {es : List Eqn} (h : checkOut k o s = some es) (he : AllOK Φ ρ es) {μ0 ν : List Loc} (hk : μ0.length = k) (hB : B.k ≤ k) (hT : TRel Φ ρ (μ0 ++ ν) s.n s.t a) (hM : MRel Φ ρ (μ0 ++ ν) B s.m w) :
    ∃ ν', TRel Φ ρ (μ0 ++ ν') s.n o.t a ∧ MRel Φ ρ (μ0 ++ ν') B ⟨o.o, o.wr, n1⟩ w := by
  unfold checkOut at h
  split at h
  · cases h
  · rename_i M hMt
    split at h
    · cases h
    · rename_i s' hs'
      split at h
      · cases h
      · rename_i ids hids
        split at h
        case isFalse => cases h
        rename_i hrel
        obtain ⟨e1, e2, he1, he2, rfl⟩ := appO_some h
        obtain ⟨ν1, hT1, hM1⟩ := prims_ok hs' (μ0 ++ ν) B w a hT hM
        rw [List.append_assoc] at hT1 hM1
        generalize ν ++ ν1 = ν2 at hT1 hM1
        simp only [relB, Bool.and_eq_true, List.all_eq_true] at hrel
        obtain ⟨⟨⟨⟨⟨⟨r1, r2⟩, r3⟩, r4⟩, r5⟩, r6⟩, r7⟩ := hrel
        have r1 := Nat.le_of_ble_eq_true r1
        have r2 := Nat.eq_of_beq_eq_true r2
        have r4 : ∀ i ∈ ids, i < s'.m.o.length := fun i hi => by simpa [Nat.blt_eq] using r4 i hi
        have r5 : ∀ i ∈ s'.m.wr, i < k → i ∈ o.wr := fun i hi hlt => by
          have := r5 i hi
          rw [Bool.or_eq_true] at this
          rcases this with h | h
          · have := Nat.le_of_ble_eq_true h; omega
          · simpa using h
        have r6 : ∀ i ∈ ids.drop k, i < k → i ∈ o.wr := fun i hi hlt => by
          have := r6 i hi
          rw [Bool.or_eq_true] at this
          rcases this with h | h
          · have := Nat.le_of_ble_eq_true h; omega
          · simpa using h
        have r7 : ∀ i ∈ o.wr, i < k → i ∈ s'.m.wr ∨ ∃ x, s'.m.o[i]? = some x ∧ x.excl = true := fun i hi hlt => by
          have := r7 i hi
          rw [Bool.or_eq_true, Bool.or_eq_true] at this
          rcases this with (h | h) | h
          · have := Nat.le_of_ble_eq_true h; omega
          · exact .inl (by simpa using h)
          · split at h
            · rename_i x hx; exact .inr ⟨x, hx, h⟩
            · cases h
        -- the places
        have hidk : ∀ j, j < k → ids[j]? = some j := by
          intro j hj
          unfold idsFrom at hids
          split at hids
          · rename_i r hr
            simp at hids; subst hids
            rw [List.getElem?_append_left (by simpa using hj)]
            simp [hj]
          · cases hids
        have hlen := hM1.len
        obtain ⟨l1, l2⟩ := subLoc_get (μ0 ++ ν2) ids (fun i hi => by rw [hlen]; exact r4 i hi)
        have hμ : ∀ (j i : Nat), ids[j]? = some i → (subLoc (μ0 ++ ν2) ids)[j]? = (μ0 ++ ν2)[i]? := fun j i hj => by rw [l2, hj]; rfl
        obtain ⟨ν', hν'⟩ : ∃ ν', subLoc (μ0 ++ ν2) ids = μ0 ++ ν' := by
          refine ⟨(subLoc (μ0 ++ ν2) ids).drop k, ?_⟩
          have : (subLoc (μ0 ++ ν2) ids).take k = μ0 := by
            apply List.ext_getElem?
            intro j
            rw [List.getElem?_take]
            split
            · rename_i hj
              rw [hμ j j (hidk j hj), List.getElem?_append_left (by omega)]
            · rename_i hj; rw [List.getElem?_eq_none (by omega)]
          conv => lhs; rw [← List.take_append_drop k (subLoc (μ0 ++ ν2) ids), this]
        rw [hν'] at hμ l1 l2
        have hsn : s'.n = s.n := by have := hT.sz; have := hT1.sz; omega
        refine ⟨ν', by rw [← hsn]; exact eqSlots_ok hμ hT1 he1 he.app.1, ?_⟩
        have hobj := eqObjs_ok he2 he.app.2
        -- an object that is alive, as it was found
        have found : ∀ {j : Nat} {x : AObj} {l : Loc}, o.o[j]? = some x → x.alive = true → (μ0 ++ ν')[j]? = some l → ∃ i y, ids[j]? = some i ∧ s'.m.o[i]? = some y ∧ y.alive = true ∧ y.excl = x.excl ∧ (μ0 ++ ν2)[i]? = some l ∧ (ObjOK Φ ρ (μ0 ++ ν2) w l y → ObjOK Φ ρ (μ0 ++ ν') w l x) := by
          intro j x l hx hxa hl
          rcases hobj j x hx with rfl | ⟨i, y, es', hi, hy, heq, hes⟩
          · simp [AObj.alive] at hxa
          · obtain ⟨g1, g2, g3⟩ := eqObj_ok (w := w) hμ heq hes
            exact ⟨i, y, hi, hy, by rw [← g1]; exact hxa, g2.symm, by rw [← hμ j i hi]; exact hl, g3 l⟩
        constructor
        · rw [l1, r2]
        · exact Nat.le_trans hB r1
        · intro i j oi oj li lj b hi hj hei haj hli hlj hbi hbj
          have hai := AObj.excl_alive hei
          obtain ⟨i', yi, a1, a2, a3, a4, a5, _⟩ := found hi hai hli
          obtain ⟨j', yj, b1, b2, b3, b4, b5, _⟩ := found hj haj hlj
          have := hM1.apart i' j' yi yj li lj b a2 b2 (by rw [a4, hei]) b3 a5 b5 hbi hbj
          subst this
          rcases Nat.lt_trichotomy i j with hlt | heq | hlt
          · exact (apartB_ok r3 i j i' oi oj hlt a1 b1 hi hj hai haj).elim
          · exact heq
          · exact (apartB_ok r3 j i i' oj oi hlt b1 a1 hj hi haj hai).elim
        · intro j x l hx hl
          cases hxa : x.alive with
          | false => rw [dead_of hxa]; trivial
          | true =>
            obtain ⟨i', y, a1, a2, a3, a4, a5, a6⟩ := found hx hxa hl
            exact a6 (hM1.obj i' y l a2 a5)
        · intro j x l hx hxa hl b hb
          obtain ⟨i', y, a1, a2, a3, a4, a5, a6⟩ := found hx hxa hl
          exact hM1.lt i' y l a2 a3 a5 b hb
        · intro b hb hn
          refine hM1.fr b hb fun i l hi hik hl => hn i l (r5 i hi (by omega)) hik ?_
          rw [hμ i i (hidk i (by omega))]; exact hl
        · intro j l b hj hl hb
          have hjl : j < ids.length := by rw [← l1]; exact (List.getElem?_eq_some_iff.1 hl).1
          have hij := List.getElem?_eq_getElem hjl
          have hl' := hl
          rw [hμ j _ hij] at hl'
          have tell : ∀ {i : Nat}, i ∈ s'.m.wr → i < B.k → (μ0 ++ ν')[i]? = (μ0 ++ ν2)[i]? := fun {i} _ hik => hμ i i (hidk i (by omega))
          by_cases hik : ids[j] < B.k
          · by_cases hjk : j < k
            · have := hidk j hjk
              rw [hij] at this; simp at this; omega
            · refine .inr ⟨ids[j], l, r6 _ ?_ (by omega), hik, ?_, hb⟩
              · refine List.mem_of_getElem? (i := j - k) ?_
                rw [List.getElem?_drop, show k + (j - k) = j by omega]; exact hij
              · rw [hμ _ _ (hidk _ (by omega))]; exact hl'
          · rcases hM1.new _ l b (Nat.le_of_not_lt hik) hl' hb with g | ⟨j0, l0, g1, g2, g3, g4⟩
            · exact .inl g
            · exact .inr ⟨j0, l0, r5 j0 g1 (by omega), g2, by rw [tell g1 g2]; exact g3, g4⟩
        · intro i j x li lj b hi hik hjk hj hx hxa hli hlj hbi hbj
          obtain ⟨j', y, a1, a2, a3, a4, a5, a6⟩ := found hx hxa hlj
          have hjj := hidk j (by omega)
          rw [hjj] at a1; simp at a1; subst a1
          rw [hμ i i (hidk i (by omega))] at hli
          rcases r7 i hi (by omega) with hw | ⟨z, hz, hze⟩
          · exact hM1.wap i j y li lj b hw hik hjk (fun e => hj (r5 j e (by omega))) a2 a3 hli a5 hbi hbj
          · have := hM1.apart i j z y li lj b hz a2 hze a3 hli a5 hbi hbj
            subst this; exact hj hi
        · exact hM1.sz
        · exact hM1.os
end
end Go.SF
