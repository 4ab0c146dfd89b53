/- A pattern's outcome put in its place: what the pattern does not name stays. -/
import Derived.Test.YtnhdohhhgfdhfaaSFTmpl
namespace Go.SF
set_option linter.unusedVariables false
set_option linter.unusedSimpArgs false

/-- What a contract asks: slots, objects, facts. -/
structure Tm where
  t : List (Nat × AV)
  o : List AObj
  pc : List SB
/-- What comes of it, on one way. -/
structure TOut where
  pc : List SB
  ex : Ex
  t : List (Nat × AV)
  o : List AObj
  wr : List Nat

/-! ### matching: what it finds is looked at anew -/
inductive Src where
  | slot (u : Nat)
  | cell (id c : Nat)
  | val (c : CV)
structure MS where
  s : St
  pr : List Prim
  i : List (Nat × SI)
  b : List (Nat × SB)
  l : List (Nat × SL)
  φ : List (Nat × Nat)
def actC (s : St) : Src → Option CV
  | .slot u => match get u s.t with
    | some (.cv c) => some c
    | _ => none
  | .cell id c => match s.m.o[id]? with
    | some (.cells cs _) => cs[c]?
    | _ => none
  | .val c => some c
mutual
def bindI (M : MS) : SI → SI → MS
  | .v k, e => match look k M.i with
    | some _ => M
    | none => { M with i := (k, e) :: M.i }
  | .sel A r _, .sel A' r' _ => bindI (bindL M A A') r r'
  | _, _ => M
def bindL (M : MS) : SL → SL → MS
  | .v k, e => match look k M.l with
    | some _ => M
    | none => { M with l := (k, e) :: M.l }
  | .app f xs, .app g ys => if Nat.beq f g then bindA M xs ys else M
  | _, _ => M
def bindA (M : MS) : SA → SA → MS
  | .i x r, .i y r' => bindA (bindI M x y) r r'
  | .l x r, .l y r' => bindA (bindL M x y) r r'
  | _, _ => M
end
def bindB (M : MS) : SB → SB → MS
  | .v k, e => match look k M.b with
    | some _ => M
    | none => { M with b := (k, e) :: M.b }
  | .not x, .not y => bindB M x y
  | .eq x y, .eq x' y' => bindI (bindI M x x') y y'
  | _, _ => M
def enum (id : Nat) : Nat → List CV → List (CV × Src)
  | _, [] => []
  | c, p :: ps => (p, .cell id c) :: enum id (c + 1) ps
/-- Slices in a slice are bound where the slice is: the pattern's, and what is there. -/
def bindLists (T : Tm) (M : MS) (j id : Nat) : MS :=
  match findLists j 0 T.o, findLists id 0 M.s.m.o with
  | some jx, some ix => match look jx M.φ with
    | some _ => M
    | none => match (match runPrim M.s (.close ix) with | some s' => ({ M with s := s', pr := .close ix :: M.pr }, M.s.m.o.length) | none => (M, ix)) with
      | (M, ix) => match T.o[jx]?, M.s.m.o[ix]? with
        | some (.lists _ _ _ _ A _), some (.lists _ _ _ _ C _) => { bindL M A C with φ := (jx, ix) :: M.φ }
        | _, _ => M
  | _, _ => M
/-- The objects of a pattern's object j and of object id. -/
def bindO' (T : Tm) (M : MS) (j id : Nat) : MS × List (CV × Src) :=
  match look j M.φ with
  | some _ => (M, [])
  | none => match T.o[j]?, M.s.m.o[id]? with
    | some (.cells ps _), some (.cells _ _) => ({ M with φ := (j, id) :: M.φ }, enum id 0 ps)
    | some (.ext A _), some (.ext C _) => ({ bindL M A C with φ := (j, id) :: M.φ }, [])
    | some (.abs _ A), some (.abs _ C) => ({ bindL M A C with φ := (j, id) :: M.φ }, [])
    | some (.iter mj _ _ _ A _), some (.iter mi _ _ _ C cur) => match cur, runPrim M.s (.forget id) with
      | some _, some s' => ({ bindL { M with s := s', pr := .forget id :: M.pr } A C with φ := (j, id) :: M.φ }, [(.m (some mj), .val (.m (some mi)))])
      | _, _ => ({ bindL M A C with φ := (j, id) :: M.φ }, [(.m (some mj), .val (.m (some mi)))])
    | some .dead, some .dead => match bindLists T M j id with
      | M => ({ M with φ := (j, id) :: M.φ }, [])
    | _, _ => ({ M with φ := (j, id) :: M.φ }, [])
def primFor (T : Tm) (j : Nat) (src : Src) (c : CV) : Option Prim :=
  match c with
  | .sl none _ _ => match T.o[j]? with
    | some (.abs (.vec ks ty) _) => match src with
      | .slot u => some (.nilSlot u ks ty)
      | .cell id c => some (.nilCell id c ks ty)
      | .val _ => none
    | _ => none
  | .vs _ (.c 0) _ none => none
  | .vs _ _ _ none => match src with
    | .slot u => some (.canSlot u)
    | .cell id c => some (.canCell id c)
    | .val _ => none
  | _ => none
/-- A map that was gone through, where a map is asked for. -/
def endFor (T : Tm) (s : St) (j id : Nat) : Option Prim :=
  match T.o[j]?, s.m.o[id]? with
  | some (.abs (.map _ _ _) _), some .dead => match findIter id 0 s.m.o with
    | some k => some (.endIt id k)
    | none => none
  | _, _ => none
def goM (T : Tm) : Nat → List (CV × Src) → MS → Option MS
  | 0, _, _ => none
  | fuel + 1, [], M => some M
  | fuel + 1, (p, src) :: rest, M => match actC M.s src with
    | none => none
    | some c => match p, c with
      | .i _ x, .i _ y => goM T fuel rest (bindI M x y)
      | .b x, .b y => goM T fuel rest (bindB M x y)
      | .p (some q), .p (some q') => match bindO' T (bindI M q.r q'.r) q.id q'.id with
        | (M, w) => goM T fuel (w ++ rest) M
      | .sl (some q) x y, .sl (some q') x' y' => match bindO' T (bindI (bindI (bindI M q.r q'.r) x x') y y') q.id q'.id with
        | (M, w) => goM T fuel (w ++ rest) M
      | .vs j lo n cap, c => match primFor T j src c with
        | some pr => match runPrim M.s pr with
          | some s' => goM T fuel ((p, src) :: rest) { M with s := s', pr := pr :: M.pr }
          | none => none
        | none => match c with
          | .vs id lo' n' _ => match bindO' T (bindI (bindI M lo lo') n n') j id with
            | (M, w) => goM T fuel (w ++ rest) M
          | _ => none
      | .m (some j), .m (some id) => match endFor T M.s j id with
        | some pr => match runPrim M.s pr with
          | some s' => goM T fuel ((p, src) :: rest) { M with s := s', pr := pr :: M.pr }
          | none => none
        | none => match bindO' T M j id with
          | (M, w) => goM T fuel (w ++ rest) M
      | .cd _ x, .cd _ y => goM T fuel rest (bindI M x y)
      | .fn _ ps, .fn _ qs => goM T fuel ((ps.zip qs).map (fun x => (.p (some x.1), .val (.p (some x.2)))) ++ rest) M
      | _, _ => goM T fuel rest M
def itemsT : List (CV ⊕ List CV) → List (CV ⊕ List CV) → List (CV × Src)
  | .inl p :: ps, .inl c :: cs => (p, .val c) :: itemsT ps cs
  | .inr p :: ps, .inr c :: cs => (p.zip c).map (fun x => (x.1, .val x.2)) ++ itemsT ps cs
  | _, _ => []
def items (s : St) : List (Nat × AV) → List (CV × Src)
  | [] => []
  | (u, .cv c) :: r => (c, .slot u) :: items s r
  | (u, .agg cs) :: r => (match get u s.t with
    | some (.agg ds) => (cs.zip ds).map fun x => (x.1, .val x.2)
    | _ => []) ++ items s r
  | (u, .tup ps) :: r => (match get u s.t with
    | some (.tup cs) => itemsT ps cs
    | _ => []) ++ items s r
/-- The channels are bound where they are. -/
def rootsCh (T : Tm) (M : MS) : MS := match chanAt 0 T.o, chanAt 0 M.s.m.o with
  | some (j, _, _, _), some (i, _, _, _) => (bindO' T M j i).1
  | _, _ => M
def matchT (T : Tm) (s : St) : Option MS := goM T 1000 (items s T.t) (rootsCh T ⟨s, [], [], [], [], []⟩)

/-! ### looking at what was found -/
def idsOf (φ : List (Nat × Nat)) : Nat → Nat → Option (List Nat)
  | 0, _ => some []
  | n + 1, j => match look j φ, idsOf φ n (j + 1) with
    | some id, some r => some (id :: r)
    | _, _ => none
/-- Where a pattern's object lies. -/
def ph (ids : List Nat) (n : Nat) (j : Nat) : Nat := match ids[j]? with
  | some i => i
  | none => n + (j - ids.length)
def slotsAt (s : St) (t : List (Nat × AV)) : Bool := t.all fun x => match get x.1 s.t with
  | some v => AV.same x.2 v
  | none => false
def objsAt (m : Mem) : List Nat → List AObj → Bool
  | [], [] => true
  | i :: is, o :: os => (match m.o[i]? with | some o' => AObj.same o o' | none => false) && objsAt m is os
  | _, _ => false
def nodupB : List Nat → Bool
  | [] => true
  | i :: r => r.all (fun j => !Nat.beq i j) && nodupB r
def addAll : List SB → List SB → Option (List SB)
  | [], pc => some pc
  | x :: r, pc => match known pc x with
    | some true => addAll r pc
    | some false => none
    | none => addAll r (addFact pc x)

def putAll : List AObj → List Nat → List AObj → List AObj
  | os, [], r => os ++ r
  | os, i :: is, o :: r => putAll (os.set i o) is r
  | os, _ :: _, [] => os

/-- What a pattern's outcomes ask of the pattern. -/
def wf (T : Tm) (o : TOut) : Bool :=
  Nat.ble T.o.length o.o.length && (o.wr.all fun j => match T.o[j]? with | some x => x.excl | none => true) &&
  (List.range T.o.length).all fun j => match T.o[j]?, o.o[j]? with
    | some x, some y => (!y.alive || x.alive) && (!y.excl || x.excl)
    | _, _ => false

/-- What of an outcome is drawn is from 1000 on. -/
def TOut.bl (n : Nat) (o : TOut) : Bool := o.pc.all (SB.bl n) && (slotsBl n o.t && o.o.all (AObj.bl n))
def TOut.nx (o : TOut) : Nat := bif o.bl 1000 then 1000 else 2000
def isPan : Ex → Bool
  | .panic => true
  | _ => false
/-- Facts that are left to be shown, where they are not known: predicates of a law's own; all that stand behind a 'true'. -/
def isAsk : SB → Bool
  | .app .. => true
  | .eqL .. => true
  | .not (.app ..) => true
  | _ => false
def askAt (Φ : Sig) (σ : Sb) : Bool → List SB → List SB → Option (List SB)
  | _, _, [] => some []
  | _, pc, .c true :: r => askAt Φ σ true pc r
  | md, pc, x :: r => match known pc (x.sb Φ σ) with
    | some true => askAt Φ σ md pc r
    | some false => none
    | none => if md || isAsk x then (askAt Φ σ md (x.sb Φ σ :: pc) r).map (x.sb Φ σ :: ·) else none
def outAt (Φ : Sig) (σ : Sb) (s : St) (nx : Nat) (ids : List Nat) (pc : List SB) (o : TOut) : Option Out :=
  match addAll (o.pc.map (SB.sb Φ σ)) pc with
  | none => none
  | some pc' => some (Out.mk pc' o.ex (St.mk s.n (slotsSb Φ σ (ph ids s.m.o.length) o.t)
      (Mem.mk (putAll s.m.o ids (o.o.map (AObj.sb Φ σ (ph ids s.m.o.length)))) (o.wr.map (ph ids s.m.o.length) ++ s.m.wr) (nx + (o.nx - 1000)))))
/-- Nothing that is there is named as what will be drawn. -/
def freshB (M : MS) (nx : Nat) (m : Mem) (pc : List SB) : Bool :=
  m.bl nx && (pc.all (SB.bl nx) && (M.i.all (fun x => Nat.blt x.1 1000 && x.2.bl nx) && (M.l.all (fun x => Nat.blt x.1 1000 && x.2.bl nx) && M.b.all (fun x => Nat.blt x.1 1000 && x.2.bl nx))))
/-- A contract put to use. -/
def applyT (Φ : Sig) (T : Tm) (outs : List TOut) (s : St) (pc : List SB) : Option (List Out) :=
  match matchT T s with
  | none => none
  | some M => match runPrims s M.pr.reverse, idsOf M.φ T.o.length 0 with
    | some s1, some ids =>
      if slotsAt s1 (slotsSb Φ ⟨M.i, M.b, M.l, s.m.nx - 1000⟩ (ph ids s1.m.o.length) T.t) && objsAt s1.m ids (T.o.map (AObj.sb Φ ⟨M.i, M.b, M.l, s.m.nx - 1000⟩ (ph ids s1.m.o.length))) && nodupB ids &&
          outs.all (fun o => wf T o && !isPan o.ex) && Nat.ble 1000 s.m.nx then
        match askAt Φ ⟨M.i, M.b, M.l, s.m.nx - 1000⟩ false pc T.pc with
        | none => none
        | some as => if outs.all (TOut.bl 1000) || freshB M s.m.nx s1.m (as ++ pc) then
            some (outs.filterMap (outAt Φ ⟨M.i, M.b, M.l, s.m.nx - 1000⟩ s1 s.m.nx ids (as ++ pc)) ++ as.map fun x => Out.mk (mkNot x :: pc) .panic s)
          else none
      else none
    | _, _ => none

section
variable {Φ : Sig} {ρ : Env} {μ : List Loc} {P : Program} {B : Base} {w : World} {s : St} {a : Act} {pc : List SB}

theorem addAll_ok : ∀ {fs pc : List SB}, holds Φ ρ pc → (∀ x ∈ fs, x.ev Φ ρ = true) → ∃ pc', addAll fs pc = some pc' ∧ holds Φ ρ pc'
  | [], pc, hp, _ => ⟨pc, rfl, hp⟩
  | x :: r, pc, hp, h => by
    have hx := h x (List.mem_cons_self ..)
    have hr := fun y hy => h y (List.mem_cons_of_mem _ hy)
    simp only [addAll]
    cases hk : known pc x with
    | some b =>
      have := known_ok Φ ρ hp x b hk
      rw [hx] at this; subst this
      exact addAll_ok hp hr
    | none => exact addAll_ok (addFact_ok Φ ρ hp hx) hr

theorem ids_len : ∀ {φ : List (Nat × Nat)} {n j : Nat} {ids : List Nat}, idsOf φ n j = some ids → ids.length = n
  | φ, 0, j, ids, h => by simp [idsOf] at h; subst h; rfl
  | φ, n + 1, j, ids, h => by
    simp only [idsOf] at h
    split at h
    · rename_i i r hi hr
      simp at h; subst h
      simp [ids_len hr]
    · cases h

theorem objsAt_ok {m : Mem} : ∀ {ids : List Nat} {os : List AObj}, objsAt m ids os = true → ids.length = os.length ∧ ∀ (j i : Nat), ids[j]? = some i → m.o[i]? = os[j]? ∧ i < m.o.length
  | [], [], _ => ⟨rfl, by simp⟩
  | i :: is, o :: os, h => by
    simp only [objsAt, Bool.and_eq_true] at h
    obtain ⟨h1, h2⟩ := objsAt_ok h.2
    refine ⟨by simp [h1], fun j k hk => ?_⟩
    cases j with
    | zero =>
      simp at hk; subst hk
      have h3 := h.1
      split at h3
      · rename_i o' ho'
        rw [AObj.same_eq h3, ho']
        exact ⟨rfl, (List.getElem?_eq_some_iff.1 ho').1⟩
      · cases h3
    | succ j => simpa using h2 j k (by simpa using hk)
  | [], _ :: _, h => by simp [objsAt] at h
  | _ :: _, [], h => by simp [objsAt] at h

theorem nodupB_ok : ∀ {ids : List Nat}, nodupB ids = true → ids.Nodup
  | [], _ => List.nodup_nil
  | i :: r, h => by
    simp only [nodupB, Bool.and_eq_true, List.all_eq_true, Bool.not_eq_true'] at h
    refine List.nodup_cons.2 ⟨fun hm => ?_, nodupB_ok h.2⟩
    have := h.1 i hm
    rw [Nat.beq_refl] at this; cases this

theorem putAll_len : ∀ {os : List AObj} {ids : List Nat} {rs : List AObj}, ids.length ≤ rs.length → (putAll os ids rs).length = os.length + (rs.length - ids.length)
  | os, [], rs, _ => by simp [putAll]
  | os, i :: is, o :: rs, h => by simp only [putAll]; rw [putAll_len (by simpa using h)]; simp
  | os, i :: is, [], h => by simp at h
theorem putAll_get : ∀ {os : List AObj} {ids : List Nat} {rs : List AObj}, ids.length ≤ rs.length → ids.Nodup → (∀ i ∈ ids, i < os.length) →
    (∀ (j i : Nat), ids[j]? = some i → (putAll os ids rs)[i]? = rs[j]?) ∧ (∀ i, i < os.length → i ∉ ids → (putAll os ids rs)[i]? = os[i]?) ∧ (∀ i, os.length ≤ i → (putAll os ids rs)[i]? = rs[ids.length + (i - os.length)]?)
  | os, [], rs, _, _, _ => by
    refine ⟨by simp, fun i hi _ => by simp [putAll, List.getElem?_append_left hi], fun i hi => by simp [putAll, List.getElem?_append_right hi]⟩
  | os, k :: is, o :: rs, hl, hn, hb => by
    have hn' := List.nodup_cons.1 hn
    obtain ⟨h1, h2, h3⟩ := putAll_get (os := os.set k o) (ids := is) (rs := rs) (by simpa using hl) hn'.2 (fun i hi => by simpa using hb i (List.mem_cons_of_mem _ hi))
    simp only [putAll]
    refine ⟨fun j i hj => ?_, fun i hi hni => ?_, fun i hi => ?_⟩
    · cases j with
      | zero =>
        simp at hj; subst hj
        rw [h2 k (by simpa using hb k (List.mem_cons_self ..)) hn'.1, List.getElem?_set_self (hb k (List.mem_cons_self ..))]
        rfl
      | succ j => simpa using h1 j i (by simpa using hj)
    · rw [h2 i (by simpa using hi) (fun h => hni (List.mem_cons_of_mem _ h)), List.getElem?_set_ne (fun e => hni (by rw [e]; exact List.mem_cons_self ..))]
    · rw [h3 i (by simpa using hi)]
      simp only [List.length_set, List.length_cons]
      rw [show is.length + 1 + (i - os.length) = (is.length + (i - os.length)) + 1 by omega]
      rfl
  | os, i :: is, [], h, _, _ => by simp at h

theorem slotsAt_ok {t : List (Nat × AV)} (h : slotsAt s t = true) : ∀ (u : Nat) (v : AV), get u t = some v → get u s.t = some v := by
  induction t with
  | nil => intro u v hv; simp [get] at hv
  | cons x t ih =>
    obtain ⟨k, y⟩ := x
    simp only [slotsAt, List.all_cons, Bool.and_eq_true] at h
    intro u v hv
    simp only [get] at hv
    split at hv
    · rename_i e
      have e := Nat.eq_of_beq_eq_true e
      subst e
      simp at hv; subst hv
      have h1 := h.1
      split at h1
      · rename_i v' hv'
        rw [AV.same_eq h1]; exact hv'
      · cases h1
    · exact ih h.2 u v hv

/-- The locations that a pattern's objects have. -/
def subLoc (μ : List Loc) (ids : List Nat) : List Loc := ids.filterMap fun i => μ[i]?
theorem subLoc_get (μ : List Loc) : ∀ (ids : List Nat), (∀ i ∈ ids, i < μ.length) → (subLoc μ ids).length = ids.length ∧ ∀ j : Nat, (subLoc μ ids)[j]? = (ids[j]?).bind fun (i : Nat) => μ[i]?
  | [], _ => ⟨rfl, by simp [subLoc]⟩
  | i :: is, h => by
    have hi := h i (List.mem_cons_self ..)
    obtain ⟨h1, h2⟩ := subLoc_get μ is (fun j hj => h j (List.mem_cons_of_mem _ hj))
    have e : subLoc μ (i :: is) = μ[i] :: subLoc μ is := by
      unfold subLoc
      rw [List.filterMap_cons]
      simp [List.getElem?_eq_getElem hi]
    rw [e]
    refine ⟨by simp [h1], fun j => ?_⟩
    cases j with
    | zero => simp [List.getElem?_eq_getElem hi]
    | succ j => simpa using h2 j

theorem wf_spec {T : Tm} {o : TOut} (h : wf T o = true) : T.o.length ≤ o.o.length ∧ (∀ j ∈ o.wr, ∀ x, T.o[j]? = some x → x.excl = true) ∧
    ∀ (j : Nat) (y : AObj), j < T.o.length → o.o[j]? = some y → ∃ x, T.o[j]? = some x ∧ (y.alive = true → x.alive = true) ∧ (y.excl = true → x.excl = true) := by
  simp only [wf, Bool.and_eq_true, List.all_eq_true, List.mem_range] at h
  obtain ⟨⟨h1, h2⟩, h3⟩ := h
  refine ⟨Nat.le_of_ble_eq_true h1, fun j hj x hx => ?_, fun j y hj hy => ?_⟩
  · have := h2 j hj
    rw [hx] at this; exact this
  · have := h3 j hj
    rw [List.getElem?_eq_getElem hj, hy] at this
    simp only [Bool.and_eq_true, Bool.or_eq_true, Bool.not_eq_true'] at this
    refine ⟨_, List.getElem?_eq_getElem hj, fun e => ?_, fun e => ?_⟩
    · rcases this.1 with h | h
      · rw [e] at h; cases h
      · exact h
    · rcases this.2 with h | h
      · rw [e] at h; cases h
      · exact h

/-- What is the same for all contracts: the pattern's objects seen by themselves, and put back. -/
structure Fits (Φ : Sig) (ρ : Env) (μ : List Loc) (B : Base) (w : World) (T : Tm) (σ : Sb) (s : St) (ids : List Nat) : Prop where
  rel : MRel Φ ρ μ B s.m w
  len : ids.length = T.o.length
  at' : ∀ (j i : Nat), ids[j]? = some i → s.m.o[i]? = (T.o[j]?).map (AObj.sb Φ σ (ph ids s.m.o.length)) ∧ i < s.m.o.length
  nd : ids.Nodup

variable {T : Tm} {σ : Sb} {ids : List Nat}

theorem Fits.lt (h : Fits Φ ρ μ B w T σ s ids) : ∀ i ∈ ids, i < s.m.o.length := by
  intro i hi
  obtain ⟨j, hj⟩ := List.getElem?_of_mem hi
  exact (h.at' j i hj).2

theorem Fits.phi (h : Fits Φ ρ μ B w T σ s ids) (ν : List Loc) : ∀ j, (subLoc μ ids ++ ν)[j]? = (μ ++ ν)[ph ids s.m.o.length j]? := by
  intro j
  obtain ⟨h1, h2⟩ := subLoc_get μ ids (fun i hi => by rw [h.rel.len]; exact h.lt i hi)
  unfold ph
  cases hj : ids[j]? with
  | some i =>
    have hjl := (List.getElem?_eq_some_iff.1 hj).1
    simp only
    rw [List.getElem?_append_left (by rw [h1]; exact hjl), h2, hj]
    simp only [Option.bind_some]
    rw [List.getElem?_append_left (by rw [h.rel.len]; exact (h.at' j i hj).2)]
  | none =>
    have hjl : ids.length ≤ j := by
      rcases Nat.lt_or_ge j ids.length with h' | h'
      · rw [List.getElem?_eq_getElem h'] at hj; cases hj
      · exact h'
    simp only
    rw [List.getElem?_append_right (by rw [h1]; exact hjl), h1, List.getElem?_append_right (by rw [h.rel.len]; omega), h.rel.len]
    congr 1; omega

theorem Fits.sub (h : Fits Φ ρ μ B w T σ s ids) : MRel Φ (ρ.sb Φ σ) (subLoc μ ids) ⟨w, T.o.length⟩ ⟨T.o, [], 1000⟩ w := by
  obtain ⟨h1, h2⟩ := subLoc_get μ ids (fun i hi => by rw [h.rel.len]; exact h.lt i hi)
  have hφ : ∀ j, (subLoc μ ids)[j]? = μ[ph ids s.m.o.length j]? := fun j => by have := h.phi [] j; simpa using this
  have obj : ∀ {j : Nat} {o : AObj} {l : Loc}, T.o[j]? = some o → (subLoc μ ids)[j]? = some l → ∃ i, ids[j]? = some i ∧ s.m.o[i]? = some (o.sb Φ σ (ph ids s.m.o.length)) ∧ μ[i]? = some l := by
    intro j o l ho hl
    rw [h2] at hl
    cases hj : ids[j]? with
    | none => rw [hj] at hl; cases hl
    | some i =>
      rw [hj] at hl
      refine ⟨i, rfl, ?_, hl⟩
      rw [(h.at' j i hj).1, ho]; rfl
  constructor
  · rw [h1, h.len]
  · exact Nat.le_refl _
  · intro i j oi oj li lj b hi hj he ha hli hlj hbi hbj
    obtain ⟨i', e1, e2, e3⟩ := obj hi hli
    obtain ⟨j', e4, e5, e6⟩ := obj hj hlj
    have := h.rel.apart i' j' _ _ li lj b e2 e5 (by rw [sb_excl]; exact he) (by rw [sb_alive]; exact ha) e3 e6 hbi hbj
    subst this
    obtain ⟨a1, a2⟩ := List.getElem?_eq_some_iff.1 e1
    obtain ⟨a3, a4⟩ := List.getElem?_eq_some_iff.1 e4
    have hpw := List.pairwise_iff_getElem.1 h.nd
    rcases Nat.lt_trichotomy i j with hlt | heq | hlt
    · exact absurd (a2.trans a4.symm) (hpw i j a1 a3 hlt)
    · exact heq
    · exact absurd (a4.trans a2.symm) (hpw j i a3 a1 hlt)
  · intro j o l ho hl
    obtain ⟨i', e1, e2, e3⟩ := obj ho hl
    exact (obj_sb hφ o w l).1 (h.rel.obj i' _ l e2 e3)
  · intro j o l ho ha hl b hb
    obtain ⟨i', e1, e2, e3⟩ := obj ho hl
    exact h.rel.lt i' _ l e2 (by rw [sb_alive]; exact ha) e3 b hb
  · intro b hb _; rfl
  · intro i l b hi hl _
    have := (List.getElem?_eq_some_iff.1 hl).1
    rw [h1, h.len] at this
    simp at hi; omega
  · intro i j o li lj b hi; cases hi
  · exact Nat.le_refl _
  · exact ⟨rfl, rfl, rfl⟩

theorem Fits.back (h : Fits Φ ρ μ B w T σ s ids) {o : TOut} (hw : wf T o = true) {ν : List Loc} {w' : World} {n0 n1 : Nat} (hM : MRel Φ (ρ.sb Φ σ) (subLoc μ ids ++ ν) ⟨w, T.o.length⟩ ⟨o.o, o.wr, n0⟩ w') :
    MRel Φ ρ (μ ++ ν) B ⟨putAll s.m.o ids (o.o.map (AObj.sb Φ σ (ph ids s.m.o.length))), o.wr.map (ph ids s.m.o.length) ++ s.m.wr, n1⟩ w' := by
  obtain ⟨h1, h2⟩ := subLoc_get μ ids (fun i hi => by rw [h.rel.len]; exact h.lt i hi)
  obtain ⟨w1, w2, w3⟩ := wf_spec hw
  have hφ := h.phi ν
  have hR := h.rel
  have hlen := hM.len
  simp only [List.length_append, h1, h.len] at hlen
  obtain ⟨p1, p2, p3⟩ := putAll_get (os := s.m.o) (ids := ids) (rs := o.o.map (AObj.sb Φ σ (ph ids s.m.o.length))) (by simp [h.len]; exact w1) h.nd h.lt
  -- an object of the pattern's, or one that it does not name
  have kind : ∀ {i : Nat} {x : AObj} {l : Loc}, (putAll s.m.o ids (o.o.map (AObj.sb Φ σ (ph ids s.m.o.length))))[i]? = some x → (μ ++ ν)[i]? = some l →
      (i ∉ ids ∧ i < s.m.o.length ∧ s.m.o[i]? = some x ∧ μ[i]? = some l) ∨
      (∃ j y, ph ids s.m.o.length j = i ∧ o.o[j]? = some y ∧ x = y.sb Φ σ (ph ids s.m.o.length) ∧ (subLoc μ ids ++ ν)[j]? = some l) := by
    intro i x l hx hl
    by_cases hi : i ∈ ids
    · obtain ⟨j, hj⟩ := List.getElem?_of_mem hi
      rw [p1 j i hj, List.getElem?_map] at hx
      simp only [Option.map_eq_some_iff] at hx
      obtain ⟨y, hy, rfl⟩ := hx
      have e : ph ids s.m.o.length j = i := by simp [ph, hj]
      exact .inr ⟨j, y, e, hy, rfl, by rw [hφ, e]; exact hl⟩
    · by_cases hlt : i < s.m.o.length
      · rw [p2 i hlt hi] at hx
        rw [List.getElem?_append_left (by rw [hR.len]; exact hlt)] at hl
        exact .inl ⟨hi, hlt, hx, hl⟩
      · have hge := Nat.le_of_not_lt hlt
        rw [p3 i hge, List.getElem?_map] at hx
        simp only [Option.map_eq_some_iff] at hx
        obtain ⟨y, hy, rfl⟩ := hx
        have e : ph ids s.m.o.length (ids.length + (i - s.m.o.length)) = i := by
          have : ids[ids.length + (i - s.m.o.length)]? = none := List.getElem?_eq_none (by omega)
          simp only [ph, this]; omega
        exact .inr ⟨_, y, e, hy, rfl, by rw [hφ, e]; exact hl⟩
  -- the pattern's objects as they were
  have base : ∀ {j : Nat} {l : Loc}, j < T.o.length → (subLoc μ ids ++ ν)[j]? = some l → ∃ i x, ids[j]? = some i ∧ T.o[j]? = some x ∧ s.m.o[i]? = some (x.sb Φ σ (ph ids s.m.o.length)) ∧ μ[i]? = some l ∧ i < s.m.o.length := by
    intro j l hj hl
    have hjl : j < ids.length := by rw [h.len]; exact hj
    have e := List.getElem?_eq_getElem hjl
    obtain ⟨a1, a2⟩ := h.at' j _ e
    rw [List.getElem?_append_left (by rw [h1]; exact hjl), h2, e] at hl
    refine ⟨_, _, e, List.getElem?_eq_getElem hj, ?_, by simpa using hl, a2⟩
    rw [a1, List.getElem?_eq_getElem hj]; rfl
  have kn : ∀ {j : Nat}, ¬ j < T.o.length → s.m.o.length ≤ ph ids s.m.o.length j := by
    intro j hj
    have : ids[j]? = none := List.getElem?_eq_none (by rw [h.len]; omega)
    simp only [ph, this]; omega
  have ks : ∀ {j i : Nat}, ids[j]? = some i → ph ids s.m.o.length j = i := by intro j i hj; simp [ph, hj]
  -- blocks of the pattern's objects, written or new, are not those of what it does not name
  have apartA : ∀ {i : Nat} {x : AObj} {l : Loc} {j : Nat} {y : AObj} {l' : Loc} {b : Nat}, i ∉ ids → s.m.o[i]? = some x → μ[i]? = some l → o.o[j]? = some y → (subLoc μ ids ++ ν)[j]? = some l' →
      x.alive = true → y.alive = true → (x.excl = true ∨ y.excl = true) → b ∈ l.own → b ∈ l'.own → False := by
    intro i x l j y l' b hi hx hl hy hl' hxa hya hex hb hb'
    by_cases hj : j < T.o.length
    · obtain ⟨i', z, e1, e2, e3, e4, e5⟩ := base hj hl'
      obtain ⟨z', f1, f2, f3⟩ := w3 j y hj hy
      rw [e2] at f1; cases f1
      have hne : i' ≠ i := fun e => hi (e ▸ List.mem_of_getElem? e1)
      rcases hex with hex | hex
      · exact hne (hR.apart i i' x _ l l' b hx e3 hex (by rw [sb_alive]; exact f2 hya) hl e4 hb hb').symm
      · exact hne (hR.apart i' i _ x l' l b e3 hx (by rw [sb_excl]; exact f3 hex) hxa e4 hl hb' hb)
    · rcases hM.new j l' b (by simp only; omega) hl' hb' with g | ⟨j0, l0, g1, g2, g3, g4⟩
      · have := hR.lt i x l hx hxa hl b hb
        simp only at g; omega
      · obtain ⟨i', z, e1, e2, e3, e4, e5⟩ := base g2 g3
        have hne : i' ≠ i := fun e => hi (e ▸ List.mem_of_getElem? e1)
        exact hne (hR.apart i' i _ x l0 l b e3 hx (by rw [sb_excl]; exact w2 j0 g1 z e2) hxa e4 hl g4 hb)
  constructor
  · rw [putAll_len (by simp [h.len]; exact w1)]
    simp [hR.len, h.len]; omega
  · rw [putAll_len (by simp [h.len]; exact w1)]
    have := hR.kle; omega
  · intro i j oi oj li lj b hi hj he ha hli hlj hbi hbj
    rcases kind hi hli with ⟨a1, a2, a3, a4⟩ | ⟨i1, y1, a1, a2, rfl, a4⟩ <;> rcases kind hj hlj with ⟨b1, b2, b3, b4⟩ | ⟨j1, y2, b1, b2, rfl, b4⟩
    · exact hR.apart i j oi oj li lj b a3 b3 he ha a4 b4 hbi hbj
    · exact (apartA a1 a3 a4 b2 b4 (AObj.excl_alive he) (by rw [sb_alive] at ha; exact ha) (.inl he) hbi hbj).elim
    · exact (apartA b1 b3 b4 a2 a4 ha (by have := AObj.excl_alive he; rw [sb_alive] at this; exact this) (.inr (by rw [sb_excl] at he; exact he)) hbj hbi).elim
    · rw [sb_excl] at he; rw [sb_alive] at ha
      have := hM.apart i1 j1 y1 y2 li lj b a2 b2 he ha a4 b4 hbi hbj
      rw [← a1, ← b1, this]
  · intro i x l hx hl
    rcases kind hx hl with ⟨a1, a2, a3, a4⟩ | ⟨j, y, a1, a2, rfl, a4⟩
    · cases hal : x.alive with
      | false => rw [dead_of hal]; trivial
      | true =>
        refine ((hR.obj i x l a3 a4).of_heap fun b hb => ?_).more
        have hbl := hR.lt i x l a3 hal a4 b hb
        refine hM.fr b hbl fun j l' hj hjk hl' hb' => ?_
        obtain ⟨i', z, e1, e2, e3, e4, e5⟩ := base hjk hl'
        have hne : i' ≠ i := fun e => a1 (e ▸ List.mem_of_getElem? e1)
        exact hne (hR.apart i' i _ x l' l b e3 a3 (by rw [sb_excl]; exact w2 j hj z e2) hal e4 a4 hb' hb)
    · exact (obj_sb hφ y w' l).2 (hM.obj j y l a2 a4)
  · intro i x l hx ha hl b hb
    rcases kind hx hl with ⟨a1, a2, a3, a4⟩ | ⟨j, y, a1, a2, rfl, a4⟩
    · exact Nat.lt_of_lt_of_le (hR.lt i x l a3 ha a4 b hb) hM.sz
    · rw [sb_alive] at ha
      exact hM.lt j y l a2 ha a4 b hb
  · intro b hb hn
    have old : ∀ (i : Nat) (l : Loc), i ∈ s.m.wr → i < B.k → μ[i]? = some l → b ∉ l.own := fun i l hi hk hl => hn i l (List.mem_append.2 (.inr hi)) hk (get_app hl)
    have hbw := Nat.lt_of_lt_of_le hb hR.sz
    rw [hM.fr b hbw fun j l hj hjk hl hbl => ?_]
    · exact hR.fr b hb old
    · obtain ⟨i', z, e1, e2, e3, e4, e5⟩ := base hjk hl
      by_cases hk : i' < B.k
      · exact hn i' l (List.mem_append.2 (.inl (List.mem_map.2 ⟨j, hj, ks e1⟩))) hk (get_app e4) hbl
      · rcases hR.new i' l b (Nat.le_of_not_lt hk) e4 hbl with g | ⟨j0, l0, g1, g2, g3, g4⟩
        · omega
        · exact old j0 l0 g1 g2 g3 g4
  · intro i l b hik hl hb
    by_cases hil : i < μ.length
    · rw [List.getElem?_append_left hil] at hl
      rcases hR.new i l b hik hl hb with g | ⟨j0, l0, g1, g2, g3, g4⟩
      · exact .inl g
      · exact .inr ⟨j0, l0, List.mem_append.2 (.inr g1), g2, get_app g3, g4⟩
    · have hge : s.m.o.length ≤ i := by rw [← hR.len]; omega
      have e : ph ids s.m.o.length (ids.length + (i - s.m.o.length)) = i := by
        have : ids[ids.length + (i - s.m.o.length)]? = none := List.getElem?_eq_none (by omega)
        simp only [ph, this]; omega
      have hl' : (subLoc μ ids ++ ν)[ids.length + (i - s.m.o.length)]? = some l := by rw [hφ, e]; exact hl
      rcases hM.new _ l b (by simp only [h.len]; omega) hl' hb with g | ⟨j0, l0, g1, g2, g3, g4⟩
      · exact .inl (Nat.le_trans hR.sz g)
      · obtain ⟨i', z, e1, e2, e3, e4, e5⟩ := base g2 g3
        by_cases hk : i' < B.k
        · exact .inr ⟨i', l0, List.mem_append.2 (.inl (List.mem_map.2 ⟨j0, g1, ks e1⟩)), hk, get_app e4, g4⟩
        · rcases hR.new i' l0 b (Nat.le_of_not_lt hk) e4 g4 with g | ⟨j2, l2, k1, k2, k3, k4⟩
          · exact .inl g
          · exact .inr ⟨j2, l2, List.mem_append.2 (.inr k1), k2, get_app k3, k4⟩
  · intro i j x li lj b hi hik hjk hj hx ha hli hlj hbi hbj
    have hkl := hR.kle
    have hil : i < μ.length := by rw [hR.len]; omega
    have hjl : j < μ.length := by rw [hR.len]; omega
    -- the other one was alive
    obtain ⟨x', hx', hxa', hji⟩ : ∃ x', s.m.o[j]? = some x' ∧ x'.alive = true ∧ μ[j]? = some lj := by
      have hlj' := hlj
      rw [List.getElem?_append_left hjl] at hlj'
      rcases kind hx hlj with ⟨a1, a2, a3, a4⟩ | ⟨j1, y, a1, a2, rfl, a4⟩
      · exact ⟨x, a3, ha, hlj'⟩
      · by_cases hj1 : j1 < T.o.length
        · obtain ⟨i', z, e1, e2, e3, e4, e5⟩ := base hj1 a4
          obtain ⟨z', f1, f2, f3⟩ := w3 j1 y hj1 a2
          rw [e2] at f1; cases f1
          have : i' = j := by rw [← a1]; exact (ks e1).symm
          subst this
          rw [sb_alive] at ha
          exact ⟨_, e3, by rw [sb_alive]; exact f2 ha, e4⟩
        · have := kn hj1
          omega
    rw [List.getElem?_append_left hil] at hli
    have hj0 : j ∉ s.m.wr := fun e => hj (List.mem_append.2 (.inr e))
    rcases List.mem_append.1 hi with hi | hi
    · obtain ⟨j0, hj0w, e⟩ := List.mem_map.1 hi
      by_cases hj0k : j0 < T.o.length
      · obtain ⟨z, hz⟩ : ∃ z, ids[j0]? = some z := ⟨_, List.getElem?_eq_getElem (by rw [h.len]; exact hj0k)⟩
        have : z = i := by rw [← e]; exact (ks hz).symm
        subst this
        obtain ⟨a1, a2⟩ := h.at' j0 z hz
        have hTz := List.getElem?_eq_getElem hj0k
        rw [hTz] at a1
        have := hR.apart z j _ x' li lj b a1 hx' (by rw [sb_excl]; exact w2 j0 hj0w _ hTz) hxa' hli hji hbi hbj
        subst this
        exact hj (List.mem_append.2 (.inl (List.mem_map.2 ⟨j0, hj0w, e⟩)))
      · have := kn hj0k
        omega
    · exact hR.wap i j x' li lj b hi hik hjk hj0 hx' hxa' hli hji hbi hbj
  · exact Nat.le_trans hR.sz hM.sz
  · exact ⟨hM.os.1.trans hR.os.1, hM.os.2.1.trans hR.os.2.1, hM.os.2.2.trans hR.os.2.2⟩

/-- A contract of a call, for whatever the unknowns are. -/
def TmCall (Φ : Sig) (P : Program) (f : Nat) (vs : List AV) (o : List AObj) (pc : List SB) (outs : List TOut) : Prop :=
  ∀ ρ : Env, CallOK Φ ρ P f vs ⟨o, [], 1000⟩ pc (outs.map fun x => (x.pc, (get 0 x.t).map fun v => (v, ⟨x.o, x.wr, x.nx⟩)))

/-- A call's outcomes, out of a contract. -/
def resOut : List Out → Outs
  | [] => some []
  | o :: r => match resOut r with
    | none => none
    | some l => if isPan o.ex then some ((o.pc, none) :: l) else match get 0 o.st.t with
      | some v => some ((o.pc, some (v, o.st.m)) :: l)
      | none => none
def applyCall (Φ : Sig) (vsT : List AV) (oT : List AObj) (pcT : List SB) (outs : List TOut) (vs : List AV) (m : Mem) (pc : List SB) : Outs :=
  if Nat.beq vs.length vsT.length && outs.all (fun o => (get 0 o.t).isSome) then
    match applyT Φ ⟨number 0 vsT, oT, pcT⟩ outs ⟨vs.length, number 0 vs, m⟩ pc with
    | some os => resOut os
    | none => none
  else none

theorem resOut_mem : ∀ {os : List Out} {r : List (List SB × Option (AV × Mem))}, resOut os = some r → ∀ o ∈ os, (isPan o.ex = true → (o.pc, none) ∈ r) ∧ (isPan o.ex = false → ∃ v, get 0 o.st.t = some v ∧ (o.pc, some (v, o.st.m)) ∈ r)
  | [], r, _, o, ho => by cases ho
  | x :: os, r, h, o, ho => by
    simp only [resOut] at h
    split at h
    · cases h
    · rename_i l hl
      have ih := resOut_mem hl
      split at h
      · rename_i hp
        simp at h; subst h
        rcases List.mem_cons.1 ho with rfl | ho
        · exact ⟨fun _ => List.mem_cons_self .., fun h => by rw [hp] at h; cases h⟩
        · exact ⟨fun h => List.mem_cons_of_mem _ ((ih o ho).1 h), fun h => by obtain ⟨v, h1, h2⟩ := (ih o ho).2 h; exact ⟨v, h1, List.mem_cons_of_mem _ h2⟩⟩
      · rename_i hp
        split at h
        · rename_i v hv
          simp at h; subst h
          rcases List.mem_cons.1 ho with rfl | ho
          · exact ⟨fun h => absurd h hp, fun _ => ⟨v, hv, List.mem_cons_self ..⟩⟩
          · exact ⟨fun h => List.mem_cons_of_mem _ ((ih o ho).1 h), fun h => by obtain ⟨v, h1, h2⟩ := (ih o ho).2 h; exact ⟨v, h1, List.mem_cons_of_mem _ h2⟩⟩
        · cases h

theorem number_get : ∀ (vs : List AV) (k i : Nat) (v : AV), vs[i]? = some v → get (k + i) (number k vs) = some v
  | [], k, i, v, h => by simp at h
  | x :: vs, k, 0, v, h => by
    simp at h; subst h
    simp only [number, get, Nat.add_zero]
    rw [if_pos (Nat.beq_refl k)]
  | x :: vs, k, i + 1, v, h => by
    simp only [number, get]
    rw [if_neg (by simp)]
    have := number_get vs (k + 1) i v (by simpa using h)
    rw [show k + 1 + i = k + (i + 1) by omega] at this
    exact this

theorem ask_ok {σ : Sb} : ∀ {fs : List SB} {md : Bool} {pc as : List SB}, holds Φ ρ pc → askAt Φ σ md pc fs = some as → holds Φ ρ as → holds Φ (ρ.sb Φ σ) fs
  | [], md, pc, as, _, _, _ => by intro x hx; cases hx
  | f :: fs, md, pc, as, hp, h, ha => by
    have key : (match known pc (f.sb Φ σ) with
        | some true => askAt Φ σ md pc fs
        | some false => none
        | none => if md || isAsk f then (askAt Φ σ md (f.sb Φ σ :: pc) fs).map (f.sb Φ σ :: ·) else none) = some as → holds Φ (ρ.sb Φ σ) (f :: fs) := by
      intro h
      split at h
      · rename_i hk
        intro x hx
        rcases List.mem_cons.1 hx with rfl | hx
        · have := known_ok Φ ρ hp _ _ hk
          rw [evB_sb] at this; exact this
        · exact ask_ok hp h ha x hx
      · cases h
      · split at h
        · simp only [Option.map_eq_some_iff] at h
          obtain ⟨l, hl, rfl⟩ := h
          have h1 := ha _ (List.mem_cons_self ..)
          intro x hx
          rcases List.mem_cons.1 hx with rfl | hx
          · rw [evB_sb] at h1; exact h1
          · exact ask_ok (holds_cons Φ ρ h1 hp) hl (fun y hy => ha y (List.mem_cons_of_mem _ hy)) x hx
        · cases h
    by_cases hf : f = .c true
    · subst hf
      simp only [askAt] at h
      intro x hx
      rcases List.mem_cons.1 hx with rfl | hx
      · rfl
      · exact ask_ok hp h ha x hx
    · refine key ?_
      rw [askAt] at h
      · exact h
      · exact fun e => hf e

/-- What 'applyT' has found. -/
structure Spec (Φ : Sig) (T : Tm) (outs : List TOut) (s : St) (pc : List SB) (os : List Out) (ps : List Prim) (s' : St) (σ : Sb) (ids : List Nat) (as : List SB) (M : MS) : Prop where
  prims : runPrims s ps = some s'
  len : ids.length = T.o.length
  slots : slotsAt s' (slotsSb Φ σ (ph ids s'.m.o.length) T.t) = true
  objs : objsAt s'.m ids (T.o.map (AObj.sb Φ σ (ph ids s'.m.o.length))) = true
  nd : ids.Nodup
  nx : 1000 ≤ s.m.nx
  sb : σ = ⟨M.i, M.b, M.l, s.m.nx - 1000⟩
  ask : askAt Φ σ false pc T.pc = some as
  wf : ∀ o ∈ outs, wf T o = true ∧ isPan o.ex = false
  fresh : (∀ o ∈ outs, o.bl 1000 = true) ∨ freshB M s.m.nx s'.m (as ++ pc) = true
  out : ∀ o ∈ outs, ∀ pc', addAll (o.pc.map (SB.sb Φ σ)) (as ++ pc) = some pc' → (⟨pc', o.ex, ⟨s'.n, slotsSb Φ σ (ph ids s'.m.o.length) o.t, ⟨putAll s'.m.o ids (o.o.map (AObj.sb Φ σ (ph ids s'.m.o.length))), o.wr.map (ph ids s'.m.o.length) ++ s'.m.wr, s.m.nx + (o.nx - 1000)⟩⟩⟩ : Out) ∈ os
  pan : ∀ x ∈ as, (⟨mkNot x :: pc, .panic, s⟩ : Out) ∈ os
theorem apply_spec {T : Tm} {outs : List TOut} {os : List Out} (h : applyT Φ T outs s pc = some os) : ∃ ps s' σ ids as M, Spec Φ T outs s pc os ps s' σ ids as M := by
  unfold applyT at h
  split at h
  · cases h
  · rename_i M hM
    split at h
    · rename_i s' ids hs hids
      split at h
      · rename_i hc
        simp only [Bool.and_eq_true, List.all_eq_true, Bool.not_eq_true'] at hc
        obtain ⟨⟨⟨⟨c1, c2⟩, c3⟩, c5⟩, c6⟩ := hc
        split at h
        · cases h
        · rename_i as has
          split at h
          · rename_i hf
            simp only [Option.some.injEq] at h; subst h
            rw [Bool.or_eq_true, List.all_eq_true] at hf
            refine ⟨_, s', _, ids, as, M, hs, ids_len hids, c1, c2, nodupB_ok c3, Nat.le_of_ble_eq_true c6, rfl, has, c5, hf, fun o ho pc' hpc => ?_, fun x hx => ?_⟩
            · refine List.mem_append.2 (.inl (List.mem_filterMap.2 ⟨o, ho, ?_⟩))
              simp only [outAt, hpc]
            · exact List.mem_append.2 (.inr (List.mem_map_of_mem (f := fun x => Out.mk (mkNot x :: pc) .panic s) hx))
          · cases h
      · cases h
    · cases h

theorem mem_look {α : Type} {k : Nat} {v : α} : ∀ {l : List (Nat × α)}, look k l = some v → (k, v) ∈ l
  | [], h => by simp [look] at h
  | (u, x) :: r, h => by
    simp only [look] at h
    split at h
    · rename_i e
      have e := Nat.eq_of_beq_eq_true e
      simp at h; subst h; subst e; exact List.mem_cons_self ..
    · exact List.mem_cons_of_mem _ (mem_look h)

/-- What a contract has drawn, named anew. -/
theorem env_shift {M : MS} {nx : Nat} {m : Mem} (h0 : 1000 ≤ nx) (hf : freshB M nx m pc = true) {ρT : Env} (ha : AgrB 1000 (ρ.sb Φ ⟨M.i, M.b, M.l, nx - 1000⟩) ρT) :
    ∃ ρ', AgrB nx ρ ρ' ∧ ρ'.sb Φ ⟨M.i, M.b, M.l, nx - 1000⟩ = ρT := by
  simp only [freshB, Bool.and_eq_true, List.all_eq_true, Nat.blt_eq] at hf
  obtain ⟨_, _, hi, hl, hb⟩ := hf
  let ρ' : Env := ⟨fun k => if k < nx then ρ.i k else ρT.i (k - (nx - 1000)), fun k => if k < nx then ρ.b k else ρT.b (k - (nx - 1000)), fun k => if k < nx then ρ.l k else ρT.l (k - (nx - 1000))⟩
  have hag : AgrB nx ρ ρ' := ⟨fun k hk => by simp [ρ', hk], fun k hk => by simp [ρ', hk], fun k hk => by simp [ρ', hk]⟩
  refine ⟨ρ', hag, ?_⟩
  have hsh : ∀ k, (Sb.mk M.i M.b M.l (nx - 1000)).sh k = if k < 1000 then k else k + (nx - 1000) := by
    intro k
    simp only [Sb.sh]
    by_cases hk : k < 1000
    · have : Nat.blt k 1000 = true := by rw [Nat.blt_eq]; exact hk
      simp [hk, this]
    · have : Nat.blt k 1000 = false := by rw [Bool.eq_false_iff]; intro h; rw [Nat.blt_eq] at h; exact hk h
      simp [hk, this]
  have e1 : (ρ'.sb Φ ⟨M.i, M.b, M.l, nx - 1000⟩).i = ρT.i := by
    funext k
    simp only [Env.sb]
    split
    · rename_i e he
      have hm := hi _ (mem_look he)
      have h1 := ha.i k hm.1
      simp only [Env.sb, he] at h1
      rw [h1]; exact ev_bl hag e hm.2
    · rename_i he
      rw [hsh]
      by_cases hk : k < 1000
      · rw [if_pos hk, ha.i k hk]
        simp only [Env.sb, he, hsh, if_pos hk]
        exact hag.i k (by omega)
      · rw [if_neg hk]
        show (if k + (nx - 1000) < nx then _ else _) = _
        rw [if_neg (by omega), show k + (nx - 1000) - (nx - 1000) = k by omega]
  have e2 : (ρ'.sb Φ ⟨M.i, M.b, M.l, nx - 1000⟩).l = ρT.l := by
    funext k
    simp only [Env.sb]
    split
    · rename_i e he
      have hm := hl _ (mem_look he)
      have h1 := ha.l k hm.1
      simp only [Env.sb, he] at h1
      rw [h1]; exact evL_bl hag e hm.2
    · rename_i he
      rw [hsh]
      by_cases hk : k < 1000
      · rw [if_pos hk, ha.l k hk]
        simp only [Env.sb, he, hsh, if_pos hk]
        exact hag.l k (by omega)
      · rw [if_neg hk]
        show (if k + (nx - 1000) < nx then _ else _) = _
        rw [if_neg (by omega), show k + (nx - 1000) - (nx - 1000) = k by omega]
  have e3 : (ρ'.sb Φ ⟨M.i, M.b, M.l, nx - 1000⟩).b = ρT.b := by
    funext k
    simp only [Env.sb]
    split
    · rename_i e he
      have hm := hb _ (mem_look he)
      have h1 := ha.b k hm.1
      simp only [Env.sb, he] at h1
      rw [h1]; exact evB_bl hag e hm.2
    · rename_i he
      rw [hsh]
      by_cases hk : k < 1000
      · rw [if_pos hk, ha.b k hk]
        simp only [Env.sb, he, hsh, if_pos hk]
        exact hag.b k (by omega)
      · rw [if_neg hk]
        show (if k + (nx - 1000) < nx then _ else _) = _
        rw [if_neg (by omega), show k + (nx - 1000) - (nx - 1000) = k by omega]
  calc ρ'.sb Φ ⟨M.i, M.b, M.l, nx - 1000⟩ = ⟨(ρ'.sb Φ ⟨M.i, M.b, M.l, nx - 1000⟩).i, (ρ'.sb Φ ⟨M.i, M.b, M.l, nx - 1000⟩).b, (ρ'.sb Φ ⟨M.i, M.b, M.l, nx - 1000⟩).l⟩ := rfl
    _ = ρT := by rw [e1, e2, e3]

theorem fits_of {s' : St} (hM : MRel Φ ρ μ B s'.m w) (h2 : ids.length = T.o.length) (h4 : objsAt s'.m ids (T.o.map (AObj.sb Φ σ (ph ids s'.m.o.length))) = true) (h5 : ids.Nodup) : Fits Φ ρ μ B w T σ s' ids := by
  obtain ⟨g1, g2⟩ := objsAt_ok h4
  refine ⟨hM, h2, fun j i hj => ?_, h5⟩
  obtain ⟨g3, g4⟩ := g2 j i hj
  rw [List.getElem?_map] at g3
  exact ⟨g3, g4⟩

/-- An outcome of a contract, seen from where it was put to use. -/
theorem shift_back {outs : List TOut} {s' : St} {M : MS} {nx : Nat} (h0 : 1000 ≤ nx) (hσ : σ = ⟨M.i, M.b, M.l, nx - 1000⟩) (hf : (∀ o ∈ outs, o.bl 1000 = true) ∨ freshB M nx s'.m pc = true)
    (hlen : ids.length = T.o.length) (hobjs : objsAt s'.m ids (T.o.map (AObj.sb Φ σ (ph ids s'.m.o.length))) = true) (hnd : ids.Nodup) (hM : MRel Φ ρ μ B s'.m w) (hp : holds Φ ρ pc)
    {x : TOut} (hx : x ∈ outs) {ρT : Env} (hρ : On 1000 (ρ.sb Φ σ) x.nx ρT) :
    ∃ ρ', On nx ρ (nx + (x.nx - 1000)) ρ' ∧ ρ'.sb Φ σ = ρT ∧ Fits Φ ρ' μ B w T σ s' ids ∧ holds Φ ρ' pc := by
  by_cases hb : x.bl 1000 = true
  · have hn : x.nx = 1000 := by simp [TOut.nx, hb]
    refine ⟨ρ, by rw [hn]; exact .refl, (hρ.eq hn).symm, fits_of hM hlen hobjs hnd, hp⟩
  · have hn : x.nx = 2000 := by simp [TOut.nx, hb]
    rcases hf with hf | hf
    · exact absurd (hf x hx) hb
    · subst hσ
      obtain ⟨ρ', h1, h2⟩ := env_shift h0 hf hρ.ag
      have hf' := hf
      simp only [freshB, Bool.and_eq_true] at hf'
      refine ⟨ρ', ⟨by omega, h1, fun e => by rw [hn] at e; omega⟩, h2, fits_of (hM.bl h1 hf'.1) hlen hobjs hnd, (holds_bl h1 hf'.2.1).2 hp⟩
theorem Spec.back {outs : List TOut} {os : List Out} {ps : List Prim} {s' : St} {as : List SB} {M : MS} (h : Spec Φ T outs s pc os ps s' σ ids as M) (hM : MRel Φ ρ μ B s'.m w) (hp : holds Φ ρ (as ++ pc))
    {x : TOut} (hx : x ∈ outs) {ρT : Env} (hρ : On 1000 (ρ.sb Φ σ) x.nx ρT) :
    ∃ ρ', On s.m.nx ρ (s.m.nx + (x.nx - 1000)) ρ' ∧ ρ'.sb Φ σ = ρT ∧ Fits Φ ρ' μ B w T σ s' ids ∧ holds Φ ρ' (as ++ pc) :=
  shift_back h.nx h.sb h.fresh h.len h.objs h.nd hM hp hx hρ

theorem applyCall_ok {f : Nat} {vsT vs : List AV} {oT : List AObj} {pcT : List SB} {outs : List TOut} {m : Mem} {r : List (List SB × Option (AV × Mem))} (hT : TmCall Φ P f vsT oT pcT outs)
    (h : applyCall Φ vsT oT pcT outs vs m pc = some r) : CallOK Φ ρ P f vs m pc r := by
  unfold applyCall at h
  split at h
  · rename_i hlen
    rw [Bool.and_eq_true, List.all_eq_true] at hlen
    obtain ⟨hlen, h0⟩ := hlen
    have hlen := Nat.eq_of_beq_eq_true hlen
    split at h
    · rename_i os hos
      obtain ⟨ps, s', σ, ids, as, M, S⟩ := apply_spec hos
      intro μ B w xs hx hM hp R hR
      by_cases has : holds Φ ρ as
      case neg =>
        exfalso
        apply has
        intro x hxa
        cases hv : x.ev Φ ρ with
        | true => rfl
        | false =>
          have hm := (resOut_mem h _ (S.pan x hxa)).1 rfl
          exact absurd (holds_cons Φ ρ (by simp [hv]) hp) (hR _ hm ρ .refl)
      have hpa := holds_app Φ ρ has hp
      -- the frame of the arguments alone
      have hfr : TRel Φ ρ μ vs.length (number 0 vs) { tmps := xs.toArray, defers := [] } := by
        have := enter_ok hx 0
        simpa using this
      obtain ⟨ν, hT', hM'⟩ := prims_ok S.prims μ B w _ hfr hM
      have hfit : Fits Φ ρ (μ ++ ν) B w ⟨number 0 vsT, oT, pcT⟩ σ s' ids := fits_of hM' S.len S.objs S.nd
      have hφ := hfit.phi []
      simp only [List.append_nil] at hφ
      have hslots := slotsAt_ok S.slots
      refine hT (ρ.sb Φ σ) (subLoc (μ ++ ν) ids) ⟨w, oT.length⟩ w xs ⟨by rw [← hx.1, hlen], fun i v x hv hxi => ?_⟩ hfit.sub (ask_ok hp S.ask has) R ?_
      · have hg := number_get vsT 0 i v hv
        simp only [Nat.zero_add] at hg
        have h9 : get i (slotsSb Φ σ (ph ids s'.m.o.length) (number 0 vsT)) = some (v.sb Φ σ (ph ids s'.m.o.length)) := by rw [get_slotsSb, hg]; rfl
        have h10 := (hT'.tm i _ (hslots i _ h9)).2
        rw [den_sb hφ] at h10
        rw [h10]
        have hil : i < xs.length := (List.getElem?_eq_some_iff.1 hxi).1
        simp only [Array.getD, List.size_toArray, hil, dif_pos]
        rw [List.getElem?_eq_getElem hil] at hxi
        simpa using hxi
      · intro o ho
        obtain ⟨x, hxo, rfl⟩ := List.mem_map.1 ho
        simp only
        have hsome := h0 x hxo
        cases hg0 : get 0 x.t with
        | none => rw [hg0] at hsome; cases hsome
        | some v0 =>
          simp only [Option.map_some]
          intro ρT hρT hpo ν' w' y hd hM2
          obtain ⟨ρ', hρ', rfl, hfit', hpa'⟩ := S.back hM' hpa hxo hρT
          obtain ⟨pc', hpc, hp'⟩ := addAll_ok (fs := x.pc.map (SB.sb Φ σ)) hpa' (fun y hy => by
            obtain ⟨z, hz, rfl⟩ := List.mem_map.1 hy
            rw [evB_sb]; exact hpo z hz)
          have hmem := S.out x hxo pc' hpc
          obtain ⟨v, hv, hvr⟩ := (resOut_mem h _ hmem).2 (S.wf x hxo).2
          simp only [get_slotsSb, Option.map_eq_some_iff] at hv
          obtain ⟨v1, hv1, rfl⟩ := hv
          rw [hg0] at hv1; cases hv1
          have hb := hfit'.back (S.wf x hxo).1 hM2 (n1 := m.nx + (x.nx - 1000))
          rw [List.append_assoc] at hb
          refine (hR _ hvr) ρ' hρ' hp' (ν ++ ν') w' y ?_ hb
          rw [← List.append_assoc, den_sb (hfit'.phi ν')]
          exact hd
    · cases h
  · cases h

/-- A contract of a loop, for whatever the unknowns are. -/
def TmLoop (Φ : Sig) (P : Program) (c : Code) (n : Nat) (T : Tm) (outs : List TOut) : Prop :=
  ∀ (ρ : Env), LoopOK Φ ρ P c ⟨n, T.t, ⟨T.o, [], 1000⟩⟩ T.pc (outs.map fun x => ⟨x.pc, x.ex, ⟨n, x.t, ⟨x.o, x.wr, x.nx⟩⟩⟩)

def applyLoop (Φ : Sig) (n : Nat) (T : Tm) (outs : List TOut) (s : St) (pc : List SB) : Option (List Out) :=
  if Nat.beq s.n n then applyT Φ T outs s pc else none

/-- A state seen as a pattern's. -/
theorem Fits.enter {n : Nat} (h : Fits Φ ρ μ B w T σ s ids) (hT : TRel Φ ρ μ n s.t a) (hs : slotsAt s (slotsSb Φ σ (ph ids s.m.o.length) T.t) = true) : TRel Φ (ρ.sb Φ σ) (subLoc μ ids) n T.t a := by
  have hφ := h.phi []
  simp only [List.append_nil] at hφ
  refine ⟨hT.sz, fun u v hv => ?_, hT.df⟩
  have h9 : get u (slotsSb Φ σ (ph ids s.m.o.length) T.t) = some (v.sb Φ σ (ph ids s.m.o.length)) := by rw [get_slotsSb, hv]; rfl
  obtain ⟨h10, h11⟩ := hT.tm u _ (slotsAt_ok hs _ _ h9)
  rw [den_sb hφ] at h11
  exact ⟨h10, h11⟩
/-- And back. -/
theorem Fits.leave {n : Nat} {t : List (Nat × AV)} {ν : List Loc} (h : Fits Φ ρ μ B w T σ s ids) (hT : TRel Φ (ρ.sb Φ σ) (subLoc μ ids ++ ν) n t a) : TRel Φ ρ (μ ++ ν) n (slotsSb Φ σ (ph ids s.m.o.length) t) a := by
  have hφ := h.phi ν
  refine ⟨hT.sz, fun u v hv => ?_, hT.df⟩
  rw [get_slotsSb] at hv
  simp only [Option.map_eq_some_iff] at hv
  obtain ⟨v0, hv0, rfl⟩ := hv
  obtain ⟨g1, g2⟩ := hT.tm u v0 hv0
  exact ⟨g1, by rw [den_sb hφ]; exact g2⟩

theorem applyLoop_ok {c : Code} {n : Nat} {T : Tm} {outs : List TOut} {os : List Out} (hT : TmLoop Φ P c n T outs) (h : applyLoop Φ n T outs s pc = some os) : LoopOK Φ ρ P c s pc os := by
  unfold applyLoop at h
  split at h
  case isFalse => cases h
  rename_i hn
  have hn := Nat.eq_of_beq_eq_true hn
  obtain ⟨ps, s', σ, ids, as, M, S⟩ := apply_spec h
  intro μ B w a hTr hM hp Q hQ
  by_cases has : holds Φ ρ as
  case neg =>
    exfalso
    apply has
    intro x hxa
    cases hv : x.ev Φ ρ with
    | true => rfl
    | false => exact absurd (holds_cons Φ ρ (by simp [hv]) hp) ((hQ _ (S.pan x hxa)).1 rfl ρ .refl)
  have hpa := holds_app Φ ρ has hp
  obtain ⟨ν, hT', hM'⟩ := prims_ok S.prims μ B w a hTr hM
  have hsn : s'.n = n := by have := hTr.sz; have := hT'.sz; omega
  have hfit := fits_of (T := T) hM' S.len S.objs S.nd
  refine hT (ρ.sb Φ σ) (subLoc (μ ++ ν) ids) ⟨w, T.o.length⟩ w a (hfit.enter (hsn ▸ hT') S.slots) hfit.sub (ask_ok hp S.ask has) Q ?_
  intro o ho
  obtain ⟨x, hxo, rfl⟩ := List.mem_map.1 ho
  refine ⟨fun e => ?_, fun ρT hρT hpo ν' a' w' hTo hM2 => ?_⟩
  · have := (S.wf x hxo).2
    simp only at e
    rw [e] at this; cases this
  · simp only at hpo hTo hM2 ⊢
    obtain ⟨ρ', hρ', rfl, hfit', hpa'⟩ := S.back hM' hpa hxo hρT
    obtain ⟨pc', hpc, hp'⟩ := addAll_ok (fs := x.pc.map (SB.sb Φ σ)) hpa' (fun y hy => by
      obtain ⟨z, hz, rfl⟩ := List.mem_map.1 hy
      rw [evB_sb]; exact hpo z hz)
    have hmem := S.out x hxo pc' hpc
    have hb := hfit'.back (S.wf x hxo).1 hM2 (n1 := s.m.nx + (x.nx - 1000))
    have hk := (hQ _ hmem).2 ρ' hρ' hp' (ν ++ ν') a' w'
    simp only at hk
    rw [← List.append_assoc] at hk
    exact hk (hsn ▸ hfit'.leave hTo) hb
end
end Go.SF
