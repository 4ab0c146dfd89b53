/- Contracts as patterns: a pattern is matched with what is there, and its outcome is put in its place. What the pattern does not name stays. -/
import Derived.Test.YtondflokjmdaiaaSFSubst
namespace Go.SF
set_option linter.unusedVariables false
set_option linter.unusedSimpArgs false

/-! ### small changes of the machine's own view: the world stays -/
inductive Prim where
  | nilSlot (u : Nat) (ks : List CK) (ty : TypeId)
  | nilCell (id c : Nat) (ks : List CK) (ty : TypeId)
  | canSlot (u : Nat)
  | canCell (id c : Nat)

def nilVs (id : Nat) : CV := .vs id (.c 0) (.c 0) none
def runPrim (s : St) : Prim → Option St
  | .nilSlot u ks ty => match get u s.t with
    | some (.cv (.sl none _ _)) => if 0 < ks.length then
        some { n := s.n, t := (u, .cv (nilVs s.m.o.length)) :: s.t, m := (s.m.new (.abs (.vec ks ty) (.lit []))).2 } else none
    | _ => none
  | .nilCell id c ks ty => match s.m.o[id]? with
    | some (.cells cs t) => match cs[c]? with
      | some (.sl none _ _) => if 0 < ks.length then
          some { n := s.n, t := s.t, m := { s.m with o := (s.m.o ++ [AObj.abs (.vec ks ty) (.lit [])]).set id (.cells (cs.set c (nilVs s.m.o.length)) t), wr := s.m.wr } } else none
      | _ => none
    | _ => none
  | .canSlot u => match get u s.t with
    | some (.cv (.vs id lo n none)) => match canon s.m id lo n with
      | some (v, m) => some { n := s.n, t := (u, .cv v) :: s.t, m }
      | none => none
    | _ => none
  | .canCell id c => match s.m.o[id]? with
    | some (.cells cs t) => match cs[c]? with
      | some (.vs d lo n none) => match canon s.m d lo n with
        | some (v, m) => if Nat.beq d id then none else some { n := s.n, t := s.t, m := { m with o := m.o.set id (.cells (cs.set c v) t), wr := m.wr } }
        | none => none
      | _ => none
    | _ => none
def runPrims (s : St) : List Prim → Option St
  | [] => some s
  | p :: ps => match runPrim s p with
    | some s' => runPrims s' ps
    | none => none

section
variable {Φ : Sig} {ρ : Env} {μ : List Loc} {P : Program} {B : Base} {w : World} {s : St} {a : Act} {pc : List SB}

/-- An object seen otherwise. -/
theorem MRel.swap {m : Mem} (h : MRel Φ ρ μ B m w) {id : Nat} {o o' : AObj} (ho : m.o[id]? = some o) (he : o'.excl = o.excl) (ha : o'.alive = o.alive)
    (hok : ∀ l, μ[id]? = some l → ObjOK Φ ρ μ w l o') : MRel Φ ρ μ B { m with o := m.o.set id o', wr := m.wr } w := by
  have hid : id < m.o.length := (List.getElem?_eq_some_iff.1 ho).1
  have was : ∀ {i : Nat} {x : AObj}, (m.o.set id o')[i]? = some x → ∃ y, m.o[i]? = some y ∧ y.alive = x.alive ∧ y.excl = x.excl := by
    intro i x hx
    by_cases e : id = i
    · subst e; rw [List.getElem?_set_self hid] at hx; simp at hx; subst hx; exact ⟨o, ho, ha.symm, he.symm⟩
    · rw [List.getElem?_set_ne e] at hx; exact ⟨x, hx, rfl, rfl⟩
  constructor
  · simp [h.len]
  · simpa using h.kle
  · intro i j oi oj li lj b hi hj hei haj hli hlj hbi hbj
    obtain ⟨y, hy, _, h1⟩ := was hi
    obtain ⟨z, hz, h2, _⟩ := was hj
    exact h.apart i j y z li lj b hy hz (by rw [h1, hei]) (by rw [h2, haj]) hli hlj hbi hbj
  · intro i x l hx hl
    by_cases e : id = i
    · subst e; rw [List.getElem?_set_self hid] at hx; simp at hx; subst hx; exact hok l hl
    · rw [List.getElem?_set_ne e] at hx; exact h.obj i x l hx hl
  · intro i x l hx hxa hl b hb
    obtain ⟨y, hy, h1, _⟩ := was hx
    exact h.lt i y l hy (by rw [h1, hxa]) hl b hb
  · exact h.fr
  · exact h.new
  · intro i j x li lj b hi hik hjk hj hx hxa hli hlj hbi
    obtain ⟨y, hy, h1, _⟩ := was hx
    exact h.wap i j y li lj b hi hik hjk hj hy (by rw [h1, hxa]) hli hlj hbi
  · exact h.sz
  · exact h.os

theorem MRel.nilVec {m : Mem} (h : MRel Φ ρ μ B m w) {ks : List CK} (ty : TypeId) (h0 : 0 < ks.length) :
    MRel Φ ρ (μ ++ [nilLoc ks]) B (m.new (.abs (.vec ks ty) (.lit []))).2 w ∧ denC Φ ρ (μ ++ [nilLoc ks]) (nilVs m.o.length) = some (.slice none 0 0) := by
  refine ⟨h.push (fun _ _ => rfl) (Nat.le_refl _) ⟨rfl, rfl, rfl⟩ (by simp [nilLoc]) ?_, ?_⟩
  · show RepVec ks ty ((SL.lit []).ev Φ ρ) w _
    simpa using rep_nil h0
  · have hl : (μ ++ [nilLoc ks])[m.o.length]? = some (nilLoc ks) := by rw [← h.len, List.getElem?_append_right (Nat.le_refl _)]; simp
    have := den_vs_mk (Φ := Φ) (ρ := ρ) (lo := .c 0) (len := .c 0) (cap := none) hl (by simp) (by simp) (by simp [vcap, nilLoc]) (by simp [vcap, nilLoc]) (by simp [nilLoc])
    rw [nilVs, this]
    simp [vsVal, nilLoc]

/-- Two views of one state. -/
def Views (Φ : Sig) (ρ : Env) (s s' : St) : Prop := ∀ (μ : List Loc) (B : Base) (w : World) (a : Act), TRel Φ ρ μ s.n s.t a → MRel Φ ρ μ B s.m w → ∃ ν, TRel Φ ρ (μ ++ ν) s'.n s'.t a ∧ MRel Φ ρ (μ ++ ν) B s'.m w

theorem TRel.slot {n : Nat} {t : List (Nat × AV)} {u : Nat} {v v' : AV} (h : TRel Φ ρ μ n t a) (hv : get u t = some v) (he : den Φ ρ μ v' = den Φ ρ μ v) : TRel Φ ρ μ n ((u, v') :: t) a := by
  refine ⟨h.sz, fun k x hx => ?_, h.df⟩
  simp only [get] at hx
  split at hx
  · rename_i e
    have e := Nat.eq_of_beq_eq_true e
    subst e
    simp at hx; subst hx
    obtain ⟨h1, h2⟩ := h.tm _ _ hv
    exact ⟨h1, by rw [he]; exact h2⟩
  · exact h.tm k x hx

theorem prim_ok {p : Prim} {s' : St} (h : runPrim s p = some s') : Views Φ ρ s s' := by
  intro μ B w a hT hM
  cases p with
  | nilSlot u ks ty =>
    simp only [runPrim] at h
    split at h
    · rename_i x y hu
      split at h
      · rename_i h0
        simp at h; subst h
        obtain ⟨h1, h2⟩ := hM.nilVec ty h0
        refine ⟨_, (hT.mono (ν := [nilLoc ks])).slot hu ?_, h1⟩
        have hd := den_mono (ν := [nilLoc ks]) (hT.tm _ _ hu).2
        simp only [den] at hd ⊢
        rw [h2]
        simp only [denC] at hd ⊢
        split at hd
        · rename_i hc; rw [if_pos hc]
        · cases hd
      · cases h
    · cases h
  | nilCell id c ks ty =>
    simp only [runPrim] at h
    split at h
    · rename_i cs t ho
      split at h
      · rename_i x y hc
        split at h
        · rename_i h0
          simp at h; subst h
          obtain ⟨h1, h2⟩ := hM.nilVec ty h0
          have hid : id < s.m.o.length := (List.getElem?_eq_some_iff.1 ho).1
          have ho' : (s.m.o ++ [AObj.abs (.vec ks ty) (.lit [])])[id]? = some (.cells cs t) := by rw [List.getElem?_append_left hid]; exact ho
          refine ⟨[nilLoc ks], hT.mono, h1.swap ho' rfl rfl fun l hl => ?_⟩
          obtain ⟨g1, g2, g3, vs, g4, g5⟩ := h1.obj id _ l ho' hl
          refine ⟨g1, g2, g3, vs, ?_, g5⟩
          rw [denL_iff] at g4 ⊢
          refine ⟨by simp [g4.1], fun i d v hd hv => ?_⟩
          by_cases e : c = i
          · subst e
            have hcl := (List.getElem?_eq_some_iff.1 hc).1
            rw [List.getElem?_set_self hcl] at hd
            simp at hd; subst hd
            have := g4.2 c _ v hc hv
            rw [h2]
            simp only [denC] at this
            split at this
            · exact this
            · cases this
          · rw [List.getElem?_set_ne e] at hd
            exact g4.2 i d v hd hv
        · cases h
      · cases h
    · cases h
  | canSlot u =>
    simp only [runPrim] at h
    split at h
    · rename_i id lo n hu
      split at h
      · rename_i v m hc
        simp at h; subst h
        have hd := (hT.tm _ _ hu).2
        obtain ⟨l', h1, h2⟩ := canon_ok hM hc (x := a.tmps.getD u undef) hd
        refine ⟨[l'], (hT.mono (ν := [l'])).slot hu ?_, h1⟩
        rw [den_mono (ν := [l']) hd]
        exact h2
      · cases h
    · cases h
  | canCell id c =>
    simp only [runPrim] at h
    split at h
    · rename_i cs t ho
      split at h
      · rename_i d lo n hc
        split at h
        · rename_i v m hcan
          split at h
          · cases h
          · rename_i hne
            simp at h; subst h
            have hid : id < s.m.o.length := (List.getElem?_eq_some_iff.1 ho).1
            have hil : id < μ.length := by rw [hM.len]; exact hid
            obtain ⟨g1, g2, g3, vs, g4, g5⟩ := hM.obj id _ _ ho (List.getElem?_eq_getElem hil)
            have hvl := denL_length g4
            have hcl := (List.getElem?_eq_some_iff.1 hc).1
            have hx := (denL_iff.1 g4).2 c _ (vs[c]'(by omega)) hc (List.getElem?_eq_getElem (by omega))
            obtain ⟨l', h1, h2⟩ := canon_ok hM hcan hx
            have ho' : m.o[id]? = some (.cells cs t) := by
              unfold canon at hcan
              split at hcan
              · split at hcan
                · simp only [Option.some.injEq, Prod.mk.injEq] at hcan
                  obtain ⟨_, rfl⟩ := hcan
                  simp only
                  rw [List.getElem?_append_left (by simpa using hid), List.getElem?_set_ne (fun e => hne (by rw [e]; exact Nat.beq_refl id))]
                  exact ho
                · cases hcan
              · cases hcan
            refine ⟨[l'], hT.mono, h1.swap ho' rfl rfl fun l hl => ?_⟩
            obtain ⟨k1, k2, k3, us, k4, k5⟩ := h1.obj id _ l ho' hl
            refine ⟨k1, k2, k3, us, ?_, k5⟩
            have e1 : us = vs := by have h3 := denL_mono (ν := [l']) g4; rw [k4] at h3; simpa using h3
            subst e1
            rw [denL_iff] at k4 ⊢
            refine ⟨by simp [k4.1], fun i d' v' hd hv => ?_⟩
            by_cases e : c = i
            · subst e
              rw [List.getElem?_set_self hcl] at hd
              simp at hd; subst hd
              rw [List.getElem?_eq_getElem (by omega)] at hv
              simp at hv; subst hv
              exact h2
            · rw [List.getElem?_set_ne e] at hd
              exact k4.2 i d' v' hd hv
        · cases h
      · cases h
    · cases h

theorem prims_ok : ∀ {ps : List Prim} {s s' : St}, runPrims s ps = some s' → Views Φ ρ s s'
  | [], s, s', h => by
    simp [runPrims] at h; subst h
    exact fun μ B w a hT hM => ⟨[], by simpa using hT, by simpa using hM⟩
  | p :: ps, s, s', h => by
    simp only [runPrims] at h
    split at h
    · rename_i s1 h1
      intro μ B w a hT hM
      obtain ⟨ν, hT1, hM1⟩ := prim_ok h1 μ B w a hT hM
      obtain ⟨ν', hT2, hM2⟩ := prims_ok h (μ ++ ν) B w a hT1 hM1
      exact ⟨ν ++ ν', by rw [← List.append_assoc]; exact hT2, by rw [← List.append_assoc]; exact hM2⟩
    · cases h
end
end Go.SF
