/- Contracts as patterns: a pattern is matched with what is there, and its outcome is put in its place. What the pattern does not name stays. -/
import Derived.Test.YtnhdohhhgfdhfaaSFSubst
namespace Go.SF
set_option linter.unusedVariables false
set_option linter.unusedSimpArgs false

/-! ### small changes of the machine's own view: the world stays -/
inductive Prim where
  | nilSlot (u : Nat) (ks : List CK) (ty : TypeId)
  | nilCell (id c : Nat) (ks : List CK) (ty : TypeId)
  | canSlot (u : Nat)
  | canCell (id c : Nat)
  | endIt (id k : Nat)
  | forget (id : Nat)
  | close (x : Nat)

def nilVs (id : Nat) : CV := .vs id (.c 0) (.c 0) none
def runPrim (s : St) : Prim → Option St
  | .nilSlot u ks ty => match get u s.t with
    | some (.cv (.sl none _ _)) => if 0 < ks.length then
        some { n := s.n, t := (u, .cv (nilVs s.m.o.length)) :: s.t, m := (s.m.new (.abs (.vec ks ty) (.lit []))).2 } else none
    | _ => none
  | .nilCell id c ks ty => match s.m.o[id]? with
    | some (.cells cs t) => match cs[c]? with
      | some (.sl none _ _) => if 0 < ks.length then
          some { n := s.n, t := s.t, m := { s.m with o := (s.m.o ++ [AObj.abs (.vec ks ty) (.lit [])]).set id (.cells (cs.set c (nilVs s.m.o.length)) t), wr := s.m.wr } } else none
      | _ => none
    | _ => none
  | .canSlot u => match get u s.t with
    | some (.cv (.vs id lo n none)) => match canon s.m id lo n with
      | some (v, m) => some { n := s.n, t := (u, .cv v) :: s.t, m }
      | none => none
    | _ => none
  | .canCell id c => match s.m.o[id]? with
    | some (.cells cs t) => match cs[c]? with
      | some (.vs d lo n none) => match canon s.m d lo n with
        | some (v, m) => if Nat.beq d id then none else some { n := s.n, t := s.t, m := { m with o := m.o.set id (.cells (cs.set c v) t), wr := m.wr } }
        | none => none
      | _ => none
    | _ => none
  | .endIt id k => match s.m.o[id]?, s.m.o[k]? with
    | some .dead, some (.iter mid kk ks sc M _) => if Nat.beq mid id && s.m.wr.contains id then
        some { n := s.n, t := s.t, m := { s.m with o := (s.m.o.set k .dead).set id (.abs (.map kk ks sc) (mkUnflag M)) } } else none
    | _, _ => none
  | .forget id => match s.m.o[id]? with
    | some (.iter mid kk ks sc M _) => some { n := s.n, t := s.t, m := { s.m with o := s.m.o.set id (.iter mid kk ks sc M none), wr := s.m.wr } }
    | _ => none
  | .close x => match closeM s.m x with
    | some m => some { n := s.n, t := s.t, m := m }
    | none => none
def runPrims (s : St) : List Prim → Option St
  | [] => some s
  | p :: ps => match runPrim s p with
    | some s' => runPrims s' ps
    | none => none

section
variable {Φ : Sig} {ρ : Env} {μ : List Loc} {P : Program} {B : Base} {w : World} {s : St} {a : Act} {pc : List SB}

/-- An object seen otherwise. -/
theorem MRel.swap {m : Mem} (h : MRel Φ ρ μ B m w) {id : Nat} {o o' : AObj} (ho : m.o[id]? = some o) (he : o'.excl = o.excl) (ha : o'.alive = o.alive)
    (hok : ∀ l, μ[id]? = some l → ObjOK Φ ρ μ w l o') : MRel Φ ρ μ B { m with o := m.o.set id o', wr := m.wr } w := by
  have hid : id < m.o.length := (List.getElem?_eq_some_iff.1 ho).1
  have was : ∀ {i : Nat} {x : AObj}, (m.o.set id o')[i]? = some x → ∃ y, m.o[i]? = some y ∧ y.alive = x.alive ∧ y.excl = x.excl := by
    intro i x hx
    by_cases e : id = i
    · subst e; rw [List.getElem?_set_self hid] at hx; simp at hx; subst hx; exact ⟨o, ho, ha.symm, he.symm⟩
    · rw [List.getElem?_set_ne e] at hx; exact ⟨x, hx, rfl, rfl⟩
  constructor
  · simp [h.len]
  · simpa using h.kle
  · intro i j oi oj li lj b hi hj hei haj hli hlj hbi hbj
    obtain ⟨y, hy, _, h1⟩ := was hi
    obtain ⟨z, hz, h2, _⟩ := was hj
    exact h.apart i j y z li lj b hy hz (by rw [h1, hei]) (by rw [h2, haj]) hli hlj hbi hbj
  · intro i x l hx hl
    by_cases e : id = i
    · subst e; rw [List.getElem?_set_self hid] at hx; simp at hx; subst hx; exact hok l hl
    · rw [List.getElem?_set_ne e] at hx; exact h.obj i x l hx hl
  · intro i x l hx hxa hl b hb
    obtain ⟨y, hy, h1, _⟩ := was hx
    exact h.lt i y l hy (by rw [h1, hxa]) hl b hb
  · exact h.fr
  · exact h.new
  · intro i j x li lj b hi hik hjk hj hx hxa hli hlj hbi
    obtain ⟨y, hy, h1, _⟩ := was hx
    exact h.wap i j y li lj b hi hik hjk hj hy (by rw [h1, hxa]) hli hlj hbi
  · exact h.sz
  · exact h.os

theorem MRel.nilVec {m : Mem} (h : MRel Φ ρ μ B m w) {ks : List CK} (ty : TypeId) (h0 : 0 < ks.length) :
    MRel Φ ρ (μ ++ [nilLoc ks]) B (m.new (.abs (.vec ks ty) (.lit []))).2 w ∧ denC Φ ρ (μ ++ [nilLoc ks]) (nilVs m.o.length) = some (.slice none 0 0) := by
  refine ⟨h.push (fun _ _ => rfl) (Nat.le_refl _) ⟨rfl, rfl, rfl⟩ (by simp [nilLoc]) ?_, ?_⟩
  · show RepVec ks ty ((SL.lit []).ev Φ ρ) w _
    simpa using rep_nil h0
  · have hl : (μ ++ [nilLoc ks])[m.o.length]? = some (nilLoc ks) := by rw [← h.len, List.getElem?_append_right (Nat.le_refl _)]; simp
    have := den_vs_mk (Φ := Φ) (ρ := ρ) (lo := .c 0) (len := .c 0) (cap := none) hl (by simp) (by simp) (by simp [vcap, nilLoc]) (by simp [vcap, nilLoc]) (by simp [nilLoc])
    rw [nilVs, this]
    simp [vsVal, nilLoc]

theorem unflag_rep {kk : IntKind} {ks : List CK} {sc : Bool} {M : Tab} {ib b : Nat} (h : RepIter kk ks sc M w ib b) {l : Loc} (hb : l.blk = b) (ho : l.own = [l.blk]) : RepMap kk ks sc (unflagT M) w l := by
  obtain ⟨h2, h3, es, clock, seen, h4, _, h5, h6, h7⟩ := h
  have hd : ∀ r ∈ M, hdK r.dropLast = hdK r ∧ mapVal ks sc r.dropLast.tail = mapVal ks sc r.tail := fun r hr => by
    have h1 := okRow_last (ks := .i kk :: ks) (h3 r hr)
    obtain ⟨g2, g3⟩ := okRow_key h1.2.2
    have e : r = r.dropLast ++ [lastK r] := h1.2.1
    constructor
    · conv => rhs; rw [e]
      rw [g2]; rfl
    · conv => rhs; rw [e]
      rw [g2]
      simp only [List.cons_append, List.tail_cons, mapVal, rowVals_app1 _ g3]
  subst hb
  refine ⟨ho, ?_, fun row hr => ?_, es, clock, h4, ?_, h6, h7⟩
  · unfold unflagT
    rw [List.pairwise_map]
    refine h2.imp_of_mem fun {x y} hx hy hxy => ?_
    rw [(hd x hx).1, (hd y hy).1]; exact hxy
  · obtain ⟨r, hr', rfl⟩ := List.mem_map.1 hr
    exact (okRow_last (ks := .i kk :: ks) (h3 r hr')).2.2
  · have := (iter_ents h2 h3 h5).2.2
    unfold unflagT
    rw [List.map_map]
    refine this.trans (List.Perm.of_eq (List.map_congr_left fun r hr => ?_))
    show _ = (Value.int kk (hdK r.dropLast), mapVal ks sc r.dropLast.tail)
    rw [(hd r hr).1, (hd r hr).2]
/-- The iterator is gone, the map is there again. -/
theorem MRel.endIt {m : Mem} (h : MRel Φ ρ μ B m w) {id k : Nat} {kk : IntKind} {ks : List CK} {sc : Bool} {M : SL} {cur : Option SI} (h1 : m.o[id]? = some .dead) (h2 : m.o[k]? = some (.iter id kk ks sc M cur)) (hwr : id ∈ m.wr) :
    MRel Φ ρ μ B { m with o := (m.o.set k .dead).set id (.abs (.map kk ks sc) (mkUnflag M)) } w := by
  have hne : id ≠ k := fun e => by rw [e, h2] at h1; cases h1
  have hid := (List.getElem?_eq_some_iff.1 h1).1
  have hk := (List.getElem?_eq_some_iff.1 h2).1
  have get : ∀ {i : Nat} {x : AObj}, ((m.o.set k .dead).set id (.abs (.map kk ks sc) (mkUnflag M)))[i]? = some x → (i = id ∧ x = .abs (.map kk ks sc) (mkUnflag M)) ∨ (i = k ∧ x = .dead) ∨ (i ≠ id ∧ i ≠ k ∧ m.o[i]? = some x) := by
    intro i x hx
    by_cases e1 : i = id
    · subst e1
      rw [List.getElem?_set_self (by simpa using hid)] at hx
      exact .inl ⟨rfl, by simpa using hx.symm⟩
    · rw [List.getElem?_set_ne (Ne.symm e1)] at hx
      by_cases e2 : i = k
      · subst e2
        rw [List.getElem?_set_self hk] at hx
        exact .inr (.inl ⟨rfl, by simpa using hx.symm⟩)
      · rw [List.getElem?_set_ne (Ne.symm e2)] at hx
        exact .inr (.inr ⟨e1, e2, hx⟩)
  obtain ⟨lk, hlk⟩ : ∃ l, μ[k]? = some l := ⟨_, List.getElem?_eq_getElem (by rw [h.len]; exact hk)⟩
  obtain ⟨o1, o2, lm, o3, o4, o5, o6, _, o7⟩ := h.obj k _ lk h2 hlk
  have hin : ∀ b ∈ lm.own, b ∈ lk.own := fun b hb => by rw [o4] at hb; rw [o5]; simp at hb ⊢; exact .inr hb
  constructor
  · simpa using h.len
  · simpa using h.kle
  · intro i j oi oj li lj b hi hj he ha hli hlj hbi hbj
    rcases get hi with ⟨rfl, rfl⟩ | ⟨rfl, rfl⟩ | ⟨i1, i2, i3⟩
    · rcases get hj with ⟨rfl, rfl⟩ | ⟨rfl, rfl⟩ | ⟨j1, j2, j3⟩
      · rfl
      · simp [AObj.alive] at ha
      · rw [o3] at hli; cases hli
        exact absurd (h.apart k j _ oj lk lj b h2 j3 rfl ha hlk hlj (hin b hbi) hbj).symm j2
    · simp [AObj.excl] at he
    · rcases get hj with ⟨rfl, rfl⟩ | ⟨rfl, rfl⟩ | ⟨j1, j2, j3⟩
      · rw [o3] at hlj; cases hlj
        exact absurd (h.apart i k oi _ li lk b i3 h2 he rfl hli hlk hbi (hin b hbj)) i2
      · simp [AObj.alive] at ha
      · exact h.apart i j oi oj li lj b i3 j3 he ha hli hlj hbi hbj
  · intro i x l hx hl
    rcases get hx with ⟨rfl, rfl⟩ | ⟨rfl, rfl⟩ | ⟨i1, i2, i3⟩
    · rw [o3] at hl; cases hl
      show RepMap _ _ _ _ _ _
      rw [ev_mkUnflag]
      exact unflag_rep o7 rfl o4
    · trivial
    · exact h.obj i x l i3 hl
  · intro i x l hx ha hl b hb
    rcases get hx with ⟨rfl, rfl⟩ | ⟨rfl, rfl⟩ | ⟨i1, i2, i3⟩
    · rw [o3] at hl; cases hl
      exact h.lt k _ lk h2 rfl hlk b (hin b hb)
    · simp [AObj.alive] at ha
    · exact h.lt i x l i3 ha hl b hb
  · exact h.fr
  · exact h.new
  · intro i j x li lj b hi hik hjk hj hx ha
    rcases get hx with ⟨rfl, rfl⟩ | ⟨rfl, rfl⟩ | ⟨i1, i2, i3⟩
    · exact absurd hwr hj
    · simp [AObj.alive] at ha
    · exact h.wap i j x li lj b hi hik hjk hj i3 ha
  · exact h.sz
  · exact h.os
/-- Two views of one state. -/
def Views (Φ : Sig) (ρ : Env) (s s' : St) : Prop := ∀ (μ : List Loc) (B : Base) (w : World) (a : Act), TRel Φ ρ μ s.n s.t a → MRel Φ ρ μ B s.m w → ∃ ν, TRel Φ ρ (μ ++ ν) s'.n s'.t a ∧ MRel Φ ρ (μ ++ ν) B s'.m w

theorem TRel.slot {n : Nat} {t : List (Nat × AV)} {u : Nat} {v v' : AV} (h : TRel Φ ρ μ n t a) (hv : get u t = some v) (he : den Φ ρ μ v' = den Φ ρ μ v) : TRel Φ ρ μ n ((u, v') :: t) a := by
  refine ⟨h.sz, fun k x hx => ?_, h.df⟩
  simp only [get] at hx
  split at hx
  · rename_i e
    have e := Nat.eq_of_beq_eq_true e
    subst e
    simp at hx; subst hx
    obtain ⟨h1, h2⟩ := h.tm _ _ hv
    exact ⟨h1, by rw [he]; exact h2⟩
  · exact h.tm k x hx

theorem prim_ok {p : Prim} {s' : St} (h : runPrim s p = some s') : Views Φ ρ s s' := by
  intro μ B w a hT hM
  cases p with
  | nilSlot u ks ty =>
    simp only [runPrim] at h
    split at h
    · rename_i x y hu
      split at h
      · rename_i h0
        simp at h; subst h
        obtain ⟨h1, h2⟩ := hM.nilVec ty h0
        refine ⟨_, (hT.mono (ν := [nilLoc ks])).slot hu ?_, h1⟩
        have hd := den_mono (ν := [nilLoc ks]) (hT.tm _ _ hu).2
        simp only [den] at hd ⊢
        rw [h2]
        simp only [denC] at hd ⊢
        split at hd
        · rename_i hc; rw [if_pos hc]
        · cases hd
      · cases h
    · cases h
  | nilCell id c ks ty =>
    simp only [runPrim] at h
    split at h
    · rename_i cs t ho
      split at h
      · rename_i x y hc
        split at h
        · rename_i h0
          simp at h; subst h
          obtain ⟨h1, h2⟩ := hM.nilVec ty h0
          have hid : id < s.m.o.length := (List.getElem?_eq_some_iff.1 ho).1
          have ho' : (s.m.o ++ [AObj.abs (.vec ks ty) (.lit [])])[id]? = some (.cells cs t) := by rw [List.getElem?_append_left hid]; exact ho
          refine ⟨[nilLoc ks], hT.mono, h1.swap ho' rfl rfl fun l hl => ?_⟩
          obtain ⟨g1, g2, g3, vs, g4, g5⟩ := h1.obj id _ l ho' hl
          refine ⟨g1, g2, g3, vs, ?_, g5⟩
          rw [denL_iff] at g4 ⊢
          refine ⟨by simp [g4.1], fun i d v hd hv => ?_⟩
          by_cases e : c = i
          · subst e
            have hcl := (List.getElem?_eq_some_iff.1 hc).1
            rw [List.getElem?_set_self hcl] at hd
            simp at hd; subst hd
            have := g4.2 c _ v hc hv
            rw [h2]
            simp only [denC] at this
            split at this
            · exact this
            · cases this
          · rw [List.getElem?_set_ne e] at hd
            exact g4.2 i d v hd hv
        · cases h
      · cases h
    · cases h
  | canSlot u =>
    simp only [runPrim] at h
    split at h
    · rename_i id lo n hu
      split at h
      · rename_i v m hc
        simp at h; subst h
        have hd := (hT.tm _ _ hu).2
        obtain ⟨l', h1, h2⟩ := canon_ok hM hc (x := a.tmps.getD u undef) hd
        refine ⟨[l'], (hT.mono (ν := [l'])).slot hu ?_, h1⟩
        rw [den_mono (ν := [l']) hd]
        exact h2
      · cases h
    · cases h
  | canCell id c =>
    simp only [runPrim] at h
    split at h
    · rename_i cs t ho
      split at h
      · rename_i d lo n hc
        split at h
        · rename_i v m hcan
          split at h
          · cases h
          · rename_i hne
            simp at h; subst h
            have hid : id < s.m.o.length := (List.getElem?_eq_some_iff.1 ho).1
            have hil : id < μ.length := by rw [hM.len]; exact hid
            obtain ⟨g1, g2, g3, vs, g4, g5⟩ := hM.obj id _ _ ho (List.getElem?_eq_getElem hil)
            have hvl := denL_length g4
            have hcl := (List.getElem?_eq_some_iff.1 hc).1
            have hx := (denL_iff.1 g4).2 c _ (vs[c]'(by omega)) hc (List.getElem?_eq_getElem (by omega))
            obtain ⟨l', h1, h2⟩ := canon_ok hM hcan hx
            have ho' : m.o[id]? = some (.cells cs t) := by
              unfold canon at hcan
              split at hcan
              · split at hcan
                · simp only [Option.some.injEq, Prod.mk.injEq] at hcan
                  obtain ⟨_, rfl⟩ := hcan
                  simp only
                  rw [List.getElem?_append_left (by simpa using hid), List.getElem?_set_ne (fun e => hne (by rw [e]; exact Nat.beq_refl id))]
                  exact ho
                · cases hcan
              · cases hcan
            refine ⟨[l'], hT.mono, h1.swap ho' rfl rfl fun l hl => ?_⟩
            obtain ⟨k1, k2, k3, us, k4, k5⟩ := h1.obj id _ l ho' hl
            refine ⟨k1, k2, k3, us, ?_, k5⟩
            have e1 : us = vs := by have h3 := denL_mono (ν := [l']) g4; rw [k4] at h3; simpa using h3
            subst e1
            rw [denL_iff] at k4 ⊢
            refine ⟨by simp [k4.1], fun i d' v' hd hv => ?_⟩
            by_cases e : c = i
            · subst e
              rw [List.getElem?_set_self hcl] at hd
              simp at hd; subst hd
              rw [List.getElem?_eq_getElem (by omega)] at hv
              simp at hv; subst hv
              exact h2
            · rw [List.getElem?_set_ne e] at hd
              exact k4.2 i d' v' hd hv
        · cases h
      · cases h
    · cases h
  | endIt id k =>
    simp only [runPrim] at h
    split at h
    · rename_i mid kk ks sc M h1 h2
      split at h
      · rename_i hc
        rw [Bool.and_eq_true] at hc
        have hmid := Nat.eq_of_beq_eq_true hc.1
        subst hmid
        simp at h; subst h
        exact ⟨[], by simpa using hT, by simpa using hM.endIt h1 h2 (by simpa using hc.2)⟩
      · cases h
    · cases h
  | forget id =>
    simp only [runPrim] at h
    split at h
    · rename_i mid kk ks sc M cur ho
      simp at h; subst h
      refine ⟨[], by simpa using hT, ?_⟩
      have := hM.swap ho (o' := .iter mid kk ks sc M none) rfl rfl fun l hl => by
        obtain ⟨h1, h2, lm, h3, h4, h5, h6, _, h7⟩ := hM.obj id _ l ho hl
        exact ⟨h1, h2, lm, h3, h4, h5, h6, trivial, h7⟩
      simpa using this
    · cases h
  | close x =>
    simp only [runPrim] at h
    split at h
    · rename_i m hc
      simp at h; subst h
      obtain ⟨l', hM', _⟩ := closeM_ok hM hc
      exact ⟨[l'], hT.mono, hM'⟩
    · cases h

theorem prims_ok : ∀ {ps : List Prim} {s s' : St}, runPrims s ps = some s' → Views Φ ρ s s'
  | [], s, s', h => by
    simp [runPrims] at h; subst h
    exact fun μ B w a hT hM => ⟨[], by simpa using hT, by simpa using hM⟩
  | p :: ps, s, s', h => by
    simp only [runPrims] at h
    split at h
    · rename_i s1 h1
      intro μ B w a hT hM
      obtain ⟨ν, hT1, hM1⟩ := prim_ok h1 μ B w a hT hM
      obtain ⟨ν', hT2, hM2⟩ := prims_ok h (μ ++ ν) B w a hT1 hM1
      exact ⟨ν ++ ν', by rw [← List.append_assoc]; exact hT2, by rw [← List.append_assoc]; exact hM2⟩
    · cases h
end
end Go.SF
