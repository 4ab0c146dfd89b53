/- Unknowns that are drawn on the way: numbers from 1000 on. Below a number two environments agree. -/
import Derived.Test.YtnhdohhhgfdhfaaSFRel
namespace Go.SF
set_option linter.unusedVariables false
set_option linter.unusedSimpArgs false

mutual
def SI.bl (n : Nat) : SI → Bool
  | .c _ => true
  | .v k => Nat.blt k n
  | .add a b => SI.bl n a && SI.bl n b
  | .sub a b => SI.bl n a && SI.bl n b
  | .mul a b => SI.bl n a && SI.bl n b
  | .quo a b => SI.bl n a && SI.bl n b
  | .rem a b => SI.bl n a && SI.bl n b
  | .wrap _ a => SI.bl n a
  | .bits _ _ a b => SI.bl n a && SI.bl n b
  | .sel A r _ => SL.bl n A && SI.bl n r
  | .len A => SL.bl n A
  | .app _ xs => SA.bl n xs
def SL.bl (n : Nat) : SL → Bool
  | .v k => Nat.blt k n
  | .lit _ => true
  | .app _ xs => SA.bl n xs
def SA.bl (n : Nat) : SA → Bool
  | .nil => true
  | .i x r => SI.bl n x && SA.bl n r
  | .l x r => SL.bl n x && SA.bl n r
end
def SB.bl (n : Nat) : SB → Bool
  | .c _ => true
  | .v k => Nat.blt k n
  | .lt a b => a.bl n && b.bl n
  | .le a b => a.bl n && b.bl n
  | .eq a b => a.bl n && b.bl n
  | .eqL a b => a.bl n && b.bl n
  | .not x => SB.bl n x
  | .and x y => SB.bl n x && SB.bl n y
  | .or x y => SB.bl n x && SB.bl n y
  | .app _ xs => xs.bl n
def Pt.bl (n : Nat) (p : Pt) : Bool := p.r.bl n
def CV.bl (n : Nat) : CV → Bool
  | .b x => x.bl n
  | .i _ x => x.bl n
  | .cd _ x => x.bl n
  | .p (some q) => q.bl n
  | .sl (some q) x y => q.bl n && (x.bl n && y.bl n)
  | .sl none x y => x.bl n && y.bl n
  | .vs _ x y none => x.bl n && y.bl n
  | .vs _ x y (some z) => x.bl n && (y.bl n && z.bl n)
  | .fn _ ps => ps.all (Pt.bl n)
  | _ => true
def tupBl (n : Nat) : List (CV ⊕ List CV) → Bool
  | [] => true
  | .inl c :: r => c.bl n && tupBl n r
  | .inr c :: r => c.all (CV.bl n) && tupBl n r
def AV.bl (n : Nat) : AV → Bool
  | .cv c => c.bl n
  | .agg cs => cs.all (CV.bl n)
  | .tup vs => tupBl n vs
def AObj.bl (n : Nat) : AObj → Bool
  | .cells cs _ => cs.all (CV.bl n)
  | .ext A _ => A.bl n
  | .abs _ A => A.bl n
  | .iter _ _ _ _ M cur => M.bl n && (match cur with | some k => k.bl n | none => true)
  | .lists _ _ _ _ A op => A.bl n && (match op with | some x => x.2.bl n | none => true)
  | .dead => true
def slotsBl (n : Nat) (t : List (Nat × AV)) : Bool := t.all fun x => x.2.bl n
def Mem.bl (n : Nat) (m : Mem) : Bool := m.o.all (AObj.bl n)

/-- The same below n. -/
structure AgrB (n : Nat) (ρ ρ' : Env) : Prop where
  i : ∀ k, k < n → ρ'.i k = ρ.i k
  l : ∀ k, k < n → ρ'.l k = ρ.l k
  b : ∀ k, k < n → ρ'.b k = ρ.b k
theorem AgrB.refl {n : Nat} {ρ : Env} : AgrB n ρ ρ := ⟨fun _ _ => rfl, fun _ _ => rfl, fun _ _ => rfl⟩
theorem AgrB.trans {n : Nat} {ρ ρ' ρ'' : Env} (h : AgrB n ρ ρ') (h' : AgrB n ρ' ρ'') : AgrB n ρ ρ'' :=
  ⟨fun k hk => (h'.i k hk).trans (h.i k hk), fun k hk => (h'.l k hk).trans (h.l k hk), fun k hk => (h'.b k hk).trans (h.b k hk)⟩
theorem AgrB.symm {n : Nat} {ρ ρ' : Env} (h : AgrB n ρ ρ') : AgrB n ρ' ρ := ⟨fun k hk => (h.i k hk).symm, fun k hk => (h.l k hk).symm, fun k hk => (h.b k hk).symm⟩
theorem AgrB.less {n m : Nat} {ρ ρ' : Env} (h : AgrB n ρ ρ') (hm : m ≤ n) : AgrB m ρ ρ' := ⟨fun k hk => h.i k (by omega), fun k hk => h.l k (by omega), fun k hk => h.b k (by omega)⟩
section
variable {Φ : Sig} {n : Nat} {ρ ρ' : Env} {μ : List Loc}
variable (ha : AgrB n ρ ρ')
include ha
set_option linter.unusedSectionVars false in
mutual
theorem ev_bl : ∀ e : SI, e.bl n = true → e.ev Φ ρ' = e.ev Φ ρ
  | .c m, _ => by simp [SI.ev]
  | .v k, h => by simp only [SI.ev]; exact ha.i k (by simpa [SI.bl, Nat.blt_eq] using h)
  | .add a b, h => by simp only [SI.bl, Bool.and_eq_true] at h; simp only [SI.ev, ev_bl a h.1, ev_bl b h.2]
  | .sub a b, h => by simp only [SI.bl, Bool.and_eq_true] at h; simp only [SI.ev, ev_bl a h.1, ev_bl b h.2]
  | .mul a b, h => by simp only [SI.bl, Bool.and_eq_true] at h; simp only [SI.ev, ev_bl a h.1, ev_bl b h.2]
  | .quo a b, h => by simp only [SI.bl, Bool.and_eq_true] at h; simp only [SI.ev, ev_bl a h.1, ev_bl b h.2]
  | .rem a b, h => by simp only [SI.bl, Bool.and_eq_true] at h; simp only [SI.ev, ev_bl a h.1, ev_bl b h.2]
  | .wrap k a, h => by simp only [SI.bl] at h; simp only [SI.ev, ev_bl a h]
  | .bits o k a b, h => by simp only [SI.bl, Bool.and_eq_true] at h; simp only [SI.ev, ev_bl a h.1, ev_bl b h.2]
  | .sel A r j, h => by simp only [SI.bl, Bool.and_eq_true] at h; simp only [SI.ev, evL_bl A h.1, ev_bl r h.2]
  | .len A, h => by simp only [SI.bl] at h; simp only [SI.ev, evL_bl A h]
  | .app f xs, h => by simp only [SI.bl] at h; simp only [SI.ev, evA_bl xs h]
theorem evL_bl : ∀ e : SL, e.bl n = true → e.ev Φ ρ' = e.ev Φ ρ
  | .v k, h => by simp only [SL.ev]; exact ha.l k (by simpa [SL.bl, Nat.blt_eq] using h)
  | .lit A, _ => by simp [SL.ev]
  | .app f xs, h => by simp only [SL.bl] at h; simp only [SL.ev, evA_bl xs h]
theorem evA_bl : ∀ e : SA, e.bl n = true → e.ev Φ ρ' = e.ev Φ ρ
  | .nil, _ => by simp [SA.ev]
  | .i x r, h => by simp only [SA.bl, Bool.and_eq_true] at h; simp only [SA.ev, ev_bl x h.1, evA_bl r h.2]
  | .l x r, h => by simp only [SA.bl, Bool.and_eq_true] at h; simp only [SA.ev, evL_bl x h.1, evA_bl r h.2]
end
theorem evB_bl (e : SB) (h : e.bl n = true) : e.ev Φ ρ' = e.ev Φ ρ := by
  induction e with
  | c b => rfl
  | v k => simp only [SB.ev]; exact ha.b k (by simpa [SB.bl, Nat.blt_eq] using h)
  | lt a b => simp only [SB.bl, Bool.and_eq_true] at h; simp only [SB.ev, ev_bl ha a h.1, ev_bl ha b h.2]
  | le a b => simp only [SB.bl, Bool.and_eq_true] at h; simp only [SB.ev, ev_bl ha a h.1, ev_bl ha b h.2]
  | eq a b => simp only [SB.bl, Bool.and_eq_true] at h; simp only [SB.ev, ev_bl ha a h.1, ev_bl ha b h.2]
  | eqL a b => simp only [SB.bl, Bool.and_eq_true] at h; simp only [SB.ev, evL_bl ha a h.1, evL_bl ha b h.2]
  | not x ih => simp only [SB.bl] at h; simp only [SB.ev, ih h]
  | and x y i1 i2 => simp only [SB.bl, Bool.and_eq_true] at h; simp only [SB.ev, i1 h.1, i2 h.2]
  | or x y i1 i2 => simp only [SB.bl, Bool.and_eq_true] at h; simp only [SB.ev, i1 h.1, i2 h.2]
  | app f xs => simp only [SB.bl] at h; simp only [SB.ev, evA_bl ha xs h]
theorem holds_bl {pc : List SB} (h : pc.all (SB.bl n) = true) : (∀ c ∈ pc, c.ev Φ ρ' = true) ↔ ∀ c ∈ pc, c.ev Φ ρ = true := by
  rw [List.all_eq_true] at h
  exact ⟨fun g c hc => (evB_bl ha c (h c hc)) ▸ g c hc, fun g c hc => by rw [evB_bl ha c (h c hc)]; exact g c hc⟩
theorem denPt_bl {p : Pt} (h : p.bl n = true) : denPt Φ ρ' μ p = denPt Φ ρ μ p := by
  simp only [denPt, ev_bl ha p.r h]
theorem denPts_bl : ∀ {ps : List Pt}, ps.all (Pt.bl n) = true → denPts Φ ρ' μ ps = denPts Φ ρ μ ps
  | [], _ => rfl
  | p :: ps, h => by simp only [List.all_cons, Bool.and_eq_true] at h; simp only [denPts, denPt_bl ha h.1, denPts_bl h.2]
theorem denC_bl {c : CV} (h : c.bl n = true) : denC Φ ρ' μ c = denC Φ ρ μ c := by
  cases c with
  | b x => simp only [denC, evB_bl ha x h]
  | i k x => simp only [denC, ev_bl ha x h]
  | s x => rfl
  | p a => cases a with
    | none => rfl
    | some p => simp only [denC, denPt_bl ha h]
  | sl a x y => cases a with
    | none => simp only [CV.bl, Bool.and_eq_true] at h; simp only [denC, ev_bl ha x h.1, ev_bl ha y h.2]
    | some p => simp only [CV.bl, Bool.and_eq_true] at h; simp only [denC, denPt_bl ha h.1, ev_bl ha x h.2.1, ev_bl ha y h.2.2]
  | vs id x y z => cases z with
    | none => simp only [CV.bl, Bool.and_eq_true] at h; simp only [denC, vcap, ev_bl ha x h.1, ev_bl ha y h.2]; cases μ[id]? <;> rfl
    | some z => simp only [CV.bl, Bool.and_eq_true] at h; simp only [denC, vcap, ev_bl ha x h.1, ev_bl ha y h.2.1, ev_bl ha z h.2.2]; cases μ[id]? <;> rfl
  | m a => cases a <;> rfl
  | cd k x => simp only [denC, ev_bl ha x h]
  | fn f ps => simp only [denC, denPts_bl ha h]
  | nilfn => rfl
theorem denL_bl : ∀ {cs : List CV}, cs.all (CV.bl n) = true → denL Φ ρ' μ cs = denL Φ ρ μ cs
  | [], _ => rfl
  | c :: cs, h => by simp only [List.all_cons, Bool.and_eq_true] at h; simp only [denL, denC_bl ha h.1, denL_bl h.2]
theorem denT_bl : ∀ {vs : List (CV ⊕ List CV)}, tupBl n vs = true → denT Φ ρ' μ vs = denT Φ ρ μ vs
  | [], _ => rfl
  | .inl c :: vs, h => by simp only [tupBl, Bool.and_eq_true] at h; simp only [denT, denC_bl ha h.1, denT_bl h.2]
  | .inr c :: vs, h => by simp only [tupBl, Bool.and_eq_true] at h; simp only [denT, denL_bl ha h.1, denT_bl h.2]
theorem den_bl {v : AV} (h : v.bl n = true) : den Φ ρ' μ v = den Φ ρ μ v := by
  cases v with
  | cv c => simp only [den, denC_bl ha h]
  | agg cs => simp only [den, denL_bl ha h]
  | tup vs => simp only [den, denT_bl ha h]
theorem obj_bl {o : AObj} (h : o.bl n = true) (w : World) (l : Loc) : ObjOK Φ ρ' μ w l o ↔ ObjOK Φ ρ μ w l o := by
  cases o with
  | cells cs ty => simp only [ObjOK, denL_bl ha h]
  | ext A ks => simp only [ObjOK, evL_bl ha A h]
  | abs k A => simp only [ObjOK, evL_bl ha A h]
  | iter mid kk ks sc M cur =>
    simp only [AObj.bl, Bool.and_eq_true] at h
    cases cur with
    | none => simp only [ObjOK, evL_bl ha M h.1, Option.map_none]
    | some k => simp only [ObjOK, evL_bl ha M h.1, Option.map_some, ev_bl ha k h.2]
  | lists mid k ety oty A op =>
    simp only [AObj.bl, Bool.and_eq_true] at h
    cases op with
    | none => simp only [ObjOK, evL_bl ha A h.1]
    | some x => simp only [ObjOK, evL_bl ha A h.1, ev_bl ha x.2 h.2]
  | dead => exact Iff.rfl
theorem MRel.bl {B : Base} {m : Mem} {w : World} (hm : m.bl n = true) (h : MRel Φ ρ μ B m w) : MRel Φ ρ' μ B m w :=
  { h with obj := fun i o l ho hl => (obj_bl ha (List.all_eq_true.1 hm o (List.mem_of_getElem? ho)) w l).2 (h.obj i o l ho hl) }
omit ha in
theorem get_bl {v : AV} {u : Nat} : ∀ {t : List (Nat × AV)}, slotsBl n t = true → get u t = some v → v.bl n = true
  | [], _, h => by simp [get] at h
  | (k, x) :: t, hb, h => by
    simp only [slotsBl, List.all_cons, Bool.and_eq_true] at hb
    simp only [get] at h
    split at h
    · simp at h; subst h; exact hb.1
    · exact get_bl hb.2 h
theorem TRel.bl {k : Nat} {t : List (Nat × AV)} {a : Act} (ht : slotsBl n t = true) (h : TRel Φ ρ μ k t a) : TRel Φ ρ' μ k t a :=
  { h with tm := fun u v hv => by rw [den_bl ha (get_bl ht hv)]; exact h.tm u v hv }
end
end Go.SF
