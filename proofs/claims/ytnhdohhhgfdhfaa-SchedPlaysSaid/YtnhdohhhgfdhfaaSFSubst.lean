/- Expressions put in for unknowns, objects for objects. -/
import Derived.Test.YtnhdohhhgfdhfaaSFSound3
namespace Go.SF
set_option linter.unusedVariables false
set_option linter.unusedSimpArgs false

structure Sb where
  i : List (Nat × SI)
  b : List (Nat × SB)
  l : List (Nat × SL)
  d : Nat
/-- Where an unknown comes to that is not bound: drawn ones are moved up. -/
def Sb.sh (σ : Sb) (k : Nat) : Nat := bif Nat.blt k 1000 then k else k + σ.d
def look {α : Type} (k : Nat) : List (Nat × α) → Option α
  | [] => none
  | (u, v) :: r => if Nat.beq k u then some v else look k r

def appI' (Φ : Sig) (f : Nat) (xs : SA) : SI := match SA.lits xs with
  | some q => .c (Φ.appI f q)
  | none => .app f xs
def appL' (Φ : Sig) (f : Nat) (xs : SA) : SL := match SA.lits xs with
  | some q => .lit (Φ.appL f q)
  | none => match f, xs with
    | 0, .l a (.l b .nil) => mkCat a b
    | 6, .l a (.i k .nil) => mkFind 9 a k
    | f, xs => .app f xs
def wrap' (k : IntKind) : SI → SI
  | .c n => .c (k.wrap n)
  | e => .wrap k e

section
variable (Φ : Sig) (σ : Sb)
mutual
def SI.sb : SI → SI
  | .c n => .c n
  | .v k => match look k σ.i with | some e => e | none => .v (σ.sh k)
  | .add a b => mkAdd (SI.sb a) (SI.sb b)
  | .sub a b => mkSub (SI.sb a) (SI.sb b)
  | .mul a b => mkMul (SI.sb a) (SI.sb b)
  | .quo a b => mkQuo (SI.sb a) (SI.sb b)
  | .rem a b => mkRem (SI.sb a) (SI.sb b)
  | .wrap k a => wrap' k (SI.sb a)
  | .bits op k a b => mkBits op k (SI.sb a) (SI.sb b)
  | .sel A r j => mkSel 60 (SL.sb A) (SI.sb r) j
  | .len A => mkLen 60 (SL.sb A)
  | .app f xs => appI' Φ f (SA.sb xs)
def SL.sb : SL → SL
  | .v k => match look k σ.l with | some e => e | none => .v (σ.sh k)
  | .lit A => .lit A
  | .app f xs => appL' Φ f (SA.sb xs)
def SA.sb : SA → SA
  | .nil => .nil
  | .i x r => .i (SI.sb x) (SA.sb r)
  | .l x r => .l (SL.sb x) (SA.sb r)
end
def SB.sb : SB → SB
  | .c b => .c b
  | .v k => match look k σ.b with | some e => e | none => .v (σ.sh k)
  | .lt a b => mkLt (a.sb Φ σ) (b.sb Φ σ)
  | .le a b => mkLe (a.sb Φ σ) (b.sb Φ σ)
  | .eq a b => mkEq (a.sb Φ σ) (b.sb Φ σ)
  | .eqL a b => mkEqL (a.sb Φ σ) (b.sb Φ σ)
  | .not x => mkNot (SB.sb x)
  | .and x y => mkAnd (SB.sb x) (SB.sb y)
  | .or x y => mkOr (SB.sb x) (SB.sb y)
  | .app f xs => match SA.lits (xs.sb Φ σ) with | some q => .c (Φ.fB f q) | none => .app f (xs.sb Φ σ)
end

def Env.sb (Φ : Sig) (σ : Sb) (ρ : Env) : Env where
  i k := match look k σ.i with | some e => e.ev Φ ρ | none => ρ.i (σ.sh k)
  b k := match look k σ.b with | some e => e.ev Φ ρ | none => ρ.b (σ.sh k)
  l k := match look k σ.l with | some e => e.ev Φ ρ | none => ρ.l (σ.sh k)

section
variable {Φ : Sig} {ρ : Env} {σ : Sb}
theorem ev_appI' (f : Nat) (xs : SA) : (appI' Φ f xs).ev Φ ρ = Φ.appI f (xs.ev Φ ρ) := by
  unfold appI'
  split
  · rename_i q hq; rw [lits_ok Φ ρ hq]; simp
  · exact ev_app ..
theorem ev_appL' (f : Nat) (xs : SA) : (appL' Φ f xs).ev Φ ρ = Φ.appL f (xs.ev Φ ρ) := by
  unfold appL'
  split
  · rename_i q hq; rw [lits_ok Φ ρ hq]; simp
  · split
    · simp [appL_std, stdL]
    · simp [appL_std, stdL]
    · exact evL_app ..
theorem ev_wrap' (k : IntKind) (e : SI) : (wrap' k e).ev Φ ρ = k.wrap (e.ev Φ ρ) := by
  unfold wrap'; split <;> simp
mutual
theorem ev_sb : ∀ e : SI, (e.sb Φ σ).ev Φ ρ = e.ev Φ (ρ.sb Φ σ)
  | .c n => by simp [SI.sb]
  | .v k => by
    simp only [SI.sb, ev_v, Env.sb]
    split <;> simp_all
  | .add a b => by simp [SI.sb, ev_sb a, ev_sb b]
  | .sub a b => by simp [SI.sb, ev_sb a, ev_sb b]
  | .mul a b => by simp [SI.sb, ev_sb a, ev_sb b]
  | .quo a b => by simp [SI.sb, ev_sb a, ev_sb b]
  | .rem a b => by simp [SI.sb, ev_sb a, ev_sb b]
  | .wrap k a => by simp [SI.sb, ev_wrap', ev_sb a]
  | .bits op k a b => by simp [SI.sb, ev_sb a, ev_sb b]
  | .sel A r j => by rw [SI.sb, ev_mkSel, ev_sel, evL_sb A, ev_sb r]
  | .len A => by rw [SI.sb, ev_mkLen, ev_len, evL_sb A]
  | .app f xs => by rw [SI.sb, ev_appI', ev_app, evA_sb xs]
theorem evL_sb : ∀ e : SL, (e.sb Φ σ).ev Φ ρ = e.ev Φ (ρ.sb Φ σ)
  | .lit A => by simp [SL.sb]
  | .v k => by
    simp only [SL.sb, evL_v, Env.sb]
    split <;> simp_all
  | .app f xs => by rw [SL.sb, ev_appL', evL_app, evA_sb xs]
theorem evA_sb : ∀ e : SA, (e.sb Φ σ).ev Φ ρ = e.ev Φ (ρ.sb Φ σ)
  | .nil => by simp [SA.sb]
  | .i x r => by simp [SA.sb, ev_sb x, evA_sb r]
  | .l x r => by simp [SA.sb, evL_sb x, evA_sb r]
end
theorem evB_sb (e : SB) : (e.sb Φ σ).ev Φ ρ = e.ev Φ (ρ.sb Φ σ) := by
  induction e with
  | c b => rfl
  | v k =>
    simp only [SB.sb, evB_v, Env.sb]
    split <;> simp_all
  | lt a b => simp [SB.sb, ev_sb]
  | le a b => simp [SB.sb, ev_sb]
  | eq a b => simp [SB.sb, ev_sb]
  | eqL a b => simp [SB.sb, evL_sb]
  | not x ih => simp [SB.sb, ih]
  | and x y h1 h2 => simp [SB.sb, h1, h2]
  | or x y h1 h2 => simp [SB.sb, h1, h2]
  | app f xs =>
    simp only [SB.sb, evB_app, ← evA_sb (ρ := ρ)]
    split
    · rename_i q hq; rw [lits_ok Φ ρ hq]; simp
    · simp
end

/-! ### values and objects -/
section
variable (Φ : Sig) (σ : Sb) (φ : Nat → Nat)
def Pt.sb (p : Pt) : Pt := ⟨φ p.id, p.r.sb Φ σ, p.j⟩
def CV.sb : CV → CV
  | .b x => .b (x.sb Φ σ)
  | .i k x => .i k (x.sb Φ σ)
  | .s x => .s x
  | .p none => .p none
  | .p (some q) => .p (some (q.sb Φ σ φ))
  | .sl none x y => .sl none (x.sb Φ σ) (y.sb Φ σ)
  | .sl (some q) x y => .sl (some (q.sb Φ σ φ)) (x.sb Φ σ) (y.sb Φ σ)
  | .vs id x y none => .vs (φ id) (x.sb Φ σ) (y.sb Φ σ) none
  | .vs id x y (some z) => .vs (φ id) (x.sb Φ σ) (y.sb Φ σ) (some (z.sb Φ σ))
  | .m none => .m none
  | .m (some id) => .m (some (φ id))
  | .cd k x => .cd k (x.sb Φ σ)
  | .fn f ps => .fn f (ps.map (Pt.sb Φ σ φ))
  | .nilfn => .nilfn
def tupSb : List (CV ⊕ List CV) → List (CV ⊕ List CV)
  | [] => []
  | .inl c :: r => .inl (c.sb Φ σ φ) :: tupSb r
  | .inr c :: r => .inr (c.map (CV.sb Φ σ φ)) :: tupSb r
def AV.sb : AV → AV
  | .cv c => .cv (c.sb Φ σ φ)
  | .agg cs => .agg (cs.map (CV.sb Φ σ φ))
  | .tup vs => .tup (tupSb Φ σ φ vs)
def AObj.sb : AObj → AObj
  | .cells cs ty => .cells (cs.map (CV.sb Φ σ φ)) ty
  | .ext A ks => .ext (A.sb Φ σ) ks
  | .abs k A => .abs k (A.sb Φ σ)
  | .iter mid kk ks sc M cur => .iter (φ mid) kk ks sc (M.sb Φ σ) (cur.map (SI.sb Φ σ))
  | .lists mid k ety oty A op => .lists (φ mid) k ety oty (A.sb Φ σ) (op.map fun x => (φ x.1, x.2.sb Φ σ))
  | .dead => .dead
def slotsSb : List (Nat × AV) → List (Nat × AV)
  | [] => []
  | (u, v) :: r => (u, v.sb Φ σ φ) :: slotsSb r
end

section
variable {Φ : Sig} {ρ : Env} {σ : Sb} {φ : Nat → Nat} {μT μ : List Loc}
variable (hφ : ∀ j, μT[j]? = μ[φ j]?)
include hφ
theorem denPt_sb (p : Pt) : denPt Φ ρ μ (p.sb Φ σ φ) = denPt Φ (ρ.sb Φ σ) μT p := by
  simp only [denPt, Pt.sb, ← hφ, ev_sb]
theorem denPts_sb : ∀ ps : List Pt, denPts Φ ρ μ (ps.map (Pt.sb Φ σ φ)) = denPts Φ (ρ.sb Φ σ) μT ps
  | [] => rfl
  | p :: ps => by simp only [List.map_cons, denPts, denPt_sb hφ, denPts_sb ps]
theorem denC_sb (c : CV) : denC Φ ρ μ (c.sb Φ σ φ) = denC Φ (ρ.sb Φ σ) μT c := by
  cases c with
  | b x => simp [CV.sb, denC, evB_sb]
  | i k x => simp [CV.sb, denC, ev_sb]
  | s x => rfl
  | p a => cases a with
    | none => rfl
    | some p => simp only [CV.sb, denC, denPt_sb hφ]
  | sl a x y => cases a with
    | none => simp only [CV.sb, denC, ev_sb]
    | some p => simp only [CV.sb, denC, denPt_sb hφ, ev_sb]
  | vs id x y z => cases z with
    | none => simp only [CV.sb, denC, ← hφ, ev_sb, vcap]; cases μT[id]? <;> rfl
    | some z => simp only [CV.sb, denC, ← hφ, ev_sb, vcap]; cases μT[id]? <;> rfl
  | m a => cases a with
    | none => rfl
    | some id => simp only [CV.sb, denC, ← hφ]
  | cd k x => simp only [CV.sb, denC, ev_sb]
  | fn f ps => simp only [CV.sb, denC, denPts_sb hφ]
  | nilfn => rfl
theorem denL_sb : ∀ cs : List CV, denL Φ ρ μ (cs.map (CV.sb Φ σ φ)) = denL Φ (ρ.sb Φ σ) μT cs
  | [] => rfl
  | c :: cs => by simp only [List.map_cons, denL, denC_sb hφ, denL_sb cs]
theorem denT_sb : ∀ vs : List (CV ⊕ List CV), denT Φ ρ μ (tupSb Φ σ φ vs) = denT Φ (ρ.sb Φ σ) μT vs
  | [] => rfl
  | .inl c :: vs => by simp only [tupSb, denT, denC_sb hφ, denT_sb vs]
  | .inr c :: vs => by simp only [tupSb, denT, denL_sb hφ, denT_sb vs]
theorem den_sb (v : AV) : den Φ ρ μ (v.sb Φ σ φ) = den Φ (ρ.sb Φ σ) μT v := by
  cases v with
  | cv c => simp only [AV.sb, den, denC_sb hφ]
  | agg cs => simp only [AV.sb, den, denL_sb hφ]
  | tup vs => simp only [AV.sb, den, denT_sb hφ]
theorem obj_sb (o : AObj) (w : World) (l : Loc) : ObjOK Φ ρ μ w l (o.sb Φ σ φ) ↔ ObjOK Φ (ρ.sb Φ σ) μT w l o := by
  cases o with
  | cells cs ty => simp only [AObj.sb, ObjOK, denL_sb hφ]
  | ext A ks => simp only [AObj.sb, ObjOK, evL_sb]
  | abs k A => simp only [AObj.sb, ObjOK, evL_sb]
  | iter mid kk ks sc M cur =>
    cases cur with
    | none => simp only [AObj.sb, ObjOK, ← hφ, evL_sb, Option.map_none]
    | some k => simp only [AObj.sb, ObjOK, ← hφ, evL_sb, ev_sb, Option.map_some]
  | lists mid k ety oty A op =>
    cases op with
    | none => simp only [AObj.sb, ObjOK, ← hφ, evL_sb, Option.map_none]
    | some x => simp only [AObj.sb, ObjOK, ← hφ, evL_sb, ev_sb, Option.map_some]
  | dead => exact Iff.rfl
end
theorem sb_alive {Φ : Sig} {σ : Sb} {φ : Nat → Nat} (o : AObj) : (o.sb Φ σ φ).alive = o.alive := by cases o <;> rfl
theorem sb_excl {Φ : Sig} {σ : Sb} {φ : Nat → Nat} (o : AObj) : (o.sb Φ σ φ).excl = o.excl := by cases o <;> rfl
theorem get_slotsSb {Φ : Sig} {σ : Sb} {φ : Nat → Nat} : ∀ (t : List (Nat × AV)) (u : Nat), get u (slotsSb Φ σ φ t) = (get u t).map (AV.sb Φ σ φ)
  | [], u => rfl
  | (k, v) :: t, u => by
    simp only [slotsSb, get]
    split
    · rfl
    · exact get_slotsSb t u

end Go.SF
