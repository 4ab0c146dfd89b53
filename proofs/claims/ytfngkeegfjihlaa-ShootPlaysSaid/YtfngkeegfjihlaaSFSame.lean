/- Values, objects and states that are the same, by looking. -/
import Derived.Test.YtfngkeegfjihlaaSFEval
namespace Go.SF
set_option linter.unusedVariables false
set_option linter.unusedSimpArgs false

/-! ### equality, by looking -/
def Pt.same (p q : Pt) : Bool := Nat.beq p.id q.id && Nat.beq p.j q.j && SI.same p.r q.r
theorem Pt.same_eq {p q : Pt} (h : Pt.same p q = true) : p = q := by
  cases p; cases q
  simp only [Pt.same, Bool.and_eq_true] at h
  rw [Nat.eq_of_beq_eq_true h.1.1, Nat.eq_of_beq_eq_true h.1.2, SI.same_eq _ _ h.2]
def samePts : List Pt → List Pt → Bool
  | [], [] => true
  | p :: ps, q :: qs => Pt.same p q && samePts ps qs
  | _, _ => false
theorem samePts_eq : ∀ {ps qs : List Pt}, samePts ps qs = true → ps = qs
  | [], [], _ => rfl
  | p :: ps, q :: qs, h => by simp only [samePts, Bool.and_eq_true] at h; rw [Pt.same_eq h.1, samePts_eq h.2]
  | [], _ :: _, h => by simp [samePts] at h
  | _ :: _, [], h => by simp [samePts] at h
def optSame {α : Type} (f : α → α → Bool) : Option α → Option α → Bool
  | none, none => true
  | some x, some y => f x y
  | _, _ => false
theorem optSame_eq {α : Type} {f : α → α → Bool} (hf : ∀ x y, f x y = true → x = y) {x y : Option α} (h : optSame f x y = true) : x = y := by
  cases x <;> cases y <;> simp only [optSame, Bool.false_eq_true] at h
  · rfl
  · rw [hf _ _ h]
def CV.same : CV → CV → Bool
  | .b x, .b y => SB.same x y
  | .i k x, .i l y => decide (k = l) && SI.same x y
  | .s x, .s y => decide (x = y)
  | .p x, .p y => optSame Pt.same x y
  | .sl q x y, .sl q' x' y' => optSame Pt.same q q' && (SI.same x x' && SI.same y y')
  | .vs d x y z, .vs d' x' y' z' => Nat.beq d d' && (SI.same x x' && (SI.same y y' && optSame SI.same z z'))
  | .m x, .m y => optSame Nat.beq x y
  | .cd k x, .cd l y => decide (k = l) && SI.same x y
  | .fn f ps, .fn g qs => Nat.beq f g && samePts ps qs
  | .nilfn, .nilfn => true
  | _, _ => false
theorem CV.same_eq {o o2 : CV} (h : CV.same o o2 = true) : o = o2 := by
  cases o with
  | b x => cases o2 <;> simp only [CV.same, Bool.false_eq_true] at h; rw [SB.same_eq _ _ h]
  | i k x => cases o2 <;> simp only [CV.same, Bool.false_eq_true, Bool.and_eq_true, decide_eq_true_eq] at h; rw [h.1, SI.same_eq _ _ h.2]
  | s x => cases o2 <;> simp only [CV.same, Bool.false_eq_true, decide_eq_true_eq] at h; rw [h]
  | p x => cases o2 <;> simp only [CV.same, Bool.false_eq_true] at h; rw [optSame_eq (fun _ _ h => Pt.same_eq h) h]
  | sl q x y => cases o2 <;> simp only [CV.same, Bool.false_eq_true, Bool.and_eq_true] at h; rw [optSame_eq (fun _ _ h => Pt.same_eq h) h.1, SI.same_eq _ _ h.2.1, SI.same_eq _ _ h.2.2]
  | vs d x y z => cases o2 <;> simp only [CV.same, Bool.false_eq_true, Bool.and_eq_true] at h; rw [Nat.eq_of_beq_eq_true h.1, SI.same_eq _ _ h.2.1, SI.same_eq _ _ h.2.2.1, optSame_eq SI.same_eq h.2.2.2]
  | m x => cases o2 <;> simp only [CV.same, Bool.false_eq_true] at h; rw [optSame_eq (fun _ _ h => Nat.eq_of_beq_eq_true h) h]
  | cd k x => cases o2 <;> simp only [CV.same, Bool.false_eq_true, Bool.and_eq_true, decide_eq_true_eq] at h; rw [h.1, SI.same_eq _ _ h.2]
  | fn f ps => cases o2 <;> simp only [CV.same, Bool.false_eq_true, Bool.and_eq_true] at h; rw [Nat.eq_of_beq_eq_true h.1, samePts_eq h.2]
  | nilfn => cases o2 <;> simp only [CV.same, Bool.false_eq_true] at h; rfl
def sameCs : List CV → List CV → Bool
  | [], [] => true
  | p :: ps, q :: qs => CV.same p q && sameCs ps qs
  | _, _ => false
theorem sameCs_eq : ∀ {ps qs : List CV}, sameCs ps qs = true → ps = qs
  | [], [], _ => rfl
  | p :: ps, q :: qs, h => by simp only [sameCs, Bool.and_eq_true] at h; rw [CV.same_eq h.1, sameCs_eq h.2]
  | [], _ :: _, h => by simp [sameCs] at h
  | _ :: _, [], h => by simp [sameCs] at h
def AV.same : AV → AV → Bool
  | .cv x, .cv y => CV.same x y
  | .agg x, .agg y => sameCs x y
  | _, _ => false
theorem AV.same_eq {x y : AV} (h : AV.same x y = true) : x = y := by
  cases x <;> cases y <;> simp only [AV.same, Bool.false_eq_true] at h
  · rw [CV.same_eq h]
  · rw [sameCs_eq h]
def AObj.same : AObj → AObj → Bool
  | .cells x t, .cells y u => Nat.beq t u && sameCs x y
  | .ext A ks, .ext C ls => decide (ks = ls) && SL.same A C
  | .abs k A, .abs l C => decide (k = l) && SL.same A C
  | .iter mid kk ks sc M none, .iter mid' kk' ks' sc' M' none => Nat.beq mid mid' && (decide (kk = kk' ∧ ks = ks' ∧ sc = sc') && SL.same M M')
  | .iter mid kk ks sc M (some k), .iter mid' kk' ks' sc' M' (some k') => Nat.beq mid mid' && (decide (kk = kk' ∧ ks = ks' ∧ sc = sc') && (SL.same M M' && SI.same k k'))
  | .lists mid k e t A none, .lists mid' k' e' t' A' none => Nat.beq mid mid' && (decide (k = k') && (Nat.beq e e' && (Nat.beq t t' && SL.same A A')))
  | .lists mid k e t A (some x), .lists mid' k' e' t' A' (some x') => Nat.beq mid mid' && (decide (k = k') && (Nat.beq e e' && (Nat.beq t t' && (SL.same A A' && (Nat.beq x.1 x'.1 && SI.same x.2 x'.2)))))
  | .dead, .dead => true
  | _, _ => false
theorem AObj.same_eq {x y : AObj} (h : AObj.same x y = true) : x = y := by
  cases x <;> cases y <;> simp only [AObj.same, Bool.false_eq_true, Bool.and_eq_true, decide_eq_true_eq] at h
  · rw [Nat.eq_of_beq_eq_true h.1, sameCs_eq h.2]
  · rw [h.1, SL.same_eq _ _ h.2]
  · rw [h.1, SL.same_eq _ _ h.2]
  · rename_i c1 _ _ _ _ _ c2
    cases c1 <;> cases c2 <;> simp only [AObj.same, Bool.false_eq_true, Bool.and_eq_true, decide_eq_true_eq] at h
    · obtain ⟨h1, ⟨rfl, rfl, rfl⟩, h3⟩ := h; rw [Nat.eq_of_beq_eq_true h1, SL.same_eq _ _ h3]
    · obtain ⟨h1, ⟨rfl, rfl, rfl⟩, h3, h4⟩ := h; rw [Nat.eq_of_beq_eq_true h1, SL.same_eq _ _ h3, SI.same_eq _ _ h4]
  · rename_i c1 _ _ _ _ _ c2
    cases c1 <;> cases c2 <;> simp only [AObj.same, Bool.false_eq_true, Bool.and_eq_true, decide_eq_true_eq] at h
    · obtain ⟨h1, rfl, h3, h4, h5⟩ := h; rw [Nat.eq_of_beq_eq_true h1, Nat.eq_of_beq_eq_true h3, Nat.eq_of_beq_eq_true h4, SL.same_eq _ _ h5]
    · rename_i x x'
      obtain ⟨h1, rfl, h3, h4, h5, h6, h7⟩ := h
      have : x = x' := Prod.ext (Nat.eq_of_beq_eq_true h6) (SI.same_eq _ _ h7)
      rw [Nat.eq_of_beq_eq_true h1, Nat.eq_of_beq_eq_true h3, Nat.eq_of_beq_eq_true h4, SL.same_eq _ _ h5, this]
  · rfl

def sameTs : List (CV ⊕ List CV) → List (CV ⊕ List CV) → Bool
  | [], [] => true
  | .inl x :: xs, .inl y :: ys => CV.same x y && sameTs xs ys
  | .inr x :: xs, .inr y :: ys => sameCs x y && sameTs xs ys
  | _, _ => false
theorem sameTs_eq : ∀ {xs ys : List (CV ⊕ List CV)}, sameTs xs ys = true → xs = ys
  | [], [], _ => rfl
  | .inl x :: xs, .inl y :: ys, h => by simp only [sameTs, Bool.and_eq_true] at h; rw [CV.same_eq h.1, sameTs_eq h.2]
  | .inr x :: xs, .inr y :: ys, h => by simp only [sameTs, Bool.and_eq_true] at h; rw [sameCs_eq h.1, sameTs_eq h.2]
  | [], _ :: _, h => by simp [sameTs] at h
  | .inl _ :: _, [], h => by simp [sameTs] at h
  | .inr _ :: _, [], h => by simp [sameTs] at h
  | .inl _ :: _, .inr _ :: _, h => by simp [sameTs] at h
  | .inr _ :: _, .inl _ :: _, h => by simp [sameTs] at h
def AV.sameT : AV → AV → Bool
  | .tup x, .tup y => sameTs x y
  | x, y => AV.same x y
theorem AV.sameT_eq {x y : AV} (h : AV.sameT x y = true) : x = y := by
  unfold AV.sameT at h
  split at h
  · rw [sameTs_eq h]
  · exact AV.same_eq h
def sameOs : List AObj → List AObj → Bool
  | [], [] => true
  | x :: xs, y :: ys => AObj.same x y && sameOs xs ys
  | _, _ => false
theorem sameOs_eq : ∀ {xs ys : List AObj}, sameOs xs ys = true → xs = ys
  | [], [], _ => rfl
  | x :: xs, y :: ys, h => by simp only [sameOs, Bool.and_eq_true] at h; rw [AObj.same_eq h.1, sameOs_eq h.2]
  | [], _ :: _, h => by simp [sameOs] at h
  | _ :: _, [], h => by simp [sameOs] at h
/-- All that is told of the first state is so of the second. -/
def covers (pc1 : List SB) (s1 : St) (pc2 : List SB) (s2 : St) : Bool :=
  Nat.beq s1.n s2.n && Nat.beq s1.m.nx s2.m.nx && sameOs s1.m.o s2.m.o && (s1.m.wr.all fun i => s2.m.wr.contains i) && (s2.m.wr.all fun i => s1.m.wr.contains i) &&
  (pc1.all fun x => pc2.any fun y => SB.same x y) && s1.t.all fun x => match get x.1 s2.t, get x.1 s1.t with
    | some v, some u => AV.sameT u v
    | _, _ => false
end Go.SF
