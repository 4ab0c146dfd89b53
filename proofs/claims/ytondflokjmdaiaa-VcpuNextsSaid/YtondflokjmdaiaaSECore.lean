/- A small machine of values with unknowns: expressions, objects, states, and what each of them stands for. -/
import Derived.WalkKit
import Derived.KernelRfl
namespace Go.SE
set_option linter.unusedVariables false

/-! ### expressions -/
mutual
inductive SI where
  | c (n : Int)
  | v (i : Nat)
  | add (a b : SI)
  | sub (a b : SI)
  | mul (a b : SI)
  | quo (a b : SI)
  | rem (a b : SI)
  | wrap (k : IntKind) (a : SI)
  | bits (op : BinOp) (k : IntKind) (a b : SI)
  | sel (A : SL) (r : SI) (j : Nat)
  | len (A : SL)
  | app (f : Nat) (xs : SA)
inductive SL where
  | v (i : Nat)
  | app (f : Nat) (xs : SA)
inductive SA where
  | nil
  | i (x : SI) (r : SA)
  | l (x : SL) (r : SA)
end

inductive SB where
  | c (b : Bool)
  | v (i : Nat)
  | lt (a b : SI)
  | le (a b : SI)
  | eq (a b : SI)
  | not (x : SB)
  | and (x y : SB)
  | or (x y : SB)
  | app (f : Nat) (xs : SA)

/-- What functions and lists of rows mean. -/
structure Sig (D : Type) where
  rows : D → List (List Int)
  fI : Nat → List (Int ⊕ D) → Int
  fD : Nat → List (Int ⊕ D) → D
  fB : Nat → List (Int ⊕ D) → Bool

/-- What the unknowns stand for. -/
structure Env (D : Type) where
  i : Nat → Int
  b : Nat → Bool
  l : Nat → D

section
variable {D : Type} (Φ : Sig D) (ρ : Env D)
mutual
def SI.ev : SI → Int
  | .c n => n
  | .v i => ρ.i i
  | .add a b => SI.ev a + SI.ev b
  | .sub a b => SI.ev a - SI.ev b
  | .mul a b => SI.ev a * SI.ev b
  | .quo a b => (SI.ev a).tdiv (SI.ev b)
  | .rem a b => (SI.ev a).tmod (SI.ev b)
  | .wrap k a => k.wrap (SI.ev a)
  | .bits op k a b => Go.bits op k (SI.ev a) (SI.ev b)
  | .sel A r j => ((Φ.rows (SL.ev A)).getD (SI.ev r).toNat []).getD j 0
  | .len A => ((Φ.rows (SL.ev A)).length : Int)
  | .app f xs => Φ.fI f (SA.ev xs)
def SL.ev : SL → D
  | .v i => ρ.l i
  | .app f xs => Φ.fD f (SA.ev xs)
def SA.ev : SA → List (Int ⊕ D)
  | .nil => []
  | .i x r => .inl (SI.ev x) :: SA.ev r
  | .l x r => .inr (SL.ev x) :: SA.ev r
end
def SB.ev : SB → Bool
  | .c b => b
  | .v i => ρ.b i
  | .lt a b => decide (SI.ev Φ ρ a < SI.ev Φ ρ b)
  | .le a b => decide (SI.ev Φ ρ a ≤ SI.ev Φ ρ b)
  | .eq a b => decide (SI.ev Φ ρ a = SI.ev Φ ρ b)
  | .not x => !SB.ev x
  | .and x y => SB.ev x && SB.ev y
  | .or x y => SB.ev x || SB.ev y
  | .app f xs => Φ.fB f (SA.ev Φ ρ xs)
end

/-! ### equality of expressions, by looking -/
def IntKind.same (a b : IntKind) : Bool := decide (a = b)
mutual
def SI.same : SI → SI → Bool
  | .c n, .c m => decide (n = m)
  | .v i, .v j => decide (i = j)
  | .add a b, .add c d => SI.same a c && SI.same b d
  | .sub a b, .sub c d => SI.same a c && SI.same b d
  | .mul a b, .mul c d => SI.same a c && SI.same b d
  | .quo a b, .quo c d => SI.same a c && SI.same b d
  | .rem a b, .rem c d => SI.same a c && SI.same b d
  | .wrap k a, .wrap l b => decide (k = l) && SI.same a b
  | .sel A r j, .sel B s k => SL.same A B && SI.same r s && decide (j = k)
  | .len A, .len B => SL.same A B
  | .app f xs, .app g ys => decide (f = g) && SA.same xs ys
  | _, _ => false
def SL.same : SL → SL → Bool
  | .v i, .v j => decide (i = j)
  | .app f xs, .app g ys => decide (f = g) && SA.same xs ys
  | _, _ => false
def SA.same : SA → SA → Bool
  | .nil, .nil => true
  | .i x r, .i y s => SI.same x y && SA.same r s
  | .l x r, .l y s => SL.same x y && SA.same r s
  | _, _ => false
end

mutual
theorem SI.same_eq : ∀ a b : SI, SI.same a b = true → a = b
  | .c n, b, h => by cases b <;> simp_all [SI.same]
  | .v n, b, h => by cases b <;> simp_all [SI.same]
  | .add x y, b, h => by
    cases b <;> simp only [SI.same, Bool.and_eq_true, Bool.false_eq_true] at h
    rw [SI.same_eq _ _ h.1, SI.same_eq _ _ h.2]
  | .sub x y, b, h => by
    cases b <;> simp only [SI.same, Bool.and_eq_true, Bool.false_eq_true] at h
    rw [SI.same_eq _ _ h.1, SI.same_eq _ _ h.2]
  | .mul x y, b, h => by
    cases b <;> simp only [SI.same, Bool.and_eq_true, Bool.false_eq_true] at h
    rw [SI.same_eq _ _ h.1, SI.same_eq _ _ h.2]
  | .quo x y, b, h => by
    cases b <;> simp only [SI.same, Bool.and_eq_true, Bool.false_eq_true] at h
    rw [SI.same_eq _ _ h.1, SI.same_eq _ _ h.2]
  | .rem x y, b, h => by
    cases b <;> simp only [SI.same, Bool.and_eq_true, Bool.false_eq_true] at h
    rw [SI.same_eq _ _ h.1, SI.same_eq _ _ h.2]
  | .wrap k x, b, h => by
    cases b <;> simp only [SI.same, Bool.and_eq_true, Bool.false_eq_true, decide_eq_true_eq] at h
    rw [h.1, SI.same_eq _ _ h.2]
  | .bits op k x y, b, h => by cases b <;> simp [SI.same] at h
  | .sel A r j, b, h => by
    cases b <;> simp only [SI.same, Bool.and_eq_true, Bool.false_eq_true, decide_eq_true_eq] at h
    rw [SL.same_eq _ _ h.1.1, SI.same_eq _ _ h.1.2, h.2]
  | .len A, b, h => by
    cases b <;> simp only [SI.same, Bool.false_eq_true] at h
    rw [SL.same_eq _ _ h]
  | .app f xs, b, h => by
    cases b <;> simp only [SI.same, Bool.and_eq_true, Bool.false_eq_true, decide_eq_true_eq] at h
    rw [h.1, SA.same_eq _ _ h.2]
theorem SL.same_eq : ∀ a b : SL, SL.same a b = true → a = b
  | .v n, b, h => by cases b <;> simp_all [SL.same]
  | .app f xs, b, h => by
    cases b <;> simp only [SL.same, Bool.and_eq_true, Bool.false_eq_true, decide_eq_true_eq] at h
    rw [h.1, SA.same_eq _ _ h.2]
theorem SA.same_eq : ∀ a b : SA, SA.same a b = true → a = b
  | .nil, b, h => by cases b <;> simp_all [SA.same]
  | .i x r, b, h => by
    cases b <;> simp only [SA.same, Bool.and_eq_true, Bool.false_eq_true] at h
    rw [SI.same_eq _ _ h.1, SA.same_eq _ _ h.2]
  | .l x r, b, h => by
    cases b <;> simp only [SA.same, Bool.and_eq_true, Bool.false_eq_true] at h
    rw [SL.same_eq _ _ h.1, SA.same_eq _ _ h.2]
end

/-! ### values -/
/-- A place: the object, the row, the cell within the row. -/
structure Pt where
  id : Nat
  r : SI
  j : Nat

/-- The value of one cell. -/
inductive CV where
  | b (x : SB)
  | i (k : IntKind) (x : SI)
  | s (x : ByteArray)
  | p (a : Option Pt)
  | sl (a : Option (Nat × SI)) (len cap : SI)
  | m (a : Option Nat)
  | ch (a : Option Nat)
  | fn (f : Nat) (caps : List Pt)
  | nilfn

inductive AV where
  | cv (x : CV)
  | agg (cs : List CV)
  | tup (vs : List (CV ⊕ List CV))

/-- Kinds of a row's cells: a number of a kind, or a bool (0: no). -/
inductive CK where
  | i (k : IntKind)
  | b

inductive AObj where
  | cells (cs : List CV) (ty : TypeId)
  | ext (A : SL) (ks : List CK)
  | dead

def AObj.alive : AObj → Bool
  | .dead => false
  | _ => true

structure Mem where
  o : List AObj
  wr : List Nat

/-- A frame's slots (n of them), and the objects. -/
structure St where
  n : Nat
  t : List (Nat × AV)
  m : Mem

/-- Where an object lies: its block, its first cell, how many cells a row has. -/
structure Loc where
  blk : Nat
  base : Nat
  str : Nat

section
variable {D : Type} (Φ : Sig D) (ρ : Env D) (μ : List Loc)

def denPt (p : Pt) : Option Addr :=
  match μ[p.id]? with
  | none => none
  | some l => if 0 ≤ p.r.ev Φ ρ then some ⟨l.blk, l.base + (p.r.ev Φ ρ).toNat * l.str + p.j, none⟩ else none

def denPts : List Pt → Option (List Value)
  | [] => some []
  | p :: ps => match denPt Φ ρ μ p, denPts ps with
    | some a, some vs => some (.pointer (some a) :: vs)
    | _, _ => none

def denC : CV → Option Value
  | .b x => some (.bool (x.ev Φ ρ))
  | .i k x => some (.int k (x.ev Φ ρ))
  | .s x => some (.string x)
  | .p none => some (.pointer none)
  | .p (some p) => (denPt Φ ρ μ p).map fun a => .pointer (some a)
  | .sl none len cap => if len.ev Φ ρ = 0 ∧ cap.ev Φ ρ = 0 then some (.slice none 0 0) else none
  | .sl (some (id, r)) len cap =>
    if 0 ≤ len.ev Φ ρ ∧ len.ev Φ ρ ≤ cap.ev Φ ρ then (denPt Φ ρ μ ⟨id, r, 0⟩).map fun a => .slice (some a) (len.ev Φ ρ).toNat (cap.ev Φ ρ).toNat else none
  | .m none => some (.map none)
  | .m (some id) => (μ[id]?).map fun l => .map (some l.blk)
  | .ch none => some (.chan none)
  | .ch (some id) => (μ[id]?).map fun l => .chan (some l.blk)
  | .fn f caps => (denPts Φ ρ μ caps).map fun vs => .func (.func f) #[] vs.toArray
  | .nilfn => some .nilFunc

def denL : List CV → Option (List Value)
  | [] => some []
  | c :: cs => match denC Φ ρ μ c, denL cs with
    | some v, some vs => some (v :: vs)
    | _, _ => none

def denT : List (CV ⊕ List CV) → Option (List Value)
  | [] => some []
  | .inl c :: cs => match denC Φ ρ μ c, denT cs with
    | some v, some vs => some (v :: vs)
    | _, _ => none
  | .inr c :: cs => match denL Φ ρ μ c, denT cs with
    | some v, some vs => some (.agg v.toArray :: vs)
    | _, _ => none

def den : AV → Option Value
  | .cv c => denC Φ ρ μ c
  | .agg cs => (denL Φ ρ μ cs).map fun vs => .agg vs.toArray
  | .tup vs => (denT Φ ρ μ vs).map fun vs => .tuple vs.toArray

def ckVal : CK → Int → Value
  | .i k, n => .int k n
  | .b, n => .bool (decide (n ≠ 0))

/-- What an object stands for. -/
def ObjOK (w : World) (l : Loc) : AObj → Prop
  | .cells cs ty => l.base = 0 ∧ l.str = 0 ∧ ∃ vs, denL Φ ρ μ cs = some vs ∧ w.heap[l.blk]? = some (.cells vs.toArray ty (0, 0))
  | .ext A ks => l.str = ks.length ∧ l.blk < w.heap.size ∧ ∀ r row, (Φ.rows (A.ev Φ ρ))[r]? = some row → row.length = ks.length ∧
      ∀ j k n, ks[j]? = some k → row[j]? = some n → w.cell? ⟨l.blk, l.base + r * l.str + j, none⟩ = some (ckVal k n)
  | .dead => True

def get (t : Nat) : List (Nat × AV) → Option AV
  | [] => none
  | (u, v) :: r => if t = u then some v else get t r

/-- What the objects stand for; what was there when 'w0' was, and is not written, is as it was. -/
structure MRel (w0 : World) (m : Mem) (w : World) : Prop where
  len : μ.length = m.o.length
  apart : ∀ (i j : Nat) (cs : List CV) (ty : TypeId) (o : AObj) (li lj : Loc), m.o[i]? = some (.cells cs ty) → m.o[j]? = some o → o.alive = true → μ[i]? = some li → μ[j]? = some lj → li.blk = lj.blk → i = j
  obj : ∀ (i : Nat) (o : AObj) (l : Loc), m.o[i]? = some o → μ[i]? = some l → ObjOK Φ ρ μ w l o
  fr : ∀ b, b < w0.heap.size → (∀ (i : Nat) (l : Loc), i ∈ m.wr → μ[i]? = some l → l.blk ≠ b) → w.heap[b]? = w0.heap[b]?
  sz : w0.heap.size ≤ w.heap.size
  os : w.os = w0.os ∧ w.tape = w0.tape ∧ w.output = w0.output
  lt : ∀ (i : Nat) (o : AObj) (l : Loc), m.o[i]? = some o → o.alive = true → μ[i]? = some l → l.blk < w.heap.size
  wap : ∀ (i j : Nat) (o : AObj) (li lj : Loc), i ∈ m.wr → j ∉ m.wr → m.o[j]? = some o → o.alive = true → μ[i]? = some li → μ[j]? = some lj → li.blk ≠ lj.blk
  wlt : ∀ i ∈ m.wr, i < m.o.length ∧ ∀ l, μ[i]? = some l → l.blk < w.heap.size

/-- What a frame stands for. -/
structure TRel (n : Nat) (t : List (Nat × AV)) (a : Act) : Prop where
  sz : a.tmps.size = n
  tm : ∀ u v, get u t = some v → u < a.tmps.size ∧ den Φ ρ μ v = some (a.tmps.getD u undef)
  df : a.defers = []

end
end Go.SE
