/- Expressions made simple; what is known on a way: bounds of differences; and that all of it is so. -/
import Derived.Test.YtnhdohhhgfdhfaaSFCore
namespace Go.SF
set_option linter.unusedVariables false
set_option linter.unusedSimpArgs false

/-! ### simple forms -/
def mkAdd : SI → SI → SI
  | .c n, .c m => .c (n + m)
  | .add a (.c n), .c m => if n + m = 0 then a else .add a (.c (n + m))
  | .sub a (.c n), .c m => if m = n then a else if n < m then .add a (.c (m - n)) else .sub a (.c (n - m))
  | a, .c m => if m = 0 then a else .add a (.c m)
  | .c n, a => if n = 0 then a else .add a (.c n)
  | a, b => .add a b
def mkSub : SI → SI → SI
  | .c n, .c m => .c (n - m)
  | .add a (.c n), .c m => if n = m then a else if m < n then .add a (.c (n - m)) else .sub a (.c (m - n))
  | .sub a (.c n), .c m => .sub a (.c (n + m))
  | a, .c m => if m = 0 then a else .sub a (.c m)
  | a, b => if SI.same a b then .c 0 else .sub a b
def mkMul : SI → SI → SI
  | .c n, .c m => .c (n * m)
  | a, b => .mul a b
def mkQuo : SI → SI → SI
  | .c n, .c m => .c (n.tdiv m)
  | a, b => .quo a b
def mkRem : SI → SI → SI
  | .c n, .c m => .c (n.tmod m)
  | a, b => .rem a b
def mkBits (op : BinOp) (k : IntKind) : SI → SI → SI
  | .c n, .c m => .c (Go.bits op k n m)
  | a, b => .bits op k a b
def mkLt (a b : SI) : SB :=
  match a, b with
  | .c n, .c m => .c (decide (n < m))
  | _, _ => .lt a b
def mkLe (a b : SI) : SB :=
  match a, b with
  | .c n, .c m => .c (decide (n ≤ m))
  | _, _ => .le a b
def mkEq (a b : SI) : SB :=
  match a, b with
  | .c n, .c m => .c (decide (n = m))
  | .c n, b => .eq b (.c n)
  | _, _ => if SI.same a b then .c true else .eq a b
def mkEqL (a b : SL) : SB :=
  match a, b with
  | .lit A, .lit B => .c (decide (A = B))
  | _, _ => if SL.same a b then .c true else .eqL a b
def mkNot : SB → SB
  | .c b => .c (!b)
  | .not x => x
  | x => .not x
def mkAnd : SB → SB → SB
  | .c true, y => y
  | .c false, _ => .c false
  | x, .c true => x
  | _, .c false => .c false
  | x, y => .and x y
def mkOr : SB → SB → SB
  | .c true, _ => .c true
  | .c false, y => y
  | _, .c true => .c true
  | x, .c false => x
  | x, y => .or x y
def SB.same : SB → SB → Bool
  | .c a, .c b => a == b
  | .v i, .v j => Nat.beq i j
  | .lt a b, .lt u w => SI.same a u && SI.same b w
  | .le a b, .le u w => SI.same a u && SI.same b w
  | .eq a b, .eq u w => SI.same a u && SI.same b w
  | .eqL a b, .eqL u w => SL.same a u && SL.same b w
  | .not x, .not y => SB.same x y
  | .and x y, .and u w => SB.same x u && SB.same y w
  | .or x y, .or u w => SB.same x u && SB.same y w
  | .app f xs, .app g ys => Nat.beq f g && SA.same xs ys
  | _, _ => false
def mkIff (x y : SB) : SB :=
  match x, y with
  | .c true, y => y
  | .c false, y => mkNot y
  | x, .c true => x
  | x, .c false => mkNot x
  | x, y => if SB.same x y then .c true else mkOr (mkAnd x y) (mkAnd (mkNot x) (mkNot y))

/-- All arguments known. -/
def SA.lits : SA → Option (List Arg)
  | .nil => some []
  | .i (.c n) r => match SA.lits r with | some q => some (.inl n :: q) | none => none
  | .l (.lit A) r => match SA.lits r with | some q => some (.inr A :: q) | none => none
  | _ => none
/-- A function that every law has, at arguments that are known. -/
def stdApp (f : Nat) (xs : SA) : SL :=
  match SA.lits xs with
  | some l => .lit (stdL f l)
  | none => .app f xs
def mkCat (a b : SL) : SL :=
  match a, b with
  | .lit [], b => b
  | a, .lit [] => a
  | a, b => stdApp 0 (.l a (.l b .nil))
def mkTake (a : SL) (n : SI) : SL := stdApp 1 (.l a (.i n .nil))
def mkDrop (a : SL) (n : SI) : SL :=
  match n with
  | .c 0 => a
  | n => stdApp 2 (.l a (.i n .nil))
def saI : List SI → SA
  | [] => .nil
  | x :: r => .i x (saI r)
def mkRow (xs : List SI) : SL := stdApp 3 (saI xs)
def mkSet (a : SL) (r : SI) (j : Nat) (x : SI) : SL := stdApp 4 (.l a (.i r (.i (.c j) (.i x .nil))))
def mkRep (n : SI) (xs : List SI) : SL := stdApp 5 (.i n (saI xs))
def mkLen : Nat → SL → SI
  | _, .lit A => .c A.length
  | d + 1, .app 0 (.l a (.l b .nil)) => mkAdd (mkLen d a) (mkLen d b)
  | _, .app 3 _ => .c 1
  | d + 1, .app 4 (.l a (.i _ (.i _ (.i _ .nil)))) => mkLen d a
  | d + 1, .app 13 (.l a (.i _ (.l _ .nil))) => mkLen d a
  | d + 1, .app 15 (.l a (.i _ (.l _ .nil))) => mkLen d a
  | d + 1, .app 19 (.i _ (.l a (.i _ (.l _ .nil)))) => mkLen d a
  | _, a => .len a
def mkFind : Nat → SL → SI → SL
  | d + 1, .app 7 (.l a (.i k xs)), n => if SI.same k n then stdApp 3 (.i k xs) else match k, n with
    | .c p, .c q => if p = q then stdApp 6 (.l (.app 7 (.l a (.i k xs))) (.i n .nil)) else mkFind d a n
    | _, _ => stdApp 6 (.l (.app 7 (.l a (.i k xs))) (.i n .nil))
  | _, A, n => stdApp 6 (.l A (.i n .nil))
def mkPut (a : SL) (xs : List SI) : SL := stdApp 7 (.l a (saI xs))
def mkDel (a : SL) (k : SI) : SL := stdApp 8 (.l a (.i k .nil))
def mkFlag (a : SL) : SL := stdApp 9 (.l a .nil)
def mkUnflag : SL → SL
  | .app 9 (.l a .nil) => a
  | a => stdApp 10 (.l a .nil)
def mkClr (a : SL) (k : SI) : SL := stdApp 11 (.l a (.i k .nil))
def mkCopy (a : SL) (lo : SI) (b : SL) : SL := stdApp 13 (.l a (.i lo (.l b .nil)))
def mkRowT (a : SL) (r : SI) : SL := stdApp 14 (.l a (.i r .nil))
def mkSetT (a : SL) (r : SI) (b : SL) : SL :=
  match b with
  | .app 14 (.l a' (.i r' .nil)) => if SL.same a' a && SI.same r' r then a else stdApp 15 (.l a (.i r (.l b .nil)))
  | b => stdApp 15 (.l a (.i r (.l b .nil)))
def mkRowN (n : Nat) (a : SL) (r : SI) : SL := if n = 1 then mkRowT a r else stdApp 18 (.i (.c n) (.l a (.i r .nil)))
def mkSetN (n : Nat) (a : SL) (r : SI) (b : SL) : SL :=
  if n = 1 then mkSetT a r b else match b with
  | .app 18 (.i (.c m) (.l a' (.i r' .nil))) => if decide (m = n) && (Nat.blt 0 n && (SL.same a' a && SI.same r' r)) then a else stdApp 19 (.i (.c n) (.l a (.i r (.l b .nil))))
  | b => stdApp 19 (.i (.c n) (.l a (.i r (.l b .nil))))
def mkLeft (a : SL) : SL := stdApp 12 (.l a .nil)
def nthI : SA → Nat → Option SI
  | .i x _, 0 => some x
  | .i _ r, j + 1 => nthI r j
  | _, _ => none
def mkSel : Nat → SL → SI → Nat → SI
  | _, .lit A, .c n, j => .c ((A.getD n.toNat []).getD j 0)
  | _, .app 3 xs, .c 0, j => match nthI xs j with | some x => x | none => .sel (.app 3 xs) (.c 0) j
  | d + 1, .app 4 (.l a (.i s (.i (.c k) (.i x .nil)))), r, j => if k = Int.ofNat j then .sel (.app 4 (.l a (.i s (.i (.c k) (.i x .nil))))) r j else if 0 ≤ k then mkSel d a r j else .sel (.app 4 (.l a (.i s (.i (.c k) (.i x .nil))))) r j
  | _, A, r, j => .sel A r j

/-- The same, where the place is known to be there: what was set there last is found. -/
def mkSelW : Nat → SL → SI → Nat → SI
  | d + 1, .app 4 (.l a (.i s (.i (.c k) (.i x .nil)))), r, j => if k = Int.ofNat j then (if SI.same s r then x else mkSel d (.app 4 (.l a (.i s (.i (.c k) (.i x .nil))))) r j) else if 0 ≤ k then mkSelW d a r j else .sel (.app 4 (.l a (.i s (.i (.c k) (.i x .nil))))) r j
  | _, A, r, j => mkSel 60 A r j

/-! ### what is known on a way -/
/-- An expression as one that is no sum with a number, and a number. -/
def lin : SI → Option SI × Int
  | .c n => (none, n)
  | .add a (.c n) => match lin a with | (x, m) => (x, m + n)
  | .sub a (.c n) => match lin a with | (x, m) => (x, m - n)
  | e => (some e, 0)
/-- a - b ≤ k. -/
structure DF where
  a : Option SI
  b : Option SI
  k : Int
def dLe (x y : SI) (off : Int) : DF := match lin x, lin y with | (a, n), (b, m) => ⟨a, b, m - n + off⟩
def diffs : SB → List DF
  | .lt x y => [dLe x y (-1)]
  | .le x y => [dLe x y 0]
  | .eq x y => [dLe x y 0, dLe y x 0]
  | .not (.lt x y) => [dLe y x 0]
  | .not (.le x y) => [dLe y x (-1)]
  | _ => []
def minO : Option Int → Option Int → Option Int
  | some a, some b => some (if a ≤ b then a else b)
  | some a, none => some a
  | none, b => b
def addO : Option Int → Option Int → Option Int
  | some a, some b => some (a + b)
  | _, _ => none

/-- By its form: at most; (the negative of) at least. -/
def shU (rec : Option SI → Option SI → Option Int) : SI → Option Int
  | .wrap k _ => some (kmax k)
  | .rem a (.c m) => if 0 < m then some (m - 1) else none
  | .add a b => addO (rec (some a) none) (rec (some b) none)
  | .sub a b => addO (rec (some a) none) (rec none (some b))
  | .app 0 (.i a (.i b .nil)) => minO (rec (some a) none) (rec (some b) none)
  | .len (.app 1 (.l a (.i _ .nil))) => rec (some (mkLen 60 a)) none
  | .len (.app 2 (.l a (.i _ .nil))) => rec (some (mkLen 60 a)) none
  | .app 5 _ => some 255
  | .c n => some n
  | _ => none
def shL (rec : Option SI → Option SI → Option Int) : SI → Option Int
  | .wrap k _ => some (-(kmin k))
  | .rem a (.c m) => if 0 < m then (match rec none (some a) with | some l => if l ≤ 0 then some 0 else some (m - 1) | none => some (m - 1)) else none
  | .len _ => some 0
  | .add a b => addO (rec none (some a)) (rec none (some b))
  | .sub a b => addO (rec none (some a)) (rec (some b) none)
  | .app 1 (.i a (.i b .nil)) => minO (rec none (some a)) (rec none (some b))
  | .app f _ => if Nat.blt 1 f && Nat.blt f 8 then some 0 else none
  | .c n => some (-n)
  | _ => none
/-- Is it among these? -/
def inV (a : SI) : List SI → Bool
  | [] => false
  | x :: r => SI.same x a || inV a r
/-- By way of each fact: upwards (a ≤ ..), downwards, from one to another; no way goes twice by the same place. -/
def upD (rec : SI → Option Int) (vis : List SI) (a : SI) : List DF → Option Int
  | [] => none
  | f :: fs => minO (match f.a with
    | some x => if SI.same x a then (match f.b with
      | none => some f.k
      | some y => if inV y vis then none else addO (some f.k) (rec y)) else none
    | none => none) (upD rec vis a fs)
def dnD (rec : SI → Option Int) (vis : List SI) (b : SI) : List DF → Option Int
  | [] => none
  | f :: fs => minO (match f.b with
    | some y => if SI.same y b then (match f.a with
      | none => some f.k
      | some x => if inV x vis then none else addO (some f.k) (rec x)) else none
    | none => none) (dnD rec vis b fs)
def paD (rec : SI → Option Int) (vis : List SI) (a b : SI) : List DF → Option Int
  | [] => none
  | f :: fs => minO (match f.a with
    | some x => if SI.same x a then (match f.b with
      | none => none
      | some y => if SI.same y b then some f.k else if inV y vis then none else addO (some f.k) (rec y)) else none
    | none => none) (paD rec vis a b fs)
def rec2 (u : Bool → SI → Option Int) : Option SI → Option SI → Option Int
  | some e, none => u true e
  | none, some e => u false e
  | none, none => some 0
  | _, _ => none
def ud : Nat → List DF → List SI → Bool → SI → Option Int
  | 0, _, _, _, _ => none
  | d + 1, ds, vis, true, a => minO (shU (rec2 (ud d ds [])) a) (upD (ud d ds (a :: vis) true) (a :: vis) a ds)
  | d + 1, ds, vis, false, a => minO (shL (rec2 (ud d ds [])) a) (dnD (ud d ds (a :: vis) false) (a :: vis) a ds)
def pa : Nat → List DF → List SI → SI → SI → Option Int
  | 0, _, _, _, _ => none
  | d + 1, ds, vis, a, b => paD (fun y => pa d ds (a :: vis) y b) (a :: vis) a b ds
/-- The least number that a - b is known to be at most. -/
def ub (n : Nat) (ds : List DF) : Option SI → Option SI → Option Int
  | none, none => some 0
  | some x, none => ud n ds [] true x
  | none, some y => ud n ds [] false y
  | some x, some y => if SI.same x y then some 0 else minO (pa n ds [] x y) (addO (ud n ds [] true x) (ud n ds [] false y))
def diffsAll : List SB → List DF
  | [] => []
  | f :: fs => diffs f ++ diffsAll fs

/-- How deep bounds are looked for. -/
def depthB : Nat := 5
def hiOf (pc : List SB) (e : SI) : Option Int := match lin e with | (a, n) => addO (ub depthB (diffsAll pc) a none) (some n)
/-- The negative of the least value. -/
def loOf (pc : List SB) (e : SI) : Option Int := match lin e with | (a, n) => addO (ub depthB (diffsAll pc) none a) (some (-n))

/-- A value that is out pushes an end inwards. -/
def outs (e : SI) : List SB → Option Int → Option Int → Option Int × Option Int
  | [], h, l => (h, l)
  | .not (.eq x (.c n)) :: r, h, l => if SI.same x e then outs e r (if h = some n then some (n - 1) else h) (if l = some (-n) then some (-n - 1) else l) else outs e r h l
  | _ :: r, h, l => outs e r h l
def ends (pc : List SB) (e : SI) : Option Int × Option Int :=
  match outs e pc (hiOf pc e) (loOf pc e) with
  | (h, l) => match outs e pc h l with
    | (h, l) => outs e pc h l

def leO (x : Option Int) (n : Int) : Bool := match x with | some m => decide (m ≤ n) | none => false
/-- x ≤ y + off? -/
def knownLe (pc : List SB) (x y : SI) (off : Int) : Bool :=
  match lin x, lin y with
  | (a, n), (b, m) => match b with
    | none => leO (ends pc x).1 (m + off)
    | some _ => match a with
      | none => leO (ends pc y).2 (off - n)
      | some _ => leO (ub depthB (diffsAll pc) a b) (m - n + off)

def knownAt (pc : List SB) (x : SB) : Option Bool :=
  match x with
  | .c b => some b
  | .lt a b => if knownLe pc a b (-1) then some true else if knownLe pc b a 0 then some false else none
  | .le a b => if knownLe pc a b 0 then some true else if knownLe pc b a (-1) then some false else none
  | .eq a b => if knownLe pc a b (-1) || knownLe pc b a (-1) then some false else if knownLe pc a b 0 && knownLe pc b a 0 then some true
    else if pc.any (fun f => SB.same f (.not (.eq a b))) then some false else none
  | x => if pc.any (fun f => SB.same f x) then some true else if pc.any (fun f => SB.same f (mkNot x)) then some false else none

def anyAt (pc : List SB) (x : SB) : Option Bool :=
  if pc.any (fun f => SB.same f x) then some true else if pc.any (fun f => SB.same f (mkNot x)) then some false else none
def known (pc : List SB) : SB → Option Bool
  | .not x => (known pc x).map (!·)
  | .and x y => match known pc x, known pc y with
    | some true, some true => some true
    | some false, _ => some false
    | _, some false => some false
    | _, _ => anyAt pc (.and x y)
  | .or x y => match known pc x, known pc y with
    | some false, some false => some false
    | some true, _ => some true
    | _, some true => some true
    | _, _ => anyAt pc (.or x y)
  | x => knownAt pc x

/-- The facts that a test adds. -/
def addFact (pc : List SB) (x : SB) : List SB :=
  match x with
  | .c _ => pc
  | .and x y => y :: x :: pc
  | .not (.or x y) => mkNot y :: mkNot x :: pc
  | x => x :: pc

/-- The ways on from a test. -/
def waysS : SB → List SB → List (Bool × List SB)
  | .and x y, pc => match known pc (.and x y) with
    | some b => [(b, pc)]
    | none => (waysS x pc).flatMap fun w => if w.1 then waysS y w.2 else [(false, w.2)]
  | .or x y, pc => match known pc (.or x y) with
    | some b => [(b, pc)]
    | none => (waysS x pc).flatMap fun w => if w.1 then [(true, w.2)] else waysS y w.2
  | .not x, pc => (waysS x pc).map fun w => (!w.1, w.2)
  | x, pc => match known pc x with
    | some b => [(b, pc)]
    | none => [(true, addFact pc x), (false, addFact pc (mkNot x))]
def ways (pc : List SB) (x : SB) : List (Bool × List SB) := waysS x pc

def mkWrap (pc : List SB) (k : IntKind) : SI → SI
  | .c n => .c (k.wrap n)
  | a => if leO (hiOf pc a) (kmax k) && leO (loOf pc a) (-(kmin k)) then a else .wrap k a

/-! ### all of it is so -/
section
variable (Φ : Sig) (ρ : Env)

@[simp] theorem ev_c (n : Int) : (SI.c n).ev Φ ρ = n := by simp [SI.ev]
@[simp] theorem ev_v (n : Nat) : (SI.v n).ev Φ ρ = ρ.i n := by simp [SI.ev]
@[simp] theorem ev_add (a b : SI) : (SI.add a b).ev Φ ρ = a.ev Φ ρ + b.ev Φ ρ := by simp [SI.ev]
@[simp] theorem ev_sub (a b : SI) : (SI.sub a b).ev Φ ρ = a.ev Φ ρ - b.ev Φ ρ := by simp [SI.ev]
@[simp] theorem ev_mul (a b : SI) : (SI.mul a b).ev Φ ρ = a.ev Φ ρ * b.ev Φ ρ := by simp [SI.ev]
@[simp] theorem ev_quo (a b : SI) : (SI.quo a b).ev Φ ρ = (a.ev Φ ρ).tdiv (b.ev Φ ρ) := by simp [SI.ev]
@[simp] theorem ev_rem (a b : SI) : (SI.rem a b).ev Φ ρ = (a.ev Φ ρ).tmod (b.ev Φ ρ) := by simp [SI.ev]
@[simp] theorem ev_wrap (k : IntKind) (a : SI) : (SI.wrap k a).ev Φ ρ = k.wrap (a.ev Φ ρ) := by simp [SI.ev]
@[simp] theorem ev_bits (op : BinOp) (k : IntKind) (a b : SI) : (SI.bits op k a b).ev Φ ρ = Go.bits op k (a.ev Φ ρ) (b.ev Φ ρ) := by simp [SI.ev]
theorem ev_sel (A : SL) (r : SI) (j : Nat) : (SI.sel A r j).ev Φ ρ = ((A.ev Φ ρ).getD (r.ev Φ ρ).toNat []).getD j 0 := by simp [SI.ev]
theorem ev_len (A : SL) : (SI.len A).ev Φ ρ = ((A.ev Φ ρ).length : Int) := by simp [SI.ev]
theorem ev_app (f : Nat) (xs : SA) : (SI.app f xs).ev Φ ρ = Φ.appI f (xs.ev Φ ρ) := by simp [SI.ev]
@[simp] theorem evL_v (n : Nat) : (SL.v n).ev Φ ρ = ρ.l n := by simp [SL.ev]
@[simp] theorem evL_lit (A : Tab) : (SL.lit A).ev Φ ρ = A := by simp [SL.ev]
theorem evL_app (f : Nat) (xs : SA) : (SL.app f xs).ev Φ ρ = Φ.appL f (xs.ev Φ ρ) := by simp [SL.ev]
@[simp] theorem evA_nil : SA.nil.ev Φ ρ = [] := by simp [SA.ev]
@[simp] theorem evA_i (x : SI) (r : SA) : (SA.i x r).ev Φ ρ = .inl (x.ev Φ ρ) :: r.ev Φ ρ := by simp [SA.ev]
@[simp] theorem evA_l (x : SL) (r : SA) : (SA.l x r).ev Φ ρ = .inr (x.ev Φ ρ) :: r.ev Φ ρ := by simp [SA.ev]
@[simp] theorem evB_c (b : Bool) : (SB.c b).ev Φ ρ = b := rfl
@[simp] theorem evB_v (n : Nat) : (SB.v n).ev Φ ρ = ρ.b n := rfl
@[simp] theorem evB_lt (a b : SI) : (SB.lt a b).ev Φ ρ = decide (a.ev Φ ρ < b.ev Φ ρ) := rfl
@[simp] theorem evB_le (a b : SI) : (SB.le a b).ev Φ ρ = decide (a.ev Φ ρ ≤ b.ev Φ ρ) := rfl
@[simp] theorem evB_eq (a b : SI) : (SB.eq a b).ev Φ ρ = decide (a.ev Φ ρ = b.ev Φ ρ) := rfl
@[simp] theorem evB_eqL (a b : SL) : (SB.eqL a b).ev Φ ρ = decide (a.ev Φ ρ = b.ev Φ ρ) := rfl
@[simp] theorem evB_not (x : SB) : (SB.not x).ev Φ ρ = !x.ev Φ ρ := rfl
@[simp] theorem evB_and (x y : SB) : (SB.and x y).ev Φ ρ = (x.ev Φ ρ && y.ev Φ ρ) := rfl
@[simp] theorem evB_or (x y : SB) : (SB.or x y).ev Φ ρ = (x.ev Φ ρ || y.ev Φ ρ) := rfl
@[simp] theorem evB_app (f : Nat) (xs : SA) : (SB.app f xs).ev Φ ρ = Φ.fB f (xs.ev Φ ρ) := rfl
theorem appL_std {f : Nat} (h : f < 100) (xs : List Arg) : Φ.appL f xs = stdL f xs := by simp [Sig.appL, h]
theorem appI_std {f : Nat} (h : f < 100) (xs : List Arg) : Φ.appI f xs = stdI f xs := by simp [Sig.appI, h]

@[simp] theorem ev_mkAdd (a b : SI) : (mkAdd a b).ev Φ ρ = a.ev Φ ρ + b.ev Φ ρ := by
  unfold mkAdd
  split
  · simp
  · split <;> simp <;> omega
  · split
    · simp; omega
    · split <;> simp <;> omega
  · split <;> simp_all
  · split <;> simp_all; omega
  · simp
@[simp] theorem ev_mkSub (a b : SI) : (mkSub a b).ev Φ ρ = a.ev Φ ρ - b.ev Φ ρ := by
  unfold mkSub
  split
  · simp
  · split
    · simp; omega
    · split <;> simp <;> omega
  · simp; omega
  · split <;> simp_all
  · split
    · rename_i h; rw [SI.same_eq _ _ h]; simp
    · simp
@[simp] theorem ev_mkMul (a b : SI) : (mkMul a b).ev Φ ρ = a.ev Φ ρ * b.ev Φ ρ := by
  unfold mkMul; split <;> simp
@[simp] theorem ev_mkQuo (a b : SI) : (mkQuo a b).ev Φ ρ = (a.ev Φ ρ).tdiv (b.ev Φ ρ) := by
  unfold mkQuo; split <;> simp
@[simp] theorem ev_mkRem (a b : SI) : (mkRem a b).ev Φ ρ = (a.ev Φ ρ).tmod (b.ev Φ ρ) := by
  unfold mkRem; split <;> simp
@[simp] theorem ev_mkBits (op : BinOp) (k : IntKind) (a b : SI) : (mkBits op k a b).ev Φ ρ = Go.bits op k (a.ev Φ ρ) (b.ev Φ ρ) := by
  unfold mkBits; split <;> simp
@[simp] theorem evB_mkLt (a b : SI) : (mkLt a b).ev Φ ρ = decide (a.ev Φ ρ < b.ev Φ ρ) := by
  unfold mkLt; split <;> simp
@[simp] theorem evB_mkLe (a b : SI) : (mkLe a b).ev Φ ρ = decide (a.ev Φ ρ ≤ b.ev Φ ρ) := by
  unfold mkLe; split <;> simp
@[simp] theorem evB_mkEq (a b : SI) : (mkEq a b).ev Φ ρ = decide (a.ev Φ ρ = b.ev Φ ρ) := by
  unfold mkEq
  split
  · simp
  · simp [eq_comm]
  · split
    · rename_i h; rw [SI.same_eq _ _ h]; simp
    · simp
@[simp] theorem evB_mkEqL (a b : SL) : (mkEqL a b).ev Φ ρ = decide (a.ev Φ ρ = b.ev Φ ρ) := by
  unfold mkEqL
  split
  · simp
  · split
    · rename_i h; rw [SL.same_eq _ _ h]; simp
    · simp
@[simp] theorem evB_mkNot (x : SB) : (mkNot x).ev Φ ρ = !x.ev Φ ρ := by
  unfold mkNot; split <;> simp
@[simp] theorem evB_mkAnd (x y : SB) : (mkAnd x y).ev Φ ρ = (x.ev Φ ρ && y.ev Φ ρ) := by
  unfold mkAnd; split <;> simp
@[simp] theorem evB_mkOr (x y : SB) : (mkOr x y).ev Φ ρ = (x.ev Φ ρ || y.ev Φ ρ) := by
  unfold mkOr; split <;> simp
theorem SB.same_eq : ∀ (x y : SB), SB.same x y = true → x = y := by
  intro x
  induction x with
  | c b => intro y h; cases y <;> simp_all [SB.same]
  | v i => intro y h; cases y <;> simp_all [SB.same]
  | lt a b => intro y h; cases y <;> simp [SB.same] at h; rw [SI.same_eq _ _ h.1, SI.same_eq _ _ h.2]
  | le a b => intro y h; cases y <;> simp [SB.same] at h; rw [SI.same_eq _ _ h.1, SI.same_eq _ _ h.2]
  | eq a b => intro y h; cases y <;> simp [SB.same] at h; rw [SI.same_eq _ _ h.1, SI.same_eq _ _ h.2]
  | eqL a b => intro y h; cases y <;> simp [SB.same] at h; rw [SL.same_eq _ _ h.1, SL.same_eq _ _ h.2]
  | not x ih => intro y h; cases y <;> simp [SB.same] at h; simp [ih _ h]
  | and x z ih1 ih2 => intro y h; cases y <;> simp [SB.same] at h; simp [ih1 _ h.1, ih2 _ h.2]
  | or x z ih1 ih2 => intro y h; cases y <;> simp [SB.same] at h; simp [ih1 _ h.1, ih2 _ h.2]
  | app f xs => intro y h; cases y <;> simp [SB.same] at h; rw [h.1, SA.same_eq _ _ h.2]
theorem SB.same_ev (x y : SB) (h : SB.same x y = true) : x.ev Φ ρ = y.ev Φ ρ := by rw [SB.same_eq x y h]

@[simp] theorem evB_mkIff (x y : SB) : (mkIff x y).ev Φ ρ = (x.ev Φ ρ == y.ev Φ ρ) := by
  unfold mkIff
  split
  · simp
  · simp
  · simp
  · simp
  · split
    · rename_i h; rw [SB.same_ev Φ ρ _ _ h]; simp
    · simp; cases x.ev Φ ρ <;> cases y.ev Φ ρ <;> rfl

theorem lits_ok : ∀ {xs : SA} {l : List Arg}, SA.lits xs = some l → xs.ev Φ ρ = l
  | .nil, l, h => by simp [SA.lits] at h; subst h; simp
  | .i (.c n) r, l, h => by
    simp only [SA.lits] at h
    split at h
    · rename_i l' hl; simp at h; subst h; simp [lits_ok hl]
    · cases h
  | .l (.lit A) r, l, h => by
    simp only [SA.lits] at h
    split at h
    · rename_i l' hl; simp at h; subst h; simp [lits_ok hl]
    · cases h
  | .i (.v _) r, l, h => by simp [SA.lits] at h
  | .i (.add _ _) r, l, h => by simp [SA.lits] at h
  | .i (.sub _ _) r, l, h => by simp [SA.lits] at h
  | .i (.mul _ _) r, l, h => by simp [SA.lits] at h
  | .i (.quo _ _) r, l, h => by simp [SA.lits] at h
  | .i (.rem _ _) r, l, h => by simp [SA.lits] at h
  | .i (.wrap _ _) r, l, h => by simp [SA.lits] at h
  | .i (.bits _ _ _ _) r, l, h => by simp [SA.lits] at h
  | .i (.sel _ _ _) r, l, h => by simp [SA.lits] at h
  | .i (.len _) r, l, h => by simp [SA.lits] at h
  | .i (.app _ _) r, l, h => by simp [SA.lits] at h
  | .l (.v _) r, l, h => by simp [SA.lits] at h
  | .l (.app _ _) r, l, h => by simp [SA.lits] at h
theorem ev_stdApp {f : Nat} (hf : f < 100) (xs : SA) : (stdApp f xs).ev Φ ρ = stdL f (xs.ev Φ ρ) := by
  unfold stdApp
  split
  · rename_i l hl; rw [lits_ok Φ ρ hl]; simp
  · rw [evL_app, appL_std Φ hf]
@[simp] theorem ev_mkCat (a b : SL) : (mkCat a b).ev Φ ρ = a.ev Φ ρ ++ b.ev Φ ρ := by
  unfold mkCat
  split
  · simp
  · simp
  · rw [ev_stdApp Φ ρ (by omega)]; simp [stdL]
@[simp] theorem ev_mkTake (a : SL) (n : SI) : (mkTake a n).ev Φ ρ = (a.ev Φ ρ).take (n.ev Φ ρ).toNat := by
  unfold mkTake; rw [ev_stdApp Φ ρ (by omega)]; simp [stdL]
@[simp] theorem ev_mkDrop (a : SL) (n : SI) : (mkDrop a n).ev Φ ρ = (a.ev Φ ρ).drop (n.ev Φ ρ).toNat := by
  unfold mkDrop
  split
  · simp
  · rw [ev_stdApp Φ ρ (by omega)]; simp [stdL]
theorem filter_none {α : Type} {p : α → Bool} {l : List α} (h : ∀ x ∈ l, p x = false) : l.filter p = [] := List.filter_eq_nil_iff.2 (fun x hx => by rw [h x hx]; simp)
theorem findK_put (A : Tab) (row : List Int) : findK (putK A row) (hdK row) = [row] := by
  unfold findK putK
  rw [List.filter_append, List.filter_cons_of_pos (by simp), List.filter_filter, List.filter_filter]
  rw [filter_none, filter_none]
  · rfl
  · intro r _; rw [Bool.and_eq_false_iff, decide_eq_false_iff_not, decide_eq_false_iff_not]; omega
  · intro r _; rw [Bool.and_eq_false_iff, decide_eq_false_iff_not, decide_eq_false_iff_not]; omega
theorem findK_put_ne (A : Tab) (row : List Int) (k : Int) (h : hdK row ≠ k) : findK (putK A row) k = (findK A k) := by
  unfold findK putK
  rw [List.filter_append, List.filter_cons_of_neg (by simpa using h), List.filter_filter, List.filter_filter]
  by_cases hlt : k < hdK row
  · rw [filter_none (p := fun a => decide (hdK a = k) && decide (hdK row < hdK a)) (fun r _ => by rw [Bool.and_eq_false_iff, decide_eq_false_iff_not, decide_eq_false_iff_not]; omega), List.append_nil]
    congr 1; funext r; rw [Bool.eq_iff_iff, Bool.and_eq_true, decide_eq_true_eq, decide_eq_true_eq]; omega
  · rw [filter_none (p := fun a => decide (hdK a = k) && decide (hdK a < hdK row)) (fun r _ => by rw [Bool.and_eq_false_iff, decide_eq_false_iff_not, decide_eq_false_iff_not]; omega), List.nil_append]
    congr 1; funext r; rw [Bool.eq_iff_iff, Bool.and_eq_true, decide_eq_true_eq, decide_eq_true_eq]; omega
theorem unflag_flag (A : Tab) : unflagT (flagT A) = A := by
  unfold unflagT flagT
  rw [List.map_map]
  conv => rhs; rw [← List.map_id A]
  apply List.map_congr_left
  intro r _; simp
@[simp] theorem ev_mkFind : ∀ (d : Nat) (A : SL) (k : SI), (mkFind d A k).ev Φ ρ = findK (A.ev Φ ρ) (k.ev Φ ρ) := by
  have base : ∀ (A : SL) (k : SI), (stdApp 6 (.l A (.i k .nil))).ev Φ ρ = findK (A.ev Φ ρ) (k.ev Φ ρ) := by
    intro A k; rw [ev_stdApp Φ ρ (by omega)]; simp [stdL]
  intro d
  induction d with
  | zero => intro A k; unfold mkFind; exact base _ _
  | succ d ih =>
    intro A k
    unfold mkFind
    split
    · rename_i d' a k' xs he; obtain rfl : d = d' := by omega
      split
      · rename_i hs
        rw [ev_stdApp Φ ρ (by omega), SI.same_eq _ _ hs]
        simp only [stdL, evA_i, ints, evL_app, appL_std Φ (show 7 < 100 by omega), evA_l]
        exact (findK_put _ (_ :: _)).symm
      · split
        · split
          · exact base _ _
          · rename_i p q hne
            rw [ih]
            simp only [evL_app, appL_std Φ (show 7 < 100 by omega), evA_l, evA_i, stdL, ints, ev_c]
            rw [findK_put_ne _ _ _ (show hdK (_ :: _) ≠ _ from hne)]
        · exact base _ _
    · exact base _ _
theorem ev_saI : ∀ xs : List SI, ints ((saI xs).ev Φ ρ) = xs.map (·.ev Φ ρ)
  | [] => by simp [saI, ints]
  | x :: xs => by simp [saI, ints, ev_saI xs]
@[simp] theorem ev_mkRow (xs : List SI) : (mkRow xs).ev Φ ρ = [xs.map (·.ev Φ ρ)] := by
  unfold mkRow; rw [ev_stdApp Φ ρ (by omega)]; simp [stdL, ev_saI]
@[simp] theorem ev_mkSet (a : SL) (r : SI) (j : Nat) (x : SI) : (mkSet a r j x).ev Φ ρ = (a.ev Φ ρ).modify (r.ev Φ ρ).toNat fun row => row.set j (x.ev Φ ρ) := by
  unfold mkSet; rw [ev_stdApp Φ ρ (by omega)]; simp [stdL]
@[simp] theorem ev_mkRep (n : SI) (xs : List SI) : (mkRep n xs).ev Φ ρ = List.replicate (n.ev Φ ρ).toNat (xs.map (·.ev Φ ρ)) := by
  unfold mkRep; rw [ev_stdApp Φ ρ (by omega)]; simp [stdL, ev_saI]
@[simp] theorem ev_mkPut (a : SL) (xs : List SI) : (mkPut a xs).ev Φ ρ = putK (a.ev Φ ρ) (xs.map (·.ev Φ ρ)) := by
  unfold mkPut; rw [ev_stdApp Φ ρ (by omega)]; simp [stdL, ev_saI]
@[simp] theorem ev_mkDel (a : SL) (k : SI) : (mkDel a k).ev Φ ρ = delK (a.ev Φ ρ) (k.ev Φ ρ) := by
  unfold mkDel; rw [ev_stdApp Φ ρ (by omega)]; simp [stdL]
@[simp] theorem ev_mkFlag (a : SL) : (mkFlag a).ev Φ ρ = flagT (a.ev Φ ρ) := by
  unfold mkFlag; rw [ev_stdApp Φ ρ (by omega)]; simp [stdL]
@[simp] theorem ev_mkUnflag (a : SL) : (mkUnflag a).ev Φ ρ = unflagT (a.ev Φ ρ) := by
  unfold mkUnflag
  split
  · simp [evL_app, appL_std Φ (show 9 < 100 by omega), stdL, unflag_flag]
  · rw [ev_stdApp Φ ρ (by omega)]; simp [stdL]
@[simp] theorem ev_mkClr (a : SL) (k : SI) : (mkClr a k).ev Φ ρ = clrT (a.ev Φ ρ) (k.ev Φ ρ) := by
  unfold mkClr; rw [ev_stdApp Φ ρ (by omega)]; simp [stdL]
@[simp] theorem ev_mkLeft (a : SL) : (mkLeft a).ev Φ ρ = remT (a.ev Φ ρ) := by
  unfold mkLeft; rw [ev_stdApp Φ ρ (by omega)]; simp [stdL]
@[simp] theorem ev_mkCopy (a : SL) (lo : SI) (b : SL) : (mkCopy a lo b).ev Φ ρ = copyT (a.ev Φ ρ) (lo.ev Φ ρ).toNat (b.ev Φ ρ) := by
  unfold mkCopy; rw [ev_stdApp Φ ρ (by omega)]; simp [stdL]
@[simp] theorem ev_mkRowT (a : SL) (r : SI) : (mkRowT a r).ev Φ ρ = rowT (a.ev Φ ρ) (r.ev Φ ρ) := by
  unfold mkRowT; rw [ev_stdApp Φ ρ (by omega)]; simp [stdL]
theorem rowT_set (A : Tab) (r : Int) : setT A r (rowT A r) = A := by
  unfold setT rowT
  rw [List.map_map]
  have : (hdK ∘ fun x : Int => [x]) = id := by funext x; rfl
  rw [this, List.map_id]
  apply List.ext_getElem?
  intro i
  rw [List.getElem?_set]
  split
  · rename_i e; subst e
    split
    · rename_i h; rw [List.getElem?_eq_getElem h]; simp [List.getD, h]
    · rename_i h; rw [List.getElem?_eq_none (by omega)]
  · rfl
@[simp] theorem ev_mkSetT (a : SL) (r : SI) (b : SL) : (mkSetT a r b).ev Φ ρ = setT (a.ev Φ ρ) (r.ev Φ ρ) (b.ev Φ ρ) := by
  unfold mkSetT
  split
  · split
    · rename_i a' r' hs
      rw [Bool.and_eq_true] at hs
      rw [SL.same_eq _ _ hs.1, SI.same_eq _ _ hs.2]
      simp [evL_app, appL_std Φ (show 14 < 100 by omega), stdL, rowT_set]
    · rw [ev_stdApp Φ ρ (by omega)]; simp [stdL]
  · rw [ev_stdApp Φ ρ (by omega)]; simp [stdL]
@[simp] theorem ev_mkRowN (n : Nat) (a : SL) (r : SI) : (mkRowN n a r).ev Φ ρ = rowN n (a.ev Φ ρ) (r.ev Φ ρ) := by
  unfold mkRowN
  split
  · rename_i h; subst h; rw [ev_mkRowT, rowN_one]
  · rw [ev_stdApp Φ ρ (by omega)]; simp [stdL]
theorem rowN_set {n : Nat} (hn : 0 < n) (A : Tab) (r : Int) : setN n A r (rowN n A r) = A := by
  unfold setN rowN
  rw [flatN_chunk hn]
  apply List.ext_getElem?
  intro i
  rw [List.getElem?_set]
  split
  · rename_i e; subst e
    split
    · rename_i h; rw [List.getElem?_eq_getElem h]; simp [List.getD, h]
    · rename_i h; rw [List.getElem?_eq_none (by omega)]
  · rfl
@[simp] theorem ev_mkSetN (n : Nat) (a : SL) (r : SI) (b : SL) : (mkSetN n a r b).ev Φ ρ = setN n (a.ev Φ ρ) (r.ev Φ ρ) (b.ev Φ ρ) := by
  unfold mkSetN
  split
  · rename_i h; subst h; rw [ev_mkSetT, setN_one]
  · split
    · split
      · rename_i m a' r' hs
        simp only [Bool.and_eq_true, decide_eq_true_eq] at hs
        obtain ⟨h1, h2, h3, h4⟩ := hs
        have h2 : 0 < n := by
          have := h2
          rw [Nat.blt] at this
          exact Nat.le_of_ble_eq_true this
        rw [SL.same_eq _ _ h3, SI.same_eq _ _ h4, h1]
        simp [evL_app, appL_std Φ (show 18 < 100 by omega), stdL, rowN_set h2]
      · rw [ev_stdApp Φ ρ (by omega)]; simp [stdL]
    · rw [ev_stdApp Φ ρ (by omega)]; simp [stdL]
@[simp] theorem ev_mkLen : ∀ (d : Nat) (A : SL), (mkLen d A).ev Φ ρ = ((A.ev Φ ρ).length : Int) := by
  intro d
  induction d with
  | zero =>
    intro A
    unfold mkLen
    split <;> first | contradiction | skip
    · simp
    · simp [evL_app, appL_std Φ (show 3 < 100 by omega), stdL]
    · exact ev_len Φ ρ _
  | succ d ih =>
    intro A
    unfold mkLen
    split <;> first | contradiction | skip
    · simp
    · rename_i d' a b he; obtain rfl : d = d' := by omega
      simp [ih, evL_app, appL_std Φ (show 0 < 100 by omega), stdL]
    · simp [evL_app, appL_std Φ (show 3 < 100 by omega), stdL]
    · rename_i d' a x y z he; obtain rfl : d = d' := by omega
      simp [ih, evL_app, appL_std Φ (show 4 < 100 by omega), stdL]
    · rename_i d' a x y he; obtain rfl : d = d' := by omega
      simp [ih, evL_app, appL_std Φ (show 13 < 100 by omega), stdL, copyT_len]
    · rename_i d' a x y he; obtain rfl : d = d' := by omega
      simp [ih, evL_app, appL_std Φ (show 15 < 100 by omega), stdL, setT_len]
    · rename_i d' z a x y he; obtain rfl : d = d' := by omega
      simp [ih, evL_app, appL_std Φ (show 19 < 100 by omega), stdL, setN_len]
    · exact ev_len Φ ρ _
end
end Go.SF
