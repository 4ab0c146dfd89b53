/- The machine of values with unknowns: how it goes through the program's code. -/
import Derived.Test.YtondflokjmdaiaaSECore
namespace Go.SE
set_option linter.unusedVariables false

/-! ### expressions made simple -/
def mkAdd : SI → SI → SI
  | .c n, .c m => .c (n + m)
  | a, .c m => if m = 0 then a else .add a (.c m)
  | a, b => .add a b
def mkSub : SI → SI → SI
  | .c n, .c m => .c (n - m)
  | a, .c m => if m = 0 then a else .sub a (.c m)
  | a, b => .sub a b
def mkMul : SI → SI → SI
  | .c n, .c m => .c (n * m)
  | a, b => .mul a b
def mkWrap (k : IntKind) : SI → SI
  | .c n => .c (k.wrap n)
  | a => .wrap k a
def mkQuo : SI → SI → SI
  | .c n, .c m => .c (n.tdiv m)
  | a, b => .quo a b
def mkRem : SI → SI → SI
  | .c n, .c m => .c (n.tmod m)
  | a, b => .rem a b
def mkLt (a b : SI) : SB :=
  match a, b with
  | .c n, .c m => .c (decide (n < m))
  | _, _ => .lt a b
def mkLe (a b : SI) : SB :=
  match a, b with
  | .c n, .c m => .c (decide (n ≤ m))
  | _, _ => .le a b
def mkEq (a b : SI) : SB :=
  match a, b with
  | .c n, .c m => .c (decide (n = m))
  | .c n, b => .eq b (.c n)
  | _, _ => if SI.same a b then .c true else .eq a b
def mkNot : SB → SB
  | .c b => .c (!b)
  | .not x => x
  | x => .not x
def mkAnd : SB → SB → SB
  | .c true, y => y
  | .c false, _ => .c false
  | x, .c true => x
  | _, .c false => .c false
  | x, y => .and x y
def mkOr : SB → SB → SB
  | .c true, _ => .c true
  | .c false, y => y
  | _, .c true => .c true
  | x, .c false => x
  | x, y => .or x y
def SB.same : SB → SB → Bool
  | .c a, .c b => a == b
  | .v i, .v j => decide (i = j)
  | .lt a b, .lt u w => SI.same a u && SI.same b w
  | .le a b, .le u w => SI.same a u && SI.same b w
  | .eq a b, .eq u w => SI.same a u && SI.same b w
  | .not x, .not y => SB.same x y
  | .and x y, .and u w => SB.same x u && SB.same y w
  | .or x y, .or u w => SB.same x u && SB.same y w
  | .app f xs, .app g ys => decide (f = g) && SA.same xs ys
  | _, _ => false

def mkIff (x y : SB) : SB :=
  match x, y with
  | .c true, y => y
  | .c false, y => mkNot y
  | x, .c true => x
  | x, .c false => mkNot x
  | x, y => if SB.same x y then .c true else mkOr (mkAnd x y) (mkAnd (mkNot x) (mkNot y))

/-! ### what is known on a way -/
/-- Least and greatest value of an expression, as far as single facts tell. -/
structure Bd where
  lo : Option Int
  hi : Option Int

def Bd.meetLo (b : Bd) (n : Int) : Bd := { b with lo := match b.lo with | some m => some (if m < n then n else m) | none => some n }
def Bd.meetHi (b : Bd) (n : Int) : Bd := { b with hi := match b.hi with | some m => some (if n < m then n else m) | none => some n }

/-- What one fact says of an expression. -/
def factBd (e : SI) (b : Bd) : SB → Bd
  | .lt x (.c n) => if SI.same x e then b.meetHi (n - 1) else b
  | .lt (.c n) x => if SI.same x e then b.meetLo (n + 1) else b
  | .le x (.c n) => if SI.same x e then b.meetHi n else b
  | .le (.c n) x => if SI.same x e then b.meetLo n else b
  | .eq x (.c n) => if SI.same x e then (b.meetLo n).meetHi n else b
  | .eq (.c n) x => if SI.same x e then (b.meetLo n).meetHi n else b
  | .not (.lt x (.c n)) => if SI.same x e then b.meetLo n else b
  | .not (.lt (.c n) x) => if SI.same x e then b.meetHi n else b
  | .not (.le x (.c n)) => if SI.same x e then b.meetLo (n + 1) else b
  | .not (.le (.c n) x) => if SI.same x e then b.meetHi (n - 1) else b
  | _ => b
/-- A value that is out pushes an end inwards. -/
def outBd (e : SI) (b : Bd) : SB → Bd
  | .not (.eq x (.c n)) => if SI.same x e then
      (if b.lo = some n then b.meetLo (n + 1) else if b.hi = some n then b.meetHi (n - 1) else b) else b
  | _ => b
def bdOf (pc : List SB) (e : SI) : Bd :=
  let b0 : Bd := pc.foldl (factBd e) ⟨none, none⟩
  (pc.foldl (outBd e) (pc.foldl (outBd e) b0))

/-- Is it known to be yes (some true), or no? -/
def knownAt (pc : List SB) (x : SB) : Option Bool :=
  match x with
  | .c b => some b
  | .lt e (.c n) => let b := bdOf pc e
    if b.hi.any (fun h => decide (h < n)) then some true else if b.lo.any (fun l => decide (n ≤ l)) then some false else none
  | .lt (.c n) e => let b := bdOf pc e
    if b.lo.any (fun l => decide (n < l)) then some true else if b.hi.any (fun h => decide (h ≤ n)) then some false else none
  | .le e (.c n) => let b := bdOf pc e
    if b.hi.any (fun h => decide (h ≤ n)) then some true else if b.lo.any (fun l => decide (n < l)) then some false else none
  | .le (.c n) e => let b := bdOf pc e
    if b.lo.any (fun l => decide (n ≤ l)) then some true else if b.hi.any (fun h => decide (h < n)) then some false else none
  | .eq e (.c n) => let b := bdOf pc e
    if b.lo.any (fun l => decide (n < l)) || b.hi.any (fun h => decide (h < n)) then some false
    else if b.lo = some n && b.hi = some n then some true
    else if pc.any (fun f => SB.same f (.not (.eq e (.c n)))) then some false else none
  | x => if pc.any (fun f => SB.same f x) then some true else if pc.any (fun f => SB.same f (mkNot x)) then some false else none

def known (pc : List SB) : SB → Option Bool
  | .not x => (known pc x).map (!·)
  | .and x y => match known pc x, known pc y with
    | some true, some true => some true
    | some false, _ => some false
    | _, some false => some false
    | _, _ => none
  | .or x y => match known pc x, known pc y with
    | some false, some false => some false
    | some true, _ => some true
    | _, some true => some true
    | _, _ => none
  | x => knownAt pc x

/-- The facts that a test adds. -/
def addFact (pc : List SB) (x : SB) : List SB :=
  match x with
  | .c _ => pc
  | .and x y => y :: x :: pc
  | .not (.or x y) => mkNot y :: mkNot x :: pc
  | x => x :: pc

/-- The ways on from a test. -/
def ways (pc : List SB) (x : SB) : List (Bool × List SB) :=
  match known pc x with
  | some b => [(b, pc)]
  | none => [(true, addFact pc x), (false, addFact pc (mkNot x))]

/-! ### values out of the text -/
def absC : Value → Option CV
  | .bool b => some (.b (.c b))
  | .int k n => some (.i k (.c n))
  | .string s => some (.s s)
  | .pointer none => some (.p none)
  | .slice none 0 0 => some (.sl none (.c 0) (.c 0))
  | .map none => some (.m none)
  | .chan none => some (.ch none)
  | .nilFunc => some .nilfn
  | .func (.func f) a b => if a.isEmpty && b.isEmpty then some (.fn f []) else none
  | _ => none
def absL : List Value → Option (List CV)
  | [] => some []
  | v :: vs => match absC v, absL vs with
    | some c, some cs => some (c :: cs)
    | _, _ => none
def absV : Value → Option AV
  | .agg cs => (absL cs.toList).map .agg
  | v => (absC v).map .cv

def opnd (s : St) : Operand → Option AV
  | .tmp t => get t s.t
  | .const v => absV v
  | .func f => some (.cv (.fn f []))
  | .global _ => none

/-! ### types -/
def tySize (P : Program) (t : TypeId) : Option Nat := (P.info? t).map (·.size)
def tyAgg (P : Program) (t : TypeId) : Option Bool := (P.underlying t).map fun | .struct _ | .array _ _ => true | _ => false
def tyZero (P : Program) (t : TypeId) : Option AV := ((P.info? t).bind (·.zero)).bind absV
def AV.cells : AV → List CV
  | .cv c => [c]
  | .agg cs => cs
  | .tup _ => []

/-! ### operations on numbers and bools -/
def binI (op : BinOp) (k : IntKind) (a b : SI) : Option CV :=
  match op with
  | .add => some (.i k (mkWrap k (mkAdd a b)))
  | .sub => some (.i k (mkWrap k (mkSub a b)))
  | .mul => some (.i k (mkWrap k (mkMul a b)))
  | .quo => match b with | .c m => if m = 0 then none else some (.i k (mkWrap k (mkQuo a b))) | _ => none
  | .rem => match b with | .c m => if m = 0 then none else some (.i k (mkRem a b)) | _ => none
  | .and | .or | .xor | .andNot => some (.i k (.bits op k a b))
  | .eql => some (.b (mkEq a b))
  | .neq => some (.b (mkNot (mkEq a b)))
  | .lss => some (.b (mkLt a b))
  | .leq => some (.b (mkLe a b))
  | .gtr => some (.b (mkLt b a))
  | .geq => some (.b (mkLe b a))
  | _ => none

/-- Equality of two rows of cells. -/
def eqCells : List CV → List CV → Option SB
  | [], [] => some (.c true)
  | .i k a :: r, .i l b :: s => if k = l then (eqCells r s).map (mkAnd (mkEq a b)) else none
  | .b a :: r, .b b :: s => (eqCells r s).map (mkAnd (mkIff a b))
  | _, _ => none

def flatF (g : TypeId → Option (List CK)) : Nat → List Field → Option (List CK)
  | _, [] => some []
  | off, f :: fs => if f.name = "_" || f.offset ≠ off then none else
    match g f.type with
    | none => none
    | some ks => (flatF g (off + ks.length) fs).map (ks ++ ·)

/-- A type of numbers, bools, and structs and arrays of such, whose cells lie side by side: the kinds of its cells. -/
def flat (P : Program) : Nat → TypeId → Option (List CK)
  | 0, _ => none
  | d + 1, t =>
    match (match P.underlying t with
      | some .bool => some [CK.b]
      | some (.int k) => some [CK.i k]
      | some (.array n e) => (flat P d e).map fun ks => (List.replicate n ks).flatten
      | some (.struct fs) => if P.stoodInHeld t then none else flatF (flat P d) 0 fs.toList
      | _ => none) with
    | some ks => if tySize P t = some ks.length then some ks else none
    | none => none

def fitsK : List CK → List CV → Bool
  | [], [] => true
  | .i k :: ks, .i l _ :: cs => decide (k = l) && fitsK ks cs
  | .b :: ks, .b _ :: cs => fitsK ks cs
  | _, _ => false

def binop (P : Program) (op : BinOp) (t : TypeId) (x y : AV) : Option AV :=
  match x, y with
  | .cv (.i k a), .cv (.i l b) => if k = l then (binI op k a b).map .cv else none
  | .cv (.b a), .cv (.b b) => match op with
    | .eql => if P.underlying t matches some .bool then some (.cv (.b (mkIff a b))) else none
    | .neq => if P.underlying t matches some .bool then some (.cv (.b (mkNot (mkIff a b)))) else none
    | _ => none
  | .cv (.s a), .cv (.s b) => match op with
    | .eql => some (.cv (.b (.c (a == b))))
    | .neq => some (.cv (.b (.c (!(a == b)))))
    | _ => none
  | .cv (.p a), .cv (.p none) => match op with
    | .eql => if P.underlying t matches some (.pointer _) then some (.cv (.b (.c a.isNone))) else none
    | .neq => if P.underlying t matches some (.pointer _) then some (.cv (.b (.c !a.isNone))) else none
    | _ => none
  | .agg cs, .agg ds => match flat P 5 t with
    | none => none
    | some ks => if fitsK ks cs && fitsK ks ds && !P.eqGuardType P.depth t && tyAgg P t == some true then
      match op, eqCells cs ds with
      | .eql, some e => some (.cv (.b e))
      | .neq, some e => some (.cv (.b (mkNot e)))
      | _, _ => none
      else none
  | _, _ => none

def unop (op : UnOp) (x : AV) : Option AV :=
  match op, x with
  | .not, .cv (.b a) => some (.cv (.b (mkNot a)))
  | .neg, .cv (.i k a) => some (.cv (.i k (mkWrap k (mkSub (.c 0) a))))
  | _, _ => none

def conv (P : Program) (src dst : TypeId) (x : AV) : Option AV :=
  match P.underlying src, P.underlying dst, x with
  | some _, some (.int k), .cv (.i _ a) => some (.cv (.i k (mkWrap k a)))
  | _, _, _ => none

/-! ### structs -/
def putCells : List CV → Nat → List CV → List CV
  | cs, _, [] => cs
  | cs, off, d :: ds => putCells (cs.set off d) (off + 1) ds
def fillAt (place : Nat → Option (Nat × Nat)) : List CV → List (Nat × AV) → Option (List CV)
  | cs, [] => some cs
  | cs, (i, v) :: r => match place i, v with
    | _, .tup _ => none
    | some (off, size), v => if v.cells.length = size && off + v.cells.length ≤ cs.length then fillAt place (putCells cs off v.cells) r else none
    | none, _ => none

def operands (s : St) : List (Nat × Operand) → Option (List (Nat × AV))
  | [] => some []
  | (i, x) :: r => match opnd s x, operands s r with
    | some v, some vs => some ((i, v) :: vs)
    | _, _ => none

def placesOf (P : Program) : List Field → Option (List (Nat × Nat))
  | [] => some []
  | f :: fs => match tySize P f.type, placesOf P fs with
    | some n, some ps => some ((f.offset, n) :: ps)
    | _, _ => none

def buildOp (P : Program) (s : St) (t : TypeId) (parts : List (Nat × Operand)) : Option AV :=
  match tyZero P t, operands s parts, P.underlying t with
  | some z, some vs, some (.struct fs) => match placesOf P fs.toList with
    | some ps => (fillAt (ps[·]?) z.cells vs).map .agg
    | none => none
  | some z, some vs, some (.array _ e) => match tySize P e with
    | some n => (fillAt (fun i => some (i * n, n)) z.cells vs).map .agg
    | none => none
  | _, _, _ => none

/-! ### memory -/
def Mem.new (m : Mem) (o : AObj) : Nat × Mem := (m.o.length, { m with o := m.o ++ [o] })

def ckC : CK → SL → SI → Nat → CV
  | .i k, A, r, j => .i k (.sel A r j)
  | .b, A, r, j => .b (.not (.eq (.sel A r j) (.c 0)))
def extCells (A : SL) (r : SI) : Nat → List CK → List CV
  | _, [] => []
  | j, k :: ks => ckC k A r j :: extCells A r (j + 1) ks

def loadOp (P : Program) (s : St) (pc : List SB) (t : TypeId) (a : AV) : Option AV :=
  match a, tySize P t, tyAgg P t with
  | .cv (.p (some p)), some n, some ag =>
    let cs : Option (List CV) := match s.m.o[p.id]?, p.r with
      | some (.cells cs _), .c 0 => if p.j + n ≤ cs.length then some ((cs.drop p.j).take n) else none
      | some (.ext A ks), r => if p.j + n ≤ ks.length ∧ known pc (.lt r (.len A)) = some true then some (extCells A r p.j ((ks.drop p.j).take n)) else none
      | _, _ => none
    match cs, ag with
    | some cs, true => some (.agg cs)
    | some [c], false => some (.cv c)
    | _, _ => none
  | _, _, _ => none

def storeOp (P : Program) (s : St) (t : TypeId) (a x : AV) : Option Mem :=
  match a, x, tySize P t with
  | .cv (.p (some p)), .tup _, _ => none
  | .cv (.p (some p)), x, some n =>
    match s.m.o[p.id]?, p.r with
    | some (.cells cs ty), .c 0 => if x.cells.length = n && p.j + n ≤ cs.length then
        some { o := s.m.o.set p.id (.cells (putCells cs p.j x.cells) ty), wr := p.id :: s.m.wr } else none
    | _, _ => none
  | _, _, _ => none

def fieldAddr (P : Program) (t : TypeId) (x : AV) (i : Nat) : Option AV :=
  match P.underlying t, x with
  | some (.struct fs), .cv (.p (some p)) => match fs[i]? with
    | some f => match tySize P f.type with
      | some n => if n = 0 then none else some (.cv (.p (some { p with j := p.j + f.offset })))
      | none => none
    | none => none
  | _, _ => none

/-- What one operation does: none: it is not known here; a list of ways, each with its facts; no value: it panics. -/
abbrev Outs := Option (List (List SB × Option (AV × Mem)))
def undefV : AV := .tup []

/-- Which of k, k + 1, .. (rem of them) is n? -/
def idxs (n : SI) : Nat → Nat → List SB → List (List SB × Nat)
  | 0, _, _ => []
  | rem + 1, k, pc => (ways pc (mkEq n (.c k))).flatMap fun y => if y.1 then [(y.2, k)] else idxs n rem (k + 1) y.2
def inRange (pc : List SB) (n : SI) (len : Nat) (f : Nat → AV × Mem) : List (List SB × Option (AV × Mem)) :=
  (ways pc (mkAnd (mkLe (.c 0) n) (mkLt n (.c len)))).flatMap fun y => if y.1 then (idxs n len 0 y.2).map fun z => (z.1, some (f z.2)) else [(y.2, none)]

def indexAddr (P : Program) (s : St) (pc : List SB) (t : TypeId) (x i : AV) : Outs :=
  match P.underlying t, x, i with
  | some (.slice e), .cv (.sl (some (id, r)) len _), .cv (.i _ n) =>
    match s.m.o[id]?, tySize P e with
    | some (.ext _ ks), some sz => if ks.length = sz then
        some ((ways pc (mkAnd (mkLe (.c 0) n) (mkLt n len))).map fun (b, pc') => (pc', if b then some (.cv (.p (some ⟨id, mkAdd r n, 0⟩)), s.m) else none)) else none
    | some (.cells _ _), some sz => match len with
      | .c (.ofNat L) => some (inRange pc n L fun k => (.cv (.p (some ⟨id, r, k * sz⟩)), s.m))
      | _ => none
    | _, _ => none
  | some (.array len e), .cv (.p (some p)), .cv (.i _ n) =>
    match tySize P e with
    | some sz => some (inRange pc n len fun k => (.cv (.p (some { p with j := p.j + k * sz })), s.m))
    | none => none
  | _, _, _ => none

/-- Zero cells, over and over. -/
def zeros (z : List CV) (n : Nat) : List CV := (List.range n).map fun i => z.getD (i % z.length) .nilfn

def buildSliceOp (P : Program) (s : St) (t : TypeId) (len : Nat) (parts : List (Nat × Operand)) : Option (AV × Mem) :=
  match P.underlying t with
  | some (.slice e) => match tySize P e, tyZero P e, operands s parts with
    | some sz, some z, some vs =>
      if 0 < len ∧ 0 < sz ∧ len * sz ≤ 16777216 ∧ z.cells.length = sz then
        match fillAt (fun i => some (i * sz, sz)) (zeros z.cells (len * sz)) vs with
        | some cs => some (.cv (.sl (some (s.m.o.length, .c 0)) (.c len) (.c len)), (s.m.new (.cells cs e)).2)
        | none => none
      else none
    | _, _, _ => none
  | _ => none

def lenOf (P : Program) (t : TypeId) (x : AV) : Option AV :=
  match P.underlying t, x with
  | some (.slice _), .cv (.sl _ len _) => some (.cv (.i .i64 len))
  | some .string, .cv (.s b) => some (.cv (.i .i64 (.c b.size)))
  | _, _ => none

def one (pc : List SB) (s : St) (v : Option AV) : Outs := v.map fun v => [(pc, some (v, s.m))]

/-- One operation that calls nothing. -/
def stepOp (P : Program) (s : St) (pc : List SB) (o : Op) : Outs :=
  match o with
  | .move x | .assign x => one pc s (opnd s x)
  | .pick c a b => match opnd s c with
    | some (.cv (.b x)) => match known pc x with
      | some true => one pc s (opnd s a)
      | some false => one pc s (opnd s b)
      | none => match opnd s a, opnd s b with
        | some u, some v => some [(addFact pc x, some (u, s.m)), (addFact pc (mkNot x), some (v, s.m))]
        | _, _ => none
    | _ => none
  | .alloc t => match tyZero P t with
    | some z => let (id, m) := s.m.new (.cells z.cells t); some [(pc, some (.cv (.p (some ⟨id, .c 0, 0⟩)), m))]
    | none => none
  | .box t x => match opnd s x with
    | some (.tup _) => none
    | some v => let (id, m) := s.m.new (.cells v.cells t); some [(pc, some (.cv (.p (some ⟨id, .c 0, 0⟩)), m))]
    | none => none
  | .build t ps => one pc s (buildOp P s t ps.toList)
  | .load t a => match opnd s a with | some a => one pc s (loadOp P s pc t a) | none => none
  | .store t a x => match opnd s a, opnd s x with
    | some a, some x => (storeOp P s t a x).map fun m => [(pc, some (undefV, m))]
    | _, _ => none
  | .nilCheck x => match opnd s x with
    | some (.cv (.p (some p))) => one pc s (some (.cv (.p (some p))))
    | _ => none
  | .binOp op t x y _ => match opnd s x, opnd s y with
    | some x, some y => one pc s (binop P op t x y)
    | _, _ => none
  | .unOp op _ x => match opnd s x with | some x => one pc s (unop op x) | none => none
  | .convert a b x => match opnd s x with | some x => one pc s (conv P a b x) | none => none
  | .fieldAddr t x i => match opnd s x with | some x => one pc s (fieldAddr P t x i) | none => none
  | .indexAddr t x i => match opnd s x, opnd s i with
    | some x, some i => indexAddr P s pc t x i
    | _, _ => none
  | .extract x i => match opnd s x with
    | some (.tup vs) => match vs[i]? with
      | some (.inl c) => one pc s (some (.cv c))
      | some (.inr cs) => one pc s (some (.agg cs))
      | none => none
    | _ => none
  | .call { callee := .builtin .len, args, argTypes } => match args.toList, argTypes.toList with
    | [x], [t] => match opnd s x with | some x => one pc s (lenOf P t x) | none => none
    | _, _ => none
  | .buildSlice t len ps => (buildSliceOp P s t len ps.toList).map fun v => [(pc, some v)]
  | _ => none

end Go.SE
