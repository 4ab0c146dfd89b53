/- The machine of values with unknowns: what one operation does. -/
import Derived.Test.YtnhdohhhgfdhfaaSFKnown
import Derived.Test.YtnhdohhhgfdhfaaSFAgr
namespace Go.SF
set_option linter.unusedVariables false

/-! ### values out of the text -/
def absC : Value → Option CV
  | .bool b => some (.b (.c b))
  | .int k n => some (.i k (.c n))
  | .string s => some (.cd .str (.c (encL s.data.toList)))
  | .pointer none => some (.p none)
  | .slice none 0 0 => some (.sl none (.c 0) (.c 0))
  | .map none => some (.m none)
  | .chan none => some (.cd .ch (.c 0))
  | .nilFunc => some .nilfn
  | .func (.func f) a b => if a.isEmpty && (b.isEmpty && !Nat.ble bnd f) then some (.fn f []) else none
  | _ => none
def absL : List Value → Option (List CV)
  | [] => some []
  | v :: vs => match absC v, absL vs with
    | some c, some cs => some (c :: cs)
    | _, _ => none
def absV : Value → Option AV
  | .agg cs => (absL cs.toList).map .agg
  | v => (absC v).map .cv

def opnd (s : St) : Operand → Option AV
  | .tmp t => get t s.t
  | .const v => absV v
  | .func f => if Nat.ble bnd f then none else some (.cv (.fn f []))
  | .global _ => none

/-! ### types -/
def tySize (P : Program) (t : TypeId) : Option Nat := (P.info? t).map (·.size)
def tyAgg (P : Program) (t : TypeId) : Option Bool := (P.underlying t).map fun | .struct _ | .array _ _ => true | _ => false
def tyZero (P : Program) (t : TypeId) : Option AV := ((P.info? t).bind (·.zero)).bind absV
/-! ### texts -/
def mkCatS (a b : SI) : SI := match a, b with
  | .c n, .c m => .c (catS n m)
  | a, b => .app 3 (.i a (.i b .nil))
def mkLenS : Nat → SI → SI
  | _, .c n => .c (lenS n)
  | d + 1, .app 3 (.i a (.i b .nil)) => mkAdd (mkLenS d a) (mkLenS d b)
  | _, .app 7 (.i x .nil) => .c 1
  | _, a => .app 4 (.i a .nil)
/-! ### operations on numbers and bools -/
def binI (pc : List SB) (op : BinOp) (k : IntKind) (a b : SI) : Option CV :=
  match op with
  | .add => some (.i k (mkWrap pc k (mkAdd a b)))
  | .sub => some (.i k (mkWrap pc k (mkSub a b)))
  | .mul => some (.i k (mkWrap pc k (mkMul a b)))
  | .quo => match b with
    | .c m => if m = 0 then none else some (.i k (mkWrap pc k (mkQuo a b)))
    | _ => match known pc (mkEq b (.c 0)) with | some false => some (.i k (mkWrap pc k (mkQuo a b))) | _ => none
  | .rem => match b with
    | .c m => if m = 0 then none else some (.i k (mkRem a b))
    | _ => match known pc (mkEq b (.c 0)) with | some false => some (.i k (mkRem a b)) | _ => none
  | .and | .or | .xor | .andNot => some (.i k (mkBits op k a b))
  | .eql => some (.b (mkEq a b))
  | .neq => some (.b (mkNot (mkEq a b)))
  | .lss => some (.b (mkLt a b))
  | .leq => some (.b (mkLe a b))
  | .gtr => some (.b (mkLt b a))
  | .geq => some (.b (mkLe b a))
  | _ => none

/-- Equality of two rows of cells. -/
def eqCells : List CV → List CV → Option SB
  | [], [] => some (.c true)
  | .i k a :: r, .i l b :: s => if k = l then (eqCells r s).map (mkAnd (mkEq a b)) else none
  | .b a :: r, .b b :: s => (eqCells r s).map (mkAnd (mkIff a b))
  | _, _ => none

def flatF (g : TypeId → Option (List CK)) : Nat → List Field → Option (List CK)
  | _, [] => some []
  | off, f :: fs => if f.name = "_" || f.offset ≠ off then none else
    match g f.type with
    | none => none
    | some ks => (flatF g (off + ks.length) fs).map (ks ++ ·)

/-- A type of numbers, bools, and structs and arrays of such, whose cells lie side by side: the kinds of its cells. -/
def flat (P : Program) : Nat → TypeId → Option (List CK)
  | 0, _ => none
  | d + 1, t =>
    match (match P.underlying t with
      | some .bool => some [CK.b]
      | some (.int k) => some [CK.i k]
      | some (.array n e) => (flat P d e).map fun ks => (List.replicate n ks).flatten
      | some (.struct fs) => if P.stoodInHeld t then none else flatF (flat P d) 0 fs.toList
      | _ => none) with
    | some ks => if tySize P t = some ks.length then some ks else none
    | none => none

/-- A type of numbers, bools, texts and channels, and structs and arrays of such: the kinds of its cells. -/
def flatQ (P : Program) : Nat → TypeId → Option (List CK)
  | 0, _ => none
  | d + 1, t =>
    match (match P.underlying t with
      | some .bool => some [CK.b]
      | some (.int k) => some [CK.i k]
      | some .string => some [CK.cd .str]
      | some (.chan _ _) => some [CK.cd .ch]
      | some (.array n e) => (flatQ P d e).map fun ks => (List.replicate n ks).flatten
      | some (.struct fs) => if P.stoodInHeld t then none else flatF (flatQ P d) 0 fs.toList
      | _ => none) with
    | some ks => if tySize P t = some ks.length then some ks else none
    | none => none

def fitsK : List CK → List CV → Bool
  | [], [] => true
  | .i k :: ks, .i l _ :: cs => decide (k = l) && fitsK ks cs
  | .b :: ks, .b _ :: cs => fitsK ks cs
  | _, _ => false

def binop (P : Program) (pc : List SB) (op : BinOp) (t : TypeId) (x y : AV) : Option AV :=
  match x, y with
  | .cv (.i k a), .cv (.i l b) => if k = l then (binI pc op k a b).map .cv else none
  | .cv (.b a), .cv (.b b) => match op with
    | .eql => if P.underlying t matches some .bool then some (.cv (.b (mkIff a b))) else none
    | .neq => if P.underlying t matches some .bool then some (.cv (.b (mkNot (mkIff a b)))) else none
    | _ => none
  | .cv (.cd .str a), .cv (.cd .str b) => match op with
    | .eql => if leO (loOf pc a) 0 && leO (loOf pc b) 0 then some (.cv (.b (mkEq a b))) else none
    | .neq => if leO (loOf pc a) 0 && leO (loOf pc b) 0 then some (.cv (.b (mkNot (mkEq a b)))) else none
    | .add => if leO (hiOf pc (mkAdd (mkLenS 9 a) (mkLenS 9 b))) 9223372036854775807 then some (.cv (.cd .str (mkCatS a b))) else none
    | _ => none
  | .cv (.p a), .cv (.p none) => match op with
    | .eql => if P.underlying t matches some (.pointer _) then some (.cv (.b (.c a.isNone))) else none
    | .neq => if P.underlying t matches some (.pointer _) then some (.cv (.b (.c !a.isNone))) else none
    | _ => none
  | .cv (.m a), .cv (.m none) => match op with
    | .eql => if P.underlying t matches some (.map _ _) then some (.cv (.b (.c a.isNone))) else none
    | .neq => if P.underlying t matches some (.map _ _) then some (.cv (.b (.c !a.isNone))) else none
    | _ => none
  | .agg cs, .agg ds => match flat P 5 t with
    | none => none
    | some ks => if fitsK ks cs && fitsK ks ds && !P.eqGuardType P.depth t && tyAgg P t == some true then
      match op, eqCells cs ds with
      | .eql, some e => some (.cv (.b e))
      | .neq, some e => some (.cv (.b (mkNot e)))
      | _, _ => none
      else none
  | _, _ => none

def unop (pc : List SB) (op : UnOp) (x : AV) : Option AV :=
  match op, x with
  | .not, .cv (.b a) => some (.cv (.b (mkNot a)))
  | .neg, .cv (.i k a) => some (.cv (.i k (mkWrap pc k (mkSub (.c 0) a))))
  | _, _ => none

def conv (P : Program) (pc : List SB) (src dst : TypeId) (x : AV) : Option AV :=
  match P.underlying src, P.underlying dst, x with
  | some _, some (.int k), .cv (.i _ a) => some (.cv (.i k (mkWrap pc k a)))
  | _, _, _ => none

/-! ### structs -/
def fillAt (place : Nat → Option (Nat × Nat)) : List CV → List (Nat × AV) → Option (List CV)
  | cs, [] => some cs
  | cs, (i, v) :: r => match place i, v with
    | _, .tup _ => none
    | some (off, size), v => if v.cells.length = size && off + v.cells.length ≤ cs.length then fillAt place (putCells cs off v.cells) r else none
    | none, _ => none

def operands (s : St) : List (Nat × Operand) → Option (List (Nat × AV))
  | [] => some []
  | (i, x) :: r => match opnd s x, operands s r with
    | some v, some vs => some ((i, v) :: vs)
    | _, _ => none

def placesOf (P : Program) : List Field → Option (List (Nat × Nat))
  | [] => some []
  | f :: fs => match tySize P f.type, placesOf P fs with
    | some n, some ps => some ((f.offset, n) :: ps)
    | _, _ => none

def buildOp (P : Program) (s : St) (t : TypeId) (parts : List (Nat × Operand)) : Option AV :=
  match tyZero P t, operands s parts, P.underlying t with
  | some z, some vs, some (.struct fs) => match placesOf P fs.toList with
    | some ps => (fillAt (ps[·]?) z.cells vs).map .agg
    | none => none
  | some z, some vs, some (.array _ e) => match tySize P e with
    | some n => (fillAt (fun i => some (i * n, n)) z.cells vs).map .agg
    | none => none
  | _, _, _ => none

/-! ### memory -/
def ckC : CK → SL → SI → Nat → CV
  | .i k, A, r, j => .i k (mkSel 60 A r j)
  | .b, A, r, j => .b (mkNot (mkEq (mkSel 60 A r j) (.c 0)))
  | .cd k, A, r, j => .cd k (mkSel 60 A r j)
def extCells (A : SL) (r : SI) : Nat → List CK → List CV
  | _, [] => []
  | j, k :: ks => ckC k A r j :: extCells A r (j + 1) ks
/-- A number that a fact tells. -/
def constE : List SB → SI → SI
  | [], e => e
  | .eq x (.c n) :: r, e => if SI.same x e then .c n else constE r e
  | _ :: r, e => constE r e
def ckW (pc : List SB) : CK → SL → SI → Nat → CV
  | .i k, A, r, j => .i k (constE pc (mkSelW 60 A r j))
  | .b, A, r, j => .b (mkNot (mkEq (constE pc (mkSelW 60 A r j)) (.c 0)))
  | .cd k, A, r, j => .cd k (constE pc (mkSelW 60 A r j))
def extW (pc : List SB) (A : SL) (r : SI) : Nat → List CK → List CV
  | _, [] => []
  | j, k :: ks => ckW pc k A r j :: extW pc A r (j + 1) ks
/-- What is known of a number because of its kind. -/
def ckFacts (pc : List SB) : CK → SL → SI → Nat → List SB
  | .i k, A, r, j => if small k then
      (if leO (loOf pc (mkSel 60 A r j)) (-(kmin k)) then [] else [.le (.c (kmin k)) (mkSel 60 A r j)]) ++ (if leO (hiOf pc (mkSel 60 A r j)) (kmax k) then [] else [.le (mkSel 60 A r j) (.c (kmax k))]) else []
  | .b, A, r, j => []
  | .cd k, A, r, j => if leO (loOf pc (mkSel 60 A r j)) 0 then [] else [.le (.c 0) (mkSel 60 A r j)]
def extFacts (pc : List SB) (A : SL) (r : SI) : Nat → List CK → List SB
  | _, [] => []
  | j, k :: ks => ckFacts pc k A r j ++ extFacts pc A r (j + 1) ks

/-- The cells at a place, and what is known of them. -/
def cellsAt (s : St) (pc : List SB) (p : Pt) (n : Nat) : Option (List CV × List SB) :=
  match s.m.o[p.id]? with
  | some (.cells cs _) => match p.r with
    | .c 0 => if p.j + n ≤ cs.length then some ((cs.drop p.j).take n, []) else none
    | _ => none
  | some (.ext A ks) => if p.j + n ≤ ks.length ∧ known pc (.lt p.r (mkLen 60 A)) = some true then some (extCells A p.r p.j ((ks.drop p.j).take n), extFacts pc A p.r p.j ((ks.drop p.j).take n)) else none
  | some (.abs (.vec ks _) A) => if p.j + n ≤ ks.length ∧ known pc (.lt p.r (mkLen 60 A)) = some true then some (extW pc A p.r p.j ((ks.drop p.j).take n), extFacts pc A p.r p.j ((ks.drop p.j).take n)) else none
  | _ => none

def loadOp (P : Program) (s : St) (pc : List SB) (t : TypeId) (a : AV) : Option (AV × List SB) :=
  match a, tySize P t, tyAgg P t with
  | .cv (.p (some p)), some n, some ag =>
    match cellsAt s pc p n, ag with
    | some (cs, fs), true => some (.agg cs, fs)
    | some ([c], fs), false => some (.cv c, fs)
    | _, _ => none
  | _, _, _ => none

def bindO {α β : Type} (l : List α) (f : α → Option (List β)) : Option (List β) :=
  match l with
  | [] => some []
  | x :: r => match f x, bindO r f with
    | some a, some b => some (a ++ b)
    | _, _ => none

/-- A truth that is told by a number that is 0 or 1. -/
def boolI (pc : List SB) : SB → Option SI
  | .not (.eq y (.c 0)) => if leO (loOf pc y) 0 && leO (hiOf pc y) 1 then some y else none
  | _ => none
/-- A cell as a table's number: the ways. -/
def cellI (pc : List SB) : CK → CV → Option (List (List SB × SI))
  | .i k, .i l x => if k = l && (!small k || (leO (loOf pc x) (-(kmin k)) && leO (hiOf pc x) (kmax k))) then some [(pc, x)] else none
  | .b, .b x => match boolI pc x with
    | some y => some [(pc, y)]
    | none => some ((ways pc x).map fun y => (y.2, .c (if y.1 then 1 else 0)))
  | .cd k, .cd l x => if k = l && leO (loOf pc x) 0 then some [(pc, x)] else none
  | _, _ => none
def rowI (pc : List SB) : List CK → List CV → Option (List (List SB × List SI))
  | [], [] => some [(pc, [])]
  | k :: ks, c :: cs => match cellI pc k c with
    | none => none
    | some ws => bindO ws fun x => (rowI x.1 ks cs).map fun l => l.map fun y => (y.1, x.2 :: y.2)
  | _, _ => none
def rowsI (pc : List SB) (ks : List CK) : Nat → List CV → Option (List (List SB × SL))
  | 0, _ => some [(pc, .lit [])]
  | n + 1, cs => match rowI pc ks (cs.take ks.length) with
    | none => none
    | some ws => bindO ws fun x => (rowsI x.1 ks n (cs.drop ks.length)).map fun l => l.map fun y => (y.1, mkCat (mkRow x.2) y.2)

/-- A row's cells set, one by one. -/
def setRow (A : SL) (r : SI) : Nat → List SI → SL
  | _, [] => A
  | j, x :: xs => setRow (mkSet A r j x) r (j + 1) xs

def storeOp (P : Program) (s : St) (pc : List SB) (t : TypeId) (a x : AV) : Option (List (List SB × Mem)) :=
  match a, x, tySize P t with
  | .cv (.p (some p)), .tup _, _ => none
  | .cv (.p (some p)), x, some n =>
    match s.m.o[p.id]? with
    | some (.cells cs ty) => match p.r with
      | .c 0 => if x.cells.length = n && p.j + n ≤ cs.length then
          some [(pc, { s.m with o := s.m.o.set p.id (.cells (putCells cs p.j x.cells) ty), wr := p.id :: s.m.wr })] else none
      | _ => none
    | some (.abs (.vec ks ty) A) => if x.cells.length = n && p.j + n ≤ ks.length && known pc (.lt p.r (mkLen 60 A)) == some true then
        (rowI pc ((ks.drop p.j).take n) x.cells).map fun l => l.map fun y => (y.1, { s.m with o := s.m.o.set p.id (.abs (.vec ks ty) (setRow A p.r p.j y.2)), wr := p.id :: s.m.wr }) else none
    | _ => none
  | _, _, _ => none

def fieldAddr (P : Program) (t : TypeId) (x : AV) (i : Nat) : Option AV :=
  match P.underlying t, x with
  | some (.struct fs), .cv (.p (some p)) => match fs[i]? with
    | some f => match tySize P f.type with
      | some n => if n = 0 then none else some (.cv (.p (some { p with j := p.j + f.offset })))
      | none => none
    | none => none
  | _, _ => none

/-- What one operation does: none: it is not known here; a list of ways, each with its facts; no value: it panics. -/
abbrev Outs := Option (List (List SB × Option (AV × Mem)))
def undefV : AV := .tup []

/-- Which of k, k + 1, .. (rem of them) is n? -/
def idxs (n : SI) : Nat → Nat → List SB → List (List SB × Nat)
  | 0, _, _ => []
  | rem + 1, k, pc => (ways pc (mkEq n (.c k))).flatMap fun y => if y.1 then [(y.2, k)] else idxs n rem (k + 1) y.2
def inRange (pc : List SB) (n : SI) (len : Nat) (f : Nat → AV × Mem) : List (List SB × Option (AV × Mem)) :=
  (ways pc (mkAnd (mkLe (.c 0) n) (mkLt n (.c len)))).flatMap fun y => if y.1 then (idxs n len 0 y.2).map fun z => (z.1, some (f z.2)) else [(y.2, none)]

def indexAddr (P : Program) (s : St) (pc : List SB) (t : TypeId) (x i : AV) : Outs :=
  match P.underlying t, x, i with
  | some (.slice e), .cv (.sl (some p) len _), .cv (.i _ n) =>
    match s.m.o[p.id]?, tySize P e with
    | some (.ext _ ks), some sz => if ks.length = sz && Nat.beq p.j 0 then
        some ((ways pc (mkAnd (mkLe (.c 0) n) (mkLt n len))).map fun (b, pc') => (pc', if b then some (.cv (.p (some ⟨p.id, mkAdd p.r n, 0⟩)), s.m) else none)) else none
    | some (.cells _ _), some sz => match len with
      | .c (.ofNat L) => some (inRange pc n L fun k => (.cv (.p (some { p with j := p.j + k * sz })), s.m))
      | _ => none
    | _, _ => none
  | some (.slice e), .cv (.vs id lo len _), .cv (.i _ n) =>
    match s.m.o[id]?, tySize P e with
    | some (.abs (.vec ks _) A), some sz => if ks.length = sz then
        some ((ways pc (mkAnd (mkLe (.c 0) n) (mkLt n len))).map fun (b, pc') => (pc', if b then some (.cv (.p (some ⟨id, mkAdd lo n, 0⟩)), s.m) else none)) else none
    | some (.ext A ks), some sz => if ks.length = sz then
        some ((ways pc (mkAnd (mkLe (.c 0) n) (mkLt n len))).map fun (b, pc') => (pc', if b then some (.cv (.p (some ⟨id, mkAdd lo n, 0⟩)), s.m) else none)) else none
    | _, _ => none
  | some (.array len e), .cv (.p (some p)), .cv (.i _ n) =>
    match tySize P e with
    | some sz => some (inRange pc n len fun k => (.cv (.p (some { p with j := p.j + k * sz })), s.m))
    | none => none
  | _, _, _ => none

/-- Zero cells, over and over. -/
def zeros (z : List CV) (n : Nat) : List CV := (List.range n).map fun i => z.getD (i % z.length) .nilfn

def buildSliceOp (P : Program) (s : St) (t : TypeId) (len : Nat) (parts : List (Nat × Operand)) : Option (AV × Mem) :=
  match P.underlying t with
  | some (.slice e) => match tySize P e, tyZero P e, operands s parts with
    | some sz, some z, some vs =>
      if 0 < len ∧ 0 < sz ∧ len * sz ≤ 16777216 ∧ z.cells.length = sz then
        match fillAt (fun i => some (i * sz, sz)) (zeros z.cells (len * sz)) vs with
        | some cs => some (.cv (.sl (some ⟨s.m.o.length, .c 0, 0⟩) (.c len) (.c len)), (s.m.new (.cells cs e)).2)
        | none => none
      else none
    | _, _, _ => none
  | _ => none

/-! ### slices of tables -/
/-- Rows lo .. lo + n of a table. -/
def cutOf (pc : List SB) (A : SL) (lo n : SI) : Option SL :=
  match lo with
  | .c 0 => if SI.same n (mkLen 60 A) then some A else if known pc (mkLe n (mkLen 60 A)) = some true then some (mkTake A n) else none
  | lo => if SI.same n (mkSub (mkLen 60 A) lo) then some (mkDrop A lo) else if known pc (mkLe (mkAdd lo n) (mkLen 60 A)) = some true then some (mkTake (mkDrop A lo) n) else none

def srcOf (s : St) (pc : List SB) (ks : List CK) (y : AV) : Option (List (List SB × SL)) :=
  match y with
  | .cv (.sl none _ _) => some [(pc, .lit [])]
  | .cv (.sl (some p) (.c (.ofNat n)) _) => match s.m.o[p.id]?, p.r with
    | some (.cells cs _), .c 0 => if p.j + n * ks.length ≤ cs.length then rowsI pc ks n ((cs.drop p.j).take (n * ks.length)) else none
    | _, _ => none
  | .cv (.vs id lo n _) => match s.m.o[id]? with
    | some (.abs (.vec ks' _) A) => if ks' = ks then (cutOf pc A lo n).map fun B => [(pc, B)] else none
    | _ => none
  | _ => none

/-- Onto what is appended: the object (none: nothing was there), and its rows. -/
def dstOf (s : St) (pc : List SB) (k : AK) (x : AV) : Option (Option Nat × SL) :=
  match x with
  | .cv (.sl none _ _) => some (none, .lit [])
  | .cv (.vs id (.c 0) n cap) => match s.m.o[id]? with
    | some (.abs k' A) => if k' = k then
        (match cap with
        | none => if SI.same n (mkLen 60 A) then some (some id, A) else none
        | some c => if SI.same n c then (cutOf pc A (.c 0) n).map fun B => (some id, B) else none) else none
    | _ => none
  | _ => none

/-- The bytes of so many rows are no more than that. -/
def fits (pc : List SB) (n : SI) (bytes most : Nat) : Bool :=
  match hiOf pc n with
  | some (.ofNat h) => Nat.ble (h * bytes) most && Nat.ble h 9223372036854775807
  | _ => false

def appendOp0 (P : Program) (s : St) (pc : List SB) (t : TypeId) (x y : AV) : Outs :=
  match P.underlying t with
  | some (.slice e) => match flatQ P 5 e, P.info? e, tyZero P e with
    | some ks, some info, some z =>
      if 0 < ks.length && z.cells.length = ks.length && info.size = ks.length then
        match dstOf s pc (.vec ks e) x, srcOf s pc ks y with
        | some (d, A), some ws => bindO ws fun w =>
          if fits w.1 (mkLen 60 (mkCat A w.2)) info.bytes 140737488355328 then
            some [(w.1, some (.cv (.vs s.m.o.length (.c 0) (mkLen 60 (mkCat A w.2)) none),
              match d with
              | none => (s.m.new (.abs (.vec ks e) (mkCat A w.2))).2
              | some id => { s.m with o := s.m.o.set id .dead ++ [.abs (.vec ks e) (mkCat A w.2)], wr := s.m.o.length :: id :: s.m.wr }))]
          else none
        | _, _ => none
      else none
    | _, _, _ => none
  | _ => none

/-- How many rows there are to copy; at most so many? -/
def lenOfY : AV → SL → SI
  | .cv (.vs _ _ n _), _ => n
  | _, B => mkLen 60 B
def leSub (pc : List SB) : SI → SI → Bool
  | .sub a b, .sub a' b' => SI.same a a' && known pc (mkLe b' b) == some true
  | _, _ => false
def lenLe (pc : List SB) (n m : SI) : Bool := known pc (mkLe n m) == some true || leSub pc n m
/-- Rows copied over rows: all that are there, or as many as there is room for. -/
def copyOp (P : Program) (s : St) (pc : List SB) (t : TypeId) (x y : AV) : Outs :=
  match P.underlying t, x with
  | some (.slice e), .cv (.vs id lo n cap) => match s.m.o[id]?, P.info? e with
    | some (.abs (.vec ks e') A), some info =>
      if decide (e' = e) && decide (info.size = ks.length) && (cutOf pc A lo n).isSome then
        match srcOf s pc ks y with
        | some ws => bindO ws fun w =>
          if lenLe w.1 (lenOfY y w.2) n then
            some [(w.1, some (.cv (.i .i64 (lenOfY y w.2)), { s.m with o := s.m.o.set id (.abs (.vec ks e') (mkCopy A lo w.2)), wr := id :: s.m.wr }))]
          else if lenLe w.1 n (lenOfY y w.2) then
            some [(w.1, some (.cv (.i .i64 n), { s.m with o := s.m.o.set id (.abs (.vec ks e') (mkCopy A lo (mkTake w.2 n))), wr := id :: s.m.wr }))]
          else none
        | none => none
      else none
    | _, _ => none
  | _, _ => none

/-- A slice that ends where the table does, as a table of its own. -/
def canon (m : Mem) (id : Nat) (lo n : SI) : Option (CV × Mem) :=
  match m.o[id]? with
  | some (.abs (.vec ks ty) A) => if SI.same n (mkSub (mkLen 60 A) lo) then
      some (.vs m.o.length (.c 0) (mkLen 60 (mkDrop A lo)) none, { m with o := m.o.set id .dead ++ [.abs (.vec ks ty) (mkDrop A lo)], wr := m.o.length :: id :: m.wr }) else none
  | _ => none

def appendOp (P : Program) (s : St) (pc : List SB) (t : TypeId) (x y : AV) : Outs :=
  match x with
  | .cv (.vs id (.c 0) n c) => appendOp0 P s pc t (.cv (.vs id (.c 0) n c)) y
  | .cv (.vs id lo n none) => match canon s.m id lo n with
    | some (v, m) => appendOp0 P { n := s.n, t := s.t, m := m } pc t (.cv v) y
    | none => none
  | x => appendOp0 P s pc t x y

def optI (s : St) : Option Operand → Option (Option SI)
  | none => some none
  | some x => match opnd s x with
    | some (.cv (.i _ n)) => some (some n)
    | _ => none

def sliceOp (P : Program) (s : St) (pc : List SB) (t : TypeId) (x : AV) (lo hi mx : Option SI) : Outs :=
  match P.underlying t, x with
  | some (.slice e), .cv (.vs id (.c 0) n none) => match s.m.o[id]?, tySize P e with
    | some (.abs (.vec ks _) A), some sz => if ks.length = sz && SI.same n (mkLen 60 A) then
        (match mx with
        | none => match hi with
          | none => match lo with
            | none => some [(pc, some (x, s.m))]
            | some l => some ((ways pc (mkAnd (mkLe (.c 0) l) (mkLe l n))).map fun y => (y.2, if y.1 then some (.cv (.vs id l (mkSub n l) none), s.m) else none))
          | some h => if known pc (mkAnd (mkLe (.c 0) h) (mkLe h n)) = some true then
              (match lo with
              | none => some [(pc, some (.cv (.vs id (.c 0) h none), s.m))]
              | some l => some ((ways pc (mkAnd (mkLe (.c 0) l) (mkLe l h))).map fun y => (y.2, if y.1 then some (.cv (.vs id l (mkSub h l) none), s.m) else none)))
              else none
        | some m => match lo, hi with
          | none, some h => if SI.same m h && known pc (mkAnd (mkLe (.c 0) h) (mkLe h n)) == some true then some [(pc, some (.cv (.vs id (.c 0) h (some h)), s.m))] else none
          | _, _ => none)
        else none
    | _, _ => none
  | _, _ => none

def makeSliceOp (P : Program) (s : St) (pc : List SB) (t : TypeId) (n c : AV) : Option (AV × Mem) :=
  match P.underlying t, n, c with
  | some (.slice e), .cv (.i .i64 n), .cv (.i .i64 c) => match P.info? e, tyZero P e with
    | some info, some z =>
      if SI.same n c && leO (loOf pc n) 0 && fits pc n info.bytes 281474976710656 && 0 < info.size && z.cells.length = info.size then
        match flatQ P 5 e with
        | some ks => if ks.length = info.size then
            match rowI [] ks z.cells with
            | some [(_, row)] => some (.cv (.vs s.m.o.length (.c 0) (mkLen 60 (mkRep n row)) none), (s.m.new (.abs (.vec ks e) (mkRep n row))).2)
            | _ => none
          else none
        | none => match n with
          | .c (.ofNat k) => some (.cv (.sl (some ⟨s.m.o.length, .c 0, 0⟩) (.c k) (.c k)), (s.m.new (.cells (zeros z.cells (k * info.size)) e)).2)
          | _ => none
      else none
    | _, _ => none
  | _, _, _ => none

def lenOf (P : Program) (t : TypeId) (x : AV) : Option AV :=
  match P.underlying t, x with
  | some (.slice _), .cv (.sl none _ _) => some (.cv (.i .i64 (.c 0)))
  | some (.slice _), .cv (.sl (some _) len _) => some (.cv (.i .i64 len))
  | some (.slice _), .cv (.vs _ _ len _) => some (.cv (.i .i64 len))
  | some .string, .cv (.cd .str a) => some (.cv (.i .i64 (mkLenS 9 a)))
  | _, _ => none

def fieldOp (P : Program) (t : TypeId) (x : AV) (i : Nat) : Option AV :=
  match P.underlying t, x with
  | some (.struct fs), .agg cs => match fs[i]? with
    | some f => match tySize P f.type, tyAgg P f.type with
      | some n, some true => if f.offset + n ≤ cs.length then some (.agg ((cs.drop f.offset).take n)) else none
      | some _, some false => match cs[f.offset]? with
        | some c => some (.cv c)
        | none => none
      | _, _ => none
    | none => none
  | _, _ => none

def minmax (least : Bool) (x y : AV) : Option AV :=
  match x, y with
  | .cv (.i k a), .cv (.i l b) => match a, b with
    | .c n, .c m => some (.cv (.i k (.c (if least then min n m else max n m))))
    | _, _ => some (.cv (.i k (.app (if least then 0 else 1) (.i a (.i b .nil)))))
  | _, _ => none

/-! ### maps -/
/-- A map's type: from numbers of a kind to values of a flat type (one cell, or many). -/
def mapTy (P : Program) (t : TypeId) : Option (TypeId × IntKind × TypeId × List CK × Bool) :=
  match P.underlying t with
  | some (.map k e) => match P.underlying k, flatQ P 5 e, tyAgg P e with
    | some (.int kk), some ks, some ag => some (k, kk, e, ks, !ag)
    | _, _, _ => none
  | _ => none
def findIter (id : Nat) : Nat → List AObj → Option Nat
  | _, [] => none
  | i, .iter mid _ _ _ _ _ :: r => if Nat.beq mid id then some i else findIter id (i + 1) r
  | i, _ :: r => findIter id (i + 1) r
/-- Where a map is: its own object, or the iterator that goes through it. -/
def mapAt (m : Mem) (id : Nat) : Option (Nat × Bool × IntKind × List CK × Bool × SL) :=
  match m.o[id]? with
  | some (.abs (.map kk ks sc) A) => some (id, false, kk, ks, sc, A)
  | some .dead => match findIter id 0 m.o with
    | some i => match m.o[i]? with
      | some (.iter mid kk ks sc M _) => if Nat.beq mid id then some (i, true, kk, ks, sc, M) else none
      | _ => none
    | none => none
  | _ => none
/-- Cells that are all zero, of their kinds. -/
def zeroCs : List CK → List CV → Bool
  | [], [] => true
  | .i k :: ks, .i l (.c n) :: cs => decide (k = l) && decide (n = 0) && zeroCs ks cs
  | .b :: ks, .b (.c b) :: cs => !b && zeroCs ks cs
  | .cd k :: ks, .cd l (.c n) :: cs => decide (k = l) && decide (n = 0) && zeroCs ks cs
  | _, _ => false
def zeroIs (P : Program) (e : TypeId) (ks : List CK) (sc : Bool) : Bool :=
  match tyZero P e with
  | some (.cv c) => sc && zeroCs ks [c]
  | some (.agg cs) => !sc && zeroCs ks cs
  | _ => false
/-- The value of a row of cells. -/
def rowV (sc : Bool) (cs : List CV) : Option (CV ⊕ List CV) :=
  match sc, cs with
  | true, [c] => some (.inl c)
  | false, cs => some (.inr cs)
  | _, _ => none
def lookupOp (P : Program) (s : St) (pc : List SB) (t : TypeId) (x k : AV) (ok : Bool) : Option (AV × List SB) :=
  match mapTy P t, x, k with
  | some (_, kk, e, ks, sc), .cv (.m (some id)), .cv (.i k' n) => match mapAt s.m id with
    | some (_, _, kk', ks', sc', A) =>
      if k' = kk ∧ kk' = kk ∧ ks' = ks ∧ sc' = sc ∧ zeroIs P e ks sc = true then
        match rowV sc (extCells (mkFind 9 A n) (.c 0) 1 ks) with
        | some v => some (if ok then .tup [v, .inl (.b (mkLt (.c 0) (mkLen 60 (mkFind 9 A n))))] else (match v with | .inl c => .cv c | .inr cs => .agg cs),
            extFacts pc (mkFind 9 A n) (.c 0) 1 ks)
        | none => none
      else none
    | none => none
  | _, _, _ => none
def shapeB : AV → Bool → Bool
  | .cv _, sc => sc
  | .agg _, sc => !sc
  | _, _ => false
def updateOp (P : Program) (s : St) (pc : List SB) (t : TypeId) (x k v : AV) : Option (List (List SB × Mem)) :=
  match mapTy P t, x, k with
  | some (_, kk, _, ks, sc), .cv (.m (some id)), .cv (.i k' n) => match mapAt s.m id with
    | some (i, it, kk', ks', sc', A) =>
      if k' = kk ∧ kk' = kk ∧ ks' = ks ∧ sc' = sc ∧ shapeB v sc = true ∧ small kk = false then
        if it then
          if known pc (.lt (.c 0) (mkLen 60 (mkFind 9 A n))) = some true then
            (rowI pc ks v.cells).map fun l => l.map fun y => (y.1, { s.m with o := s.m.o.set i (.iter id kk ks sc (mkPut A (n :: (y.2 ++ [mkSel 60 (mkFind 9 A n) (.c 0) (1 + ks.length)]))) none), wr := i :: s.m.wr })
          else none
        else (rowI pc ks v.cells).map fun l => l.map fun y => (y.1, { s.m with o := s.m.o.set i (.abs (.map kk ks sc) (mkPut A (n :: y.2))), wr := i :: s.m.wr })
      else none
    | none => none
  | _, _, _ => none
def deleteOp (P : Program) (s : St) (t : TypeId) (x k : AV) : Option Mem :=
  match mapTy P t, x, k with
  | some (_, kk, _, ks, sc), .cv (.m (some id)), .cv (.i k' n) => match mapAt s.m id with
    | some (i, it, kk', ks', sc', A) =>
      if k' = kk ∧ kk' = kk ∧ ks' = ks ∧ sc' = sc then
        some { s.m with o := s.m.o.set i (if it then .iter id kk ks sc (mkDel A n) none else .abs (.map kk ks sc) (mkDel A n)), wr := i :: s.m.wr }
      else none
    | none => none
  | _, _, _ => none
def mapLen (P : Program) (s : St) (t : TypeId) (x : AV) : Option AV :=
  match P.underlying t, x with
  | some (.map _ _), .cv (.m none) => some (.cv (.i .i64 (.c 0)))
  | some (.map _ _), .cv (.m (some id)) => match mapAt s.m id with
    | some (_, _, _, _, _, A) => some (.cv (.i .i64 (mkLen 60 A)))
    | none => none
  | _, _ => none
def rangeOp (P : Program) (s : St) (t : TypeId) (x : AV) : Option (AV × Mem) :=
  match mapTy P t, x with
  | some (_, kk, _, ks, sc), .cv (.m (some id)) => match s.m.o[id]? with
    | some (.abs (.map kk' ks' sc') A) => if kk' = kk ∧ ks' = ks ∧ sc' = sc then
        some (.cv (.p (some ⟨s.m.o.length, .c 0, 0⟩)), { s.m with o := s.m.o.set id .dead ++ [.iter id kk ks sc (mkFlag A) none], wr := s.m.o.length :: id :: s.m.wr }) else none
    | _ => none
  | _, _ => none
def makeMapOp (P : Program) (s : St) (t : TypeId) : Option (AV × Mem) :=
  match mapTy P t with
  | some (_, kk, _, ks, sc) => some (.cv (.m (some s.m.o.length)), (s.m.new (.abs (.map kk ks sc) (.lit []))).2)
  | none => none
def CK.isCd : CK → Bool
  | .cd _ => true
  | _ => false
/-- The next entry of a map: none is left; or one of them, whose key is drawn. -/
def nextOp (s : St) (pc : List SB) (x : AV) : Outs :=
  match x with
  | .cv (.p (some p)) => match s.m.o[p.id]?, p.r with
    | some (.iter mid kk ks sc M _), .c 0 =>
      if Nat.beq p.j 0 && Nat.ble 1000 s.m.nx && s.m.bl s.m.nx && pc.all (SB.bl s.m.nx) then
        match rowV sc (extCells (mkFind 9 M (.v s.m.nx)) (.c 0) 1 ks) with
        | some v => some [(.not (.lt (.c 0) (.len (mkLeft M))) :: pc, some (.tup [.inl (.b (.c false))], s.m)),
            (.eq (.sel (mkFind 9 M (.v s.m.nx)) (.c 0) (1 + ks.length)) (.c 1) :: .eq (.len (mkFind 9 M (.v s.m.nx))) (.c 1) :: .eq (.len (mkFind 9 (mkClr M (.v s.m.nx)) (.v s.m.nx))) (.c 1) :: .lt (.c 0) (.len (mkLeft M)) :: (if ks.any CK.isCd then extFacts pc (mkFind 9 (mkClr M (.v s.m.nx)) (.v s.m.nx)) (.c 0) 1 ks else []) ++ (extFacts pc (mkFind 9 M (.v s.m.nx)) (.c 0) 0 (.i kk :: ks) ++ pc),
              some (.tup [.inl (.b (.c true)), .inl (.i kk (.v s.m.nx)), v], { o := s.m.o.set p.id (.iter mid kk ks sc (mkClr M (.v s.m.nx)) (some (.v s.m.nx))), wr := p.id :: s.m.wr, nx := s.m.nx + 1 }))]
        | none => none
      else none
    | _, _ => none
  | _ => none
/-- The entry at which an iterator stands. -/
def entryOp (s : St) (x : AV) : Option AV :=
  match x with
  | .cv (.p (some p)) => match s.m.o[p.id]?, p.r with
    | some (.iter _ kk ks sc M (some k)), .c 0 => if Nat.beq p.j 0 then
        (rowV sc (extCells (mkFind 9 M k) (.c 0) 1 ks)).map fun v => .tup [.inl (.i kk k), v] else none
    | _, _ => none
  | _ => none
def ptsOf (s : St) : List Operand → Option (List Pt)
  | [] => some []
  | x :: r => match opnd s x, ptsOf s r with
    | some (.cv (.p (some p))), some ps => some (p :: ps)
    | _, _ => none

def one (pc : List SB) (s : St) (v : Option AV) : Outs := v.map fun v => [(pc, some (v, s.m))]

/-- One operation that calls nothing. -/
def stepOp (P : Program) (s : St) (pc : List SB) (o : Op) : Outs :=
  match o with
  | .move x | .assign x => one pc s (opnd s x)
  | .pick c a b => match opnd s c with
    | some (.cv (.b x)) => match known pc x with
      | some true => one pc s (opnd s a)
      | some false => one pc s (opnd s b)
      | none => match opnd s a, opnd s b with
        | some u, some v => some ((ways pc x).map fun y => (y.2, some (if y.1 then u else v, s.m)))
        | _, _ => none
    | _ => none
  | .alloc t => match tyZero P t with
    | some z => some [(pc, some (.cv (.p (some ⟨s.m.o.length, .c 0, 0⟩)), (s.m.new (.cells z.cells t)).2))]
    | none => none
  | .box t x => match opnd s x with
    | some (.tup _) => none
    | some v => some [(pc, some (.cv (.p (some ⟨s.m.o.length, .c 0, 0⟩)), (s.m.new (.cells v.cells t)).2))]
    | none => none
  | .build t ps => one pc s (buildOp P s t ps.toList)
  | .load t a => match opnd s a with
    | some a => (loadOp P s pc t a).map fun v => [(v.2 ++ pc, some (v.1, s.m))]
    | none => none
  | .store t a x => match opnd s a, opnd s x with
    | some a, some x => (storeOp P s pc t a x).map fun l => l.map fun y => (y.1, some (undefV, y.2))
    | _, _ => none
  | .nilCheck x => match opnd s x with
    | some (.cv (.p (some p))) => one pc s (some (.cv (.p (some p))))
    | _ => none
  | .binOp op t x y _ => match opnd s x, opnd s y with
    | some x, some y => one pc s (binop P pc op t x y)
    | _, _ => none
  | .unOp op _ x => match opnd s x with | some x => one pc s (unop pc op x) | none => none
  | .convert a b x => match opnd s x with | some x => one pc s (conv P pc a b x) | none => none
  | .fieldAddr t x i => match opnd s x with | some x => one pc s (fieldAddr P t x i) | none => none
  | .field t x i => match opnd s x with | some x => one pc s (fieldOp P t x i) | none => none
  | .indexAddr t x i => match opnd s x, opnd s i with
    | some x, some i => indexAddr P s pc t x i
    | _, _ => none
  | .extract x i => match opnd s x with
    | some (.tup vs) => match vs[i]? with
      | some (.inl c) => one pc s (some (.cv c))
      | some (.inr cs) => one pc s (some (.agg cs))
      | none => none
    | _ => none
  | .makeFunc (.func f) first caps => if Nat.ble bnd f then none else if first.isEmpty then one pc s ((ptsOf s caps.toList).map fun ps => .cv (.fn f ps)) else if caps.isEmpty then one pc s ((ptsOf s first.toList).map fun ps => .cv (.fn (f + bnd) ps)) else none
  | .makeSlice t n c => match opnd s n, opnd s c with
    | some n, some c => (makeSliceOp P s pc t n c).map fun v => [(pc, some v)]
    | _, _ => none
  | .slice t x lo hi mx => match opnd s x, optI s lo, optI s hi, optI s mx with
    | some x, some lo, some hi, some mx => sliceOp P s pc t x lo hi mx
    | _, _, _, _ => none
  | .call { callee := .builtin .len, args, argTypes } => match args.toList, argTypes.toList with
    | [x], [t] => match opnd s x with | some x => (match mapLen P s t x with | some v => one pc s (some v) | none => one pc s (lenOf P t x)) | none => none
    | _, _ => none
  | .call { callee := .builtin .append, args, argTypes } => match args.toList, argTypes.toList with
    | [x, y], [t, t'] => match opnd s x, opnd s y with
      | some x, some y => if t = t' then appendOp P s pc t x y else none
      | _, _ => none
    | _, _ => none
  | .call { callee := .builtin .min, args, argTypes } => match args.toList with
    | [x, y] => match opnd s x, opnd s y with | some x, some y => one pc s (minmax true x y) | _, _ => none
    | _ => none
  | .call { callee := .builtin .max, args, argTypes } => match args.toList with
    | [x, y] => match opnd s x, opnd s y with | some x, some y => one pc s (minmax false x y) | _, _ => none
    | _ => none
  | .buildSlice t len ps => (buildSliceOp P s t len ps.toList).map fun v => [(pc, some v)]
  | .makeMap t none => (makeMapOp P s t).map fun v => [(pc, some v)]
  | .lookup t x k ok => match opnd s x, opnd s k with
    | some x, some k => (lookupOp P s pc t x k ok).map fun v => [(v.2 ++ pc, some (v.1, s.m))]
    | _, _ => none
  | .mapUpdate t x k v => match opnd s x, opnd s k, opnd s v with
    | some x, some k, some v => (updateOp P s pc t x k v).map fun l => l.map fun y => (y.1, some (undefV, y.2))
    | _, _, _ => none
  | .range t x => match opnd s x with
    | some x => (rangeOp P s t x).map fun v => [(pc, some v)]
    | none => none
  | .call { callee := .builtin .delete, args, argTypes } => match args.toList, argTypes.toList with
    | [x, k], t :: _ => match opnd s x, opnd s k with
      | some x, some k => (deleteOp P s t x k).map fun m => [(pc, some (.tup [], m))]
      | _, _ => none
    | _, _ => none
  | .entry x => match opnd s x with
    | some x => one pc s (entryOp s x)
    | none => none
  | .call { callee := .builtin .copy, args, argTypes } => match args.toList, argTypes.toList with
    | [x, y], [t, t'] => match opnd s x, opnd s y with
      | some x, some y => if t = t' then copyOp P s pc t x y else none
      | _, _ => none
    | _, _ => none
  | _ => none

end Go.SF
