/- How the machine of unknowns goes through code: regions (in the text's order, or in any), calls, blocks, loops. -/
import Derived.Test.YtfngkeegfjihlaaSFSame
import Derived.Test.YtfngkeegfjihlaaSFText
import Derived.Test.YtfngkeegfjihlaaSFAgr
import Derived.Still
namespace Go.SF
set_option linter.unusedVariables false

inductive Ex where
  | norm
  | exit (id : Nat)
  | ret
  | panic

structure Out where
  pc : List SB
  ex : Ex
  st : St

/-- Contracts: what a function does, or a loop in a function, where its text is not gone through. -/
structure Tbl where
  fn : Nat → Option (List AV → Mem → List SB → Outs)
  lp : Nat → Nat → Option (St → List SB → Option (List Out))

/-- The first region of a text: a loop's name within its function. -/
def firstReg : Code → Option Nat
  | .region id _ _ => some id
  | .seq a b => match firstReg a with
    | some i => some i
    | none => firstReg b
  | .cond _ a b => match firstReg a with
    | some i => some i
    | none => firstReg b
  | .block _ c => firstReg c
  | .loop c => firstReg c
  | .scope c => firstReg c
  | _ => none

/-- A block, and a case, can have a contract too: by a key of its own. -/
def isPart : Code → Bool
  | .block _ _ => true
  | .cond _ _ _ => true
  | _ => false
def key : Code → Option Nat
  | .block i _ => some (1000000 + i)
  | .cond x a b => (firstReg (.cond x a b)).map (2000000 + ·)
  | c => firstReg c

def put (s : St) (d : Option Nat) (v : AV) (m : Mem) : Option St :=
  match d with
  | some d => if Nat.blt d s.n then some { n := s.n, t := (d, v) :: s.t, m } else none
  | none => some { n := s.n, t := s.t, m }

def argsOf (s : St) : List Operand → Option (List AV)
  | [] => some []
  | x :: r => match opnd s x, argsOf s r with
    | some v, some vs => some (v :: vs)
    | _, _ => none

def number (n : Nat) : List AV → List (Nat × AV)
  | [] => []
  | v :: vs => (n, v) :: number (n + 1) vs

/-- The results of a call, out of the frame that it leaves. -/
def resOf (P : Program) (s : St) (pc : List SB) : List ResultVar → Option (List AV)
  | [] => some []
  | .tmp t :: r => match get t s.t, resOf P s pc r with
    | some v, some vs => some (v :: vs)
    | _, _ => none
  | .cell a t :: r => match get a s.t with
    | some a => match loadOp P s pc t a, resOf P s pc r with
      | some v, some vs => some (v.1 :: vs)
      | _, _ => none
    | none => none
def tupOf : List AV → Option (List (CV ⊕ List CV))
  | [] => some []
  | .cv c :: r => (tupOf r).map (.inl c :: ·)
  | .agg c :: r => (tupOf r).map (.inr c :: ·)
  | .tup _ :: _ => none
def resV (vs : List AV) : Option AV :=
  match vs with
  | [v] => some v
  | vs => (tupOf vs).map .tup

def leave (P : Program) (fn : Func) : List Out → Outs
  | [] => some []
  | o :: r => match leave P fn r with
    | none => none
    | some l => match o.ex with
      | .norm | .ret => match resOf P o.st o.pc fn.results.toList with
        | none => none
        | some vs => match resV vs with
          | none => none
          | some v => some ((o.pc, some (v, o.st.m)) :: l)
      | .panic => some ((o.pc, none) :: l)
      | .exit _ => none

def callee (s : St) (c : Call) : Option (Nat × List AV) :=
  match c.callee with
  | .value f => match opnd s f with
    | some (.cv (.fn f caps)) => match argsOf s c.args.toList with
      | some vs => if Nat.ble bnd f then some (f - bnd, (caps.map fun p => .cv (.p (some p))) ++ vs) else some (f, vs ++ caps.map fun p => .cv (.p (some p)))
      | none => none
    | _ => none
  | _ => none

/-- Is an operation wanted? The ways. -/
def wantedOp (all : Array Oper) (o : Oper) (s : St) (pc : List SB) : Option (List (Bool × List SB)) :=
  match o.guard with
  | none => some [(true, pc)]
  | some (j, want) => match (all[j]?).bind (·.dst) with
    | none => none
    | some d => match get d s.t with
      | some (.cv (.b x)) => some ((ways pc x).map fun y => (y.1 == want, y.2))
      | some (.cv (.i _ _)) => some [(false, pc)]
      | some (.cv (.p _)) => some [(false, pc)]
      | some (.tup _) => some [(false, pc)]
      | _ => none

/-- The objects of S alone. -/
def maskL (S : List Nat) : Nat → List AObj → List AObj
  | _, [] => []
  | i, o :: r => (if S.contains i then o else .dead) :: maskL S (i + 1) r
def mask (S : List Nat) (s : St) : St := { s with m := { s.m with o := maskL S 0 s.m.o, wr := [] } }

def mutB : Op → Bool
  | .alloc _ | .box .. | .store .. | .buildSlice .. | .makeSlice .. | .makeMap .. | .mapUpdate .. | .range .. => true
  | .call { callee := .builtin .append, .. } => true
  | .call { callee := .builtin .delete, .. } => true
  | .call { callee := .builtin .copy, .. } => true
  | _ => false

/-- An operation that only reads objects of S, and has one way. -/
def quietStep (P : Program) (S : List Nat) (all : Array Oper) (s : St) (pc : List SB) (o : Oper) : Option (List SB × AV) :=
  match wantedOp all o s pc with
  | some [(false, pc')] => some (pc', undefV)
  | some [(true, pc')] => if mutB o.op then none else match stepOp P (mask S s) pc' o.op with
    | some [(pc'', some (v, _))] => some (pc'', v)
    | _ => none
  | _ => none

def edgeB (o : Oper) (i : Nat) : Bool := o.after.any fun e => Region.binds .any e && Nat.beq e.on i
/-- Whatever two operations have no order between them look at nothing of one another. -/
def staticFree (all : Array Oper) : Bool :=
  (List.range all.size).all fun i => (List.range all.size).all fun j => Nat.beq i j || (match all[i]?, all[j]? with
    | some x, some y => edgeB y i || edgeB x j || x.apart all y
    | _, _ => false)
def readyB (all : Array Oper) (l : Array Bool) (i : Nat) : Bool :=
  Nat.blt i all.size && !l.getD i true && ((all[i]?).map (·.after.all fun e => !Region.binds .any e || l.getD e.on false)).getD false

def firstQuiet (P : Program) (S : List Nat) (st : Bool) (all : Array Oper) (l : Array Bool) (s : St) (pc : List SB) : List Nat → Option (Nat × Oper × List SB × AV)
  | [] => none
  | i :: r => match all[i]? with
    | some o => if readyB all l i && (st || Region.free .any all l i) then match quietStep P S all s pc o with
        | some (pc', v) => some (i, o, pc', v)
        | none => firstQuiet P S st all l s pc r
      else firstQuiet P S st all l s pc r
    | none => firstQuiet P S st all l s pc r
def rm (i : Nat) : List Nat → List Nat
  | [] => []
  | j :: r => if Nat.beq i j then r else j :: rm i r

def aliveAt (m : Mem) (i : Nat) : Bool := match m.o[i]? with
  | some o => o.alive
  | none => false
def clean (S : List Nat) (m : Mem) : Bool := (m.wr.all fun i => !S.contains i) && S.all (aliveAt m)
/-- Nothing comes to life that was dead. -/
def aliveLe : List AObj → List AObj → Bool
  | [], _ => true
  | _, [] => true
  | a :: r, b :: r' => (!b.alive || a.alive) && aliveLe r r'

def writesOf : List Out → List Nat
  | [] => []
  | o :: r => o.st.m.wr ++ writesOf r

def isNorm : Ex → Bool
  | .norm => true
  | _ => false
/-- Of states that tell the same, one. -/
def dedup : List Out → List Out
  | [] => []
  | o :: r => if (dedup r).any fun x => isNorm x.ex && isNorm o.ex && covers x.pc x.st o.pc o.st then dedup r else o :: dedup r

/-- The frame stays what it was, where something was drawn. -/
def keepB (s : St) (m : Mem) : Bool := Nat.beq m.nx s.m.nx || (Nat.ble s.m.nx m.nx && slotsBl s.m.nx s.t)
def sameNx (s : St) (outs : List (List SB × Option (AV × Mem))) : Bool := outs.all fun o => match o.2 with
  | some (_, m) => Nat.beq m.nx s.m.nx
  | none => true
mutual
/-- One operation that is wanted. -/
def exOne (P : Program) (tbl : Tbl) : Nat → Oper → St → List SB → Outs
  | 0, _, _, _ => none
  | fuel + 1, o, s, pc =>
    match listOp P s pc o.op with
    | some outs => if sameNx s outs then some outs else none
    | none => match stepOp P s pc o.op with
    | some outs => if sameNx s outs then some outs else none
    | none => match chanLen P s pc o.op with
    | some outs => if sameNx s outs then some outs else none
    | none => match textOp P s pc o.op with
    | some outs => if sameNx s outs then some outs else none
    | none => match o.op with
      | .next x true => match opnd s x with
        | some x => nextS s pc x
        | none => none
      | .makeChan t x => match opnd s x with
        | some x => makeChanOp P s pc t x
        | none => none
      | .call c => match callee s c with
        | some (f, vs) => match P.funcs[f]? with
          | some fn => if fn.name == "runtime.NumGoroutine" then none else if fn.body.isNone then none else exCall P tbl fuel f vs s.m pc
          | none => none
        | none => none
      | .next x false => match opnd s x with
        | some x => nextOp s pc x
        | none => none
      | _ => none
/-- The operations of a region, in the text's order. -/
def exOps (P : Program) (tbl : Tbl) : Nat → Array Oper → List Oper → St → List SB → Option (List Out)
  | 0, _, _, _, _ => none
  | fuel + 1, all, [], s, pc => some [⟨pc, .norm, s⟩]
  | fuel + 1, all, o :: rest, s, pc =>
    match wantedOp all o s pc with
    | none => none
    | some ws => bindO ws fun x => match x.1 with
      | false => match put s o.dst undefV s.m with
        | none => none
        | some s' => exOps P tbl fuel all rest s' x.2
      | true => match (match commOp P s x.2 o.op with | some outs => some outs | none => exOne P tbl fuel o s x.2) with
        | none => none
        | some outs => bindO outs fun y => match y.2 with
          | none => some [⟨y.1, .panic, s⟩]
          | some (v, m) => if keepB s m then match put s o.dst v m with
              | none => none
              | some s' => exOps P tbl fuel all rest s' y.1
            else none
/-- The operations of a region, in whatever order. -/
def exAny (P : Program) (tbl : Tbl) (S : List Nat) (st : Bool) : Nat → Array Oper → Array Bool → List Nat → St → List SB → Option (List Out)
  | 0, _, _, _, _, _ => none
  | fuel + 1, all, l, todo, s, pc =>
    match firstQuiet P S st all l s pc todo with
    | some (i, o, pc', v) => match put s o.dst v s.m with
      | none => none
      | some s' => exAny P tbl S st fuel all (l.setIfInBounds i true) (rm i todo) s' pc'
    | none => match Region.ready .any all l with
      | [] => some [⟨pc, .norm, s⟩]
      | i0 :: is => bindO (i0 :: is) fun i => match all[i]? with
        | none => none
        | some o => match wantedOp all o s pc with
          | none => none
          | some ws => bindO ws fun x => match x.1 with
            | false => match put s o.dst undefV s.m with
              | none => none
              | some s' => exAny P tbl S st fuel all (l.setIfInBounds i true) (rm i todo) s' x.2
            | true => match exOne P tbl fuel o s x.2 with
              | none => none
              | some outs => bindO outs fun y => match y.2 with
                | none => some [⟨y.1, .panic, s⟩]
                | some (v, m) => if clean S m && keepB s m then match put s o.dst v m with
                    | none => none
                    | some s' => exAny P tbl S st fuel all (l.setIfInBounds i true) (rm i todo) s' y.1
                  else none
def exCall (P : Program) (tbl : Tbl) : Nat → Nat → List AV → Mem → List SB → Outs
  | 0, _, _, _, _ => none
  | fuel + 1, f, vs, m, pc => match (tbl.fn f).bind fun g => g vs m pc with
    | some outs => some outs
    | none => match P.funcs[f]? with
      | none => none
      | some fn => match fn.body with
        | none => none
        | some body => match exCode P tbl fuel f body { n := vs.length + (fn.ntmps - vs.length), t := number 0 vs, m } pc with
          | none => none
          | some outs => leave P fn outs
def exCode (P : Program) (tbl : Tbl) : Nat → Nat → Code → St → List SB → Option (List Out)
  | 0, _, _, _, _ => none
  | fuel + 1, f, .skip, s, pc => some [⟨pc, .norm, s⟩]
  | fuel + 1, f, .region _ ops false, s, pc => exOps P tbl fuel ops ops.toList s pc
  | fuel + 1, f, .region _ ops true, s, pc =>
    if Region.noSelect ops && P.follows .mixedOrders then
      match exOps P tbl fuel ops ops.toList { s with m := { s.m with wr := [] } } pc with
      | none => none
      | some pre =>
        match exAny P tbl ((List.range s.m.o.length).filter fun i => !(writesOf pre).contains i && aliveAt s.m i) (staticFree ops) fuel ops (Array.replicate ops.size false) (List.range ops.size) { s with m := { s.m with wr := [] } } pc with
        | none => none
        | some outs => if (outs.all fun o => aliveLe s.m.o o.st.m.o) = false then none else some ((dedup outs).map fun o => { o with st := { o.st with m := { o.st.m with wr := o.st.m.wr ++ s.m.wr } } })
    else none
  | fuel + 1, f, .seq a b, s, pc => match exCode P tbl fuel f a s pc with
    | none => none
    | some outs => bindO outs fun o => match o.ex with
      | .norm => exCode P tbl fuel f b o.st o.pc
      | .exit i => some [⟨o.pc, .exit i, o.st⟩]
      | .ret => some [⟨o.pc, .ret, o.st⟩]
      | .panic => some [⟨o.pc, .panic, o.st⟩]
  | fuel + 1, f, .cond c a b, s, pc => match ((key (.cond c a b)).bind (tbl.lp f)).bind fun g => g s pc with
    | some outs => some outs
    | none => match opnd s c with
      | some (.cv (.b x)) => bindO (ways pc x) fun y => exCode P tbl fuel f (if y.1 then a else b) s y.2
      | _ => none
  | fuel + 1, f, .block id c, s, pc => match ((key (.block id c)).bind (tbl.lp f)).bind fun g => g s pc with
    | some outs => some outs
    | none => match exCode P tbl fuel f c s pc with
      | none => none
      | some outs => some (outs.map fun o => match o.ex with
        | .exit i => if i = id then ⟨o.pc, .norm, o.st⟩ else o
        | _ => o)
  | fuel + 1, f, .loop c, s, pc => match (if isPart c then none else ((key c).bind (tbl.lp f)).bind fun g => g s pc) with
    | some outs => some outs
    | none => match exCode P tbl fuel f c s pc with
      | none => none
      | some outs => bindO outs fun o => match o.ex with
        | .norm => exCode P tbl fuel f (.loop c) o.st o.pc
        | .exit i => some [⟨o.pc, .exit i, o.st⟩]
        | .ret => some [⟨o.pc, .ret, o.st⟩]
        | .panic => some [⟨o.pc, .panic, o.st⟩]
  | fuel + 1, f, .exit id, s, pc => some [⟨pc, .exit id, s⟩]
  | fuel + 1, f, .ret, s, pc => some [⟨pc, .ret, s⟩]
  | _, _, _, _, _ => none
end
/-- A call gone through by its text, whatever contract of it there is. -/
def exBody (P : Program) (tbl : Tbl) (fuel f : Nat) (vs : List AV) (m : Mem) (pc : List SB) : Outs :=
  match P.funcs[f]? with
  | none => none
  | some fn => match fn.body with
    | none => none
    | some body => match exCode P tbl fuel f body { n := vs.length + (fn.ntmps - vs.length), t := number 0 vs, m } pc with
      | none => none
      | some outs => leave P fn outs
end Go.SF
