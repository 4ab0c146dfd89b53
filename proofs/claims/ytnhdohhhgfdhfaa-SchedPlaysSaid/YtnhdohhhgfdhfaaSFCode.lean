/- Values, objects and states that are the same, by looking. How the machine of unknowns goes through code: regions (in the text's order, or in any), calls, blocks, loops. -/
import Derived.Test.YtnhdohhhgfdhfaaSFEval
import Derived.Test.YtnhdohhhgfdhfaaSFText
import Derived.Test.YtnhdohhhgfdhfaaSFAgr
import Derived.Still
namespace Go.SF
set_option linter.unusedVariables false
set_option linter.unusedSimpArgs false

/-! ### equality, by looking -/
def Pt.same (p q : Pt) : Bool := Nat.beq p.id q.id && Nat.beq p.j q.j && SI.same p.r q.r
theorem Pt.same_eq {p q : Pt} (h : Pt.same p q = true) : p = q := by
  cases p; cases q
  simp only [Pt.same, Bool.and_eq_true] at h
  rw [Nat.eq_of_beq_eq_true h.1.1, Nat.eq_of_beq_eq_true h.1.2, SI.same_eq _ _ h.2]
def samePts : List Pt → List Pt → Bool
  | [], [] => true
  | p :: ps, q :: qs => Pt.same p q && samePts ps qs
  | _, _ => false
theorem samePts_eq : ∀ {ps qs : List Pt}, samePts ps qs = true → ps = qs
  | [], [], _ => rfl
  | p :: ps, q :: qs, h => by simp only [samePts, Bool.and_eq_true] at h; rw [Pt.same_eq h.1, samePts_eq h.2]
  | [], _ :: _, h => by simp [samePts] at h
  | _ :: _, [], h => by simp [samePts] at h
def optSame {α : Type} (f : α → α → Bool) : Option α → Option α → Bool
  | none, none => true
  | some x, some y => f x y
  | _, _ => false
theorem optSame_eq {α : Type} {f : α → α → Bool} (hf : ∀ x y, f x y = true → x = y) {x y : Option α} (h : optSame f x y = true) : x = y := by
  cases x <;> cases y <;> simp only [optSame, Bool.false_eq_true] at h
  · rfl
  · rw [hf _ _ h]
def CV.same : CV → CV → Bool
  | .b x, .b y => SB.same x y
  | .i k x, .i l y => decide (k = l) && SI.same x y
  | .s x, .s y => decide (x = y)
  | .p x, .p y => optSame Pt.same x y
  | .sl q x y, .sl q' x' y' => optSame Pt.same q q' && (SI.same x x' && SI.same y y')
  | .vs d x y z, .vs d' x' y' z' => Nat.beq d d' && (SI.same x x' && (SI.same y y' && optSame SI.same z z'))
  | .m x, .m y => optSame Nat.beq x y
  | .cd k x, .cd l y => decide (k = l) && SI.same x y
  | .fn f ps, .fn g qs => Nat.beq f g && samePts ps qs
  | .nilfn, .nilfn => true
  | _, _ => false
theorem CV.same_eq {o o2 : CV} (h : CV.same o o2 = true) : o = o2 := by
  cases o with
  | b x => cases o2 <;> simp only [CV.same, Bool.false_eq_true] at h; rw [SB.same_eq _ _ h]
  | i k x => cases o2 <;> simp only [CV.same, Bool.false_eq_true, Bool.and_eq_true, decide_eq_true_eq] at h; rw [h.1, SI.same_eq _ _ h.2]
  | s x => cases o2 <;> simp only [CV.same, Bool.false_eq_true, decide_eq_true_eq] at h; rw [h]
  | p x => cases o2 <;> simp only [CV.same, Bool.false_eq_true] at h; rw [optSame_eq (fun _ _ h => Pt.same_eq h) h]
  | sl q x y => cases o2 <;> simp only [CV.same, Bool.false_eq_true, Bool.and_eq_true] at h; rw [optSame_eq (fun _ _ h => Pt.same_eq h) h.1, SI.same_eq _ _ h.2.1, SI.same_eq _ _ h.2.2]
  | vs d x y z => cases o2 <;> simp only [CV.same, Bool.false_eq_true, Bool.and_eq_true] at h; rw [Nat.eq_of_beq_eq_true h.1, SI.same_eq _ _ h.2.1, SI.same_eq _ _ h.2.2.1, optSame_eq SI.same_eq h.2.2.2]
  | m x => cases o2 <;> simp only [CV.same, Bool.false_eq_true] at h; rw [optSame_eq (fun _ _ h => Nat.eq_of_beq_eq_true h) h]
  | cd k x => cases o2 <;> simp only [CV.same, Bool.false_eq_true, Bool.and_eq_true, decide_eq_true_eq] at h; rw [h.1, SI.same_eq _ _ h.2]
  | fn f ps => cases o2 <;> simp only [CV.same, Bool.false_eq_true, Bool.and_eq_true] at h; rw [Nat.eq_of_beq_eq_true h.1, samePts_eq h.2]
  | nilfn => cases o2 <;> simp only [CV.same, Bool.false_eq_true] at h; rfl
def sameCs : List CV → List CV → Bool
  | [], [] => true
  | p :: ps, q :: qs => CV.same p q && sameCs ps qs
  | _, _ => false
theorem sameCs_eq : ∀ {ps qs : List CV}, sameCs ps qs = true → ps = qs
  | [], [], _ => rfl
  | p :: ps, q :: qs, h => by simp only [sameCs, Bool.and_eq_true] at h; rw [CV.same_eq h.1, sameCs_eq h.2]
  | [], _ :: _, h => by simp [sameCs] at h
  | _ :: _, [], h => by simp [sameCs] at h
def AV.same : AV → AV → Bool
  | .cv x, .cv y => CV.same x y
  | .agg x, .agg y => sameCs x y
  | _, _ => false
theorem AV.same_eq {x y : AV} (h : AV.same x y = true) : x = y := by
  cases x <;> cases y <;> simp only [AV.same, Bool.false_eq_true] at h
  · rw [CV.same_eq h]
  · rw [sameCs_eq h]
def AObj.same : AObj → AObj → Bool
  | .cells x t, .cells y u => Nat.beq t u && sameCs x y
  | .ext A ks, .ext C ls => decide (ks = ls) && SL.same A C
  | .abs k A, .abs l C => decide (k = l) && SL.same A C
  | .iter mid kk ks sc M none, .iter mid' kk' ks' sc' M' none => Nat.beq mid mid' && (decide (kk = kk' ∧ ks = ks' ∧ sc = sc') && SL.same M M')
  | .iter mid kk ks sc M (some k), .iter mid' kk' ks' sc' M' (some k') => Nat.beq mid mid' && (decide (kk = kk' ∧ ks = ks' ∧ sc = sc') && (SL.same M M' && SI.same k k'))
  | .lists mid k e t A none, .lists mid' k' e' t' A' none => Nat.beq mid mid' && (decide (k = k') && (Nat.beq e e' && (Nat.beq t t' && SL.same A A')))
  | .lists mid k e t A (some x), .lists mid' k' e' t' A' (some x') => Nat.beq mid mid' && (decide (k = k') && (Nat.beq e e' && (Nat.beq t t' && (SL.same A A' && (Nat.beq x.1 x'.1 && SI.same x.2 x'.2)))))
  | .dead, .dead => true
  | _, _ => false
theorem AObj.same_eq {x y : AObj} (h : AObj.same x y = true) : x = y := by
  cases x <;> cases y <;> simp only [AObj.same, Bool.false_eq_true, Bool.and_eq_true, decide_eq_true_eq] at h
  · rw [Nat.eq_of_beq_eq_true h.1, sameCs_eq h.2]
  · rw [h.1, SL.same_eq _ _ h.2]
  · rw [h.1, SL.same_eq _ _ h.2]
  · rename_i c1 _ _ _ _ _ c2
    cases c1 <;> cases c2 <;> simp only [AObj.same, Bool.false_eq_true, Bool.and_eq_true, decide_eq_true_eq] at h
    · obtain ⟨h1, ⟨rfl, rfl, rfl⟩, h3⟩ := h; rw [Nat.eq_of_beq_eq_true h1, SL.same_eq _ _ h3]
    · obtain ⟨h1, ⟨rfl, rfl, rfl⟩, h3, h4⟩ := h; rw [Nat.eq_of_beq_eq_true h1, SL.same_eq _ _ h3, SI.same_eq _ _ h4]
  · rename_i c1 _ _ _ _ _ c2
    cases c1 <;> cases c2 <;> simp only [AObj.same, Bool.false_eq_true, Bool.and_eq_true, decide_eq_true_eq] at h
    · obtain ⟨h1, rfl, h3, h4, h5⟩ := h; rw [Nat.eq_of_beq_eq_true h1, Nat.eq_of_beq_eq_true h3, Nat.eq_of_beq_eq_true h4, SL.same_eq _ _ h5]
    · rename_i x x'
      obtain ⟨h1, rfl, h3, h4, h5, h6, h7⟩ := h
      have : x = x' := Prod.ext (Nat.eq_of_beq_eq_true h6) (SI.same_eq _ _ h7)
      rw [Nat.eq_of_beq_eq_true h1, Nat.eq_of_beq_eq_true h3, Nat.eq_of_beq_eq_true h4, SL.same_eq _ _ h5, this]
  · rfl

def sameTs : List (CV ⊕ List CV) → List (CV ⊕ List CV) → Bool
  | [], [] => true
  | .inl x :: xs, .inl y :: ys => CV.same x y && sameTs xs ys
  | .inr x :: xs, .inr y :: ys => sameCs x y && sameTs xs ys
  | _, _ => false
theorem sameTs_eq : ∀ {xs ys : List (CV ⊕ List CV)}, sameTs xs ys = true → xs = ys
  | [], [], _ => rfl
  | .inl x :: xs, .inl y :: ys, h => by simp only [sameTs, Bool.and_eq_true] at h; rw [CV.same_eq h.1, sameTs_eq h.2]
  | .inr x :: xs, .inr y :: ys, h => by simp only [sameTs, Bool.and_eq_true] at h; rw [sameCs_eq h.1, sameTs_eq h.2]
  | [], _ :: _, h => by simp [sameTs] at h
  | .inl _ :: _, [], h => by simp [sameTs] at h
  | .inr _ :: _, [], h => by simp [sameTs] at h
  | .inl _ :: _, .inr _ :: _, h => by simp [sameTs] at h
  | .inr _ :: _, .inl _ :: _, h => by simp [sameTs] at h
def AV.sameT : AV → AV → Bool
  | .tup x, .tup y => sameTs x y
  | x, y => AV.same x y
theorem AV.sameT_eq {x y : AV} (h : AV.sameT x y = true) : x = y := by
  unfold AV.sameT at h
  split at h
  · rw [sameTs_eq h]
  · exact AV.same_eq h
def sameOs : List AObj → List AObj → Bool
  | [], [] => true
  | x :: xs, y :: ys => AObj.same x y && sameOs xs ys
  | _, _ => false
theorem sameOs_eq : ∀ {xs ys : List AObj}, sameOs xs ys = true → xs = ys
  | [], [], _ => rfl
  | x :: xs, y :: ys, h => by simp only [sameOs, Bool.and_eq_true] at h; rw [AObj.same_eq h.1, sameOs_eq h.2]
  | [], _ :: _, h => by simp [sameOs] at h
  | _ :: _, [], h => by simp [sameOs] at h
/-- All that is told of the first state is so of the second. -/
def covers (pc1 : List SB) (s1 : St) (pc2 : List SB) (s2 : St) : Bool :=
  Nat.beq s1.n s2.n && Nat.beq s1.m.nx s2.m.nx && sameOs s1.m.o s2.m.o && (s1.m.wr.all fun i => s2.m.wr.contains i) && (s2.m.wr.all fun i => s1.m.wr.contains i) &&
  (pc1.all fun x => pc2.any fun y => SB.same x y) && s1.t.all fun x => match get x.1 s2.t, get x.1 s1.t with
    | some v, some u => AV.sameT u v
    | _, _ => false
end Go.SF
namespace Go.SF
set_option linter.unusedVariables false

inductive Ex where
  | norm
  | exit (id : Nat)
  | ret
  | panic

structure Out where
  pc : List SB
  ex : Ex
  st : St

/-- Contracts: what a function does, or a loop in a function, where its text is not gone through. -/
structure Tbl where
  fn : Nat → Option (List AV → Mem → List SB → Outs)
  lp : Nat → Nat → Option (St → List SB → Option (List Out))

/-- The first region of a text: a loop's name within its function. -/
def firstReg : Code → Option Nat
  | .region id _ _ => some id
  | .seq a b => match firstReg a with
    | some i => some i
    | none => firstReg b
  | .cond _ a b => match firstReg a with
    | some i => some i
    | none => firstReg b
  | .block _ c => firstReg c
  | .loop c => firstReg c
  | .scope c => firstReg c
  | _ => none

/-- A block, and a case, can have a contract too: by a key of its own. -/
def isPart : Code → Bool
  | .block _ _ => true
  | .cond _ _ _ => true
  | _ => false
def key : Code → Option Nat
  | .block i _ => some (1000000 + i)
  | .cond x a b => (firstReg (.cond x a b)).map (2000000 + ·)
  | c => firstReg c

def put (s : St) (d : Option Nat) (v : AV) (m : Mem) : Option St :=
  match d with
  | some d => if Nat.blt d s.n then some { n := s.n, t := (d, v) :: s.t, m } else none
  | none => some { n := s.n, t := s.t, m }

def argsOf (s : St) : List Operand → Option (List AV)
  | [] => some []
  | x :: r => match opnd s x, argsOf s r with
    | some v, some vs => some (v :: vs)
    | _, _ => none

def number (n : Nat) : List AV → List (Nat × AV)
  | [] => []
  | v :: vs => (n, v) :: number (n + 1) vs

/-- The results of a call, out of the frame that it leaves. -/
def resOf (P : Program) (s : St) (pc : List SB) : List ResultVar → Option (List AV)
  | [] => some []
  | .tmp t :: r => match get t s.t, resOf P s pc r with
    | some v, some vs => some (v :: vs)
    | _, _ => none
  | .cell a t :: r => match get a s.t with
    | some a => match loadOp P s pc t a, resOf P s pc r with
      | some v, some vs => some (v.1 :: vs)
      | _, _ => none
    | none => none
def tupOf : List AV → Option (List (CV ⊕ List CV))
  | [] => some []
  | .cv c :: r => (tupOf r).map (.inl c :: ·)
  | .agg c :: r => (tupOf r).map (.inr c :: ·)
  | .tup _ :: _ => none
def resV (vs : List AV) : Option AV :=
  match vs with
  | [v] => some v
  | vs => (tupOf vs).map .tup

def leave (P : Program) (fn : Func) : List Out → Outs
  | [] => some []
  | o :: r => match leave P fn r with
    | none => none
    | some l => match o.ex with
      | .norm | .ret => match resOf P o.st o.pc fn.results.toList with
        | none => none
        | some vs => match resV vs with
          | none => none
          | some v => some ((o.pc, some (v, o.st.m)) :: l)
      | .panic => some ((o.pc, none) :: l)
      | .exit _ => none

def callee (s : St) (c : Call) : Option (Nat × List AV) :=
  match c.callee with
  | .value f => match opnd s f with
    | some (.cv (.fn f caps)) => match argsOf s c.args.toList with
      | some vs => if Nat.ble bnd f then some (f - bnd, (caps.map fun p => .cv (.p (some p))) ++ vs) else some (f, vs ++ caps.map fun p => .cv (.p (some p)))
      | none => none
    | _ => none
  | _ => none

/-- Is an operation wanted? The ways. -/
def wantedOp (all : Array Oper) (o : Oper) (s : St) (pc : List SB) : Option (List (Bool × List SB)) :=
  match o.guard with
  | none => some [(true, pc)]
  | some (j, want) => match (all[j]?).bind (·.dst) with
    | none => none
    | some d => match get d s.t with
      | some (.cv (.b x)) => some ((ways pc x).map fun y => (y.1 == want, y.2))
      | some (.cv (.i _ _)) => some [(false, pc)]
      | some (.cv (.p _)) => some [(false, pc)]
      | some (.tup _) => some [(false, pc)]
      | _ => none

/-- The objects of S alone. -/
def maskL (S : List Nat) : Nat → List AObj → List AObj
  | _, [] => []
  | i, o :: r => (if S.contains i then o else .dead) :: maskL S (i + 1) r
def mask (S : List Nat) (s : St) : St := { s with m := { s.m with o := maskL S 0 s.m.o, wr := [] } }

def mutB : Op → Bool
  | .alloc _ | .box .. | .store .. | .buildSlice .. | .makeSlice .. | .makeMap .. | .mapUpdate .. | .range .. => true
  | .call { callee := .builtin .append, .. } => true
  | .call { callee := .builtin .delete, .. } => true
  | .call { callee := .builtin .copy, .. } => true
  | _ => false

/-- An operation that only reads objects of S, and has one way. -/
def quietStep (P : Program) (S : List Nat) (all : Array Oper) (s : St) (pc : List SB) (o : Oper) : Option (List SB × AV) :=
  match wantedOp all o s pc with
  | some [(false, pc')] => some (pc', undefV)
  | some [(true, pc')] => if mutB o.op then none else match stepOp P (mask S s) pc' o.op with
    | some [(pc'', some (v, _))] => some (pc'', v)
    | _ => none
  | _ => none

def edgeB (o : Oper) (i : Nat) : Bool := o.after.any fun e => Region.binds .any e && Nat.beq e.on i
/-- Whatever two operations have no order between them look at nothing of one another. -/
def staticFree (all : Array Oper) : Bool :=
  (List.range all.size).all fun i => (List.range all.size).all fun j => Nat.beq i j || (match all[i]?, all[j]? with
    | some x, some y => edgeB y i || edgeB x j || x.apart all y
    | _, _ => false)
def readyB (all : Array Oper) (l : Array Bool) (i : Nat) : Bool :=
  Nat.blt i all.size && !l.getD i true && ((all[i]?).map (·.after.all fun e => !Region.binds .any e || l.getD e.on false)).getD false

def firstQuiet (P : Program) (S : List Nat) (st : Bool) (all : Array Oper) (l : Array Bool) (s : St) (pc : List SB) : List Nat → Option (Nat × Oper × List SB × AV)
  | [] => none
  | i :: r => match all[i]? with
    | some o => if readyB all l i && (st || Region.free .any all l i) then match quietStep P S all s pc o with
        | some (pc', v) => some (i, o, pc', v)
        | none => firstQuiet P S st all l s pc r
      else firstQuiet P S st all l s pc r
    | none => firstQuiet P S st all l s pc r
def rm (i : Nat) : List Nat → List Nat
  | [] => []
  | j :: r => if Nat.beq i j then r else j :: rm i r

def aliveAt (m : Mem) (i : Nat) : Bool := match m.o[i]? with
  | some o => o.alive
  | none => false
def clean (S : List Nat) (m : Mem) : Bool := (m.wr.all fun i => !S.contains i) && S.all (aliveAt m)
/-- Nothing comes to life that was dead. -/
def aliveLe : List AObj → List AObj → Bool
  | [], _ => true
  | _, [] => true
  | a :: r, b :: r' => (!b.alive || a.alive) && aliveLe r r'

def writesOf : List Out → List Nat
  | [] => []
  | o :: r => o.st.m.wr ++ writesOf r

def isNorm : Ex → Bool
  | .norm => true
  | _ => false
/-- Of states that tell the same, one. -/
def dedup : List Out → List Out
  | [] => []
  | o :: r => if (dedup r).any fun x => isNorm x.ex && isNorm o.ex && covers x.pc x.st o.pc o.st then dedup r else o :: dedup r

/-- The frame stays what it was, where something was drawn. -/
def keepB (s : St) (m : Mem) : Bool := Nat.beq m.nx s.m.nx || (Nat.ble s.m.nx m.nx && slotsBl s.m.nx s.t)
def sameNx (s : St) (outs : List (List SB × Option (AV × Mem))) : Bool := outs.all fun o => match o.2 with
  | some (_, m) => Nat.beq m.nx s.m.nx
  | none => true
mutual
/-- One operation that is wanted. -/
def exOne (P : Program) (tbl : Tbl) : Nat → Oper → St → List SB → Outs
  | 0, _, _, _ => none
  | fuel + 1, o, s, pc =>
    match listOp P s pc o.op with
    | some outs => if sameNx s outs then some outs else none
    | none => match stepOp P s pc o.op with
    | some outs => if sameNx s outs then some outs else none
    | none => match chanLen P s pc o.op with
    | some outs => if sameNx s outs then some outs else none
    | none => match textOp P s pc o.op with
    | some outs => if sameNx s outs then some outs else none
    | none => match o.op with
      | .next x true => match opnd s x with
        | some x => nextS s pc x
        | none => none
      | .makeChan t x => match opnd s x with
        | some x => makeChanOp P s pc t x
        | none => none
      | .call c => match callee s c with
        | some (f, vs) => match P.funcs[f]? with
          | some fn => if fn.name == "runtime.NumGoroutine" then none else if fn.body.isNone then none else exCall P tbl fuel f vs s.m pc
          | none => none
        | none => none
      | .next x false => match opnd s x with
        | some x => nextOp s pc x
        | none => none
      | _ => none
/-- The operations of a region, in the text's order. -/
def exOps (P : Program) (tbl : Tbl) : Nat → Array Oper → List Oper → St → List SB → Option (List Out)
  | 0, _, _, _, _ => none
  | fuel + 1, all, [], s, pc => some [⟨pc, .norm, s⟩]
  | fuel + 1, all, o :: rest, s, pc =>
    match wantedOp all o s pc with
    | none => none
    | some ws => bindO ws fun x => match x.1 with
      | false => match put s o.dst undefV s.m with
        | none => none
        | some s' => exOps P tbl fuel all rest s' x.2
      | true => match (match commOp P s x.2 o.op with | some outs => some outs | none => exOne P tbl fuel o s x.2) with
        | none => none
        | some outs => bindO outs fun y => match y.2 with
          | none => some [⟨y.1, .panic, s⟩]
          | some (v, m) => if keepB s m then match put s o.dst v m with
              | none => none
              | some s' => exOps P tbl fuel all rest s' y.1
            else none
/-- The operations of a region, in whatever order. -/
def exAny (P : Program) (tbl : Tbl) (S : List Nat) (st : Bool) : Nat → Array Oper → Array Bool → List Nat → St → List SB → Option (List Out)
  | 0, _, _, _, _, _ => none
  | fuel + 1, all, l, todo, s, pc =>
    match firstQuiet P S st all l s pc todo with
    | some (i, o, pc', v) => match put s o.dst v s.m with
      | none => none
      | some s' => exAny P tbl S st fuel all (l.setIfInBounds i true) (rm i todo) s' pc'
    | none => match Region.ready .any all l with
      | [] => some [⟨pc, .norm, s⟩]
      | i0 :: is => bindO (i0 :: is) fun i => match all[i]? with
        | none => none
        | some o => match wantedOp all o s pc with
          | none => none
          | some ws => bindO ws fun x => match x.1 with
            | false => match put s o.dst undefV s.m with
              | none => none
              | some s' => exAny P tbl S st fuel all (l.setIfInBounds i true) (rm i todo) s' x.2
            | true => match exOne P tbl fuel o s x.2 with
              | none => none
              | some outs => bindO outs fun y => match y.2 with
                | none => some [⟨y.1, .panic, s⟩]
                | some (v, m) => if clean S m && keepB s m then match put s o.dst v m with
                    | none => none
                    | some s' => exAny P tbl S st fuel all (l.setIfInBounds i true) (rm i todo) s' y.1
                  else none
def exCall (P : Program) (tbl : Tbl) : Nat → Nat → List AV → Mem → List SB → Outs
  | 0, _, _, _, _ => none
  | fuel + 1, f, vs, m, pc => match (tbl.fn f).bind fun g => g vs m pc with
    | some outs => some outs
    | none => match P.funcs[f]? with
      | none => none
      | some fn => match fn.body with
        | none => none
        | some body => match exCode P tbl fuel f body { n := vs.length + (fn.ntmps - vs.length), t := number 0 vs, m } pc with
          | none => none
          | some outs => leave P fn outs
def exCode (P : Program) (tbl : Tbl) : Nat → Nat → Code → St → List SB → Option (List Out)
  | 0, _, _, _, _ => none
  | fuel + 1, f, .skip, s, pc => some [⟨pc, .norm, s⟩]
  | fuel + 1, f, .region _ ops false, s, pc => exOps P tbl fuel ops ops.toList s pc
  | fuel + 1, f, .region _ ops true, s, pc =>
    if Region.noSelect ops && P.follows .mixedOrders then
      match exOps P tbl fuel ops ops.toList { s with m := { s.m with wr := [] } } pc with
      | none => none
      | some pre =>
        match exAny P tbl ((List.range s.m.o.length).filter fun i => !(writesOf pre).contains i && aliveAt s.m i) (staticFree ops) fuel ops (Array.replicate ops.size false) (List.range ops.size) { s with m := { s.m with wr := [] } } pc with
        | none => none
        | some outs => if (outs.all fun o => aliveLe s.m.o o.st.m.o) = false then none else some ((dedup outs).map fun o => { o with st := { o.st with m := { o.st.m with wr := o.st.m.wr ++ s.m.wr } } })
    else none
  | fuel + 1, f, .seq a b, s, pc => match exCode P tbl fuel f a s pc with
    | none => none
    | some outs => bindO outs fun o => match o.ex with
      | .norm => exCode P tbl fuel f b o.st o.pc
      | .exit i => some [⟨o.pc, .exit i, o.st⟩]
      | .ret => some [⟨o.pc, .ret, o.st⟩]
      | .panic => some [⟨o.pc, .panic, o.st⟩]
  | fuel + 1, f, .cond c a b, s, pc => match ((key (.cond c a b)).bind (tbl.lp f)).bind fun g => g s pc with
    | some outs => some outs
    | none => match opnd s c with
      | some (.cv (.b x)) => bindO (ways pc x) fun y => exCode P tbl fuel f (if y.1 then a else b) s y.2
      | _ => none
  | fuel + 1, f, .block id c, s, pc => match ((key (.block id c)).bind (tbl.lp f)).bind fun g => g s pc with
    | some outs => some outs
    | none => match exCode P tbl fuel f c s pc with
      | none => none
      | some outs => some (outs.map fun o => match o.ex with
        | .exit i => if i = id then ⟨o.pc, .norm, o.st⟩ else o
        | _ => o)
  | fuel + 1, f, .loop c, s, pc => match (if isPart c then none else ((key c).bind (tbl.lp f)).bind fun g => g s pc) with
    | some outs => some outs
    | none => match exCode P tbl fuel f c s pc with
      | none => none
      | some outs => bindO outs fun o => match o.ex with
        | .norm => exCode P tbl fuel f (.loop c) o.st o.pc
        | .exit i => some [⟨o.pc, .exit i, o.st⟩]
        | .ret => some [⟨o.pc, .ret, o.st⟩]
        | .panic => some [⟨o.pc, .panic, o.st⟩]
  | fuel + 1, f, .exit id, s, pc => some [⟨pc, .exit id, s⟩]
  | fuel + 1, f, .ret, s, pc => some [⟨pc, .ret, s⟩]
  | _, _, _, _, _ => none
end
/-- A call gone through by its text, whatever contract of it there is. -/
def exBody (P : Program) (tbl : Tbl) (fuel f : Nat) (vs : List AV) (m : Mem) (pc : List SB) : Outs :=
  match P.funcs[f]? with
  | none => none
  | some fn => match fn.body with
    | none => none
    | some body => match exCode P tbl fuel f body { n := vs.length + (fn.ntmps - vs.length), t := number 0 vs, m } pc with
      | none => none
      | some outs => leave P fn outs
end Go.SF
