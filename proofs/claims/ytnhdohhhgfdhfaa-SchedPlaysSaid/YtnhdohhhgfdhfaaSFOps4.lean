/- Each operation that only computes does what the machine of unknowns says. Two structs, or two arrays, of numbers and bools are equal just if their cells are. Each operation that calls nothing does what the machine of unknowns says. Each operation that calls nothing does what the machine of unknowns says: memory, structs; all of them together. Structs that are built; and all operations that call nothing, together. -/
import Derived.Test.YtnhdohhhgfdhfaaSFRel
import Derived.Test.YtnhdohhhgfdhfaaSFEval
import Derived.ChangeKeysEq
import Derived.Laws.Tables
namespace Go.SF
set_option linter.unusedVariables false
set_option linter.unusedSimpArgs false

theorem int_beq (a b : Int) : (a == b) = decide (a = b) := by rw [Bool.eq_iff_iff]; simp

section
variable {Φ : Sig} {ρ : Env} {μ : List Loc} {P : Program} {B : Base} {w : World} {s : St} {a : Act} {pc : List SB}

theorem absC_ok {v : Value} {c : CV} (h : absC v = some c) : denC Φ ρ μ c = some v := by
  unfold absC at h
  split at h
  all_goals first
    | (simp at h; subst h; simp [denC, denPts]; done)
    | (simp at h; subst h; simp [denC, qVal, strB_enc]; done)
    | skip
  · split at h
    · rename_i f x y hh
      simp only [Bool.and_eq_true, Array.isEmpty_iff] at hh
      obtain ⟨rfl, rfl, hb⟩ := hh
      simp at h; subst h
      simp at hb
      simp [denC, denPts, fnVal, hb]
    · cases h
  · cases h

theorem absL_ok : ∀ {vs : List Value} {cs : List CV}, absL vs = some cs → denL Φ ρ μ cs = some vs
  | [], cs, h => by simp [absL] at h; subst h; rfl
  | v :: vs, cs, h => by
    simp only [absL] at h
    cases h1 : absC v with
    | none => rw [h1] at h; cases h
    | some c =>
      cases h2 : absL vs with
      | none => rw [h1, h2] at h; cases h
      | some ds => rw [h1, h2] at h; simp at h; subst h; simp [denL, absC_ok h1, absL_ok h2]

theorem absV_ok {v : Value} {x : AV} (h : absV v = some x) : den Φ ρ μ x = some v := by
  unfold absV at h
  split at h
  · simp only [Option.map_eq_some_iff] at h
    obtain ⟨cs, hc, rfl⟩ := h
    simp [den, absL_ok hc]
  · simp only [Option.map_eq_some_iff] at h
    obtain ⟨c, hc, rfl⟩ := h
    simp [den, absC_ok hc]

theorem absV_noTup {v : Value} {x : AV} (h : absV v = some x) : ∀ vs, x ≠ .tup vs := by
  unfold absV at h
  split at h
  all_goals
    simp only [Option.map_eq_some_iff] at h
    obtain ⟨_, _, rfl⟩ := h
    intro vs e; cases e

theorem opnd_ok (hT : TRel Φ ρ μ s.n s.t a) {x : Operand} {v : AV} (h : opnd s x = some v) : den Φ ρ μ v = some (a.eval x) := by
  cases x with
  | tmp t => exact (hT.tm t v h).2
  | const c => exact absV_ok h
  | func f =>
    simp only [opnd] at h
    split at h
    · cases h
    · rename_i hb
      simp only [Option.some.injEq] at h; subst h
      simp only [den, denC, denPts, Option.map_some, fnVal]
      rw [if_neg hb]; rfl
  | global g => simp [opnd] at h

/-- Does it make or write memory? -/
def mutOp : Op → Bool
  | .alloc _ | .box .. | .store .. | .buildSlice .. | .makeSlice .. | .makeMap .. | .mapUpdate .. | .range .. => true
  | .call { callee := .builtin .append, .. } => true
  | .call { callee := .builtin .delete, .. } => true
  | .call { callee := .builtin .copy, .. } => true
  | _ => false

/-- What is asked of an operation's ways. -/
def StepGood (Φ : Sig) (ρ : Env) (μ : List Loc) (P : Program) (B : Base) (w : World) (a : Act) (o : Oper) (outs : List (List SB × Option (AV × Mem))) : Prop :=
  (∃ pc', (pc', none) ∈ outs ∧ holds Φ ρ pc') ∨
  ∃ pc' v m' ν w' x n, (pc', some (v, m')) ∈ outs ∧ holds Φ ρ pc' ∧ (execOp a.eval o).run P w = .ok n w' ∧ (n = .value x ∨ n = .skip ∧ x = undef) ∧
    den Φ ρ (μ ++ ν) v = some x ∧ MRel Φ ρ (μ ++ ν) B m' w' ∧ (mutOp o.op = false → w' = w ∧ ν = [])

theorem good_one (hM : MRel Φ ρ μ B s.m w) (hp : holds Φ ρ pc) {o : Oper} {v : AV} {x : Value} (hr : (execOp a.eval o).run P w = .ok (.value x) w) (hv : den Φ ρ μ v = some x) :
    StepGood Φ ρ μ P B w a o [(pc, some (v, s.m))] :=
  .inr ⟨pc, v, s.m, [], w, x, _, by simp, hp, hr, .inl rfl, by simpa using hv, by simpa using hM, fun _ => ⟨rfl, rfl⟩⟩

theorem one_inv {pc : List SB} {s : St} {v : Option AV} {outs : List (List SB × Option (AV × Mem))} (h : one pc s v = some outs) : ∃ x, v = some x ∧ outs = [(pc, some (x, s.m))] := by
  unfold one at h
  simp only [Option.map_eq_some_iff] at h
  obtain ⟨x, hx, rfl⟩ := h
  exact ⟨x, hx, rfl⟩

theorem binI_ok (hp : holds Φ ρ pc) {op : BinOp} {k : IntKind} {x y : SI} {c : CV} (h : binI pc op k x y = some c) (t : TypeId) :
    ∃ v, denC Φ ρ μ c = some v ∧ (binOp op t (.int k (x.ev Φ ρ)) (.int k (y.ev Φ ρ))).run P w = .ok v w := by
  cases op <;> simp only [binI] at h
  case quo =>
    split at h
    · rename_i m
      split at h
      · cases h
      · rename_i hm; simp at h; subst h
        exact ⟨_, rfl, by simp [binOp, Op.intDiv, hm, ev_mkWrap Φ ρ hp]⟩
    · split at h
      · rename_i hk
        have hm := known_ok Φ ρ hp _ _ hk
        simp at hm h; subst h
        exact ⟨_, rfl, by simp [binOp, Op.intDiv, hm, ev_mkWrap Φ ρ hp]⟩
      · cases h
  case rem =>
    split at h
    · rename_i m
      split at h
      · cases h
      · rename_i hm; simp at h; subst h
        exact ⟨_, rfl, by simp [binOp, Op.intDiv, hm]⟩
    · split at h
      · rename_i hk
        have hm := known_ok Φ ρ hp _ _ hk
        simp at hm h; subst h
        exact ⟨_, rfl, by simp [binOp, Op.intDiv, hm]⟩
      · cases h
  case shl => cases h
  case shr => cases h
  all_goals simp at h; try subst h
  case add => exact ⟨_, rfl, by simp [binOp, Op.intArith, ev_mkWrap Φ ρ hp]⟩
  case sub => exact ⟨_, rfl, by simp [binOp, Op.intArith, ev_mkWrap Φ ρ hp]⟩
  case mul => exact ⟨_, rfl, by simp [binOp, Op.intArith, ev_mkWrap Φ ρ hp]⟩
  case and => exact ⟨_, rfl, by simp [binOp, Op.intBits, Go.bits]⟩
  case or => exact ⟨_, rfl, by simp [binOp, Op.intBits, Go.bits]⟩
  case xor => exact ⟨_, rfl, by simp [binOp, Op.intBits, Go.bits]⟩
  case andNot => exact ⟨_, rfl, by simp [binOp, Op.intBits, Go.bits]⟩
  case eql => exact ⟨_, rfl, by simp only [binOp, Op.intCmp]; simp [int_beq]⟩
  case neq => exact ⟨_, rfl, by simp only [binOp, Op.intCmp]; simp [bne, int_beq]⟩
  case lss => exact ⟨_, rfl, by simp [binOp, Op.intCmp]⟩
  case leq => exact ⟨_, rfl, by simp [binOp, Op.intCmp]⟩
  case gtr => exact ⟨_, rfl, by simp [binOp, Op.intCmp]⟩
  case geq => exact ⟨_, rfl, by simp [binOp, Op.intCmp]⟩
end
end Go.SF
namespace Go.SF
set_option linter.unusedVariables false
set_option linter.unusedSimpArgs false

def eqL : List Value → List Value → Bool
  | [], [] => true
  | .int _ a :: r, .int _ b :: s => decide (a = b) && eqL r s
  | .bool a :: r, .bool b :: s => (a == b) && eqL r s
  | _, _ => false

def fitsV : List CK → List Value → Bool
  | [], [] => true
  | .i k :: ks, .int l _ :: vs => decide (k = l) && fitsV ks vs
  | .b :: ks, .bool _ :: vs => fitsV ks vs
  | _, _ => false

theorem fitsV_length : ∀ {ks : List CK} {vs : List Value}, fitsV ks vs = true → vs.length = ks.length
  | [], [], _ => rfl
  | [], v :: vs, h => by simp [fitsV] at h
  | .i k :: ks, [], h => by simp [fitsV] at h
  | .b :: ks, [], h => by simp [fitsV] at h
  | .i k :: ks, v :: vs, h => by cases v <;> simp [fitsV] at h; simp [fitsV_length h.2]
  | .b :: ks, v :: vs, h => by cases v <;> simp [fitsV] at h; simp [fitsV_length h]

theorem fitsV_append : ∀ {k1 k2 : List CK} {vs : List Value}, fitsV (k1 ++ k2) vs = true → fitsV k1 (vs.take k1.length) = true ∧ fitsV k2 (vs.drop k1.length) = true
  | [], k2, vs, h => by simpa [fitsV] using h
  | .i k :: k1, k2, [], h => by simp [fitsV] at h
  | .b :: k1, k2, [], h => by simp [fitsV] at h
  | .i k :: k1, k2, v :: vs, h => by
    cases v <;> simp [fitsV] at h
    have := fitsV_append h.2
    simp [fitsV, h.1, this]
  | .b :: k1, k2, v :: vs, h => by
    cases v <;> simp [fitsV] at h
    have := fitsV_append h
    simp [fitsV, this]

theorem fitsV_b {xs : List Value} (h : fitsV [.b] xs = true) : ∃ b, xs = [.bool b] := by
  have hl := fitsV_length h
  match xs, hl with
  | [x], _ => cases x <;> simp [fitsV] at h; exact ⟨_, rfl⟩
theorem fitsV_i {k : IntKind} {xs : List Value} (h : fitsV [.i k] xs = true) : ∃ n, xs = [.int k n] := by
  have hl := fitsV_length h
  match xs, hl with
  | [x], _ => cases x <;> simp [fitsV] at h; subst h; exact ⟨_, rfl⟩

theorem eqL_append : ∀ {x1 y1 x2 y2 : List Value}, x1.length = y1.length → eqL (x1 ++ x2) (y1 ++ y2) = (eqL x1 y1 && eqL x2 y2)
  | [], [], x2, y2, _ => by simp [eqL]
  | [], y :: y1, _, _, h => by simp at h
  | x :: x1, [], _, _, h => by simp at h
  | x :: x1, y :: y1, x2, y2, h => by
    have ih := @eqL_append x1 y1 x2 y2 (by simpa using h)
    cases x <;> cases y <;> simp [eqL, ih, Bool.and_assoc]

section
variable {Φ : Sig} {ρ : Env} {μ : List Loc} {P : Program}

theorem eqCells_ok : ∀ {cs ds : List CV} {e : SB} {xs ys : List Value}, eqCells cs ds = some e → denL Φ ρ μ cs = some xs → denL Φ ρ μ ds = some ys → e.ev Φ ρ = eqL xs ys
  | [], [], e, xs, ys, h, hx, hy => by simp [eqCells, denL] at h hx hy; subst h hx hy; simp [eqL]
  | .i k a :: r, .i l b :: s, e, xs, ys, h, hx, hy => by
    simp only [eqCells] at h
    split at h
    · simp only [Option.map_eq_some_iff] at h
      obtain ⟨e', he, rfl⟩ := h
      simp only [denL, denC] at hx hy
      cases h1 : denL Φ ρ μ r with
      | none => rw [h1] at hx; cases hx
      | some us =>
        cases h2 : denL Φ ρ μ s with
        | none => rw [h2] at hy; cases hy
        | some vs =>
          rw [h1] at hx; rw [h2] at hy; simp at hx hy; subst hx hy
          simp [eqL, eqCells_ok he h1 h2]
    · cases h
  | .b a :: r, .b b :: s, e, xs, ys, h, hx, hy => by
    simp only [eqCells, Option.map_eq_some_iff] at h
    obtain ⟨e', he, rfl⟩ := h
    simp only [denL, denC] at hx hy
    cases h1 : denL Φ ρ μ r with
    | none => rw [h1] at hx; cases hx
    | some us =>
      cases h2 : denL Φ ρ μ s with
      | none => rw [h2] at hy; cases hy
      | some vs =>
        rw [h1] at hx; rw [h2] at hy; simp at hx hy; subst hx hy
        simp [eqL, eqCells_ok he h1 h2]
  | [], d :: ds, e, xs, ys, h, _, _ => by simp [eqCells] at h
  | c :: cs, [], e, xs, ys, h, _, _ => by cases c <;> simp [eqCells] at h
  | .i _ _ :: _, .b _ :: _, _, _, _, h, _, _ => by simp [eqCells] at h
  | .i _ _ :: _, .s _ :: _, _, _, _, h, _, _ => by simp [eqCells] at h
  | .i _ _ :: _, .p _ :: _, _, _, _, h, _, _ => by simp [eqCells] at h
  | .i _ _ :: _, .sl _ _ _ :: _, _, _, _, h, _, _ => by simp [eqCells] at h
  | .i _ _ :: _, .m _ :: _, _, _, _, h, _, _ => by simp [eqCells] at h
  | .i _ _ :: _, .cd _ _ :: _, _, _, _, h, _, _ => by simp [eqCells] at h
  | .i _ _ :: _, .fn _ _ :: _, _, _, _, h, _, _ => by simp [eqCells] at h
  | .i _ _ :: _, .nilfn :: _, _, _, _, h, _, _ => by simp [eqCells] at h
  | .b _ :: _, .i _ _ :: _, _, _, _, h, _, _ => by simp [eqCells] at h
  | .b _ :: _, .s _ :: _, _, _, _, h, _, _ => by simp [eqCells] at h
  | .b _ :: _, .p _ :: _, _, _, _, h, _, _ => by simp [eqCells] at h
  | .b _ :: _, .sl _ _ _ :: _, _, _, _, h, _, _ => by simp [eqCells] at h
  | .b _ :: _, .m _ :: _, _, _, _, h, _, _ => by simp [eqCells] at h
  | .b _ :: _, .cd _ _ :: _, _, _, _, h, _, _ => by simp [eqCells] at h
  | .b _ :: _, .fn _ _ :: _, _, _, _, h, _, _ => by simp [eqCells] at h
  | .b _ :: _, .nilfn :: _, _, _, _, h, _, _ => by simp [eqCells] at h
  | .s _ :: _, d :: _, _, _, _, h, _, _ => by simp [eqCells] at h
  | .p _ :: _, d :: _, _, _, _, h, _, _ => by simp [eqCells] at h
  | .sl _ _ _ :: _, d :: _, _, _, _, h, _, _ => by simp [eqCells] at h
  | .m _ :: _, d :: _, _, _, _, h, _, _ => by simp [eqCells] at h
  | .cd _ _ :: _, d :: _, _, _, _, h, _, _ => by simp [eqCells] at h
  | .fn _ _ :: _, d :: _, _, _, _, h, _, _ => by simp [eqCells] at h
  | .nilfn :: _, d :: _, _, _, _, h, _, _ => by simp [eqCells] at h

theorem fitsK_ok : ∀ {ks : List CK} {cs : List CV} {xs : List Value}, fitsK ks cs = true → denL Φ ρ μ cs = some xs → fitsV ks xs = true
  | [], [], xs, _, h => by simp [denL] at h; subst h; rfl
  | [], c :: cs, _, h, _ => by simp [fitsK] at h
  | k :: ks, [], _, h, _ => by cases k <;> simp [fitsK] at h
  | .i k :: ks, c :: cs, xs, h, hx => by
    cases c <;> simp [fitsK] at h
    simp only [denL, denC] at hx
    cases h1 : denL Φ ρ μ cs with
    | none => rw [h1] at hx; cases hx
    | some us => rw [h1] at hx; simp at hx; subst hx; simp [fitsV, h.1, fitsK_ok h.2 h1]
  | .b :: ks, c :: cs, xs, h, hx => by
    cases c <;> simp [fitsK] at h
    simp only [denL, denC] at hx
    cases h1 : denL Φ ρ μ cs with
    | none => rw [h1] at hx; cases hx
    | some us => rw [h1] at hx; simp at hx; subst hx; simp [fitsV, fitsK_ok h h1]

/-- The value of a type, out of its cells. -/
def vOf (P : Program) (t : TypeId) (xs : List Value) : Value :=
  match tyAgg P t with
  | some true => .agg xs.toArray
  | _ => xs.headD undef

theorem run_isAgg' {t : TypeId} {b : Bool} (h : tyAgg P t = some b) (w : World) : (isAgg t).run P w = .ok b w := by
  unfold tyAgg at h
  simp only [Option.map_eq_some_iff] at h
  obtain ⟨d, hd, hb⟩ := h
  simp only [isAgg, Sem.run_bind, run_underlying hd, Result.andThen_ok]
  cases d <;> simp at hb <;> subst hb <;> rfl

theorem run_sizeOf' {t : TypeId} {n : Nat} (h : tySize P t = some n) (w : World) : (sizeOf t).run P w = .ok n w := by
  unfold tySize at h
  simp only [Option.map_eq_some_iff] at h
  obtain ⟨i, hi, rfl⟩ := h
  rw [run_sizeOf w hi]
  simp [Program.cellsOf, hi]

theorem cellsOf_eq {t : TypeId} {n : Nat} (h : tySize P t = some n) : P.cellsOf t = n := by
  unfold tySize at h
  simp only [Option.map_eq_some_iff] at h
  obtain ⟨i, hi, rfl⟩ := h
  simp [Program.cellsOf, hi]

theorem run_part_seg {t : TypeId} {n off : Nat} {b : Bool} (hs : tySize P t = some n) (ha : tyAgg P t = some b) {cs : List Value} (hl : off + n ≤ cs.length) (hn : b = false → n = 1) (w : World) :
    (part t cs.toArray off).run P w = .ok (vOf P t ((cs.drop off).take n)) w := by
  simp only [part, Sem.run_bind, run_isAgg' ha, Result.andThen_ok, vOf, ha]
  cases b with
  | true =>
    simp only [if_true, Sem.run_bind, run_sizeOf' hs, Result.andThen_ok, Sem.run_pure]
    congr 2
    apply Array.ext'
    simp [List.extract_eq_take_drop]
  | false =>
    have hn1 := hn rfl
    subst hn1
    simp only [Bool.false_eq_true, if_false]
    have hlt : off < cs.length := by omega
    have h1 : cs.toArray[off]? = some cs[off] := by simp [hlt]
    have h2 : (cs.drop off).take 1 = [cs[off]] := by rw [List.drop_eq_getElem_cons hlt]; rfl
    rw [h1, h2]
    rfl

theorem flat_size : ∀ {d : Nat} {t : TypeId} {ks : List CK}, flat P d t = some ks → tySize P t = some ks.length
  | 0, t, ks, h => by simp [flat] at h
  | d + 1, t, ks, h => by
    simp only [flat] at h
    split at h
    · split at h
      · rename_i hh; simp at h; subst h; exact hh
      · cases h
    · cases h

/-- The outer form of a type that is flat. -/
theorem flat_cases {d : Nat} {t : TypeId} {ks : List CK} (h : flat P (d + 1) t = some ks) :
    (P.underlying t = some .bool ∧ ks = [.b]) ∨ (∃ k, P.underlying t = some (.int k) ∧ ks = [.i k]) ∨
    (∃ m e js, P.underlying t = some (.array m e) ∧ flat P d e = some js ∧ ks = (List.replicate m js).flatten) ∨
    (∃ fs, P.underlying t = some (.struct fs) ∧ P.stoodInHeld t = false ∧ flatF (flat P d) 0 fs.toList = some ks) := by
  simp only [flat] at h
  split at h
  · rename_i ks' hm
    split at h
    · simp at h; subst h
      split at hm
      · rename_i hu; simp at hm; exact .inl ⟨hu, hm.symm⟩
      · rename_i k hu; simp at hm; exact .inr (.inl ⟨k, hu, hm.symm⟩)
      · rename_i m e hu
        simp only [Option.map_eq_some_iff] at hm
        obtain ⟨js, hj, rfl⟩ := hm
        exact .inr (.inr (.inl ⟨m, e, js, hu, hj, rfl⟩))
      · rename_i fs hu
        split at hm
        · cases hm
        · rename_i hs; exact .inr (.inr (.inr ⟨fs, hu, by simpa using hs, hm⟩))
      · cases hm
    · cases h
  · cases h

theorem flat_agg {d : Nat} {t : TypeId} {ks : List CK} (h : flat P d t = some ks) : ∃ b, tyAgg P t = some b ∧ (b = false → ks.length = 1) := by
  cases d with
  | zero => simp [flat] at h
  | succ d =>
    rcases flat_cases h with ⟨hu, rfl⟩ | ⟨k, hu, rfl⟩ | ⟨m, e, js, hu, _, _⟩ | ⟨fs, hu, _, _⟩
    · exact ⟨false, by simp [tyAgg, hu], fun _ => rfl⟩
    · exact ⟨false, by simp [tyAgg, hu], fun _ => rfl⟩
    · exact ⟨true, by simp [tyAgg, hu], fun h => by cases h⟩
    · exact ⟨true, by simp [tyAgg, hu], fun h => by cases h⟩

theorem run_part_flat {d : Nat} {t : TypeId} {ks : List CK} (h : flat P d t = some ks) {cs : List Value} {off : Nat} (hl : off + ks.length ≤ cs.length) (w : World) :
    (part t cs.toArray off).run P w = .ok (vOf P t ((cs.drop off).take ks.length)) w := by
  obtain ⟨b, hb, hn⟩ := flat_agg h
  exact run_part_seg (flat_size h) hb hl hn w

/-- Equality at one type, as the form has it. -/
def EqFlat (P : Program) (n : Nat) (t : TypeId) (ks : List CK) : Prop :=
  ∀ xs ys, fitsV ks xs = true → fitsV ks ys = true → ∀ w, (Op.equalIn n t (vOf P t xs) (vOf P t ys)).run P w = .ok (eqL xs ys) w

theorem eqItems_flat {n d : Nat} {e : TypeId} {js : List CK} (hf : flat P d e = some js) (he : EqFlat P n e js) : ∀ (r j : Nat) (xs ys : List Value),
    xs.length = ys.length → (j + r) * js.length = xs.length → fitsV (List.replicate r js).flatten (xs.drop (j * js.length)) = true → fitsV (List.replicate r js).flatten (ys.drop (j * js.length)) = true → ∀ w,
    (Op.eqItems n e js.length xs.toArray ys.toArray (List.range' j r)).run P w = .ok (eqL (xs.drop (j * js.length)) (ys.drop (j * js.length))) w
  | 0, j, xs, ys, hl, hz, h1, h2, w => by
    have e1 : xs.drop (j * js.length) = [] := List.drop_eq_nil_of_le (by simp at hz; omega)
    have e2 : ys.drop (j * js.length) = [] := List.drop_eq_nil_of_le (by simp at hz; omega)
    rw [e1, e2]; simp [Op.eqItems, eqL]
  | r + 1, j, xs, ys, hl, hz, h1, h2, w => by
    have hexp : (j + (r + 1)) * js.length = j * js.length + js.length + r * js.length := by rw [Nat.add_mul, Nat.succ_mul]; omega
    have hb : j * js.length + js.length ≤ xs.length := by rw [← hz, hexp]; omega
    simp only [List.replicate_succ, List.flatten_cons] at h1 h2
    obtain ⟨a1, a2⟩ := fitsV_append h1
    obtain ⟨b1, b2⟩ := fitsV_append h2
    rw [List.drop_drop] at a2 b2
    have hsucc : (j + 1) * js.length = j * js.length + js.length := Nat.succ_mul ..
    have ih := eqItems_flat hf he r (j + 1) xs ys hl (by rw [← hz]; congr 1; omega) (by rw [hsucc]; exact a2) (by rw [hsucc]; exact b2)
    simp only [List.range'_succ, Op.eqItems, Sem.run_bind]
    rw [run_part_flat hf hb]
    simp only [Result.andThen_ok]
    rw [run_part_flat hf (by omega)]
    simp only [Result.andThen_ok, he _ _ a1 b1 w]
    have split : ∀ zs : List Value, zs.drop (j * js.length) = (zs.drop (j * js.length)).take js.length ++ zs.drop ((j + 1) * js.length) := by
      intro zs
      rw [hsucc, ← List.drop_drop, List.take_append_drop]
    have hR : eqL (xs.drop (j * js.length)) (ys.drop (j * js.length)) = (eqL ((xs.drop (j * js.length)).take js.length) ((ys.drop (j * js.length)).take js.length) && eqL (xs.drop ((j + 1) * js.length)) (ys.drop ((j + 1) * js.length))) := by
      conv => lhs; rw [split xs, split ys]
      rw [eqL_append (by simp [hl])]
    rw [hR]
    cases eqL ((xs.drop (j * js.length)).take js.length) ((ys.drop (j * js.length)).take js.length)
    · simp
    · simp only [Bool.not_true, Bool.false_eq_true, if_false, Bool.true_and]
      exact ih w

theorem eqFields_flat {n d : Nat} (he : ∀ t js, flat P d t = some js → EqFlat P n t js) : ∀ (fs : List Field) (off : Nat) (ks : List CK) (xs ys : List Value),
    flatF (flat P d) off fs = some ks → xs.length = ys.length → off + ks.length = xs.length → fitsV ks (xs.drop off) = true → fitsV ks (ys.drop off) = true → ∀ w,
    (Op.eqFields n xs.toArray ys.toArray fs).run P w = .ok (eqL (xs.drop off) (ys.drop off)) w
  | [], off, ks, xs, ys, hf, hl, hz, h1, h2, w => by
    simp [flatF] at hf; subst hf
    have e1 : xs.drop off = [] := List.drop_eq_nil_of_le (by simp at hz; omega)
    have e2 : ys.drop off = [] := List.drop_eq_nil_of_le (by simp at hz; omega)
    rw [e1, e2]; simp [Op.eqFields, eqL]
  | f :: fs, off, ks, xs, ys, hf, hl, hz, h1, h2, w => by
    simp only [flatF] at hf
    split at hf
    · cases hf
    · rename_i hc
      simp only [Bool.or_eq_true, decide_eq_true_eq, not_or, Decidable.not_not] at hc
      obtain ⟨hname, hoff⟩ := hc
      split at hf
      · cases hf
      · rename_i js hj
        simp only [Option.map_eq_some_iff] at hf
        obtain ⟨ks', hk, rfl⟩ := hf
        obtain ⟨a1, a2⟩ := fitsV_append h1
        obtain ⟨b1, b2⟩ := fitsV_append h2
        rw [List.drop_drop] at a2 b2
        have hlen : off + js.length ≤ xs.length := by simp at hz; omega
        have ih := eqFields_flat he fs (off + js.length) ks' xs ys hk hl (by simp at hz; omega) a2 b2
        simp only [Op.eqFields, Ne, hname, not_false_eq_true, if_true, Sem.run_bind, hoff]
        rw [run_part_flat hj hlen]
        simp only [Result.andThen_ok]
        rw [run_part_flat hj (by omega)]
        simp only [Result.andThen_ok, he _ _ hj _ _ a1 b1 w]
        have split : ∀ zs : List Value, zs.drop off = (zs.drop off).take js.length ++ zs.drop (off + js.length) := by
          intro zs
          rw [← List.drop_drop, List.take_append_drop]
        have hR : eqL (xs.drop off) (ys.drop off) = (eqL ((xs.drop off).take js.length) ((ys.drop off).take js.length) && eqL (xs.drop (off + js.length)) (ys.drop (off + js.length))) := by
          conv => lhs; rw [split xs, split ys]
          rw [eqL_append (by simp [hl])]
        rw [hR]
        cases eqL ((xs.drop off).take js.length) ((ys.drop off).take js.length)
        · simp
        · simp only [Bool.not_true, Bool.false_eq_true, if_false, Bool.true_and]
          exact ih w

theorem equalIn_flat : ∀ (d : Nat) (t : TypeId) (ks : List CK) (n : Nat), flat P d t = some ks → EqFlat P (n + d) t ks
  | 0, t, ks, n, h => by simp [flat] at h
  | d + 1, t, ks, n, h => by
    intro xs ys h1 h2 w
    have hz := flat_size h
    rcases flat_cases h with ⟨hu, rfl⟩ | ⟨k, hu, rfl⟩ | ⟨m, e, js, hu, hj, rfl⟩ | ⟨fs, hu, hs, hf⟩
    · obtain ⟨x, rfl⟩ := fitsV_b h1
      obtain ⟨y, rfl⟩ := fitsV_b h2
      have : tyAgg P t = some false := by simp [tyAgg, hu]
      simp only [vOf, this, List.headD_cons]
      rw [show n + (d + 1) = (n + d) + 1 from rfl, run_equalIn_bool' w (n + d) t x y hu]
      simp [eqL]
    · obtain ⟨x, rfl⟩ := fitsV_i h1
      obtain ⟨y, rfl⟩ := fitsV_i h2
      have : tyAgg P t = some false := by simp [tyAgg, hu]
      simp only [vOf, this, List.headD_cons]
      rw [show n + (d + 1) = (n + d) + 1 from rfl, run_equalIn_int w (n + d) t _ _ x y hu]
      simp [eqL, int_beq]
    · have ha : tyAgg P t = some true := by simp [tyAgg, hu]
      have hje := flat_size hj
      obtain ⟨i, hi, _⟩ : ∃ i, P.info? e = some i ∧ i.size = js.length := by
        unfold tySize at hje
        simp only [Option.map_eq_some_iff] at hje
        exact hje
      simp only [vOf, ha]
      rw [show n + (d + 1) = (n + d) + 1 from rfl, run_equalIn_array w (n + d) _ _ hu hi, cellsOf_eq hje, List.range_eq_range']
      have l1 := fitsV_length h1
      have l2 := fitsV_length h2
      have := eqItems_flat hj (equalIn_flat d e js n hj) m 0 xs ys (by rw [l1, l2]) (by rw [l1]; simp) (by simpa using h1) (by simpa using h2) w
      simpa using this
    · have ha : tyAgg P t = some true := by simp [tyAgg, hu]
      simp only [vOf, ha]
      have hff : P.fieldsOf t = fs := by simp [Program.fieldsOf, hu]
      rw [show n + (d + 1) = (n + d) + 1 from rfl, run_equalIn_struct w (n + d) t _ _ (by rw [hff]; exact hu) hs, hff]
      have l1 := fitsV_length h1
      have l2 := fitsV_length h2
      have := eqFields_flat (fun t' js hj => equalIn_flat d t' js n hj) fs.toList 0 ks xs ys hf (by rw [l1, l2]) (by rw [l1]; simp) (by simpa using h1) (by simpa using h2) w
      simpa using this
end
end Go.SF
namespace Go.SF
set_option linter.unusedVariables false
set_option linter.unusedSimpArgs false

section
variable {Φ : Sig} {ρ : Env} {μ : List Loc} {P : Program} {B : Base} {w : World} {s : St} {a : Act} {pc : List SB}

theorem den_agg {cs : List CV} {x : Value} (h : den Φ ρ μ (.agg cs) = some x) : ∃ vs, denL Φ ρ μ cs = some vs ∧ x = .agg vs.toArray := by
  simp only [den, Option.map_eq_some_iff] at h
  obtain ⟨vs, hv, rfl⟩ := h
  exact ⟨vs, hv, rfl⟩

theorem ev_mkCatS (a b : SI) : (mkCatS a b).ev Φ ρ = catS (a.ev Φ ρ) (b.ev Φ ρ) := by
  unfold mkCatS
  split
  · simp
  · simp [ev_app, appI_std, stdI]
theorem ev_mkLenS : ∀ (d : Nat) (a : SI), (mkLenS d a).ev Φ ρ = lenS (a.ev Φ ρ) := by
  intro d a
  fun_induction mkLenS d a <;> simp_all [ev_app, appI_std, stdI, lenS, strB_cat, ofB, ints, strB_enc]
theorem binop_ok (hp : holds Φ ρ pc) {op : BinOp} {t : TypeId} {x y v : AV} {vx vy : Value} (ox oy : Operand) (h : binop P pc op t x y = some v) (hx : den Φ ρ μ x = some vx) (hy : den Φ ρ μ y = some vy) :
    ∃ u, den Φ ρ μ v = some u ∧ (eqGuard op t ox oy vx vy).run P w = .ok () w ∧ (binOp op t vx vy).run P w = .ok u w := by
  unfold binop at h
  split at h
  · -- ints
    rename_i k p l q
    split at h
    · rename_i hk
      subst hk
      simp only [Option.map_eq_some_iff] at h
      obtain ⟨c, hc, rfl⟩ := h
      simp [den, denC] at hx hy
      subst hx hy
      obtain ⟨u, hu, hr⟩ := binI_ok hp (Φ := Φ) (ρ := ρ) (μ := μ) (P := P) (w := w) hc t
      refine ⟨u, hu, ?_, hr⟩
      cases op <;> simp [eqGuard]
    · cases h
  · -- bools
    rename_i p q
    simp [den, denC] at hx hy
    subst hx hy
    split at h
    · split at h
      · rename_i hu
        simp at h; subst h
        refine ⟨_, rfl, by simp [eqGuard], ?_⟩
        have hu' : P.underlying t = some .bool := by
          cases hh : P.underlying t with
          | none => rw [hh] at hu; simp at hu
          | some d => cases d <;> rw [hh] at hu <;> simp at hu
        simp [binOp, Op.equal, Op.maxDepth, run_equalIn_bool' w 9999 t _ _ hu', Sem.run_bind]
      · cases h
    · split at h
      · rename_i hu
        simp at h; subst h
        refine ⟨_, rfl, by simp [eqGuard], ?_⟩
        have hu' : P.underlying t = some .bool := by
          cases hh : P.underlying t with
          | none => rw [hh] at hu; simp at hu
          | some d => cases d <;> rw [hh] at hu <;> simp at hu
        simp [binOp, Op.equal, Op.maxDepth, run_equalIn_bool' w 9999 t _ _ hu', Sem.run_bind]
      · cases h
    · cases h
  · -- strings
    rename_i p q
    simp [den, denC] at hx hy
    subst hx hy
    have key : leO (loOf pc p) 0 = true → leO (loOf pc q) 0 = true → (strB (p.ev Φ ρ) == strB (q.ev Φ ρ)) = decide (p.ev Φ ρ = q.ev Φ ρ) := by
      intro h1 h2
      obtain ⟨m, hm, h1⟩ := leO_ok h1
      obtain ⟨n, hn, h2⟩ := leO_ok h2
      have h3 := lo_ok Φ ρ hp hm; have h4 := lo_ok Φ ρ hp hn
      rw [Bool.eq_iff_iff]
      simp only [beq_iff_eq, decide_eq_true_eq]
      exact ⟨fun e => strB_inj (by omega) (by omega) e, fun e => by rw [e]⟩
    split at h
    · split at h
      · rename_i hk
        rw [Bool.and_eq_true] at hk
        simp at h; subst h
        refine ⟨_, rfl, by simp [eqGuard, qVal], ?_⟩
        simp [binOp, Op.stringOp, qVal, beq_toListBytes, key hk.1 hk.2]
      · cases h
    · split at h
      · rename_i hk
        rw [Bool.and_eq_true] at hk
        simp at h; subst h
        refine ⟨_, rfl, by simp [eqGuard, qVal], ?_⟩
        simp [binOp, Op.stringOp, qVal, beq_toListBytes, key hk.1 hk.2]
      · cases h
    · split at h
      · rename_i hk
        simp at h; subst h
        refine ⟨_, rfl, by simp [eqGuard, qVal], ?_⟩
        obtain ⟨m, hm, h1⟩ := leO_ok hk
        have h3 := hi_ok Φ ρ hp hm
        simp [ev_mkLenS, lenS] at h3
        simp only [binOp, qVal, Op.stringOp]
        rw [if_neg (by simp [ByteArray.size, IntKind.max, IntKind.bits, IntKind.signed]; omega)]
        simp only [Sem.run_pure, ev_mkCatS, strB_cat]
        congr 2
      · cases h
    · cases h
  · -- a pointer and nil
    rename_i p
    simp [den, denC] at hy
    subst hy
    have hp : ∃ q : Option Addr, vx = .pointer q ∧ q.isNone = p.isNone := by
      cases p with
      | none => simp [den, denC] at hx; subst hx; exact ⟨none, rfl, rfl⟩
      | some p =>
        simp only [den, denC, Option.map_eq_some_iff] at hx
        obtain ⟨q, _, rfl⟩ := hx
        exact ⟨some q, rfl, rfl⟩
    obtain ⟨q, rfl, hq⟩ := hp
    have key : ∀ e, P.underlying t = some (.pointer e) → (Op.equalIn 10000 t (.pointer q) (.pointer none)).run P w = .ok q.isNone w := by
      intro e he
      rw [show (10000 : Nat) = 9999 + 1 from rfl, Op.equalIn]
      simp only [Sem.run_bind, run_underlying he, Result.andThen_ok]
      cases q <;> rfl
    split at h
    · split at h
      · rename_i hu
        simp at h; subst h
        obtain ⟨e, he⟩ : ∃ e, P.underlying t = some (.pointer e) := by
          cases hh : P.underlying t with
          | none => rw [hh] at hu; simp at hu
          | some d => cases d <;> rw [hh] at hu <;> simp at hu; exact ⟨_, rfl⟩
        refine ⟨_, rfl, by simp [eqGuard], ?_⟩
        cases q <;> simp [binOp, Op.equal, Op.maxDepth, Sem.run_bind, key e he] at hq ⊢ <;> simp [hq]
      · cases h
    · split at h
      · rename_i hu
        simp at h; subst h
        obtain ⟨e, he⟩ : ∃ e, P.underlying t = some (.pointer e) := by
          cases hh : P.underlying t with
          | none => rw [hh] at hu; simp at hu
          | some d => cases d <;> rw [hh] at hu <;> simp at hu; exact ⟨_, rfl⟩
        refine ⟨_, rfl, by simp [eqGuard], ?_⟩
        cases q <;> simp [binOp, Op.equal, Op.maxDepth, Sem.run_bind, key e he] at hq ⊢ <;> simp [hq]
      · cases h
    · cases h
  · -- a map and nil
    rename_i p
    simp [den, denC] at hy
    subst hy
    have hp : ∃ q : Option Nat, vx = .map q ∧ q.isNone = p.isNone := by
      cases p with
      | none => simp [den, denC] at hx; subst hx; exact ⟨none, rfl, rfl⟩
      | some p =>
        simp only [den, denC, Option.map_eq_some_iff] at hx
        obtain ⟨q, _, rfl⟩ := hx
        exact ⟨some q.blk, rfl, rfl⟩
    obtain ⟨q, rfl, hq⟩ := hp
    have key : ∀ e : TypeId × TypeId, P.underlying t = some (.map e.1 e.2) → (Op.equalIn 10000 t (.map q) (.map none)).run P w = .ok q.isNone w := by
      intro e he
      rw [show (10000 : Nat) = 9999 + 1 from rfl, Op.equalIn]
      simp only [Sem.run_bind, run_underlying he, Result.andThen_ok]
      cases q <;> rfl
    split at h
    · split at h
      · rename_i hu
        simp at h; subst h
        obtain ⟨e, he⟩ : ∃ e : TypeId × TypeId, P.underlying t = some (.map e.1 e.2) := by
          cases hh : P.underlying t with
          | none => rw [hh] at hu; simp at hu
          | some d => cases d <;> rw [hh] at hu <;> simp at hu; exact ⟨⟨_, _⟩, rfl⟩
        refine ⟨_, rfl, by simp [eqGuard], ?_⟩
        cases q <;> simp [binOp, Op.equal, Op.maxDepth, Sem.run_bind, key e he] at hq ⊢ <;> simp [hq]
      · cases h
    · split at h
      · rename_i hu
        simp at h; subst h
        obtain ⟨e, he⟩ : ∃ e : TypeId × TypeId, P.underlying t = some (.map e.1 e.2) := by
          cases hh : P.underlying t with
          | none => rw [hh] at hu; simp at hu
          | some d => cases d <;> rw [hh] at hu <;> simp at hu; exact ⟨⟨_, _⟩, rfl⟩
        refine ⟨_, rfl, by simp [eqGuard], ?_⟩
        cases q <;> simp [binOp, Op.equal, Op.maxDepth, Sem.run_bind, key e he] at hq ⊢ <;> simp [hq]
      · cases h
    · cases h
  · -- structs, arrays
    rename_i cs ds
    obtain ⟨xs, hxs, rfl⟩ := den_agg hx
    obtain ⟨ys, hys, rfl⟩ := den_agg hy
    split at h
    · cases h
    · rename_i ks hks
      split at h
      · rename_i hc
        simp only [Bool.and_eq_true, Bool.not_eq_true'] at hc
        obtain ⟨⟨⟨f1, f2⟩, hg⟩, hag⟩ := hc
        have hag : tyAgg P t = some true := by simpa using hag
        have g1 := fitsK_ok f1 hxs
        have g2 := fitsK_ok f2 hys
        have heq := equalIn_flat 5 t ks 9995 hks xs ys g1 g2 w
        simp only [vOf, hag] at heq
        have guard : (eqGuard op t ox oy (.agg xs.toArray) (.agg ys.toArray)).run P w = .ok () w := run_eqGuard_agg w op t ox oy _ _ hg
        split at h
        · rename_i e he
          simp at h; subst h
          refine ⟨_, rfl, guard, ?_⟩
          rw [run_eql_struct, show (10000 : Nat) = 9995 + 5 from rfl, heq]
          simp [Result.andThen, eqCells_ok he hxs hys]
        · rename_i e he
          simp at h; subst h
          refine ⟨_, rfl, guard, ?_⟩
          rw [run_neq_struct, show (10000 : Nat) = 9995 + 5 from rfl, heq]
          simp [Result.andThen, eqCells_ok he hxs hys]
        · cases h
      · cases h
  · cases h

theorem unop_ok (hp : holds Φ ρ pc) {op : UnOp} {x v : AV} {vx : Value} (h : unop pc op x = some v) (hx : den Φ ρ μ x = some vx) : ∃ u, den Φ ρ μ v = some u ∧ (Op.unary op vx).run P w = .ok u w := by
  unfold unop at h
  split at h
  · simp at h; subst h; simp [den, denC] at hx; subst hx; exact ⟨_, rfl, by simp [Op.unary]⟩
  · simp at h; subst h; simp [den, denC] at hx; subst hx; exact ⟨_, rfl, by simp [Op.unary, Op.intArith, ev_mkWrap Φ ρ hp]⟩
  · cases h

theorem conv_ok (hp : holds Φ ρ pc) {src dst : TypeId} {x v : AV} {vx : Value} (h : conv P pc src dst x = some v) (hx : den Φ ρ μ x = some vx) : ∃ u, den Φ ρ μ v = some u ∧ (convert src dst vx).run P w = .ok u w := by
  unfold conv at h
  split at h
  · rename_i hs hd
    simp at h; subst h; simp [den, denC] at hx; subst hx
    exact ⟨_, rfl, by simp [convert, run_underlying hs, run_underlying hd, Conv.intToInt, Sem.run_bind, ev_mkWrap Φ ρ hp]⟩
  · cases h

/-- The address of a place of an object of cells. -/
theorem denPt_cells {p : Pt} {l : Loc} {x : Addr} (hp : denPt Φ ρ μ p = some x) (hl : μ[p.id]? = some l) (hb : l.base = 0) (hs : l.str = 0) : x = ⟨l.blk, p.j, none⟩ := by
  unfold denPt at hp
  rw [hl] at hp
  simp only [hb, hs] at hp
  split at hp
  · simp at hp; rw [← hp]
  · cases hp

theorem obj_loc (hM : MRel Φ ρ μ B s.m w) {i : Nat} {o : AObj} (h : s.m.o[i]? = some o) : ∃ l, μ[i]? = some l := by
  have hi := (List.getElem?_eq_some_iff.1 h).1
  exact ⟨μ[i]'(by rw [hM.len]; exact hi), List.getElem?_eq_getElem _⟩

theorem cell_of_cells {blk : Nat} {vs : List Value} {ty : TypeId} (hh : w.heap[blk]? = some (.cells vs.toArray ty (0, 0))) (j : Nat) : w.cell? ⟨blk, j, none⟩ = vs[j]? := by
  simp [World.cell?, hh]

theorem den_ptr {p : Pt} {v : Value} (h : den Φ ρ μ (.cv (.p (some p))) = some v) : ∃ x, denPt Φ ρ μ p = some x ∧ v = .pointer (some x) := by
  simp only [den, denC, Option.map_eq_some_iff] at h
  obtain ⟨x, hx, rfl⟩ := h
  exact ⟨x, hx, rfl⟩

/-- Cells that lie side by side from an address on are loaded as the value of the type. -/
theorem run_loadAt {t : TypeId} {n : Nat} {ag : Bool} (hn : tySize P t = some n) (ha : tyAgg P t = some ag) {x : Addr} {vs : List Value} (hl : vs.length = n)
    (hc : ∀ (j : Nat) (v : Value), vs[j]? = some v → w.cell? (x.add j) = some v) :
    (ag = true → (Instr.loadAt t (.pointer (some x))).run P w = .ok (.agg vs.toArray) w) ∧ (∀ v, ag = false → vs = [v] → (Instr.loadAt t (.pointer (some x))).run P w = .ok v w) := by
  constructor
  · intro e; subst e
    simp only [Instr.loadAt, Instr.sureAddr, loadVar, Sem.run_bind, Sem.run_pure, Result.andThen_ok, run_isAgg' ha, if_true, run_sizeOf' hn]
    rw [← hl, run_loadCells_list w x vs hc]
    rfl
  · intro v e hv; subst e; subst hv
    simp only [Instr.loadAt, Instr.sureAddr, loadVar, Sem.run_bind, Sem.run_pure, Result.andThen_ok, run_isAgg' ha, Bool.false_eq_true, if_false]
    have := hc 0 v rfl
    rw [run_load]
    simp [Addr.add] at this
    rw [this]

theorem add_eq (x : Addr) (hx : x.spot = none) (j : Nat) : x.add j = ⟨x.block, x.off + j, none⟩ := by
  unfold Addr.add
  split
  · rename_i h; subst h; cases x; simp_all
  · rfl

theorem okRow_len : ∀ {ks : List CK} {row : List Int}, okRow ks row → row.length = ks.length
  | [], [], _ => rfl
  | k :: ks, n :: ns, h => by simp [okRow_len h.2]
  | [], _ :: _, h => by cases h
  | _ :: _, [], h => by cases h
theorem rowVals_len : ∀ {ks : List CK} {row : List Int}, okRow ks row → (rowVals ks row).length = ks.length
  | [], [], _ => rfl
  | k :: ks, n :: ns, h => by simp [rowVals, rowVals_len h.2]
  | [], _ :: _, h => by cases h
  | _ :: _, [], h => by cases h
theorem rowVals_get : ∀ {ks : List CK} {row : List Int}, okRow ks row → ∀ (j : Nat) (k : CK), ks[j]? = some k → (rowVals ks row)[j]? = some (ckVal k (row.getD j 0)) ∧ okCell k (row.getD j 0)
  | [], [], _, j, k, h => by simp at h
  | k :: ks, n :: ns, h, 0, k', h' => by simp at h'; subst h'; exact ⟨rfl, h.1⟩
  | k :: ks, n :: ns, h, j + 1, k', h' => by simpa [rowVals] using rowVals_get h.2 j k' (by simpa using h')
  | [], _ :: _, h, _, _, _ => by cases h
  | _ :: _, [], h, _, _, _ => by cases h
theorem flat_len {ks : List CK} : ∀ {A : Tab}, (∀ row ∈ A, okRow ks row) → (A.flatMap (rowVals ks)).length = A.length * ks.length
  | [], _ => by simp
  | row :: A, h => by
    rw [List.flatMap_cons, List.length_append, rowVals_len (h row (List.mem_cons_self ..)), flat_len (fun r hr => h r (List.mem_cons_of_mem _ hr)), List.length_cons, Nat.add_mul]
    omega
theorem flat_get {ks : List CK} : ∀ {A : Tab}, (∀ row ∈ A, okRow ks row) → ∀ {r j : Nat} {row : List Int}, A[r]? = some row → j < ks.length → (A.flatMap (rowVals ks))[r * ks.length + j]? = (rowVals ks row)[j]?
  | [], _, r, j, row, h, _ => by simp at h
  | row :: A, h, 0, j, row', h', hj => by
    simp at h'; subst h'
    rw [List.flatMap_cons, List.getElem?_append_left (by rw [rowVals_len (h row (List.mem_cons_self ..))]; omega)]
    simp
  | row :: A, h, r + 1, j, row', h', hj => by
    have hl := rowVals_len (h row (List.mem_cons_self ..))
    rw [List.flatMap_cons, List.getElem?_append_right (by rw [hl, Nat.add_mul]; omega), hl]
    rw [show (r + 1) * ks.length + j - ks.length = r * ks.length + j by rw [Nat.add_mul]; omega]
    exact flat_get (fun r hr => h r (List.mem_cons_of_mem _ hr)) (by simpa using h') hj

/-- Where an object's rows lie. -/
def RowsAt (w : World) (l : Loc) (ks : List CK) (A : Tab) : Prop :=
  l.str = ks.length ∧ (∀ row ∈ A, okRow ks row) ∧ ∀ (i : Nat) (v : Value), (A.flatMap (rowVals ks))[i]? = some v → w.cell? ⟨l.blk, l.base + i, none⟩ = some v
theorem rowsAt_vec {ks : List CK} {ty : TypeId} {A : Tab} {l : Loc} (h : RepVec ks ty A w l) : RowsAt w l ks A := by
  obtain ⟨h1, h2, h3, h4, h5, h6⟩ := h
  refine ⟨h1, h3, fun i v hv => ?_⟩
  split at h6
  · have : A = [] := List.eq_nil_of_length_eq_zero (by omega)
    subst this; simp at hv
  · obtain ⟨_, cs, hc, _, hr⟩ := h6
    simp only [World.cell?, hc]
    exact hr i v hv
theorem rowsAt_ext {ks : List CK} {A : SL} {l : Loc} (h : ObjOK Φ ρ μ w l (.ext A ks)) : RowsAt w l ks (A.ev Φ ρ) := ⟨h.1, h.2.2.1, h.2.2.2⟩

theorem ck_ok {k : CK} {A : SL} {r : SI} {j : Nat} {row : List Int} (hr : (A.ev Φ ρ).getD (r.ev Φ ρ).toNat [] = row) : denC Φ ρ μ (ckC k A r j) = some (ckVal k (row.getD j 0)) := by
  cases k with
  | i k =>
    show some (Value.int k ((mkSel 60 A r j).ev Φ ρ)) = _
    rw [ev_mkSel, hr]; rfl
  | b =>
    show some (Value.bool ((mkNot (mkEq (mkSel 60 A r j) (SI.c 0))).ev Φ ρ)) = _
    rw [evB_mkNot, evB_mkEq, ev_mkSel, hr, ev_c]
    simp only [ckVal, ne_eq, decide_not]
  | cd k =>
    show some (qVal k ((mkSel 60 A r j).ev Φ ρ)) = _
    rw [ev_mkSel, hr]; rfl

theorem denL_ext {A : SL} {r : SI} {row : List Int} (hr : (A.ev Φ ρ).getD (r.ev Φ ρ).toNat [] = row) : ∀ (j : Nat) (ks : List CK),
    denL Φ ρ μ (extCells A r j ks) = some (ks.zipIdx.map fun x => ckVal x.1 (row.getD (j + x.2) 0))
  | j, [] => by simp [extCells, denL]
  | j, k :: ks => by
    have ih := denL_ext hr (j + 1) ks
    simp only [extCells, denL, ck_ok (k := k) (j := j) hr, ih]
    congr 1
    simp only [List.zipIdx_cons, List.map_cons, Nat.add_zero]
    congr 1
    rw [List.zipIdx_succ, List.map_map]
    apply List.map_congr_left
    intro x _
    simp only [Function.comp]
    congr 2
    omega

theorem facts_ok {A : SL} {r : SI} {row : List Int} (hr : (A.ev Φ ρ).getD (r.ev Φ ρ).toNat [] = row) : ∀ (j : Nat) (ks : List CK), (∀ (i : Nat) (k : CK), ks[i]? = some k → okCell k (row.getD (j + i) 0)) → holds Φ ρ (extFacts pc A r j ks)
  | j, [], _ => by intro c h; simp [extFacts] at h
  | j, k :: ks, h => by
    refine holds_app Φ ρ ?_ (facts_ok hr (j + 1) ks fun i k' hk => by rw [show j + 1 + i = j + (i + 1) by omega]; exact h (i + 1) k' (by simpa using hk))
    have h0 := h 0 k rfl
    simp only [Nat.add_zero] at h0
    cases k with
    | b => intro c hc; simp [ckFacts] at hc
    | cd k =>
      simp only [ckFacts]
      split
      · exact holds_nil Φ ρ
      · exact holds_cons Φ ρ (by rw [evB_le, ev_c, ev_mkSel, hr]; exact decide_eq_true h0) (holds_nil Φ ρ)
    | i k =>
      simp only [ckFacts]
      split
      · rename_i hs
        obtain ⟨h1, h2⟩ := h0 hs
        refine holds_app Φ ρ ?_ ?_
        · split
          · exact holds_nil Φ ρ
          · exact holds_cons Φ ρ (by rw [evB_le, ev_c, ev_mkSel, hr]; exact decide_eq_true h1) (holds_nil Φ ρ)
        · split
          · exact holds_nil Φ ρ
          · exact holds_cons Φ ρ (by rw [evB_le, ev_c, ev_mkSel, hr]; exact decide_eq_true h2) (holds_nil Φ ρ)
      · exact holds_nil Φ ρ

theorem rows_load (hp : holds Φ ρ pc) {l : Loc} {ks : List CK} {A : SL} {p : Pt} {n : Nat} {addr : Addr} (hR : RowsAt w l ks (A.ev Φ ρ)) (hl : μ[p.id]? = some l) (ha : denPt Φ ρ μ p = some addr)
    (h1 : p.j + n ≤ ks.length) (h2 : known pc (.lt p.r (mkLen 60 A)) = some true) :
    (∃ vs, denL Φ ρ μ (extCells A p.r p.j ((ks.drop p.j).take n)) = some vs ∧ vs.length = n ∧ ∀ (j : Nat) (v : Value), vs[j]? = some v → w.cell? (addr.add j) = some v) ∧
    holds Φ ρ (extFacts pc A p.r p.j ((ks.drop p.j).take n)) := by
  obtain ⟨hst, hok, hc⟩ := hR
  have hlt := known_ok Φ ρ hp _ _ h2
  simp at hlt
  unfold denPt at ha
  rw [hl] at ha
  simp only at ha
  split at ha
  case isFalse => cases ha
  rename_i h0
  simp at ha; subst ha
  have hrl : (p.r.ev Φ ρ).toNat < (A.ev Φ ρ).length := by omega
  have hrow : (A.ev Φ ρ)[(p.r.ev Φ ρ).toNat]? = some ((A.ev Φ ρ).getD (p.r.ev Φ ρ).toNat []) := by simp [List.getD, List.getElem?_eq_getElem hrl]
  generalize hg : (A.ev Φ ρ).getD (p.r.ev Φ ρ).toNat [] = row at *
  have hrk : okRow ks row := hok row (List.mem_of_getElem? hrow)
  refine ⟨⟨_, denL_ext hg p.j _, by simp; omega, fun j v hv => ?_⟩, facts_ok hg p.j _ fun i k hk => ?_⟩
  · simp only [List.getElem?_map, Option.map_eq_some_iff] at hv
    obtain ⟨⟨k, i⟩, hki, rfl⟩ := hv
    rw [List.getElem?_zipIdx] at hki
    simp only [Option.map_eq_some_iff, Prod.mk.injEq] at hki
    obtain ⟨k', hk', rfl, rfl⟩ := hki
    rw [List.getElem?_take] at hk'
    split at hk'
    · rw [List.getElem?_drop] at hk'
      rw [add_eq _ rfl]
      have hjl : p.j + j < ks.length := (List.getElem?_eq_some_iff.1 hk').1
      have h3 := flat_get hok hrow hjl
      rw [(rowVals_get hrk (p.j + j) k' hk').1] at h3
      have := hc _ _ h3
      simp only [Nat.zero_add]
      rw [hst, show l.base + (p.r.ev Φ ρ).toNat * ks.length + p.j + j = l.base + ((p.r.ev Φ ρ).toNat * ks.length + (p.j + j)) by omega]
      exact this
    · cases hk'
  · rw [List.getElem?_take] at hk
    split at hk
    · rw [List.getElem?_drop] at hk
      exact (rowVals_get hrk (p.j + i) k hk).2
    · cases hk

theorem constE_ok : ∀ {pc : List SB} (e : SI), holds Φ ρ pc → (constE pc e).ev Φ ρ = e.ev Φ ρ
  | [], e, _ => rfl
  | f :: r, e, h => by
    have ih := constE_ok (pc := r) e fun x hx => h x (List.mem_cons_of_mem _ hx)
    have h0 := h f (List.mem_cons_self ..)
    unfold constE
    split
    · cases ‹_ :: _ = []›
    · rename_i x n r' he
      simp only [List.cons.injEq] at he
      obtain ⟨rfl, rfl⟩ := he
      split
      · rename_i hs
        rw [evB_eq, ev_c, decide_eq_true_eq] at h0
        rw [ev_c, ← SI.same_eq _ _ hs, h0]
      · exact ih
    · rename_i r' _ he
      simp only [List.cons.injEq] at he
      obtain ⟨rfl, rfl⟩ := he
      exact ih
theorem denL_W {A : SL} {r : SI} (hp : holds Φ ρ pc) (h0 : 0 ≤ r.ev Φ ρ) (h1 : (r.ev Φ ρ).toNat < (A.ev Φ ρ).length) : ∀ (j : Nat) (ks : List CK), j + ks.length ≤ ((A.ev Φ ρ).getD (r.ev Φ ρ).toNat []).length →
    denL Φ ρ μ (extW pc A r j ks) = denL Φ ρ μ (extCells A r j ks)
  | j, [], _ => rfl
  | j, k :: ks, h => by
    have h' : j + (ks.length + 1) ≤ ((A.ev Φ ρ).getD (r.ev Φ ρ).toNat []).length := h
    have ih := denL_W hp h0 h1 (j + 1) ks (by omega)
    have e := (constE_ok (mkSelW 60 A r j) hp).trans (ev_mkSelW Φ ρ 60 A r j h0 h1 (by omega))
    have e1 : denC Φ ρ μ (ckW pc k A r j) = denC Φ ρ μ (ckC k A r j) := by
      rw [ck_ok rfl]
      cases k with
      | i k =>
        show some (Value.int k ((constE pc (mkSelW 60 A r j)).ev Φ ρ)) = _
        rw [e]; rfl
      | b =>
        show some (Value.bool ((mkNot (mkEq (constE pc (mkSelW 60 A r j)) (SI.c 0))).ev Φ ρ)) = _
        rw [evB_mkNot, evB_mkEq, e, ev_c]
        simp only [ckVal, ne_eq, decide_not]
      | cd k =>
        show some (qVal k ((constE pc (mkSelW 60 A r j)).ev Φ ρ)) = _
        rw [e]; rfl
    simp only [extW, extCells, denL, ih, e1]
theorem rows_loadW (hp : holds Φ ρ pc) {l : Loc} {ks : List CK} {A : SL} {p : Pt} {n : Nat} {addr : Addr} (hR : RowsAt w l ks (A.ev Φ ρ)) (hl : μ[p.id]? = some l) (ha : denPt Φ ρ μ p = some addr)
    (h1 : p.j + n ≤ ks.length) (h2 : known pc (.lt p.r (mkLen 60 A)) = some true) :
    (∃ vs, denL Φ ρ μ (extW pc A p.r p.j ((ks.drop p.j).take n)) = some vs ∧ vs.length = n ∧ ∀ (j : Nat) (v : Value), vs[j]? = some v → w.cell? (addr.add j) = some v) ∧
    holds Φ ρ (extFacts pc A p.r p.j ((ks.drop p.j).take n)) := by
  have hlt := known_ok Φ ρ hp _ _ h2
  simp at hlt
  have h0 : 0 ≤ p.r.ev Φ ρ := by
    unfold denPt at ha
    rw [hl] at ha
    simp only at ha
    split at ha
    · assumption
    · cases ha
  have hrl : (p.r.ev Φ ρ).toNat < (A.ev Φ ρ).length := by omega
  have hrow : (A.ev Φ ρ)[(p.r.ev Φ ρ).toNat]? = some ((A.ev Φ ρ).getD (p.r.ev Φ ρ).toNat []) := by simp [List.getD, List.getElem?_eq_getElem hrl]
  have hlen := okRow_len (hR.2.1 _ (List.mem_of_getElem? hrow))
  rw [denL_W hp h0 hrl _ _ (by rw [hlen, List.length_take, List.length_drop]; omega)]
  exact rows_load hp hR hl ha h1 h2
theorem cellsAt_ok (hM : MRel Φ ρ μ B s.m w) (hp : holds Φ ρ pc) {p : Pt} {n : Nat} {cs : List CV} {fs : List SB} {addr : Addr} (h : cellsAt s pc p n = some (cs, fs)) (ha : denPt Φ ρ μ p = some addr) :
    (∃ vs, denL Φ ρ μ cs = some vs ∧ vs.length = n ∧ ∀ (j : Nat) (v : Value), vs[j]? = some v → w.cell? (addr.add j) = some v) ∧ holds Φ ρ fs := by
  unfold cellsAt at h
  split at h
  · rename_i cs' ty ho
    split at h
    · rename_i hr
      split at h
      · rename_i hle
        simp only [Option.some.injEq, Prod.mk.injEq] at h
        obtain ⟨rfl, rfl⟩ := h
        obtain ⟨l, hl⟩ := obj_loc hM ho
        obtain ⟨hb, hst, _, vs, hv, hh⟩ := hM.obj p.id _ l ho hl
        have := denPt_cells ha hl hb hst
        subst this
        refine ⟨⟨_, denL_take _ (denL_drop _ hv), ?_, fun j v hv' => ?_⟩, holds_nil Φ ρ⟩
        · have := denL_length hv; simp; omega
        · rw [List.getElem?_take] at hv'
          split at hv'
          · rw [List.getElem?_drop] at hv'
            rw [add_eq _ rfl, cell_of_cells hh]; exact hv'
          · cases hv'
      · cases h
    · cases h
  · rename_i A ks ho
    split at h
    · rename_i hc
      simp only [Option.some.injEq, Prod.mk.injEq] at h
      obtain ⟨rfl, rfl⟩ := h
      obtain ⟨l, hl⟩ := obj_loc hM ho
      exact rows_load hp (rowsAt_ext (hM.obj p.id _ l ho hl)) hl ha hc.1 hc.2
    · cases h
  · rename_i ks ty A ho
    split at h
    · rename_i hc
      simp only [Option.some.injEq, Prod.mk.injEq] at h
      obtain ⟨rfl, rfl⟩ := h
      obtain ⟨l, hl⟩ := obj_loc hM ho
      exact rows_loadW hp (rowsAt_vec (hM.obj p.id _ l ho hl)) hl ha hc.1 hc.2
    · cases h
  · cases h

theorem load_ok (hM : MRel Φ ρ μ B s.m w) (hp : holds Φ ρ pc) {t : TypeId} {x v : AV} {fs : List SB} {vx : Value} (h : loadOp P s pc t x = some (v, fs)) (hx : den Φ ρ μ x = some vx) :
    holds Φ ρ fs ∧ ∃ u, den Φ ρ μ v = some u ∧ (Instr.loadAt t vx).run P w = .ok u w := by
  unfold loadOp at h
  split at h
  case h_2 => cases h
  rename_i p n ag hn ha
  obtain ⟨addr, haddr, rfl⟩ := den_ptr hx
  split at h
  · rename_i cs fs' hcs
    obtain ⟨⟨vs, hv, hlen, hc⟩, hf⟩ := cellsAt_ok hM hp hcs haddr
    simp at h; obtain ⟨rfl, rfl⟩ := h
    exact ⟨hf, _, by simp only [den, hv]; rfl, (run_loadAt hn ha hlen hc).1 rfl⟩
  · rename_i c fs' hcs
    obtain ⟨⟨vs, hv, hlen, hc⟩, hf⟩ := cellsAt_ok hM hp hcs haddr
    simp at h; obtain ⟨rfl, rfl⟩ := h
    simp only [denL] at hv
    cases h1 : denC Φ ρ μ c with
    | none => rw [h1] at hv; cases hv
    | some u =>
      rw [h1] at hv; simp at hv; subst hv
      exact ⟨hf, u, h1, (run_loadAt hn ha hlen hc).2 u rfl rfl⟩
  · cases h
end
end Go.SF
namespace Go.SF
set_option linter.unusedVariables false
set_option linter.unusedSimpArgs false

section
variable {Φ : Sig} {ρ : Env} {μ : List Loc} {P : Program} {B : Base} {w : World} {s : St} {a : Act} {pc : List SB}

theorem denL_one : ∀ {cs : List CV} {vs : List Value}, denL Φ ρ μ cs = some vs → ∀ v ∈ vs, v.oneCell' = true
  | [], vs, h => by simp [denL] at h; subst h; simp
  | c :: cs, vs, h => by
    simp only [denL] at h
    cases h1 : denC Φ ρ μ c with
    | none => rw [h1] at h; cases h
    | some u =>
      cases h2 : denL Φ ρ μ cs with
      | none => rw [h1, h2] at h; cases h
      | some us =>
        rw [h1, h2] at h; simp at h; subst h
        intro v hv
        rcases List.mem_cons.1 hv with rfl | hv
        · exact denC_one h1
        · exact denL_one h2 v hv

theorem setCells_ok (hM : MRel Φ ρ μ B s.m w) {t : TypeId} {p : Pt} {n : Nat} {y : AV} {addr : Addr} {vy : Value} {cs : List CV} {ty : TypeId} (hn : tySize P t = some n) (hnt : ∀ vs, y ≠ .tup vs)
    (ho : s.m.o[p.id]? = some (.cells cs ty)) (hlen : y.cells.length = n) (hle : p.j + n ≤ cs.length) (haddr : denPt Φ ρ μ p = some addr) (hy : den Φ ρ μ y = some vy) :
    ∃ w', (Instr.storeAt t (.pointer (some addr)) vy).run P w = .ok () w' ∧ MRel Φ ρ μ B { s.m with o := s.m.o.set p.id (.cells (putCells cs p.j y.cells) ty), wr := p.id :: s.m.wr } w' := by
  obtain ⟨l, hl⟩ := obj_loc hM ho
  obtain ⟨hb, hst, _, vs, hv, hh⟩ := hM.obj p.id _ l ho hl
  have := denPt_cells haddr hl hb hst
  subst this
  have hc := den_cells hy hnt
  have hcl := denL_length hc
  have hvl := denL_length hv
  refine ⟨_, ?_, MRel.setCells hM ho hl (denL_put p.j (by omega) hv hc)⟩
  simp only [Instr.storeAt, Instr.sureAddr, storeVar, Sem.run_bind, Sem.run_pure, Result.andThen_ok, run_sizeOf' hn]
  have e1 : vy.cells.size = n := by have : vy.cells.toList.length = vy.cells.size := rfl; omega
  simp only [e1, ne_eq, not_true_eq_false, if_false]
  have := run_storeCells_at (P := P) l.blk p.j ty vy.cells.toList 0 vs.toArray w hh (by simp; rw [show vy.cells.size = vy.cells.toList.length from rfl]; omega) (denL_one hc)
  simpa using this

theorem zero_ok {t : TypeId} {z : AV} (h : tyZero P t = some z) (w : World) : ∃ v, den Φ ρ μ z = some v ∧ (zeroValue t).run P w = .ok v w ∧ ∀ vs, z ≠ .tup vs := by
  unfold tyZero at h
  simp only [Option.bind_eq_some_iff] at h
  obtain ⟨v, ⟨i, hi, hz⟩, hv⟩ := h
  refine ⟨v, absV_ok hv, ?_, absV_noTup hv⟩
  simp only [zeroValue, Sem.run_bind, run_typeInfo w hi, Result.andThen_ok, hz, Sem.run_pure]

theorem new_ok (hM : MRel Φ ρ μ B s.m w) {t : TypeId} {z : AV} {v : Value} (hz : den Φ ρ μ z = some v) (hnt : ∀ vs, z ≠ .tup vs) :
    ∃ ν w' x, (newVar t v).run P w = .ok x w' ∧ den Φ ρ (μ ++ ν) (.cv (.p (some ⟨s.m.o.length, .c 0, 0⟩))) = some (.pointer (some x)) ∧ MRel Φ ρ (μ ++ ν) B (s.m.new (.cells z.cells t)).2 w' := by
  have hc := den_cells hz hnt
  refine ⟨[⟨w.heap.size, 0, 0, 0, false, [w.heap.size]⟩], w.alloc (.cells v.cells t), ⟨w.heap.size, 0, none⟩, ?_, ?_, ?_⟩
  · simp only [newVar, newRow, newObj, Sem.run_bind]
    rfl
  · have : (μ ++ [(⟨w.heap.size, 0, 0, 0, false, [w.heap.size]⟩ : Loc)])[s.m.o.length]? = some ⟨w.heap.size, 0, 0, 0, false, [w.heap.size]⟩ := by
      rw [← hM.len, List.getElem?_append_right (Nat.le_refl _)]; simp
    simp [den, denC, denPt, this]
  · have := MRel.newCells hM z.cells v.cells.toList t hc
    simpa using this

theorem fieldAddr_ok {t : TypeId} {x v : AV} {vx : Value} {i : Nat} (h : fieldAddr P t x i = some v) (hx : den Φ ρ μ x = some vx) :
    ∃ u, den Φ ρ μ v = some u ∧ (Instr.fieldAt t vx i).run P w = .ok u w := by
  unfold fieldAddr at h
  split at h
  · rename_i fs p hu
    obtain ⟨addr, haddr, rfl⟩ := den_ptr hx
    split at h
    · rename_i f hf
      split at h
      · rename_i n hn
        split at h
        · cases h
        · rename_i hn0
          simp at h; subst h
          refine ⟨.pointer (some (addr.add f.offset)), ?_, ?_⟩
          · unfold denPt at haddr
            simp only [den, denC, denPt]
            cases hl : μ[p.id]? with
            | none => rw [hl] at haddr; cases haddr
            | some l =>
              rw [hl] at haddr
              simp only at haddr ⊢
              split at haddr
              · rename_i h0
                simp at haddr; subst haddr
                rw [if_pos h0, add_eq _ rfl]
                simp [Nat.add_assoc]
              · cases haddr
          · simp [Instr.fieldAt, run_underlying hu, hf, Instr.sureAddr, fieldPlace, run_sizeOf' hn, hn0, Sem.run_bind, Sem.run_ite]
      · cases h
    · cases h
  · cases h

theorem len_ok {t : TypeId} {x v : AV} {vx : Value} (ty : TypeId) (h : lenOf P t x = some v) (hx : den Φ ρ μ x = some vx) :
    ∃ u, den Φ ρ μ v = some u ∧ (Builtin.len_ #[t] ty #[vx]).run P w = .ok u w := by
  unfold lenOf at h
  split at h
  · rename_i e len cap hu
    simp at h; subst h
    simp only [den, denC] at hx
    split at hx
    · rename_i h0
      simp at hx; subst hx
      exact ⟨_, rfl, by simp [Builtin.len_, run_underlying hu, goInt]⟩
    · cases hx
  · rename_i e q len cap hu
    simp at h; subst h
    simp only [den, denC] at hx
    split at hx
    · rename_i h0
      simp only [Option.map_eq_some_iff] at hx
      obtain ⟨q, _, rfl⟩ := hx
      refine ⟨_, rfl, ?_⟩
      simp [Builtin.len_, run_underlying hu, goInt]
      omega
    · cases hx
  · rename_i e id lo len cap hu
    simp at h; subst h
    simp only [den, denC] at hx
    split at hx
    · cases hx
    · split at hx
      · rename_i l hl h0
        simp at hx; subst hx
        refine ⟨_, rfl, ?_⟩
        unfold vsVal
        split
        · rename_i hnl
          have : len.ev Φ ρ = 0 := by have := h0.2.2.2.2 hnl; omega
          simp [Builtin.len_, run_underlying hu, goInt, this]
        · simp [Builtin.len_, run_underlying hu, goInt]
          omega
      · cases hx
  · rename_i b hu
    simp at h; subst h
    simp [den, denC] at hx; subst hx
    refine ⟨_, rfl, ?_⟩
    simp only [qVal, ev_mkLenS, lenS]
    generalize strB (b.ev Φ ρ) = l
    have e : (ByteArray.mk l.toArray).size = l.length := by show l.toArray.size = _; simp
    simp [Builtin.len_, run_underlying hu, goInt, e]
  · cases h
end
end Go.SF
namespace Go.SF
set_option linter.unusedVariables false
set_option linter.unusedSimpArgs false

section
variable {Φ : Sig} {ρ : Env} {μ : List Loc} {P : Program} {B : Base} {w : World} {s : St} {a : Act} {pc : List SB}

theorem denL_set {cs : List CV} {vs : List Value} {d : CV} {u : Value} (i : Nat) (h : denL Φ ρ μ cs = some vs) (hd : denC Φ ρ μ d = some u) : denL Φ ρ μ (cs.set i d) = some (vs.set i u) := by
  rw [denL_iff] at h ⊢
  refine ⟨by simp [h.1], fun j c v hc hv => ?_⟩
  by_cases e : i = j
  · subst e
    have hi : i < cs.length := by have := (List.getElem?_eq_some_iff.1 hc).1; simpa using this
    rw [List.getElem?_set_self hi] at hc
    rw [List.getElem?_set_self (by rw [h.1]; exact hi)] at hv
    simp at hc hv; subst hc hv; exact hd
  · rw [List.getElem?_set_ne e] at hc hv
    exact h.2 j c v hc hv

theorem fold_ok (off : Nat) : ∀ (ds : List CV) (us : List Value) (k : Nat) (cs : List CV) (cells : Array Value), denL Φ ρ μ ds = some us → denL Φ ρ μ cs = some cells.toList →
    denL Φ ρ μ (putCells cs (off + k) ds) = some ((us.zipIdx k).foldl (fun (c : Array Value) (x : Value × Nat) => c.setIfInBounds (off + x.2) x.1) cells).toList
  | [], us, k, cs, cells, hd, hc => by simp [denL] at hd; subst hd; simpa [putCells] using hc
  | d :: ds, us, k, cs, cells, hd, hc => by
    simp only [denL] at hd
    cases h1 : denC Φ ρ μ d with
    | none => rw [h1] at hd; cases hd
    | some u =>
      cases h2 : denL Φ ρ μ ds with
      | none => rw [h1, h2] at hd; cases hd
      | some us' =>
        rw [h1, h2] at hd; simp at hd; subst hd
        simp only [putCells, List.zipIdx_cons, List.foldl_cons]
        exact fold_ok off ds us' (k + 1) (cs.set (off + k) d) _ h2 (by simpa using denL_set (off + k) hc h1)

theorem fill_ok (place : Nat → Option (Nat × Nat)) : ∀ (vs : List (Nat × AV)) (xs : List (Nat × Value)) (cs cs' : List CV) (cells : Array Value),
    fillAt place cs vs = some cs' → vs.length = xs.length → (∀ (j : Nat) (i i' : Nat) (v : AV) (x : Value), vs[j]? = some (i, v) → xs[j]? = some (i', x) → i = i' ∧ den Φ ρ μ v = some x) → denL Φ ρ μ cs = some cells.toList →
    ∃ cells', Instr.fill place cells xs = some cells' ∧ denL Φ ρ μ cs' = some cells'.toList
  | [], [], cs, cs', cells, h, _, _, hc => by simp [fillAt] at h; subst h; exact ⟨cells, rfl, hc⟩
  | [], x :: xs, _, _, _, _, hl, _, _ => by simp at hl
  | v :: vs, [], _, _, _, _, hl, _, _ => by simp at hl
  | (i, v) :: vs, (i', x) :: xs, cs, cs', cells, h, hl, hr, hc => by
    obtain ⟨rfl, hv⟩ := hr 0 i i' v x (by simp) (by simp)
    simp only [fillAt] at h
    split at h
    · cases h
    · rename_i v xx vv off size hpl hnt
      split at h
      · rename_i hcond
        simp only [Bool.and_eq_true, decide_eq_true_eq] at hcond
        have hcells := den_cells hv (fun vs e => hnt vs e)
        have hlen := denL_length hcells
        have hcl := denL_length hc
        have e1 : x.cells.size = v.cells.length := hlen
        have e2 : cells.size = cs.length := hcl
        simp only [Instr.fill, hpl]
        rw [if_neg (by simp [e1, e2]; omega)]
        have hstep := fold_ok (Φ := Φ) (ρ := ρ) (μ := μ) off v.cells x.cells.toList 0 cs cells hcells hc
        have e3 : (x.cells.zipIdx.foldl (fun (cs : Array Value) (p : Value × Nat) => cs.setIfInBounds (off + p.2) p.1) cells) = (x.cells.toList.zipIdx 0).foldl (fun (c : Array Value) (x : Value × Nat) => c.setIfInBounds (off + x.2) x.1) cells := by
          rw [← Array.foldl_toList, Array.toList_zipIdx]
        obtain ⟨cells', hf, hd⟩ := fill_ok place vs xs (putCells cs off v.cells) cs' (x.cells.zipIdx.foldl (fun (cs : Array Value) (p : Value × Nat) => cs.setIfInBounds (off + p.2) p.1) cells) h (by simpa using hl)
          (fun j i i' v x h1 h2 => hr (j + 1) i i' v x (by simpa using h1) (by simpa using h2)) (by rw [e3]; simpa using hstep)
        exact ⟨cells', hf, hd⟩
      · cases h
    · cases h

theorem operands_ok (hT : TRel Φ ρ μ s.n s.t a) : ∀ {ps : List (Nat × Operand)} {vs : List (Nat × AV)}, operands s ps = some vs →
    vs.length = ps.length ∧ ∀ (j : Nat) (i : Nat) (v : AV) (x : Nat × Operand), vs[j]? = some (i, v) → ps[j]? = some x → i = x.1 ∧ den Φ ρ μ v = some (a.eval x.2)
  | [], vs, h => by simp [operands] at h; subst h; simp
  | (i, x) :: ps, vs, h => by
    simp only [operands] at h
    cases h1 : opnd s x with
    | none => rw [h1] at h; cases h
    | some v =>
      cases h2 : operands s ps with
      | none => rw [h1, h2] at h; cases h
      | some us =>
        rw [h1, h2] at h; simp at h; subst h
        obtain ⟨hl, hr⟩ := operands_ok hT h2
        refine ⟨by simp [hl], fun j k v' y hv hy => ?_⟩
        cases j with
        | zero => simp at hv hy; obtain ⟨rfl, rfl⟩ := hv; subst hy; exact ⟨rfl, opnd_ok hT h1⟩
        | succ j => exact hr j k v' y (by simpa using hv) (by simpa using hy)

theorem places_ok : ∀ {fs : List Field} {ps : List (Nat × Nat)}, placesOf P fs = some ps → fs.mapM (fun f => (P.info? f.type).map fun i => (f.offset, i.size)) = some ps
  | [], ps, h => by simp [placesOf] at h; subst h; rfl
  | f :: fs, ps, h => by
    simp only [placesOf] at h
    cases h1 : tySize P f.type with
    | none => rw [h1] at h; cases h
    | some n =>
      cases h2 : placesOf P fs with
      | none => rw [h1, h2] at h; cases h
      | some qs =>
        rw [h1, h2] at h; simp at h; subst h
        unfold tySize at h1
        simp only [Option.map_eq_some_iff] at h1
        obtain ⟨i, hi, rfl⟩ := h1
        simp [List.mapM_cons, hi, places_ok h2]

theorem build_ok (hT : TRel Φ ρ μ s.n s.t a) {t : TypeId} {parts : Array (Nat × Operand)} {v : AV} (h : buildOp P s t parts.toList = some v) :
    ∃ u, den Φ ρ μ v = some u ∧ (Instr.build t (parts.map fun (i, x) => (i, a.eval x))).run P w = .ok u w := by
  have key : ∀ (z : AV) (vs : List (Nat × AV)) (place : Nat → Option (Nat × Nat)) (cs' : List CV) (zv : Value), operands s parts.toList = some vs → den Φ ρ μ z = some zv → (∀ us, z ≠ .tup us) → fillAt place z.cells vs = some cs' →
      ∃ cells', Instr.fill place zv.cells (parts.map fun (i, x) => (i, a.eval x)).toList = some cells' ∧ denL Φ ρ μ cs' = some cells'.toList := by
    intro z vs place cs' zv ho hz hnt hf
    obtain ⟨hl, hr⟩ := operands_ok hT ho
    refine fill_ok place vs _ z.cells cs' zv.cells hf (by simp [hl]) ?_ (den_cells hz hnt)
    intro j i i' v x h1 h2
    simp only [Array.toList_map, List.getElem?_map, Option.map_eq_some_iff] at h2
    obtain ⟨y, hy, he⟩ := h2
    obtain ⟨e1, e2⟩ := hr j i v y h1 hy
    simp at he
    exact ⟨by rw [e1, he.1], by rw [e2, he.2]⟩
  unfold buildOp at h
  split at h
  · rename_i z vs fs hz ho hu
    split at h
    · rename_i ps hps
      simp only [Option.map_eq_some_iff] at h
      obtain ⟨cs', hf, rfl⟩ := h
      obtain ⟨zv, hzv, _, hnt⟩ := zero_ok (Φ := Φ) (ρ := ρ) (μ := μ) hz w
      unfold tyZero at hz
      simp only [Option.bind_eq_some_iff] at hz
      obtain ⟨zv', ⟨i, hi, hiz⟩, hzz⟩ := hz
      have : zv = zv' := by have := absV_ok (Φ := Φ) (ρ := ρ) (μ := μ) hzz; rw [hzv] at this; simpa using this
      subst this
      obtain ⟨cells', hfill, hd⟩ := key z vs _ cs' zv ho hzv hnt hf
      refine ⟨.agg cells', by simp [den, hd], run_build w t _ cells' ?_⟩
      simp only [Program.built, hi, hu, hiz, places_ok hps]
      simpa using hfill
    · cases h
  · rename_i z vs m e hz ho hu
    split at h
    · rename_i n hn
      simp only [Option.map_eq_some_iff] at h
      obtain ⟨cs', hf, rfl⟩ := h
      obtain ⟨zv, hzv, _, hnt⟩ := zero_ok (Φ := Φ) (ρ := ρ) (μ := μ) hz w
      unfold tyZero at hz
      simp only [Option.bind_eq_some_iff] at hz
      obtain ⟨zv', ⟨i, hi, hiz⟩, hzz⟩ := hz
      have : zv = zv' := by have := absV_ok (Φ := Φ) (ρ := ρ) (μ := μ) hzz; rw [hzv] at this; simpa using this
      subst this
      unfold tySize at hn
      simp only [Option.map_eq_some_iff] at hn
      obtain ⟨ie, hie, rfl⟩ := hn
      obtain ⟨cells', hfill, hd⟩ := key z vs _ cs' zv ho hzv hnt hf
      refine ⟨.agg cells', by simp [den, hd], run_build w t _ cells' ?_⟩
      simp only [Program.built, hi, hu, hiz, hie]
      exact hfill
    · cases h
  · cases h
end
end Go.SF
