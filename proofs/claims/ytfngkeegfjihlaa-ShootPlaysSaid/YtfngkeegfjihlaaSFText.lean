/- Texts: a byte of one, a part of one, one out of bytes, one gone through; parts of arrays; an array's cell; a map's entry laid. -/
import Derived.Test.YtfngkeegfjihlaaSFChan
import Derived.Laws.RangeAny
import Derived.Laws.RangeString
import Derived.Laws.IdiomStrings
namespace Go.SF
set_option linter.unusedVariables false
set_option linter.unusedSimpArgs false

/-- The bytes of cells. -/
def bytesOf : List CV → Option (List SI)
  | [] => some []
  | .i .u8 x :: r => (bytesOf r).map (x :: ·)
  | _ => none
def mkOfB (xs : List SI) : SI := match SA.lits (saI xs) with
  | some q => .c (stdI 7 q)
  | none => .app 7 (saI xs)
/-- One that goes through a text: the text, and where it is. -/
def sitOf : SL → Option (SI × SI)
  | .app 3 (.i a (.i p .nil)) => some (a, p)
  | .lit [[a, p]] => some (.c a, .c p)
  | _ => none
/-- What is known of a part's length. -/
def subFacts (a lo hi : SI) : List SB := match mkSubS a lo hi with
  | .c _ => []
  | e => [.eq (mkLenS 9 e) (mkSub hi lo)]
/-- A text's part, or an array's. -/
def partOp (P : Program) (s : St) (pc : List SB) (t : TypeId) (x : AV) (lo hi : Option SI) : Outs :=
  match P.underlying t, x with
  | some .string, .cv (.cd .str a) =>
    some ((ways pc (mkAnd (mkLe (.c 0) ((hi.getD (mkLenS 9 a)))) (mkLe (hi.getD (mkLenS 9 a)) (mkLenS 9 a)))).flatMap fun y => if y.1 then
        (ways y.2 (mkAnd (mkLe (.c 0) (lo.getD (.c 0))) (mkLe (lo.getD (.c 0)) (hi.getD (mkLenS 9 a))))).map fun u =>
          if u.1 then (subFacts a (lo.getD (.c 0)) (hi.getD (mkLenS 9 a)) ++ u.2, some (.cv (.cd .str (mkSubS a (lo.getD (.c 0)) (hi.getD (mkLenS 9 a)))), s.m)) else (u.2, none)
      else [(y.2, none)])
  | some (.array n e), .cv (.p (some p)) => match lo, hi, tySize P e with
    | none, some h, some _ => some ((ways pc (mkAnd (mkLe (.c 0) h) (mkLe h (.c n)))).flatMap fun y => if y.1 then
        (idxs h (n + 1) 0 y.2).map fun z => (z.1, some (.cv (.sl (some p) (.c z.2) (.c n)), s.m)) else [(y.2, none)])
    | none, none, some _ => some [(pc, some (.cv (.sl (some p) (.c n) (.c n)), s.m))]
    | _, _, _ => none
  | _, _ => none
def textOp (P : Program) (s : St) (pc : List SB) (o : Op) : Outs :=
  match o with
  | .index t x i => match P.underlying t, opnd s x, opnd s i with
    | some .string, some (.cv (.cd .str a)), some (.cv (.i _ n)) =>
      some ((ways pc (mkAnd (mkLe (.c 0) n) (mkLt n (mkLenS 9 a)))).map fun y => (y.2, if y.1 then some (.cv (.i .u8 (mkAtS a n)), s.m) else none))
    | some (.array len e), some (.agg cs), some (.cv (.i _ (.c (.ofNat n)))) => match tySize P e, tyAgg P e, cs[n]? with
      | some sz, some false, some c => if Nat.beq sz 1 && Nat.blt n len then some [(pc, some (.cv c, s.m))] else none
      | _, _, _ => none
    | _, _, _ => none
  | .slice t x lo hi none => match opnd s x, optI s lo, optI s hi with
    | some x, some lo, some hi => partOp P s pc t x lo hi
    | _, _, _ => none
  | .convert src dst x => match P.underlying src, P.underlying dst, opnd s x with
    | some (.slice e), some .string, some (.cv (.sl (some p) (.c (.ofNat n)) _)) => match P.underlying e, s.m.o[p.id]?, p.r with
      | some (.int .u8), some (.cells cs _), .c 0 => match bytesOf ((cs.drop p.j).take n) with
        | some xs => if Nat.ble (p.j + n) cs.length && Nat.blt 0 n then some [(pc, some (.cv (.cd .str (mkOfB xs)), s.m))] else none
        | none => none
      | _, _, _ => none
    | _, _, _ => none
  | .range t x => match P.underlying t, opnd s x with
    | some .string, some (.cv (.cd .str a)) => some [(pc, some (.cv (.p (some ⟨s.m.o.length, .c 0, 0⟩)), (s.m.new (.abs .sit (.app 3 (.i a (.i (.c 0) .nil))))).2))]
    | _, _ => none
  | .insert t x k v => match opnd s x, opnd s k, opnd s v with
    | some x, some k, some v => (updateOp P s pc t x k v).map fun l => l.map fun y => (y.1, some (undefV, y.2))
    | _, _, _ => none
  | _ => none
/-- The next letter of a text: where it is, what it is. -/
def nextS (s : St) (pc : List SB) (x : AV) : Outs :=
  match x with
  | .cv (.p (some p)) => match s.m.o[p.id]?, p.r with
    | some (.abs .sit A), .c 0 => match sitOf A with
      | some (a, q) =>
        if Nat.beq p.j 0 && (Nat.ble 1000 s.m.nx && (s.m.bl s.m.nx && pc.all (SB.bl s.m.nx))) then
          some ((ways pc (mkLt q (mkLenS 9 a))).flatMap fun y => if y.1 then
              (ways y.2 (mkLt (mkAtS a q) (.c 128))).map fun u => if u.1 then
                  (u.2, some (.tup [.inl (.b (.c true)), .inl (.i .i64 q), .inl (.i .i32 (mkAtS a q))], { s.m with o := s.m.o.set p.id (.abs .sit (.app 3 (.i a (.i (mkAdd q (.c 1)) .nil)))), wr := p.id :: s.m.wr }))
                else (.le (.c 128) (.v s.m.nx) :: .lt q (.v (s.m.nx + 1)) :: u.2, some (.tup [.inl (.b (.c true)), .inl (.i .i64 q), .inl (.i .i32 (.v s.m.nx))],
                  { o := s.m.o.set p.id (.abs .sit (.app 3 (.i a (.i (.v (s.m.nx + 1)) .nil)))), wr := p.id :: s.m.wr, nx := s.m.nx + 2 }))
            else [(y.2, some (.tup [.inl (.b (.c false))], s.m))])
        else none
      | none => none
    | _, _ => none
  | _ => none

section
variable {Φ : Sig} {ρ : Env} {μ : List Loc} {P : Program} {B : Base} {w : World} {s : St} {a : Act} {pc : List SB}
theorem bytes_ok : ∀ {cs : List CV} {xs : List SI} {vs : List Value}, bytesOf cs = some xs → denL Φ ρ μ cs = some vs → vs = (xs.map (·.ev Φ ρ)).map (Value.int .u8)
  | [], xs, vs, h, hd => by simp [bytesOf] at h; subst h; simp [denL] at hd; subst hd; rfl
  | c :: cs, xs, vs, h, hd => by
    unfold bytesOf at h
    split at h
    · rename_i e; cases e
    · rename_i x r e
      cases e
      simp only [Option.map_eq_some_iff] at h
      obtain ⟨ys, hy, rfl⟩ := h
      simp only [denL, denC] at hd
      split at hd
      · rename_i v us h1 h2
        simp at hd h1; subst hd; subst h1
        rw [bytes_ok hy h2]; rfl
      · cases hd
    · cases h
theorem ev_mkOfB (xs : List SI) : (mkOfB xs).ev Φ ρ = ofB (xs.map (·.ev Φ ρ)) := by
  unfold mkOfB
  split
  · rename_i q hq
    have := lits_ok Φ ρ hq
    have e := ev_saI Φ ρ xs
    rw [this] at e
    simp [stdI, e]
  · simp [ev_app, appI_std, stdI, ev_saI]
theorem sit_ok {A : SL} {a q : SI} (h : sitOf A = some (a, q)) : A.ev Φ ρ = [[a.ev Φ ρ, q.ev Φ ρ]] := by
  unfold sitOf at h
  split at h
  · simp at h; obtain ⟨rfl, rfl⟩ := h
    rw [evL_app, appL_std Φ (by omega)]
    simp [stdL, ints]
  · simp at h; obtain ⟨rfl, rfl⟩ := h
    simp
  · cases h
theorem str_size (n : Int) : ((ByteArray.mk (strB n).toArray).size : Int) = lenS n := by
  show ((strB n).toArray.size : Int) = _
  simp [lenS]
theorem ba_get (l : List UInt8) (i : Nat) (h : i < (ByteArray.mk l.toArray).size) : (ByteArray.mk l.toArray)[i]'h = l.getD i 0 := by
  have e : (ByteArray.mk l.toArray).size = l.length := by show l.toArray.size = _; simp
  have h' : i < l.length := by omega
  show l.toArray[i]'(by simpa using h') = _
  simp [List.getD_eq_getElem?_getD, h']
theorem str_at {n i : Int} (h2 : i.toNat < (ByteArray.mk (strB n).toArray).size) : (((ByteArray.mk (strB n).toArray)[i.toNat]'h2).toNat : Int) = atS n i := by
  rw [ba_get]; rfl
theorem str_ext (n : Int) (l h : Nat) : (ByteArray.mk (strB n).toArray).extract l h = ByteArray.mk (((strB n).take h).drop l).toArray := by
  apply ByteArray.ext
  rw [ByteArray.data_extract]
  simp only [List.extract_toArray, List.extract_eq_take_drop]
  rw [List.take_drop]
  by_cases h' : l ≤ h
  · rw [show l + (h - l) = h by omega]
  · rw [show l + (h - l) = l by omega, List.drop_of_length_le (by rw [List.length_take]; omega), List.drop_of_length_le (by rw [List.length_take]; omega)]
/-! ### what they do -/
def TextGood (Φ : Sig) (ρ : Env) (μ : List Loc) (P : Program) (B : Base) (s : St) (w : World) (a : Act) (o : Oper) (outs : List (List SB × Option (AV × Mem))) : Prop :=
  (∃ pc', (pc', none) ∈ outs ∧ holds Φ ρ pc') ∨ ∃ pc' v m' ν w' x n, (pc', some (v, m')) ∈ outs ∧ holds Φ ρ pc' ∧ (execOp a.eval o).run P w = .ok n w' ∧ (n = .value x ∨ (n = .skip ∧ x = undef)) ∧ den Φ ρ (μ ++ ν) v = some x ∧ MRel Φ ρ (μ ++ ν) B m' w'
theorem len_nn (n : Int) : 0 ≤ lenS n := Int.natCast_nonneg _
theorem sub_facts {a lo hi : SI} (h0 : 0 ≤ lo.ev Φ ρ) (h1 : lo.ev Φ ρ ≤ hi.ev Φ ρ) (h2 : hi.ev Φ ρ ≤ lenS (a.ev Φ ρ)) : holds Φ ρ (subFacts a lo hi) := by
  unfold subFacts
  split
  · exact holds_nil Φ ρ
  · rename_i e he
    refine holds_cons Φ ρ ?_ (holds_nil Φ ρ)
    rw [evB_eq, ev_mkLenS, ev_mkSub]
    refine decide_eq_true ?_
    rw [ev_mkSubS]
    unfold lenS at *
    rw [strB_sub]
    simp only [List.length_drop, List.length_take]
    omega
theorem part_ok (hM : MRel Φ ρ μ B s.m w) (hp : holds Φ ρ pc) {t : TypeId} {x : AV} {vx : Value} {lo hi : Option SI} {kl kh : IntKind} {outs : List (List SB × Option (AV × Mem))} (h : partOp P s pc t x lo hi = some outs)
    (hx : den Φ ρ μ x = some vx) :
    (∃ pc', (pc', none) ∈ outs ∧ holds Φ ρ pc') ∨ ∃ pc' v u, (pc', some (v, s.m)) ∈ outs ∧ holds Φ ρ pc' ∧ den Φ ρ μ v = some u ∧
      (Instr.sliceAt t vx (lo.map fun n => .int kl (n.ev Φ ρ)) (hi.map fun n => .int kh (n.ev Φ ρ)) none).run P w = .ok u w := by
  unfold partOp at h
  split at h
  · rename_i b hu
    simp only [Option.some.injEq] at h
    subst h
    simp only [den, denC, Option.some.injEq] at hx
    subst hx
    obtain ⟨c, pc1, hmem, hev, hp1⟩ := ways_ok Φ ρ (mkAnd (mkLe (.c 0) ((hi.getD (mkLenS 9 b)))) (mkLe (hi.getD (mkLenS 9 b)) (mkLenS 9 b))) hp
    cases c with
    | false => exact .inl ⟨pc1, List.mem_flatMap.2 ⟨_, hmem, by simp⟩, hp1⟩
    | true =>
      obtain ⟨c, pc2, hmem2, hev2, hp2⟩ := ways_ok Φ ρ (mkAnd (mkLe (.c 0) (lo.getD (.c 0))) (mkLe (lo.getD (.c 0)) (hi.getD (mkLenS 9 b)))) hp1
      cases c with
      | false => exact .inl ⟨pc2, List.mem_flatMap.2 ⟨_, hmem, by simp only [if_true]; exact List.mem_map.2 ⟨_, hmem2, rfl⟩⟩, hp2⟩
      | true =>
        right
        rw [evB_mkAnd, evB_mkLe, evB_mkLe, Bool.and_eq_true, ev_c] at hev hev2
        have a1 := of_decide_eq_true hev.1; have a2 := of_decide_eq_true hev.2
        have b1 := of_decide_eq_true hev2.1; have b2 := of_decide_eq_true hev2.2
        rw [ev_mkLenS] at a2
        refine ⟨_, _, _, List.mem_flatMap.2 ⟨_, hmem, by simp only [if_true]; exact List.mem_map.2 ⟨_, hmem2, rfl⟩⟩, holds_app Φ ρ (sub_facts b1 b2 a2) hp2, rfl, ?_⟩
        rw [run_sliceAt_string w t _ _ _ _ hu]
        have hsz : (ByteArray.mk (strB (b.ev Φ ρ)).toArray).size = (lenS (b.ev Φ ρ)).toNat := by
          have := str_size (b.ev Φ ρ); omega
        have hb : (Instr.sliceBounds false (lenS (b.ev Φ ρ)).toNat (lenS (b.ev Φ ρ)).toNat (lo.map fun n => .int kl (n.ev Φ ρ)) (hi.map fun n => .int kh (n.ev Φ ρ)) none).run P w =
            .ok (((lo.getD (.c 0)).ev Φ ρ).toNat, ((hi.getD (mkLenS 9 b)).ev Φ ρ).toNat, (lenS (b.ev Φ ρ)).toNat) w := by
          have hl0 := len_nn (b.ev Φ ρ)
          cases hi with
          | none =>
            cases lo with
            | none => simp [Instr.sliceBounds, Sem.run_bind, ev_mkLenS]
            | some l =>
              simp only [Option.getD_some, Option.getD_none, ev_mkLenS] at b1 b2
              simp [Instr.sliceBounds, Sem.run_bind, ev_mkLenS, run_sliceBound w kl (l.ev Φ ρ) (lenS (b.ev Φ ρ)).toNat .sliceB b1 (by omega)]
          | some h =>
            simp only [Option.getD_some] at a1 a2 b2
            cases lo with
            | none => simp [Instr.sliceBounds, Sem.run_bind, run_sliceBound w kh (h.ev Φ ρ) (lenS (b.ev Φ ρ)).toNat .sliceAlen a1 (by omega)]
            | some l =>
              simp only [Option.getD_some] at b1 b2
              simp [Instr.sliceBounds, Sem.run_bind, run_sliceBound w kh (h.ev Φ ρ) (lenS (b.ev Φ ρ)).toNat .sliceAlen a1 (by omega), run_sliceBound w kl (l.ev Φ ρ) (h.ev Φ ρ).toNat .sliceB b1 (by omega)]
        simp only [qVal, Instr.slice, Sem.run_bind, run_underlying hu, Result.andThen_ok, Option.isSome_none, Bool.false_eq_true, if_false, hsz, hb, Sem.run_pure, str_ext, ev_mkSubS, strB_sub]
  · rename_i n e p hu
    split at h
    · rename_i h' sz hsz
      simp only [Option.some.injEq] at h
      subst h
      obtain ⟨ad, had, rfl⟩ := den_ptr hx
      obtain ⟨c, pc1, hmem, hev, hp1⟩ := ways_ok Φ ρ (mkAnd (mkLe (.c 0) h') (mkLe h' (.c n))) hp
      cases c with
      | false => exact .inl ⟨pc1, List.mem_flatMap.2 ⟨_, hmem, by simp⟩, hp1⟩
      | true =>
        right
        rw [evB_mkAnd, evB_mkLe, evB_mkLe, Bool.and_eq_true, ev_c, ev_c] at hev
        have a1 := of_decide_eq_true hev.1; have a2 := of_decide_eq_true hev.2
        obtain ⟨pc2, j, hm2, hp2, hj⟩ := idxs_ok (n := h') (rem := n + 1) (k := 0) hp1 (by omega) (by omega)
        refine ⟨pc2, _, .slice (some ad) j n, List.mem_flatMap.2 ⟨_, hmem, by simp only [if_true]; exact List.mem_map.2 ⟨_, hm2, rfl⟩⟩, hp2, ?_, ?_⟩
        · simp only [den, denC, ev_c]
          rw [if_pos (by omega), had]
          simp
        · have hb : (Instr.sliceBounds false n n none (some (.int kh (h'.ev Φ ρ))) none).run P w = .ok (0, j, n) w := by
            have hs : (Instr.sliceBound (.int kh (h'.ev Φ ρ)) n .sliceAlen).run P w = .ok j w := by
              rw [run_sliceBound w kh (h'.ev Φ ρ) n .sliceAlen a1 (by omega), hj]; simp
            simp [Instr.sliceBounds, Sem.run_bind, hs]
          have hadd : ad.add 0 = ad := by
            unfold denPt at had
            split at had
            · cases had
            · split at had
              · simp at had; subst had; rw [add_eq _ rfl]; simp
              · cases had
          simp only [Instr.sliceAt, Sem.run_bind, run_underlying hu, Result.andThen_ok, Instr.sureAddr, Sem.run_pure, Option.map_none, Option.map_some, hb, run_sizeOf' hsz, Nat.zero_mul, hadd, ite_self, Nat.sub_zero]
    · rename_i sz hsz
      simp only [Option.some.injEq] at h
      subst h
      obtain ⟨ad, had, rfl⟩ := den_ptr hx
      right
      refine ⟨pc, _, .slice (some ad) n n, List.mem_singleton.2 rfl, hp, ?_, ?_⟩
      · simp only [den, denC, ev_c]
        rw [if_pos (by omega), had]
        simp
      · have hb : (Instr.sliceBounds false n n none none none).run P w = .ok (0, n, n) w := by
          simp [Instr.sliceBounds, Sem.run_bind]
        have hadd : ad.add 0 = ad := by
          unfold denPt at had
          split at had
          · cases had
          · split at had
            · simp at had; subst had; rw [add_eq _ rfl]; simp
            · cases had
        simp only [Instr.sliceAt, Sem.run_bind, run_underlying hu, Result.andThen_ok, Instr.sureAddr, Sem.run_pure, Option.map_none, hb, run_sizeOf' hsz, Nat.zero_mul, hadd, ite_self, Nat.sub_zero]
    · cases h
  · cases h
theorem text_ok (hT : TRel Φ ρ μ s.n s.t a) (hM : MRel Φ ρ μ B s.m w) (hp : holds Φ ρ pc) (o : Oper) {outs : List (List SB × Option (AV × Mem))} (h : textOp P s pc o.op = some outs) : TextGood Φ ρ μ P B s w a o outs := by
  generalize hop : o.op = op at h
  unfold textOp at h
  split at h
  · -- a byte, or a cell
    rename_i t x i
    split at h
    · rename_i b k n hu hax hai
      simp only [Option.some.injEq] at h
      subst h
      have hx := opnd_ok hT hax
      have hi := opnd_ok hT hai
      simp only [den, denC, Option.some.injEq] at hx hi
      obtain ⟨c, pc1, hmem, hev, hp1⟩ := ways_ok Φ ρ (mkAnd (mkLe (.c 0) n) (mkLt n (mkLenS 9 b))) hp
      cases c with
      | false => exact .inl ⟨pc1, List.mem_map.2 ⟨_, hmem, rfl⟩, hp1⟩
      | true =>
        rw [evB_mkAnd, evB_mkLe, evB_mkLt, Bool.and_eq_true, ev_c, ev_mkLenS] at hev
        have a1 := of_decide_eq_true hev.1; have a2 := of_decide_eq_true hev.2
        have hsz := str_size (b.ev Φ ρ)
        refine .inr ⟨pc1, _, s.m, [], w, .int .u8 (atS (b.ev Φ ρ) (n.ev Φ ρ)), _, List.mem_map.2 ⟨_, hmem, rfl⟩, hp1, ?_, .inl rfl, by simp [den, denC, ev_mkAtS], by simpa using hM⟩
        simp only [execOp, hop, Sem.run_bind, ← hx, ← hi, qVal]
        rw [run_index_string _ _ _ _ _ hu, dif_pos ⟨a1, by omega⟩]
        simp only [Result.andThen_ok, Sem.run_pure, str_at]
    · rename_i len e cs k n hu hax hai
      split at h
      · rename_i sz c hsz hag hc
        split at h
        · rename_i hk
          simp only [Bool.and_eq_true, Nat.blt_eq] at hk
          simp only [Option.some.injEq] at h
          subst h
          obtain ⟨us, hus, hxe⟩ := den_agg (opnd_ok hT hax)
          have hi := opnd_ok hT hai
          simp only [den, denC, ev_c, Option.some.injEq] at hi
          have hlen := denL_length hus
          have hn : n < us.length := by have := (List.getElem?_eq_some_iff.1 hc).1; omega
          have hd := (denL_iff.1 hus).2 n c us[n] hc (List.getElem?_eq_getElem hn)
          have hsz1 := Nat.eq_of_beq_eq_true hk.1
          subst hsz1
          refine .inr ⟨pc, _, s.m, [], w, us[n], _, List.mem_singleton.2 rfl, hp, ?_, .inl rfl, by simpa [den] using hd, by simpa using hM⟩
          have hpart : (part e us.toArray (n * 1)).run P w = .ok us[n] w := by
            have := run_part_seg (P := P) (cs := us) (off := n) hsz hag (by omega) (fun _ => rfl) w
            rw [Nat.mul_one, this]
            simp only [vOf, hag, List.drop_eq_getElem_cons hn]
            rfl
          simp only [execOp, hop, Sem.run_bind, hxe, ← hi, Instr.index, asIntOf, Sem.run_pure, Result.andThen_ok, run_underlying hu]
          have hlt : (0 : Int) ≤ Int.ofNat n ∧ Int.ofNat n < (len : Int) := ⟨Int.natCast_nonneg n, Int.ofNat_lt.2 hk.2⟩
          simp only [if_pos hlt, Sem.run_bind, run_sizeOf' hsz, Result.andThen_ok]
          have : (Int.ofNat n).toNat = n := rfl
          rw [this, hpart]
          rfl
        · cases h
      · cases h
    · cases h
  · rename_i t x lo hi
    split at h
    · rename_i ax l h' hax hlo hhi
      obtain ⟨kl, hl⟩ := optI_ok hT hlo
      obtain ⟨kh, hh⟩ := optI_ok hT hhi
      rcases part_ok (P := P) (kl := kl.getD .i64) (kh := kh.getD .i64) hM hp h (opnd_ok hT hax) with ⟨pc', hmem, hp'⟩ | ⟨pc', v, u, hmem, hp', hd, hr⟩
      · exact .inl ⟨pc', hmem, hp'⟩
      · refine .inr ⟨pc', v, s.m, [], w, u, _, hmem, hp', ?_, .inl rfl, by simpa using hd, by simpa using hM⟩
        simp only [execOp, hop, Sem.run_bind, hl, hh, Option.map_none, hr, Result.andThen_ok, Sem.run_pure]
    · cases h
  · -- bytes
    rename_i src dst x
    split at h
    · rename_i e p n cap hus hud hax
      split at h
      · rename_i cs ty hue ho hr
        split at h
        · rename_i xs hxs
          split at h
          · rename_i hk
            simp only [Bool.and_eq_true, Nat.blt_eq] at hk
            have hle := Nat.le_of_ble_eq_true hk.1
            simp only [Option.some.injEq] at h
            subst h
            have hx := opnd_ok hT hax
            simp only [den, denC, ev_c] at hx
            split at hx
            case isFalse => cases hx
            simp only [Option.map_eq_some_iff] at hx
            obtain ⟨ad, had, hxe⟩ := hx
            obtain ⟨l, hl⟩ := obj_loc hM ho
            obtain ⟨hb, hst, _, vs, hv, hh⟩ := hM.obj p.id _ l ho hl
            have := denPt_cells had hl hb hst
            subst this
            have hseg := denL_take n (denL_drop p.j hv)
            have hvs := bytes_ok hxs hseg
            have hvl := denL_length hv
            have hlen : (xs.map (·.ev Φ ρ)).length = n := by
              have := congrArg List.length hvs
              simp only [List.length_take, List.length_drop, List.length_map] at this
              simp only [List.length_map]; omega
            have hload : (loadCells ⟨l.blk, p.j, none⟩ n).run P w = .ok ((xs.map (·.ev Φ ρ)).map (Value.int .u8)).toArray w := by
              have := run_loadCells_list (P := P) w ⟨l.blk, p.j, none⟩ ((xs.map (·.ev Φ ρ)).map (Value.int .u8)) (fun j v hj => by
                rw [add_eq _ rfl, cell_of_cells hh]
                rw [← hvs] at hj
                have hjn : j < n := by
                  have := (List.getElem?_eq_some_iff.1 hj).1
                  simp at this; omega
                rw [List.getElem?_take, if_pos hjn, List.getElem?_drop] at hj
                exact hj)
              rw [List.length_map, hlen] at this
              exact this
            refine .inr ⟨pc, _, s.m, [], w, .string ⟨(strB (ofB (xs.map (·.ev Φ ρ)))).toArray⟩, _, List.mem_singleton.2 rfl, hp, ?_, .inl rfl, by simp only [den, denC, ev_mkOfB, qVal], by simpa using hM⟩
            simp only [execOp, hop, Sem.run_bind, ← hxe]
            have e1 : (Int.ofNat n).toNat = n := rfl
            rw [e1, run_convert_bytes_string w src dst e _ _ _ hus hue hud, run_bytesToString w _ n _ (xs.map (·.ev Φ ρ)) hload]
            have e2 : ∀ (ns : List Int) (b : ByteArray), ns.foldl (fun r n => r.push (UInt8.ofNat n.toNat)) b = ⟨b.data ++ (ns.map fun n => UInt8.ofNat n.toNat).toArray⟩ := by
              intro ns
              induction ns with
              | nil => intro b; simp
              | cons n ns ih =>
                intro b
                rw [List.foldl_cons, ih]
                congr 1
                apply Array.ext'
                simp [ByteArray.push]
            rw [e2]
            simp only [Result.andThen_ok, Sem.run_pure, ofB, strB_enc]
            have e3 : (ByteArray.empty).data = #[] := rfl
            rw [e3]
            congr 4
            apply Array.ext'
            simp
          · cases h
        · cases h
      · cases h
    · cases h
  · -- one that goes through a text
    rename_i t x
    split at h
    · rename_i b hu hax
      simp only [Option.some.injEq] at h
      subst h
      have hx := opnd_ok hT hax
      simp only [den, denC, Option.some.injEq] at hx
      have hsz : (w.alloc (.stringIter ⟨(strB (b.ev Φ ρ)).toArray⟩ 0)).heap.size = w.heap.size + 1 := World.size_alloc ..
      refine .inr ⟨pc, _, _, [⟨w.heap.size, 0, 0, 0, false, [w.heap.size]⟩], w.alloc (.stringIter ⟨(strB (b.ev Φ ρ)).toArray⟩ 0), .pointer (some ⟨w.heap.size, 0, none⟩), _, List.mem_singleton.2 rfl, hp, ?_, .inl rfl, ?_, ?_⟩
      · simp only [execOp, hop, Sem.run_bind, ← hx, qVal, Instr.range, run_underlying hu, Result.andThen_ok, Sem.run_pure]
        rfl
      · have hl : (μ ++ [(⟨w.heap.size, 0, 0, 0, false, [w.heap.size]⟩ : Loc)])[s.m.o.length]? = some ⟨w.heap.size, 0, 0, 0, false, [w.heap.size]⟩ := by
          rw [← hM.len, List.getElem?_append_right (Nat.le_refl _)]; simp
        simp [den, denC, denPt, hl]
      · refine hM.push (fun b hb => heap_alloc_lt w _ hb) (by omega) ⟨rfl, rfl, rfl⟩ (by simp [hsz]) ?_
        show RepSit _ _ _
        refine ⟨rfl, rfl, rfl, b.ev Φ ρ, 0, ?_, Int.le_refl _, ?_⟩
        · rw [evL_app, appL_std Φ (by omega)]
          simp [stdL, ints]
        · show (w.heap.push _)[w.heap.size]? = _
          simp
    · cases h
  · -- a map's entry laid
    rename_i t x k v
    split at h
    · rename_i ax ak av hax hak hav
      simp only [Option.map_eq_some_iff] at h
      obtain ⟨ws, hws, rfl⟩ := h
      obtain ⟨pc', m, w', hmem, hp', hr, hM'⟩ := update_ok (P := P) hM hp hws (opnd_ok hT hax) (opnd_ok hT hak) (opnd_ok hT hav)
      refine .inr ⟨pc', undefV, m, [], w', undef, _, List.mem_map.2 ⟨_, hmem, rfl⟩, hp', ?_, .inr ⟨rfl, rfl⟩, by simp [undefV, den, denT, undef], by simpa using hM'⟩
      simp only [execOp, hop, Sem.run_bind, hr, Result.andThen_ok, Sem.run_pure]
    · cases h
  · cases h

/-! ### a text gone through -/
theorem sit_set {l : Loc} {c p q : Int} (hR : RepSit [[c, p]] w l) (hq : 0 ≤ q) : RepSit [[c, q]] (setB w l.blk (.stringIter ⟨(strB c).toArray⟩ q.toNat)) l := by
  obtain ⟨h1, h2, h3, c', p', h4, h5, h6⟩ := hR
  simp at h4
  obtain ⟨rfl, rfl⟩ := h4
  have hlt := (Array.getElem?_eq_some_iff.1 h6).1
  exact ⟨h1, h2, h3, c, q, rfl, hq, by simp [setB, hlt]⟩
theorem run_getObj_sit {r : Nat} {b : ByteArray} {p : Nat} (hb : w.heap[r]? = some (.stringIter b p)) : (getObj r).run P w = .ok (.stringIter b p) w := by
  simp [getObj, Sem.run, hb]
theorem run_setObj_sit {r : Nat} {b : ByteArray} {p : Nat} (o : Obj) (hb : w.heap[r]? = some (.stringIter b p)) : (setObj r o).run P w = .ok () (setB w r o) := by
  simp [setObj, Sem.run, hb, setB]
theorem nextS_ok (hM : MRel Φ ρ μ B s.m w) (hp : holds Φ ρ pc) {x : AV} {outs : List (List SB × Option (AV × Mem))} {vx : Value} (ty : TypeId) (h : nextS s pc x = some outs) (hx : den Φ ρ μ x = some vx) :
    ∃ pc' v m' ρ' w' u, (pc', some (v, m')) ∈ outs ∧ (s.m.nx ≤ m'.nx ∧ AgrB s.m.nx ρ ρ' ∧ (m'.nx = s.m.nx → ρ' = ρ)) ∧ holds Φ ρ' pc' ∧ (Instr.next vx true ty).run P w = .ok u w' ∧ den Φ ρ' μ v = some u ∧ MRel Φ ρ' μ B m' w' := by
  unfold nextS at h
  split at h
  case h_2 => cases h
  rename_i p
  split at h
  case h_2 => cases h
  rename_i A ho hr
  split at h
  case h_2 => cases h
  rename_i b q hA
  split at h
  case isFalse => cases h
  rename_i hc
  simp only [Bool.and_eq_true] at hc
  obtain ⟨hj, h1000, hbl, hpcb⟩ := hc
  have hj := Nat.eq_of_beq_eq_true hj
  simp only [Option.some.injEq] at h
  subst h
  obtain ⟨l, hl⟩ := obj_loc hM ho
  have hR : RepSit (A.ev Φ ρ) w l := hM.obj p.id _ l ho hl
  rw [sit_ok hA] at hR
  have hR' := hR
  obtain ⟨g1, g2, g3, c, p0, g4, g5, g6⟩ := hR'
  simp at g4
  obtain ⟨rfl, rfl⟩ := g4
  obtain ⟨ad, had, rfl⟩ := den_ptr hx
  have had := denPt_cells had hl g2 g3
  subst had
  rw [hj]
  have hsz := str_size (b.ev Φ ρ)
  obtain ⟨t, pc1, hmem, hev, hp1⟩ := ways_ok Φ ρ (mkLt q (mkLenS 9 b)) hp
  rw [evB_mkLt, ev_mkLenS] at hev
  cases t with
  | false =>
    have hge := of_decide_eq_false hev
    refine ⟨pc1, .tup [.inl (.b (.c false))], s.m, ρ, w, .tuple #[.bool false], List.mem_flatMap.2 ⟨_, hmem, by simp⟩, ⟨Nat.le_refl _, .refl, fun _ => rfl⟩, hp1, ?_, by simp [den, denT, denC], hM⟩
    simp only [Instr.next, Sem.run_bind, run_getObj_sit g6, Result.andThen_ok]
    rw [if_neg (by omega)]
    rfl
  | true =>
    have hlt := of_decide_eq_true hev
    have hlt' : (q.ev Φ ρ).toNat < (ByteArray.mk (strB (b.ev Φ ρ)).toArray).size := by omega
    have hat := str_at (n := b.ev Φ ρ) (i := q.ev Φ ρ) hlt'
    have upd : ∀ {ρ1 : Env} {A' : SL} {k : Int}, MRel Φ ρ1 μ B s.m w → A'.ev Φ ρ1 = [[b.ev Φ ρ, k]] → 0 ≤ k →
        MRel Φ ρ1 μ B { s.m with o := s.m.o.set p.id (.abs .sit A'), wr := p.id :: s.m.wr } (setB w l.blk (.stringIter ⟨(strB (b.ev Φ ρ)).toArray⟩ k.toNat)) := by
      intro ρ1 A' k hM1 hA' hk
      refine hM1.upd ho rfl hl (fun b' hb' hne => ?_) (by rw [setB_size]; exact Nat.le_refl _) setB_world (.inl rfl) ?_
      · have : b' ≠ l.blk := fun e => hne (by rw [g1, e]; simp)
        simp only [setB]
        rw [Array.getElem?_setIfInBounds_ne (by omega)]
      · show RepSit _ _ _
        rw [hA']
        exact sit_set hR hk
    obtain ⟨t, pc2, hmem2, hev2, hp2⟩ := ways_ok Φ ρ (mkLt (mkAtS b q) (.c 128)) hp1
    rw [evB_mkLt, ev_mkAtS, ev_c] at hev2
    cases t with
    | true =>
      have hlo := of_decide_eq_true hev2
      have hdec := decode_ascii ⟨(strB (b.ev Φ ρ)).toArray⟩ (q.ev Φ ρ).toNat hlt' (by omega)
      refine ⟨pc2, .tup [.inl (.b (.c true)), .inl (.i .i64 q), .inl (.i .i32 (mkAtS b q))], { s.m with o := s.m.o.set p.id (.abs .sit (.app 3 (.i b (.i (mkAdd q (.c 1)) .nil)))), wr := p.id :: s.m.wr }, ρ, setB w l.blk (.stringIter ⟨(strB (b.ev Φ ρ)).toArray⟩ (q.ev Φ ρ + 1).toNat), .tuple #[.bool true, goInt (q.ev Φ ρ).toNat, .int .i32 (atS (b.ev Φ ρ) (q.ev Φ ρ))],
        List.mem_flatMap.2 ⟨_, hmem, by simp only [if_true]; exact List.mem_map.2 ⟨_, hmem2, rfl⟩⟩, ⟨Nat.le_refl _, .refl, fun _ => rfl⟩, hp2, ?_, ?_, ?_⟩
      · simp only [Instr.next, Sem.run_bind, run_getObj_sit g6, Result.andThen_ok]
        rw [if_pos hlt', hdec]
        simp only [Sem.run_bind, run_setObj_sit _ g6, Result.andThen_ok, Sem.run_pure]
        rw [show (q.ev Φ ρ + 1).toNat = (q.ev Φ ρ).toNat + 1 by omega]
        rw [hat]
      · simp only [den, denT, denC, evB_c, ev_mkAtS, Option.map_some, goInt]
        rw [show (((q.ev Φ ρ).toNat : Nat) : Int) = q.ev Φ ρ by omega]
      · exact upd hM (by rw [evL_app, appL_std Φ (by omega)]; simp [stdL, ints]) (by omega)
    | false =>
      have hhi := of_decide_eq_false hev2
      obtain ⟨hd1, hd2⟩ := decode_high ⟨(strB (b.ev Φ ρ)).toArray⟩ (q.ev Φ ρ).toNat hlt' (by omega)
      generalize hρe : ({ ρ with i := fun j => if j = s.m.nx then (((Utf8.decode ⟨(strB (b.ev Φ ρ)).toArray⟩ (q.ev Φ ρ).toNat).1 : Nat) : Int) else if j = s.m.nx + 1 then (((q.ev Φ ρ).toNat + (Utf8.decode ⟨(strB (b.ev Φ ρ)).toArray⟩ (q.ev Φ ρ).toNat).2 : Nat) : Int) else ρ.i j } : Env) = ρ'
      have ha : AgrB s.m.nx ρ ρ' := by
        subst hρe
        exact ⟨fun j hj => by simp only; rw [if_neg (by omega), if_neg (by omega)], fun _ _ => rfl, fun _ _ => rfl⟩
      have hv1 : (SI.v s.m.nx).ev Φ ρ' = (((Utf8.decode ⟨(strB (b.ev Φ ρ)).toArray⟩ (q.ev Φ ρ).toNat).1 : Nat) : Int) := by subst hρe; simp
      have hv2 : (SI.v (s.m.nx + 1)).ev Φ ρ' = (((q.ev Φ ρ).toNat + (Utf8.decode ⟨(strB (b.ev Φ ρ)).toArray⟩ (q.ev Φ ρ).toNat).2 : Nat) : Int) := by subst hρe; simp
      have hbA : b.bl s.m.nx = true ∧ q.bl s.m.nx = true := by
        have := List.all_eq_true.1 hbl _ (List.mem_of_getElem? ho)
        simp only [AObj.bl] at this
        unfold sitOf at hA
        split at hA
        · simp at hA
          obtain ⟨rfl, rfl⟩ := hA
          simp only [SL.bl, SA.bl, Bool.and_eq_true] at this
          exact ⟨this.1, this.2.1⟩
        · simp at hA
          obtain ⟨rfl, rfl⟩ := hA
          exact ⟨rfl, rfl⟩
        · cases hA
      have hb' := ev_bl (Φ := Φ) ha b hbA.1
      have hq' := ev_bl (Φ := Φ) ha q hbA.2
      have hM1 := hM.bl ha hbl
      have hp' : holds Φ ρ' pc := (holds_bl ha hpcb).2 hp
      -- the same ways, with the unknowns drawn
      obtain ⟨t1, pd1, hm1, he1, hq1⟩ := ways_ok Φ ρ' (mkLt q (mkLenS 9 b)) hp'
      rw [evB_mkLt, ev_mkLenS, hq', hb'] at he1
      cases t1 with
      | false => exact absurd hlt (of_decide_eq_false he1)
      | true =>
        obtain ⟨t2, pd2, hm2, he2, hq2⟩ := ways_ok Φ ρ' (mkLt (mkAtS b q) (.c 128)) hq1
        rw [evB_mkLt, ev_mkAtS, ev_c, hq', hb'] at he2
        cases t2 with
        | true => exact absurd (of_decide_eq_true he2) hhi
        | false =>
          refine ⟨_, _, _, ρ', setB w l.blk (.stringIter ⟨(strB (b.ev Φ ρ)).toArray⟩ ((q.ev Φ ρ).toNat + (Utf8.decode ⟨(strB (b.ev Φ ρ)).toArray⟩ (q.ev Φ ρ).toNat).2)), .tuple #[.bool true, goInt (q.ev Φ ρ).toNat, .int .i32 (Utf8.decode ⟨(strB (b.ev Φ ρ)).toArray⟩ (q.ev Φ ρ).toNat).1],
            List.mem_flatMap.2 ⟨_, hm1, by simp only [if_true]; exact List.mem_map.2 ⟨_, hm2, rfl⟩⟩, ⟨by simp, ha, fun e => by simp at e⟩, ?_, ?_, ?_, ?_⟩
          · refine holds_cons Φ ρ' ?_ (holds_cons Φ ρ' ?_ hq2)
            · rw [evB_le, hv1, ev_c]; exact decide_eq_true (by omega)
            · rw [evB_lt, hv2, hq']; exact decide_eq_true (by omega)
          · simp only [Instr.next, Sem.run_bind, run_getObj_sit g6, Result.andThen_ok]
            rw [if_pos hlt']
            simp only [Sem.run_bind, run_setObj_sit _ g6, Result.andThen_ok, Sem.run_pure]
          · simp only [Bool.false_eq_true, if_false, den, denT, denC, evB_c, hv1, hq', Option.map_some, goInt]
            rw [show (((q.ev Φ ρ).toNat : Nat) : Int) = q.ev Φ ρ by omega]
          · have := upd (A' := .app 3 (.i b (.i (.v (s.m.nx + 1)) .nil))) (k := (((q.ev Φ ρ).toNat + (Utf8.decode ⟨(strB (b.ev Φ ρ)).toArray⟩ (q.ev Φ ρ).toNat).2 : Nat) : Int)) hM1 (by rw [evL_app, appL_std Φ (by omega)]; simp only [stdL, evA_i, evA_nil, ints, hb', hv2]) (Int.natCast_nonneg _)
            rw [Int.toNat_natCast] at this
            exact { this with }
end
end Go.SF
