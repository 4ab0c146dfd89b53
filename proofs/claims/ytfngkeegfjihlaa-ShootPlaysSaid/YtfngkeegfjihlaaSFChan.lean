/- Channels that are open, with room, where there is one goroutine alone: making one, how much waits in it, a send, a receive with a default. -/
import Derived.Test.YtfngkeegfjihlaaSFList
import Derived.Conc.LoneSelect
namespace Go.SF
set_option linter.unusedVariables false
set_option linter.unusedSimpArgs false
open Go.Conc

/-- The channels that there are. -/
def chanAt : Nat → List AObj → Option (Nat × List CK × Nat × SL)
  | _, [] => none
  | i, .abs (.chans ks cap) A :: _ => some (i, ks, cap, A)
  | i, _ :: r => chanAt (i + 1) r
def mkCnt (A : SL) (x : SI) (k : Nat) : SI := match SA.lits (.l A (.i x (.i (.c k) .nil))) with
  | some q => .c (stdI 2 q)
  | none => .app 2 (.l A (.i x (.i (.c k) .nil)))
def mkSnd (A : SL) (x : SI) (xs : List SI) : SL := stdApp 16 (.l A (.i x (saI xs)))
def mkRcv (A : SL) (x : SI) (k : Nat) : SL := stdApp 17 (.l A (.i x (.i (.c k) .nil)))
def makeChanOp (P : Program) (s : St) (pc : List SB) (t : TypeId) (n : AV) : Outs :=
  match P.underlying t, n with
  | some (.chan _ e), .cv (.i k (.c (.ofNat n))) => match P.info? e, flatQ P 5 e with
    | some info, some ks =>
      if Nat.blt 0 ks.length && (Nat.ble n 65536 && (Nat.ble (info.bytes * n) 281474976710544 && (Nat.ble 1000 s.m.nx && (s.m.bl s.m.nx && pc.all (SB.bl s.m.nx))))) then
        match chanAt 0 s.m.o with
        | none => some [(.le (.c 1) (.v s.m.nx) :: pc, some (.cv (.cd .ch (.v s.m.nx)), { o := s.m.o ++ [.abs (.chans ks n) (mkRow [.v s.m.nx])], wr := s.m.wr, nx := s.m.nx + 1 }))]
        | some (i, ks', cap, A) => if ks' = ks ∧ cap = n then
            some [(.eq (.len (mkFind 9 A (.v s.m.nx))) (.c 0) :: .le (.c 1) (.v s.m.nx) :: pc, some (.cv (.cd .ch (.v s.m.nx)),
              { o := s.m.o.set i .dead ++ [.abs (.chans ks n) (mkCat A (mkRow [.v s.m.nx]))], wr := s.m.o.length :: i :: s.m.wr, nx := s.m.nx + 1 }))] else none
      else none
    | _, _ => none
  | _, _ => none
def chanLen (P : Program) (s : St) (pc : List SB) (o : Op) : Outs :=
  match o with
  | .call { callee := .builtin .len, args, argTypes } => match args.toList, argTypes.toList with
    | [x], [t] => match P.underlying t, opnd s x, chanAt 0 s.m.o with
      | some (.chan _ _), some (.cv (.cd .ch e)), some (i, ks, cap, A) => some ((ways pc (mkLt (.c 0) (mkLen 60 (mkFind 9 A e)))).map fun y => (y.2, if y.1 then some (.cv (.i .i64 (mkCnt A e ks.length)), s.m) else none))
      | _, _, _ => none
    | _, _ => none
  | _ => none
def commOp (P : Program) (s : St) (pc : List SB) (o : Op) : Outs :=
  match o with
  | .send c x => match opnd s c, opnd s x, chanAt 0 s.m.o with
    | some (.cv (.cd .ch e)), some (.agg cs), some (i, ks, cap, A) => match rowI pc ks cs with
      | some [(pc', row)] => some ((ways pc' (mkAnd (mkLt (.c 0) (mkLen 60 (mkFind 9 A e))) (mkLt (mkCnt A e ks.length) (.c cap)))).map fun y =>
          (y.2, if y.1 then some (undefV, { s.m with o := s.m.o.set i (.abs (.chans ks cap) (mkSnd A e row)), wr := i :: s.m.wr }) else none))
      | _ => none
    | _, _, _ => none
  | .select cases false => match cases.toList with
    | [cs] => match cs.send, opnd s cs.chan, chanAt 0 s.m.o, tyZero P cs.elem with
      | none, some (.cv (.cd .ch e)), some (i, ks, cap, A), some (.agg z) =>
        some ((ways pc (mkLt (.c 0) (mkLen 60 (mkFind 9 A e)))).flatMap fun y => if y.1 then
            (ways y.2 (mkLt (.c 0) (mkCnt A e ks.length))).map fun u => if u.1 then
                (extFacts u.2 (mkFind 9 A e) (.c 0) 1 ks ++ u.2, some (.tup [.inl (.i .i64 (.c 0)), .inl (.b (.c true)), .inr (extCells (mkFind 9 A e) (.c 0) 1 ks)],
                  { s.m with o := s.m.o.set i (.abs (.chans ks cap) (mkRcv A e ks.length)), wr := i :: s.m.wr }))
              else (u.2, some (.tup [.inl (.i .i64 (.c (-1))), .inl (.b (.c false)), .inr z], s.m))
          else [(y.2, none)])
      | _, _, _, _ => none
    | _ => none
  | _ => none

/-! ### the rest of a region, from the machine's side -/
def wpI (P : Program) (ops : Array Oper) (Q : Exit → Act → World → Prop) (l : List Nat) (a : Act) (w : World) : Prop :=
  ∀ (b : Frame) (k : List Item) (cs : List Frame), ∃ e a' w', Q e a' w' ∧ Arrives P (lone (b.at a (.inRegion ops l :: k)) cs w) b k cs e a' w'

section
variable {P : Program} {ops : Array Oper} {Q : Exit → Act → World → Prop} {a : Act} {w : World} {i : Nat} {rest : List Nat} {o : Oper}
theorem wpI_nil (h : Q .normal a w) : wpI P ops Q [] a w := fun b k cs => ⟨.normal, a, w, h, .one step_region_end⟩
theorem wpI_skip (ho : ops[i]? = some o) (hw : Region.wanted o (yielded ops a.tmps) = false) (h : wpI P ops Q rest (a.put o.dst undef) w) : wpI P ops Q (i :: rest) a w := by
  intro b k cs
  obtain ⟨e, a', w', hq, harr⟩ := h b k cs
  have hs := step_op_skip (P := P) (b := b) (a := a) (k := k) (cs := cs) (w := w) (ops := ops) (i := i) (rest := rest) (by simp [ho, hw])
  simp only [ho, Option.bind_some] at hs
  exact ⟨e, a', w', hq, .of_steps (.one hs) harr⟩
/-- One step of the machine. -/
theorem wpI_step {x : Value} {w1 : World} (h1 : ∀ (b : Frame) (k : List Item) (cs : List Frame), step P (lone (b.at a (.inRegion ops (i :: rest) :: k)) cs w) = .next (lone (b.at (a.put o.dst x) (.inRegion ops rest :: k)) cs w1))
    (h : wpI P ops Q rest (a.put o.dst x) w1) : wpI P ops Q (i :: rest) a w := by
  intro b k cs
  obtain ⟨e, a', w', hq, harr⟩ := h b k cs
  exact ⟨e, a', w', hq, .of_steps (.one (h1 b k cs)) harr⟩
theorem wpI_op (ho : ops[i]? = some o) (hw : Region.wanted o (yielded ops a.tmps) = true) (h : o.wp P a w (wpI P ops Q rest) (fun _ _ _ => False)) : wpI P ops Q (i :: rest) a w := by
  intro b k cs
  have hg := stepG_op (P := P) (b := b) (k := k) (cs := cs) (w := w) (rest := rest) ho hw
  have hfin : ∀ (a1 : Act) (v : Value), (b.at a1 (.inRegion ops (i :: rest) :: k)).finish v = b.at (a1.put o.dst v) (.inRegion ops rest :: k) := by
    intro a1 v
    have := Frame.finish_at b a1 ops i rest k v
    rw [ho] at this
    exact this
  unfold Oper.wp at h
  cases hr : (execOp a.eval o).run P w with
  | halt x w' =>
    rw [hr] at h
    cases x <;> exact h.elim
  | ok n w' =>
    rw [hr] at h
    cases n with
    | value v =>
      obtain ⟨e, a', w'', hq, harr⟩ := h b k cs
      exact ⟨e, a', w'', hq, .of_steps (.one (step_lone_go (by rw [hg, ← hfin a v]; simp [stepG.apply, hr]))) harr⟩
    | skip =>
      obtain ⟨e, a', w'', hq, harr⟩ := h b k cs
      exact ⟨e, a', w'', hq, .of_steps (.one (step_lone_go (by rw [hg, ← hfin a undef]; simp [stepG.apply, hr]))) harr⟩
    | defer d =>
      obtain ⟨e, a', w'', hq, harr⟩ := h b k cs
      refine ⟨e, a', w'', hq, .of_steps (.one (step_lone_go ?_)) harr⟩
      have := hfin { a with defers := d :: a.defers } undef
      rw [hg]
      simp only [stepG.apply, Sem.runT_eq, hr, GStep.bare_after]
      exact congrArg (fun fr => GStep.go { frame := fr, callers := cs, status := .running, dying := none } w') this
    | enter f args =>
      obtain ⟨e, w2, fr, hR, hsteps, _, hleave⟩ := h (b.at a (.inRegion ops (i :: rest) :: k) :: cs)
      cases e with
      | returned v =>
        obtain ⟨e, a', w3, hq, harr⟩ := hR b k cs
        have s1 : step P (lone (b.at a (.inRegion ops (i :: rest) :: k)) cs w) = .next (lone (Frame.enter P f args .normal) (b.at a (.inRegion ops (i :: rest) :: k) :: cs) w') :=
          step_lone_go (by rw [hg]; simp [stepG.apply, hr, Frame.at])
        have s2 := step_leave_returned (c := b.at a (.inRegion ops (i :: rest) :: k)) (cs := cs) hleave
        rw [hfin a v] at s2
        exact ⟨e, a', w3, hq, .of_steps (.head s1 (hsteps.trans (.one s2))) harr⟩
      | panicked chain => exact hR.elim
      | outgrown => obtain ⟨_, _, hf⟩ := hR; exact hf.elim
    | row row args =>
      obtain ⟨v, w2, hR, hsteps⟩ := h (b.at a (.inRegion ops (i :: rest) :: k)) cs
      obtain ⟨e, a', w3, hq, harr⟩ := hR b k cs
      have s1 : step P (lone (b.at a (.inRegion ops (i :: rest) :: k)) cs w) = .next (lone (Frame.ofRow P row args .normal) (b.at a (.inRegion ops (i :: rest) :: k) :: cs) w') :=
        step_lone_go (by rw [hg]; simp [stepG.apply, hr, Frame.at])
      rw [hfin a v] at hsteps
      exact ⟨e, a', w3, hq, .of_steps (.head s1 hsteps) harr⟩
    | _ => exact h.elim
theorem wp_region_I {id : Nat} (h : wpI P ops Q (List.range ops.size) a w) : (Code.region id ops false).wp P Q a w :=
  fun b k cs => let ⟨e, a', w', q, r⟩ := h b k cs; ⟨e, a', w', q, .of_steps (.one step_region) r⟩
theorem stepG_comm {b : Frame} {k : List Item} {cs : List Frame} {cases' : Array CommCase} {bl : Bool} {sh : CommShape} {w1 : World} (ho : ops[i]? = some o) (hw : Region.wanted o (yielded ops a.tmps) = true)
    (hr : (execOp a.eval o).run P w = .ok (.comm cases' bl sh) w1) :
    ∃ es, stepG P true (G (b.at a (.inRegion ops (i :: rest) :: k)) cs) w = .comm (G (b.at a (.inRegion ops (i :: rest) :: k)) cs) cases' bl sh w1 es := by
  have hg := stepG_op (P := P) (b := b) (k := k) (cs := cs) (w := w) (rest := rest) ho hw
  simp only [G]
  rw [hg]
  simp only [stepG.apply, Sem.runT_eq, hr, if_true]
  exact ⟨_, rfl⟩
end

/-! ### tables of channels -/
theorem nd_key {M : Tab} (h : (M.map hdK).Nodup) {r r' : List Int} (hr : r ∈ M) (hr' : r' ∈ M) (e : hdK r = hdK r') : r = r' := nodup_inj h hr hr' e
theorem findK_nd : ∀ {M : Tab}, (M.map hdK).Nodup → ∀ {r : List Int}, r ∈ M → findK M (hdK r) = [r]
  | [], _, r, hr => by cases hr
  | x :: M, h, r, hr => by
    have h' := List.nodup_cons.1 h
    unfold findK
    rw [List.filter_cons]
    rcases List.mem_cons.1 hr with rfl | hr'
    · have hn : M.filter (fun r' => decide (hdK r' = hdK r)) = [] := by
        rw [List.filter_eq_nil_iff]
        intro y hy
        simp only [decide_eq_true_eq]
        exact fun e => h'.1 (e ▸ List.mem_map_of_mem hy)
      simp [hn]
    · have hne : ¬ hdK x = hdK r := fun e => h'.1 (e ▸ List.mem_map_of_mem hr')
      have ih := findK_nd h'.2 hr'
      unfold findK at ih
      simp [hne, ih]
theorem findK_mem {M : Tab} {x : Int} (h : 0 < (findK M x).length) : ∃ r ∈ M, hdK r = x := by
  match hM : findK M x, h with
  | r :: _, _ =>
    have : r ∈ findK M x := by rw [hM]; exact List.mem_cons_self ..
    unfold findK at this
    rw [List.mem_filter] at this
    exact ⟨r, this.1, by simpa using this.2⟩
theorem flatten_len {ks : List CK} : ∀ {ms : List (List Int)}, (∀ m ∈ ms, okRow ks m) → ms.flatten.length = ms.length * ks.length
  | [], _ => by simp
  | m :: ms, h => by
    have h1 := (okRow_iff.1 (h m (List.mem_cons_self ..))).1
    have ih := flatten_len (ks := ks) (ms := ms) fun x hx => h x (List.mem_cons_of_mem _ hx)
    simp [ih, h1, Nat.add_mul]; omega
theorem cnt_ms {M : Tab} {x : Int} {row : List Int} {ks : List CK} {ms : List (List Int)} (hf : findK M x = [row]) (hr : row = hdK row :: ms.flatten) (hm : ∀ m ∈ ms, okRow ks m) (h0 : 0 < ks.length) :
    cntT M x (ks.length : Nat) = ms.length := by
  unfold cntT rowK
  rw [hf]
  simp only [List.headD_cons, Int.toNat_natCast]
  rw [hr, List.length_cons, Nat.add_sub_cancel, flatten_len hm]
  rw [show ((ms.length * ks.length : Nat) : Int) / ((ks.length : Nat) : Int) = ((ms.length * ks.length / ks.length : Nat) : Int) from (Int.natCast_ediv _ _).symm, Nat.mul_div_cancel _ h0]

section
variable {Φ : Sig} {ρ : Env} {μ : List Loc} {P : Program} {B : Base} {w : World} {s : St} {a : Act} {pc : List SB}
theorem chanAt_ok : ∀ {os : List AObj} {k i : Nat} {ks : List CK} {cap : Nat} {A : SL}, chanAt k os = some (i, ks, cap, A) → ∃ j, i = k + j ∧ os[j]? = some (.abs (.chans ks cap) A)
  | [], _, _, _, _, _, h => by simp [chanAt] at h
  | o :: os, k, i, ks, cap, A, h => by
    unfold chanAt at h
    split at h
    · rename_i h1; cases h1
    · rename_i h1
      cases h1
      simp at h
      obtain ⟨rfl, rfl, rfl, rfl⟩ := h
      exact ⟨0, rfl, rfl⟩
    · rename_i h1
      cases h1
      obtain ⟨j, hj, ho⟩ := chanAt_ok h
      exact ⟨j + 1, by omega, by simpa using ho⟩
theorem ev_mkCnt (A : SL) (x : SI) (k : Nat) : (mkCnt A x k).ev Φ ρ = cntT (A.ev Φ ρ) (x.ev Φ ρ) k := by
  unfold mkCnt
  split
  · rename_i q hq
    have := lits_ok Φ ρ hq
    simp at this
    rw [← this]
    simp [stdI]
  · simp [ev_app, appI_std, stdI]
theorem ev_mkSnd (A : SL) (x : SI) (xs : List SI) : (mkSnd A x xs).ev Φ ρ = sndT (A.ev Φ ρ) (x.ev Φ ρ) (xs.map (·.ev Φ ρ)) := by
  unfold mkSnd
  rw [ev_stdApp _ _ (by omega)]
  simp [stdL, ev_saI]
theorem ev_mkRcv (A : SL) (x : SI) (k : Nat) : (mkRcv A x k).ev Φ ρ = rcvT (A.ev Φ ρ) (x.ev Φ ρ) k := by
  unfold mkRcv
  rw [ev_stdApp _ _ (by omega)]
  simp [stdL]

/-! ### one channel's row changed -/
theorem setChan_get (w : World) (c cap : Nat) (buf : Array Value) (cl : Bool) (sn r : Nat) (tm : Bool) {b : Nat} (h : b ≠ c) : (w.setChan c cap buf cl sn r tm).heap[b]? = w.heap[b]? := by
  simp only [World.setChan]
  rw [Array.getElem?_setIfInBounds_ne (by omega)]
theorem chan_row {M : Tab} {f : List Int → List Int} (hf : ∀ r ∈ M, hdK (f r) = hdK r) (x : Int) : ((M.map fun r => if hdK r = x then f r else r).map hdK) = M.map hdK := by
  rw [List.map_map]
  refine List.map_congr_left fun r hr => ?_
  simp only [Function.comp]
  split
  · exact hf r hr
  · rfl
theorem chan_upd {ks : List CK} {cap : Nat} {M : Tab} {l : Loc} {row : List Int} {f : List Int → List Int} {buf : Array Value} {sn r : Nat} (h : RepChans ks cap M w l) (hr : row ∈ M) (hf : ∀ r ∈ M, hdK (f r) = hdK r)
    (hlt : (hdK row).toNat - 1 < w.heap.size) {ms : List (List Int)} (e : f row = hdK row :: ms.flatten) (hm : ∀ m ∈ ms, okRow ks m) (hl : ms.length ≤ cap) (hb : buf = (ms.map fun m => Value.agg (rowVals ks m).toArray).toArray) :
    RepChans ks cap (M.map fun r => if hdK r = hdK row then f r else r) (w.setChan ((hdK row).toNat - 1) cap buf false sn r false) l := by
  obtain ⟨h0, h1, h2, h3⟩ := h
  refine ⟨h0, ?_, by rw [chan_row hf]; exact h2, fun y hy => ?_⟩
  · rw [h1]
    have := congrArg (List.map fun n : Int => n.toNat - 1) (chan_row (M := M) hf (hdK row))
    rw [List.map_map, List.map_map] at this
    rw [List.map_map]
    simpa [Function.comp_def] using this.symm
  · obtain ⟨z, hz, rfl⟩ := List.mem_map.1 hy
    split
    · rename_i hk
      have := nd_key h2 hz hr hk
      subst this
      have hfz := hf z hz
      refine ⟨by rw [hfz]; exact (h3 z hz).1, ms, sn, r, by rw [hfz]; exact e, hm, hl, ?_⟩
      rw [hfz, ← hb]
      exact heap_setChan _ _ _ _ _ _ _ _ hlt
    · rename_i hk
      obtain ⟨g0, ms', s', r', g1, g2, g3, g4⟩ := h3 z hz
      refine ⟨g0, ms', s', r', g1, g2, g3, ?_⟩
      rw [setChan_get]
      · exact g4
      · have := (h3 row hr).1
        omega
/-- The memory when a channel is written. -/
theorem MRel.chan {m : Mem} (h : MRel Φ ρ μ B m w) {i : Nat} {ks : List CK} {cap : Nat} {A A' : SL} (ho : m.o[i]? = some (.abs (.chans ks cap) A)) {l : Loc} (hl : μ[i]? = some l) {c : Nat} (hc : c ∈ l.own) {buf : Array Value} {sn r : Nat}
    (hA : RepChans ks cap (A'.ev Φ ρ) (w.setChan c cap buf false sn r false) l) : MRel Φ ρ μ B { m with o := m.o.set i (.abs (.chans ks cap) A'), wr := i :: m.wr } (w.setChan c cap buf false sn r false) :=
  h.upd ho rfl hl (fun b hb hn => setChan_get _ _ _ _ _ _ _ _ (fun e => hn (e ▸ hc))) (by rw [size_setChan]; exact Nat.le_refl _) ⟨rfl, rfl, rfl⟩ (.inl rfl) hA
/-- A channel that was found. -/
theorem chan_found (hM : MRel Φ ρ μ B s.m w) {i : Nat} {ks : List CK} {cap : Nat} {A : SL} {e : SI} (hc : chanAt 0 s.m.o = some (i, ks, cap, A)) (hf : (mkLt (.c 0) (mkLen 60 (mkFind 9 A e))).ev Φ ρ = true) :
    ∃ (l : Loc) (row : List Int) (ms : List (List Int)) (sn r : Nat), s.m.o[i]? = some (.abs (.chans ks cap) A) ∧ μ[i]? = some l ∧ RepChans ks cap (A.ev Φ ρ) w l ∧ row ∈ A.ev Φ ρ ∧ hdK row = e.ev Φ ρ ∧ 0 < e.ev Φ ρ ∧ findK (A.ev Φ ρ) (e.ev Φ ρ) = [row] ∧
      row = e.ev Φ ρ :: ms.flatten ∧ (∀ m ∈ ms, okRow ks m) ∧ ms.length ≤ cap ∧ cntT (A.ev Φ ρ) (e.ev Φ ρ) (ks.length : Nat) = ms.length ∧ qVal .ch (e.ev Φ ρ) = .chan (some ((e.ev Φ ρ).toNat - 1)) ∧
      w.heap[(e.ev Φ ρ).toNat - 1]? = some (.chan cap (ms.map fun m => Value.agg (rowVals ks m).toArray).toArray false sn r false) ∧ (e.ev Φ ρ).toNat - 1 ∈ l.own ∧ (e.ev Φ ρ).toNat - 1 < w.heap.size := by
  obtain ⟨j, hj, ho⟩ := chanAt_ok hc
  obtain rfl : i = j := by omega
  obtain ⟨l, hl⟩ := obj_loc hM ho
  have hR : RepChans ks cap (A.ev Φ ρ) w l := hM.obj i _ l ho hl
  simp at hf
  obtain ⟨row, hr, hk⟩ := findK_mem (M := A.ev Φ ρ) (x := e.ev Φ ρ) (by omega)
  obtain ⟨g0, ms, sn, r, g1, g2, g3, g4⟩ := hR.2.2.2 row hr
  have h1 := findK_nd hR.2.2.1 hr
  have h2 := cnt_ms h1 g1 g2 hR.1
  rw [hk] at g0 g1 g4 h1 h2
  refine ⟨l, row, ms, sn, r, ho, hl, hR, hr, hk, g0, h1, g1, g2, g3, h2, ?_, g4, ?_, (Array.getElem?_eq_some_iff.1 g4).1⟩
  · simp only [qVal]
    rw [if_neg (by omega)]
  · rw [hR.2.1, ← hk]
    exact List.mem_map_of_mem (f := fun r => (hdK r).toNat - 1) hr

theorem chanLen_ok (hT : TRel Φ ρ μ s.n s.t a) (hM : MRel Φ ρ μ B s.m w) (hp : holds Φ ρ pc) (o : Oper) {outs : List (List SB × Option (AV × Mem))} (h : chanLen P s pc o.op = some outs) :
    (∃ pc', (pc', none) ∈ outs ∧ holds Φ ρ pc') ∨ ∃ pc' v u, (pc', some (v, s.m)) ∈ outs ∧ holds Φ ρ pc' ∧ (execOp a.eval o).run P w = .ok (.value u) w ∧ den Φ ρ μ v = some u := by
  obtain ⟨op, dst, ty, pos, after, guard⟩ := o
  simp only at h
  unfold chanLen at h
  split at h
  case h_2 => cases h
  rename_i args argTypes
  split at h
  case h_2 => cases h
  rename_i x t hx ht
  split at h
  case h_2 => cases h
  rename_i d e0 e i ks cap A hu hax hc
  simp only [Option.some.injEq] at h
  subst h
  have e1 : args = #[x] := Array.ext' hx
  have e2 : argTypes = #[t] := Array.ext' ht
  subst e1; subst e2
  obtain ⟨b, pc', hmem, hev, hp'⟩ := ways_ok Φ ρ (mkLt (.c 0) (mkLen 60 (mkFind 9 A e))) hp
  cases b with
  | false => exact .inl ⟨pc', List.mem_map.2 ⟨_, hmem, rfl⟩, hp'⟩
  | true =>
    right
    obtain ⟨l, row, ms, sn, r, ho, hl, hR, hr, hk, hpos, hfi, hrow, hm, hcap, hcnt, hq, hh, _⟩ := chan_found hM hc hev
    have hv := opnd_ok hT hax
    simp only [den, denC, Option.some.injEq] at hv
    refine ⟨pc', _, .int .i64 (ms.length : Nat), List.mem_map.2 ⟨_, hmem, rfl⟩, hp', ?_, ?_⟩
    · simp [execOp, resolve, invoke, builtin, Sem.run_bind, Builtin.len_, run_underlying hu, ← hv, hq, run_getObj_chan _ _ hh, goInt]
    · simp only [if_true, den, denC, ev_mkCnt, hcnt]

/-! ### a new channel -/
theorem makeChan_ok (hM : MRel Φ ρ μ B s.m w) (hp : holds Φ ρ pc) {t : TypeId} {x : AV} {vx : Value} {outs : List (List SB × Option (AV × Mem))} (h : makeChanOp P s pc t x = some outs) (hx : den Φ ρ μ x = some vx) :
    ∃ pc' v m' ρ' ν w' u, (pc', some (v, m')) ∈ outs ∧ (s.m.nx ≤ m'.nx ∧ AgrB s.m.nx ρ ρ' ∧ (m'.nx = s.m.nx → ρ' = ρ)) ∧ holds Φ ρ' pc' ∧ (Instr.makeChan t vx).run P w = .ok u w' ∧ den Φ ρ' (μ ++ ν) v = some u ∧ MRel Φ ρ' (μ ++ ν) B m' w' := by
  unfold makeChanOp at h
  split at h
  case h_2 => cases h
  rename_i dir e k n hu
  split at h
  case h_2 => cases h
  rename_i info ks hi hks
  split at h
  case isFalse => cases h
  rename_i hc
  simp only [Bool.and_eq_true, Nat.blt_eq] at hc
  obtain ⟨h0, hn, hb, h1000, hbl, hpcb⟩ := hc
  have hn := Nat.le_of_ble_eq_true hn
  have hb := Nat.le_of_ble_eq_true hb
  simp only [den, denC, ev_c, Option.some.injEq] at hx
  subst hx
  have hb' : (info.bytes : Int) * (n : Int) ≤ 281474976710544 := by
    rw [← Int.natCast_mul]; exact Int.ofNat_le.2 hb
  have hrun := run_makeChan (P := P) (w := w) hu hi k n (by omega) hb'
  generalize hρe : ({ ρ with i := fun j => if j = s.m.nx then ((w.heap.size + 1 : Nat) : Int) else ρ.i j } : Env) = ρ'
  have ha : AgrB s.m.nx ρ ρ' := by
    subst hρe
    exact ⟨fun j hj => by simp only; rw [if_neg (by omega)], fun _ _ => rfl, fun _ _ => rfl⟩
  have hv : (SI.v s.m.nx).ev Φ ρ' = ((w.heap.size + 1 : Nat) : Int) := by subst hρe; simp
  have hp1 : holds Φ ρ' pc := (holds_bl ha hpcb).2 hp
  have hM1 := hM.bl ha hbl
  have hsz : (w.alloc (.chan n #[] false 0 0 false)).heap.size = w.heap.size + 1 := World.size_alloc ..
  have hget : (w.alloc (.chan n #[] false 0 0 false)).heap[w.heap.size]? = some (.chan n #[] false 0 0 false) := by
    show (w.heap.push _)[w.heap.size]? = _
    simp
  have hden : ∀ ν, den Φ ρ' (μ ++ ν) (.cv (.cd .ch (.v s.m.nx))) = some (.chan (some w.heap.size)) := by
    intro ν
    simp only [den, denC, hv, qVal, Int.toNat_natCast]
    rw [if_neg (by omega)]
    simp
  have hlo : (SB.le (.c 1) (.v s.m.nx)).ev Φ ρ' = true := by
    rw [evB_le, hv, ev_c]
    exact decide_eq_true (by omega)
  have hrow : ∀ w', w'.heap[w.heap.size]? = some (.chan n #[] false 0 0 false) → RepChan ks n w' [((w.heap.size + 1 : Nat) : Int)] := fun w' hw' =>
    ⟨by show (0 : Int) < ((w.heap.size + 1 : Nat) : Int); omega, [], 0, 0, rfl, by simp, by simp, by
      show w'.heap[((w.heap.size + 1 : Nat) : Int).toNat - 1]? = _
      rw [Int.toNat_natCast]; exact hw'⟩
  split at h
  · simp only [Option.some.injEq] at h
    subst h
    refine ⟨_, _, _, ρ', [⟨w.heap.size, 0, 0, 0, false, [w.heap.size]⟩], _, _, List.mem_singleton.2 rfl, ⟨by simp, ha, fun e => by simp at e⟩, holds_cons Φ ρ' hlo hp1, hrun, hden _, ?_⟩
    have := hM1.push (o := .abs (.chans ks n) (mkRow [.v s.m.nx])) (l := ⟨w.heap.size, 0, 0, 0, false, [w.heap.size]⟩) (w' := w.alloc (.chan n #[] false 0 0 false)) (fun b hb => heap_alloc_lt w _ hb) (by omega) ⟨rfl, rfl, rfl⟩
      (by simp [hsz]) (by
        show RepChans ks n _ _ _
        rw [ev_mkRow]
        simp only [List.map_cons, List.map_nil, hv]
        refine ⟨h0, by simp [hdK], by simp, fun row hr => ?_⟩
        rw [List.mem_singleton.1 hr]
        exact hrow _ hget)
    exact { this with }
  · rename_i i ks' cap A hch
    split at h
    case isFalse => cases h
    rename_i hk
    obtain ⟨rfl, rfl⟩ := hk
    simp only [Option.some.injEq] at h
    subst h
    obtain ⟨j, hj, ho⟩ := chanAt_ok hch
    obtain rfl : i = j := by omega
    obtain ⟨l, hl⟩ := obj_loc hM1 ho
    have hR : RepChans ks' cap (A.ev Φ ρ') w l := hM1.obj i _ l ho hl
    have hlt := hM1.lt i _ l ho rfl hl
    have hall : ∀ r ∈ A.ev Φ ρ', hdK r ≠ ((w.heap.size + 1 : Nat) : Int) := fun r hr e => by
      have h1 := hlt ((hdK r).toNat - 1) (by rw [hR.2.1]; exact List.mem_map_of_mem (f := fun r => (hdK r).toNat - 1) hr)
      rw [e] at h1
      simp at h1
    refine ⟨_, _, _, ρ', [⟨w.heap.size, 0, 0, 0, false, l.own ++ [w.heap.size]⟩], _, _, List.mem_singleton.2 rfl, ⟨by simp, ha, fun e => by simp at e⟩, holds_cons Φ ρ' ?_ (holds_cons Φ ρ' hlo hp1), hrun, hden _, ?_⟩
    · rw [evB_eq, ev_len, ev_mkFind, hv, ev_c, findK_none hall]
      rfl
    · have := hM1.move (l' := ⟨w.heap.size, 0, 0, 0, false, l.own ++ [w.heap.size]⟩) (o' := .abs (.chans ks' cap) (mkCat A (mkRow [.v s.m.nx]))) (w' := w.alloc (.chan cap #[] false 0 0 false)) ho rfl hl (fun b hb _ => heap_alloc_lt w _ hb) (by omega) ⟨rfl, rfl, rfl⟩
        (fun b hb => by
          rcases List.mem_append.1 hb with hb | hb
          · exact ⟨.inl hb, by have := hlt b hb; omega⟩
          · rw [List.mem_singleton.1 hb]; exact ⟨.inr (Nat.le_refl _), by omega⟩) (by
          show RepChans ks' cap _ _ _
          rw [ev_mkCat, ev_mkRow]
          simp only [List.map_cons, List.map_nil, hv]
          refine ⟨h0, by simp [hR.2.1, hdK], ?_, fun row hr => ?_⟩
          · rw [List.map_append, List.nodup_append]
            refine ⟨hR.2.2.1, by simp, fun a ha b hb => ?_⟩
            obtain ⟨r, hr, rfl⟩ := List.mem_map.1 ha
            simp [hdK] at hb
            subst hb
            have := hall r hr
            simpa using this
          · rcases List.mem_append.1 hr with hr | hr
            · obtain ⟨g0, ms, sn, rr, g1, g2, g3, g4⟩ := hR.2.2.2 row hr
              refine ⟨g0, ms, sn, rr, g1, g2, g3, ?_⟩
              rw [heap_alloc_lt w _ (Array.getElem?_eq_some_iff.1 g4).1]
              exact g4
            · rw [List.mem_singleton.1 hr]
              exact hrow _ hget)
      exact { this with }

/-! ### a send, and a receive with a default -/
def CommGood (Φ : Sig) (ρ : Env) (μ : List Loc) (P : Program) (B : Base) (s : St) (w : World) (a : Act) (o : Oper) (outs : List (List SB × Option (AV × Mem))) : Prop :=
  (∃ pc', (pc', none) ∈ outs ∧ holds Φ ρ pc') ∨ ∃ pc' v m' w' x, (pc', some (v, m')) ∈ outs ∧ holds Φ ρ pc' ∧ den Φ ρ μ v = some x ∧ m'.nx = s.m.nx ∧ MRel Φ ρ μ B m' w' ∧
    ∀ (ops : Array Oper) (i : Nat) (rest : List Nat), ops[i]? = some o → Region.wanted o (yielded ops a.tmps) = true → ∀ (b : Frame) (k : List Item) (cs : List Frame),
      step P (lone (b.at a (.inRegion ops (i :: rest) :: k)) cs w) = .next (lone (b.at (a.put o.dst x) (.inRegion ops rest :: k)) cs w')
theorem comm_fin {ops : Array Oper} {i : Nat} {rest : List Nat} {o : Oper} (ho : ops[i]? = some o) (b : Frame) (k : List Item) (v : Value) : (b.at a (.inRegion ops (i :: rest) :: k)).finish v = b.at (a.put o.dst v) (.inRegion ops rest :: k) := by
  rw [Frame.finish_at, ho]; rfl
theorem drop_flat {ks : List CK} {m : List Int} {ms : List (List Int)} (h : okRow ks m) : ((m :: ms).flatten).drop ks.length = ms.flatten := by
  rw [List.flatten_cons, ← (okRow_iff.1 h).1, List.drop_left']
  rfl
theorem comm_ok (hT : TRel Φ ρ μ s.n s.t a) (hM : MRel Φ ρ μ B s.m w) (hp : holds Φ ρ pc) (o : Oper) {outs : List (List SB × Option (AV × Mem))} (h : commOp P s pc o.op = some outs) : CommGood Φ ρ μ P B s w a o outs := by
  generalize hop : o.op = op at h
  unfold commOp at h
  split at h
  · -- a send
    rename_i c x
    split at h
    case h_2 => cases h
    rename_i e cs i ks cap A hax hay hch
    split at h
    case h_2 => cases h
    rename_i pc1 row hrow
    simp only [Option.some.injEq] at h
    subst h
    obtain ⟨xs, hx, hxe⟩ := den_agg (opnd_ok hT hay)
    obtain ⟨pc2, rw', hmem1, hp1, hvals, hok⟩ := rowI_ok hp hrow hx
    simp only [List.mem_singleton, Prod.mk.injEq] at hmem1
    obtain ⟨rfl, rfl⟩ := hmem1
    obtain ⟨b, pc', hmem, hev, hp'⟩ := ways_ok Φ ρ (mkAnd (mkLt (.c 0) (mkLen 60 (mkFind 9 A e))) (mkLt (mkCnt A e ks.length) (.c cap))) hp1
    cases b with
    | false => exact .inl ⟨pc', List.mem_map.2 ⟨_, hmem, rfl⟩, hp'⟩
    | true =>
      right
      rw [evB_mkAnd, Bool.and_eq_true] at hev
      obtain ⟨l, r0, ms, sn, rr, ho, hl, hR, hr, hk, hpos, hfi, hr0, hm, hcap, hcnt, hq, hh, hin, hlt⟩ := chan_found hM hch hev.1
      have hroom : ms.length < cap := by
        have := hev.2
        rw [evB_mkLt, ev_mkCnt, hcnt, ev_c] at this
        have := of_decide_eq_true this
        omega
      have hv := opnd_ok hT hax
      simp only [den, denC, hq, Option.some.injEq] at hv
      have hup := chan_upd (f := fun r => r ++ rw'.map (·.ev Φ ρ)) (sn := sn + 1) (r := rr) (buf := ((ms.map fun m => Value.agg (rowVals ks m).toArray).toArray).push (.agg xs.toArray)) hR hr
        (fun r hr' => by
          obtain ⟨_, ms', _, _, g1, _⟩ := hR.2.2.2 r hr'
          rw [g1]; rfl) (by rw [hk]; exact hlt) (ms := ms ++ [rw'.map (·.ev Φ ρ)])
        (by rw [hk]; simp [hr0]) (fun m hm' => by rcases List.mem_append.1 hm' with h1 | h1; exact hm m h1; rw [List.mem_singleton.1 h1]; exact hok) (by simp; omega) (by simp [hvals])
      rw [hk] at hup
      refine ⟨pc', undefV, _, _, undef, List.mem_map.2 ⟨_, hmem, rfl⟩, hp', by simp [undefV, den, denT, undef], rfl, hM.chan ho hl hin (by rw [ev_mkSnd]; exact hup), fun ops j rest hoj hw b k cs => ?_⟩
      obtain ⟨es, hst⟩ := stepG_comm (P := P) (b := b) (k := k) (cs := cs) (rest := rest) (w := w) (w1 := w) (cases' := #[scase ((e.ev Φ ρ).toNat - 1) (.agg xs.toArray) (.tuple #[])]) (bl := true) (sh := .send) hoj hw (by
        simp only [execOp, hop, Sem.run_pure, ← hv, ← hxe]
        rfl)
      have := step_lone_send_room hst hh (by simpa using hroom)
      rw [comm_fin hoj] at this
      exact this
  · -- a receive with a default
    rename_i cases'
    split at h
    case h_2 => cases h
    rename_i cs hcs
    split at h
    case h_2 => cases h
    rename_i e i ks cap A z hsnd hax hch hz
    simp only [Option.some.injEq] at h
    subst h
    have e1 : cases' = #[cs] := Array.ext' hcs
    subst e1
    have hv := opnd_ok hT hax
    obtain ⟨zv, hzv, hzr, _⟩ := zero_ok (Φ := Φ) (ρ := ρ) (μ := μ) hz w
    obtain ⟨b, pc1, hmem, hev, hp1⟩ := ways_ok Φ ρ (mkLt (.c 0) (mkLen 60 (mkFind 9 A e))) hp
    cases b with
    | false => exact .inl ⟨pc1, List.mem_flatMap.2 ⟨_, hmem, by simp⟩, hp1⟩
    | true =>
      right
      obtain ⟨l, r0, ms, sn, rr, ho, hl, hR, hr, hk, hpos, hfi, hr0, hm, hcap, hcnt, hq, hh, hin, hlt⟩ := chan_found hM hch hev
      simp only [den, denC, hq, Option.some.injEq] at hv
      obtain ⟨b, pc', hmem', hev', hp'⟩ := ways_ok Φ ρ (mkLt (.c 0) (mkCnt A e ks.length)) hp1
      have hev1 : (0 < ms.length) ↔ b = true := by
        rw [evB_mkLt, ev_mkCnt, hcnt, ev_c] at hev'
        rw [← hev']
        simp
      have hstp : ∀ (ops : Array Oper) (j : Nat) (rest : List Nat) (b : Frame) (k : List Item) (cs1 : List Frame), ops[j]? = some o → Region.wanted o (yielded ops a.tmps) = true →
          ∃ es, stepG P true (G (b.at a (.inRegion ops (j :: rest) :: k)) cs1) w = .comm (G (b.at a (.inRegion ops (j :: rest) :: k)) cs1) #[rcase ((e.ev Φ ρ).toNat - 1) zv] false .select w es := fun ops j rest b k cs1 hoj hw =>
        stepG_comm (P := P) (b := b) (k := k) (cs := cs1) (rest := rest) (w := w) (w1 := w) hoj hw (by
          simp only [execOp, hop, Sem.run_bind]
          have : (Array.mapM (fun s => do pure ({ chan := a.eval s.chan, send := s.send.map a.eval, zero := ← zeroValue s.elem } : CommCase)) #[cs] : Sem (Array CommCase)).run P w = .ok #[rcase ((e.ev Φ ρ).toNat - 1) zv] w := by
            rw [Array.mapM_eq_mapM_toList, map_eq_pure_bind]
            simp only [List.mapM_cons, List.mapM_nil, Sem.run_bind, hzr, Result.andThen_ok, Sem.run_pure, ← hv, hsnd, Option.map_none]
            rfl
          rw [this]
          simp only [Result.andThen_ok, Sem.run_pure])
      cases b with
      | true =>
        have h0 := hev1.2 rfl
        obtain ⟨m, ms', rfl⟩ : ∃ m ms', ms = m :: ms' := by
          cases ms with
          | nil => simp at h0
          | cons m ms' => exact ⟨m, ms', rfl⟩
        have hokm := hm m (List.mem_cons_self ..)
        have hsel : ((mkFind 9 A e).ev Φ ρ).getD ((SI.c 0).ev Φ ρ).toNat [] = r0 := by rw [ev_mkFind, hfi, ev_c]; rfl
        have hget : ∀ j, j < ks.length → r0.getD (1 + j) 0 = m.getD j 0 := by
          intro j hj
          have hlm := (okRow_iff.1 hokm).1
          rw [hr0, Nat.add_comm, List.getD_cons_succ, List.flatten_cons]
          simp only [List.getD_eq_getElem?_getD]
          rw [List.getElem?_append_left (by omega)]
        have hup := chan_upd (f := fun r => hdK r :: r.tail.drop ks.length) (sn := sn) (r := rr + 1) (buf := ((((m :: ms').map fun m => Value.agg (rowVals ks m).toArray).toArray).extract 1 (((m :: ms').map fun m => Value.agg (rowVals ks m).toArray).toArray).size)) hR hr
          (fun r _ => rfl) (by rw [hk]; exact hlt) (ms := ms')
          (by rw [hk, hr0, List.tail_cons, drop_flat hokm]) (fun m hm' => hm m (List.mem_cons_of_mem _ hm')) (by simp at hcap; omega) (by simp; rw [List.take_of_length_le (by simp)])
        rw [hk] at hup
        refine ⟨_, _, { s.m with o := s.m.o.set i (.abs (.chans ks cap) (mkRcv A e ks.length)), wr := i :: s.m.wr }, _, .tuple #[goInt 0, .bool true, .agg (rowVals ks m).toArray], List.mem_flatMap.2 ⟨_, hmem, by simp only [if_true]; exact List.mem_map.2 ⟨_, hmem', rfl⟩⟩, holds_app Φ ρ (facts_ok hsel 1 ks fun j k hk => ?_) hp', ?_, rfl,
          hM.chan ho hl hin (by rw [ev_mkRcv]; simpa [rcvT] using hup), fun ops j rest hoj hw b k cs1 => ?_⟩
        · have hj : j < ks.length := (List.getElem?_eq_some_iff.1 hk).1
          rw [hget j hj]
          exact okRow_get (ms := []) (by simpa using hokm) j k hk
        · have h1 := denL_ext (Φ := Φ) (ρ := ρ) (μ := μ) hsel 1 ks
          have h2 : (ks.zipIdx.map fun x => ckVal x.1 (r0.getD (1 + x.2) 0)) = rowVals ks m := by
            rw [rowVals_zip ks [] m (by simpa using hokm)]
            refine List.map_congr_left fun x hx => ?_
            have := List.mem_zipIdx hx
            rw [hget x.2 (by omega)]
          rw [h2] at h1
          simp [den, denT, denC, h1, goInt]
        · obtain ⟨es, hst⟩ := hstp ops j rest b k cs1 hoj hw
          have := step_lone_select_recv_buf hst hh (by simp)
          rw [comm_fin hoj] at this
          simpa [lone_eq_solo] using this
      | false =>
        have h0 : ms = [] := by
          cases ms with
          | nil => rfl
          | cons m ms' => simp at hev1
        subst h0
        refine ⟨_, _, s.m, w, .tuple #[goInt (-1), .bool false, zv], List.mem_flatMap.2 ⟨_, hmem, by simp only [if_true]; exact List.mem_map.2 ⟨_, hmem', rfl⟩⟩, hp', ?_, rfl, hM, fun ops j rest hoj hw b k cs1 => ?_⟩
        · obtain ⟨us, hu, rfl⟩ := den_agg hzv
          simp [den, denT, denC, hu, goInt]
        · obtain ⟨es, hst⟩ := hstp ops j rest b k cs1 hoj hw
          have := step_lone_select_default hst (by simpa using hh)
          rw [comm_fin hoj] at this
          simpa [lone_eq_solo] using this
  · cases h
end
end Go.SF
