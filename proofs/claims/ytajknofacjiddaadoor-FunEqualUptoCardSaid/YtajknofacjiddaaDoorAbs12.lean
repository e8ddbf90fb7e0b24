/- The operations, step by step; leaving a function; what a call leaves behind may be dropped. -/
import Derived.Test.YtajknofacjiddaaDoorAbs11
import Derived.Maps.RangeRun
namespace Go.Proofs.YtajknofacjiddaaDoor.Abs
open Go Go.RowKit
set_option linter.unusedVariables false
set_option linter.unusedSimpArgs false

def awanted (ops : Array Oper) (o : Oper) (fr : Nat → AV) : Option Bool :=
  match o.guard with
  | none => some true
  | some (j, want) => match (ops[j]?).bind (·.dst) with
    | some t => match fr t with
      | .bool b => some (b == want)
      | .tup _ => some false
      | _ => none
    | none => none
theorem awanted_sound {g : Ghost} {ops : Array Oper} {o : Oper} {fr : Nat → AV} {tmps : Array Value} {r : Bool} (hf : ∀ s, Rep g (fr s) (tmps.getD s undef)) (e : awanted ops o fr = some r) : Region.wanted o (yielded ops tmps) = r := by
  unfold awanted at e
  unfold Region.wanted
  cases hg : o.guard with
  | none => rw [hg] at e; cases e; rfl
  | some p =>
    obtain ⟨j, want⟩ := p
    rw [hg] at e
    simp only at e ⊢
    split at e
    case h_2 => cases e
    rename_i t ht
    split at e
    case h_3 => cases e
    case h_2 =>
      rename_i cs hb
      cases e
      have h1 := hf t
      rw [hb] at h1
      unfold yielded
      rw [ht]
      simp only [Option.bind_some]
      cases hq : tmps[t]? with
      | none => cases want <;> rfl
      | some x =>
        have : tmps.getD t undef = x := by simp [Array.getD_eq_getD_getElem?, hq]
        rw [this] at h1
        cases h1
        cases want <;> rfl
    rename_i b hb
    cases e
    have h1 := hf t
    rw [hb] at h1
    have h2 : tmps[t]? = some (.bool b) := by
      cases hq : tmps[t]? with
      | none =>
        have : tmps.getD t undef = undef := by simp [Array.getD_eq_getD_getElem?, hq]
        rw [this] at h1
        cases h1
      | some x =>
        have : tmps.getD t undef = x := by simp [Array.getD_eq_getD_getElem?, hq]
        rw [this] at h1
        cases h1
        rfl
    unfold yielded
    rw [ht]
    simp only [Option.bind_some, h2]
    cases b <;> cases want <;> rfl

section
variable {P : Program} {b : Frame} {a : Act} {k : List Item} {cs : List Frame} {w w' : World} {ops : Array Oper} {i : Nat} {l : List Nat} {o : Oper}
theorem step_op_fin (ho : ops[i]? = some o) (hw : Region.wanted o (yielded ops a.tmps) = true) {n : Next} {x : Value} (hn : n = .value x ∨ (n = .skip ∧ x = undef)) (hr : (execOp a.eval o).run P w = .ok n w') :
    step P (lone (b.at a (.inRegion ops (i :: l) :: k)) cs w) = .next (lone (b.at (a.put o.dst x) (.inRegion ops l :: k)) cs w') := by
  have hg := stepG_op (P := P) (b := b) (k := k) (cs := cs) (w := w) (rest := l) ho hw
  have hfin : (b.at a (.inRegion ops (i :: l) :: k)).finish x = b.at (a.put o.dst x) (.inRegion ops l :: k) := by rw [Frame.finish_at, ho]; rfl
  refine step_lone_go ?_
  rcases hn with rfl | ⟨rfl, rfl⟩
  · rw [hg, ← hfin]; simp [stepG.apply, hr]
  · rw [hg, ← hfin]; simp [stepG.apply, hr]
theorem step_op_defer (ho : ops[i]? = some o) (hw : Region.wanted o (yielded ops a.tmps) = true) {d : Deferred} (hr : (execOp a.eval o).run P w = .ok (.defer d) w') :
    step P (lone (b.at a (.inRegion ops (i :: l) :: k)) cs w) = .next (lone (b.at ({ a with defers := d :: a.defers }.put o.dst undef) (.inRegion ops l :: k)) cs w') := by
  have hg := stepG_op (P := P) (b := b) (k := k) (cs := cs) (w := w) (rest := l) ho hw
  refine step_lone_go ?_
  have : ({ b.at a (.inRegion ops (i :: l) :: k) with defers := d :: a.defers } : Frame).finish undef = b.at ({ a with defers := d :: a.defers }.put o.dst undef) (.inRegion ops l :: k) := by
    have := Frame.finish_at b { a with defers := d :: a.defers } ops i l k undef
    rw [ho] at this; exact this
  rw [hg]; simp only [stepG.apply, Sem.runT_eq, hr, GStep.bare_after]
  exact congrArg (fun fr => GStep.go { frame := fr, callers := cs, status := .running, dying := none } w') this
theorem step_op_enter (ho : ops[i]? = some o) (hw : Region.wanted o (yielded ops a.tmps) = true) {f : FuncId} {args : Array Value} (hr : (execOp a.eval o).run P w = .ok (.enter f args) w') :
    step P (lone (b.at a (.inRegion ops (i :: l) :: k)) cs w) = .next (lone (Frame.enter P f args .normal) (b.at a (.inRegion ops (i :: l) :: k) :: cs) w') := by
  have hg := stepG_op (P := P) (b := b) (k := k) (cs := cs) (w := w) (rest := l) ho hw
  exact step_lone_go (by rw [hg]; simp [stepG.apply, hr, Frame.at])
theorem step_op_panic (ho : ops[i]? = some o) (hw : Region.wanted o (yielded ops a.tmps) = true) {v : Value} (hr : (execOp a.eval o).run P w = .halt (.panic v) w') :
    step P (lone (b.at a (.inRegion ops (i :: l) :: k)) cs w) = .next (lone { b.at a (.inRegion ops (i :: l) :: k) with mode := .panicking [{ v, recovered := false }] } cs w') := by
  have hg := stepG_op (P := P) (b := b) (k := k) (cs := cs) (w := w) (rest := l) ho hw
  exact step_lone_go (by rw [hg, ← Frame.raise_at]; simp [stepG.apply, hr])
end

def Enters (S : Seat) (f : FuncId) : Prop := ∀ args w, (callFunc f args).run S.P w = .ok (.enter f args) w
theorem Enters.of {S : Seat} {f : FuncId} {fn : Func} (hf : S.P.funcs[f]? = some fn) (hn : (fn.name == "runtime.NumGoroutine") = false) (hb : fn.body.isNone = false) : Enters S f := by
  intro args w
  unfold callFunc
  simp only [Sem.run_bind, run_program, Result.andThen_ok, hf, hn, hb, Bool.false_eq_true, if_false, Sem.run_pure]

section
variable {S : Seat} {fn : Func} {k : List Item} {ds : List ADef} {fr : Fr} {h : AHeap} {R : Post} {ops : Array Oper} {i : Nat} {l : List Nat} {o : Oper}
theorem put_dst_defers (a : Act) (d : Option Nat) (x : Value) : (a.put d x).defers = a.defers := by cases d <;> rfl
theorem Run.opQ (ho : ops[i]? = some o) (hw : awanted ops o fr.get = some true) (hd : dstOk fn.ntmps o.dst = true) {v : AV} (ha : aq S o.op (rho S fr.get) h = some v) (hr : Run S fn (.inRegion ops l :: k) ds (fr.put o.dst v) h R) :
    Run S fn (.inRegion ops (i :: l) :: k) ds fr h R := by
  intro w0 g w a b cs inv hf hds hfn hk
  obtain ⟨y, w', g', h1, h2, h3, h4⟩ := aq_sound inv (o := o) (fun x _ => rho_rep inv hf.2 x) ha
  exact ((hr w0 g' w' (a.put o.dst y) b cs h3 ((hf.mono h2).put hd h4) (by rw [put_dst_defers]; exact hds.mono h2) hfn hk).mono h2).of_step (step_op_fin ho (awanted_sound hf.2 hw) (.inl rfl) h1)
theorem Run.opE (ho : ops[i]? = some o) (hw : awanted ops o fr.get = some true) (hd : dstOk fn.ntmps o.dst = true) {v : AV} {h' : AHeap} (ha : ae S o.op (rho S fr.get) h = some (v, h')) (hr : Run S fn (.inRegion ops l :: k) ds (fr.put o.dst v) h' R) :
    Run S fn (.inRegion ops (i :: l) :: k) ds fr h R := by
  intro w0 g w a b cs inv hf hds hfn hk
  obtain ⟨n, w', g', h1, h2, h3, h4⟩ := ae_sound inv (o := o) (fun x _ => rho_rep inv hf.2 x) ha
  rcases h4 with ⟨y, rfl, h4⟩ | ⟨rfl, rfl⟩
  · exact ((hr w0 g' w' (a.put o.dst y) b cs h3 ((hf.mono h2).put hd h4) (by rw [put_dst_defers]; exact hds.mono h2) hfn hk).mono h2).of_step (step_op_fin ho (awanted_sound hf.2 hw) (.inl rfl) h1)
  · exact ((hr w0 g' w' (a.put o.dst undef) b cs h3 ((hf.mono h2).put hd (.top _)) (by rw [put_dst_defers]; exact hds.mono h2) hfn hk).mono h2).of_step (step_op_fin ho (awanted_sound hf.2 hw) (.inr ⟨rfl, rfl⟩) h1)
theorem Run.opSkip (ho : ops[i]? = some o) (hw : awanted ops o fr.get = some false) (hd : dstOk fn.ntmps o.dst = true) (hr : Run S fn (.inRegion ops l :: k) ds (fr.put o.dst (.tup [])) h R) :
    Run S fn (.inRegion ops (i :: l) :: k) ds fr h R := by
  intro w0 g w a b cs inv hf hds hfn hk
  have hs := step_op_skip (P := S.P) (b := b) (a := a) (k := k) (cs := cs) (w := w) (ops := ops) (i := i) (rest := l) (by simp [ho, awanted_sound hf.2 hw])
  simp only [ho, Option.bind_some] at hs
  exact (hr w0 g w (a.put o.dst undef) b cs inv (hf.put hd (.tup rfl (fun i v e => by simp at e))) (by rw [put_dst_defers]; exact hds) hfn hk).of_step hs
theorem Run.opCall (ho : ops[i]? = some o) (hw : awanted ops o fr.get = some true) (hd : dstOk fn.ntmps o.dst = true) {f : Operand} {args : Array Operand} {ts : Array TypeId} (hop : o.op = .call { callee := .value f, args := args, argTypes := ts }) {fid : FuncId} {caps : List AV}
    (hfn' : rho S fr.get f = .func fid caps) (he : Enters S fid) {Rc : Post} (hc : AC S fid (args.toList.map (rho S fr.get) ++ caps) h Rc)
    (hr : ∀ v h', Rc (.ret v) h' → Run S fn (.inRegion ops l :: k) ds (fr.put o.dst v) h' R) (hp : ∀ v h', Rc (.pan v) h' → Leave S fn (.panicking v) ds fr h' R) :
    Run S fn (.inRegion ops (i :: l) :: k) ds fr h R := by
  intro w0 g w a b cs inv hf hds hfn hk
  have hrep := rho_rep inv hf.2 f
  rw [hfn'] at hrep
  have hargs := list_rep (g := g) (ρ := rho S fr.get) (e := a.eval) (xs := args) (fun x _ => rho_rep inv hf.2 x)
  obtain ⟨xs, hfv, hxs⟩ : ∃ xs : Array Value, a.eval f = .func (.func fid) #[] xs ∧ RepL g caps xs := by
    generalize a.eval f = z at hrep
    cases hrep
    exact ⟨_, rfl, ‹_›, ‹_›⟩
  have hall : RepL g (args.toList.map (rho S fr.get) ++ caps) (args.map a.eval ++ xs) := by
    refine ⟨by simp [hxs.1], fun j v hv => ?_⟩
    by_cases q : j < args.size
    · rw [List.getElem?_append_left (by simpa using q)] at hv
      have := hargs.2 j v hv
      have e1 : (args.map a.eval ++ xs).getD j undef = (args.map a.eval).getD j undef := by
        simp only [Array.getD_eq_getD_getElem?, Array.getElem?_append, Array.size_map, if_pos q]
      rw [e1]
      exact this
    · rw [List.getElem?_append_right (by simp; omega)] at hv
      have := hxs.2 _ v hv
      have e1 : (args.map a.eval ++ xs).getD j undef = xs.getD (j - (List.map (rho S fr.get) args.toList).length) undef := by
        simp only [Array.getD_eq_getD_getElem?, Array.getElem?_append, Array.size_map, if_neg q, List.length_map, Array.length_toList]
      rw [e1]
      exact this
  have hrun : (execOp a.eval o).run S.P w = .ok (.enter fid (args.map a.eval ++ xs)) w := by
    unfold execOp
    simp only [hop, resolve, Sem.run_bind, Sem.run_pure, Result.andThen_ok, Deferred.ofValue, hfv, Array.empty_append, invoke]
    exact he _ _
  obtain ⟨e, w', fr', ⟨r, h', g', l1, inv', hend, hR⟩, hcomes, hffn, hleave⟩ := hc w0 g w _ inv hall (b.at a (.inRegion ops (i :: l) :: k) :: cs)
  have s1 := step_op_enter (b := b) (k := k) (cs := cs) (l := l) ho (awanted_sound hf.2 hw) hrun
  cases r with
  | ret v =>
    cases e with
    | returned x =>
      have s2 := step_leave_returned (c := b.at a (.inRegion ops (i :: l) :: k)) (cs := cs) hleave
      have hfin : (b.at a (.inRegion ops (i :: l) :: k)).finish x = b.at (a.put o.dst x) (.inRegion ops l :: k) := by rw [Frame.finish_at, ho]; rfl
      rw [hfin] at s2
      refine Done.of_steps (.head s1 (Steps.trans hcomes (.one s2))) ((hr v h' hR w0 g' w' (a.put o.dst x) b cs inv' ((hf.mono l1).put hd hend) (by rw [put_dst_defers]; exact hds.mono l1) hfn hk).mono l1)
    | panicked ch => exact hend.elim
    | outgrown => exact hend.elim
  | pan v =>
    cases e with
    | returned x => exact hend.elim
    | panicked ch =>
      cases ch with
      | nil => exact hend.elim
      | cons pe rest =>
        cases rest with
        | cons _ _ => exact hend.elim
        | nil =>
          have s2 := step_leave_panicked (c := b.at a (.inRegion ops (i :: l) :: k)) (cs := cs) hleave
          rw [Frame.raise_at] at s2
          exact Done.of_steps (.head s1 (Steps.trans hcomes (.one s2))) ((hp v h' hR w0 g' w' { b.at a (.inRegion ops (i :: l) :: k) with mode := .panicking [pe] } cs inv' (hf.mono l1) (hds.mono l1) hfn hk hend).mono l1)
    | outgrown => exact hend.elim
theorem DefsRep.cons {g : Ghost} {a : ADef} {d : Deferred} {ds : List ADef} {dl : List Deferred} (h : DefRep g a d) (hs : DefsRep g ds dl) : DefsRep g (a :: ds) (d :: dl) :=
  ⟨by simp [hs.1], fun i a' d' h1 h2 => by
    cases i with
    | zero => cases h1; cases h2; exact h
    | succ i => exact hs.2 i a' d' h1 h2⟩
theorem Run.opDeferDel (ho : ops[i]? = some o) (hw : awanted ops o fr.get = some true) (hd : dstOk fn.ntmps o.dst = true) {args : Array Operand} {ts : Array TypeId} (hop : o.op = .defer { callee := .builtin .delete, args := args, argTypes := ts })
    (hr : Run S fn (.inRegion ops l :: k) (.del ts (args.toList.map (rho S fr.get)) :: ds) (fr.put o.dst .top) h R) : Run S fn (.inRegion ops (i :: l) :: k) ds fr h R := by
  intro w0 g w a b cs inv hf hds hfn hk
  have hargs := list_rep (g := g) (ρ := rho S fr.get) (e := a.eval) (xs := args) (fun x _ => rho_rep inv hf.2 x)
  obtain ⟨cst, hrun⟩ : ∃ cst, (execOp a.eval o).run S.P w = .ok (.defer { target := .builtin .delete ts o.type cst, args := args.map a.eval }) w := by
    unfold execOp
    simp only [hop, resolve, Sem.run_bind, Sem.run_pure, Result.andThen_ok]
    exact ⟨_, rfl⟩
  refine (hr w0 g w _ b cs inv (FrRep.put (a := { a with defers := _ :: a.defers }) hf hd (.top _)) ?_ hfn hk).of_step (step_op_defer ho (awanted_sound hf.2 hw) hrun)
  rw [put_dst_defers]
  exact DefsRep.cons ⟨_, _, _, rfl, hargs⟩ hds
theorem Run.opDeferFn (ho : ops[i]? = some o) (hw : awanted ops o fr.get = some true) (hd : dstOk fn.ntmps o.dst = true) {f : Operand} {args : Array Operand} {ts : Array TypeId} (hop : o.op = .defer { callee := .value f, args := args, argTypes := ts }) {fid : FuncId} {caps : List AV}
    (hfn' : rho S fr.get f = .func fid caps) (hr : Run S fn (.inRegion ops l :: k) (.func fid (args.toList.map (rho S fr.get) ++ caps) :: ds) (fr.put o.dst .top) h R) : Run S fn (.inRegion ops (i :: l) :: k) ds fr h R := by
  intro w0 g w a b cs inv hf hds hfn hk
  have hrep := rho_rep inv hf.2 f
  rw [hfn'] at hrep
  have hargs := list_rep (g := g) (ρ := rho S fr.get) (e := a.eval) (xs := args) (fun x _ => rho_rep inv hf.2 x)
  obtain ⟨xs, hfv, hxs⟩ : ∃ xs : Array Value, a.eval f = .func (.func fid) #[] xs ∧ RepL g caps xs := by
    generalize a.eval f = z at hrep
    cases hrep
    exact ⟨_, rfl, ‹_›, ‹_›⟩
  have hall : RepL g (args.toList.map (rho S fr.get) ++ caps) (args.map a.eval ++ xs) := by
    refine ⟨by simp [hxs.1], fun j v hv => ?_⟩
    by_cases q : j < args.size
    · rw [List.getElem?_append_left (by simpa using q)] at hv
      have := hargs.2 j v hv
      have e1 : (args.map a.eval ++ xs).getD j undef = (args.map a.eval).getD j undef := by
        simp only [Array.getD_eq_getD_getElem?, Array.getElem?_append, Array.size_map, if_pos q]
      rw [e1]
      exact this
    · rw [List.getElem?_append_right (by simp; omega)] at hv
      have := hxs.2 _ v hv
      have e1 : (args.map a.eval ++ xs).getD j undef = xs.getD (j - (List.map (rho S fr.get) args.toList).length) undef := by
        simp only [Array.getD_eq_getD_getElem?, Array.getElem?_append, Array.size_map, if_neg q, List.length_map, Array.length_toList]
      rw [e1]
      exact this
  have hrun : (execOp a.eval o).run S.P w = .ok (.defer { target := .fn (.func fid) xs, args := args.map a.eval }) w := by
    unfold execOp
    simp only [hop, resolve, Sem.run_bind, Sem.run_pure, Result.andThen_ok, Deferred.ofValue, hfv, Array.empty_append]
  refine (hr w0 g w _ b cs inv (FrRep.put (a := { a with defers := _ :: a.defers }) hf hd (.top _)) ?_ hfn hk).of_step (step_op_defer ho (awanted_sound hf.2 hw) hrun)
  rw [put_dst_defers]
  exact DefsRep.cons ⟨_, _, rfl, hall⟩ hds
theorem Run.opPanic (ho : ops[i]? = some o) (hw : awanted ops o fr.get = some true) {x : Operand} (hop : o.op = .panic x) {t : TypeId} {v : AV} (hx : rho S fr.get x = .iface t v) (hr : Leave S fn (.panicking (.iface t v)) ds fr h R) :
    Run S fn (.inRegion ops (i :: l) :: k) ds fr h R := by
  intro w0 g w a b cs inv hf hds hfn hk
  have hrep := rho_rep inv hf.2 x
  rw [hx] at hrep
  obtain ⟨y, hy⟩ : ∃ y, a.eval x = .iface t y := by
    generalize a.eval x = z at hrep
    cases hrep
    exact ⟨_, rfl⟩
  have hrun : (execOp a.eval o).run S.P w = .halt (.panic (a.eval x)) w := by
    unfold execOp
    simp only [hop, hy, Instr.panic, Sem.run_bind, run_goPanic, Result.andThen_halt]
  exact (hr w0 g w { b.at a (.inRegion ops (i :: l) :: k) with mode := .panicking [{ v := a.eval x, recovered := false }] } cs inv hf hds hfn hk ⟨hrep, rfl, rfl⟩).of_step (step_op_panic ho (awanted_sound hf.2 hw) hrun)

/-! Leaving -/
def aresults (S : Seat) (fn : Func) (fr : Fr) (h : AHeap) : List ResultVar → Option (List AV)
  | [] => some []
  | .tmp t :: rs => (aresults S fn fr h rs).map (fr.get t :: ·)
  | .cell t ty :: rs => match aload S ty (fr.get t) h with
    | some v => (aresults S fn fr h rs).map (v :: ·)
    | none => none
def oneOf : List AV → AV
  | [v] => v
  | vs => .tup vs
def resOne (tmps : Array Value) : ResultVar → Sem Value
  | .tmp t => pure (tmps.getD t undef)
  | .cell a t => do loadVar t (← asAddr (tmps.getD a undef))
theorem results_eq (fn : Func) (tmps : Array Value) : results fn tmps = (do let vs ← fn.results.mapM (resOne tmps); pure (if h : vs.size = 1 then vs[0] else .tuple vs)) := by
  unfold results
  congr 1
theorem aresults_sound {w0 : World} {g : Ghost} {w : World} (inv : Inv S w0 h g w) {tmps : Array Value} (hf : ∀ s, Rep g (fr.get s) (tmps.getD s undef)) : ∀ (rs : List ResultVar) (vs : List AV), aresults S fn fr h rs = some vs →
    ∃ xs, (rs.mapM (resOne tmps)).run S.P w = .ok xs w ∧ xs.length = vs.length ∧ ∀ (i : Nat) v x, vs[i]? = some v → xs[i]? = some x → Rep g v x
  | [], vs, e => by cases e; exact ⟨[], rfl, rfl, fun i v x h => by simp at h⟩
  | .tmp t :: rs, vs, e => by
    simp only [aresults] at e
    cases hq : aresults S fn fr h rs with
    | none => rw [hq] at e; cases e
    | some vs' =>
      rw [hq] at e
      cases e
      obtain ⟨xs, h1, h2, h3⟩ := aresults_sound inv hf rs vs' hq
      refine ⟨tmps.getD t undef :: xs, ?_, by simp [h2], fun i v x hv hx => ?_⟩
      · simp only [List.mapM_cons, resOne, Sem.run_bind, Sem.run_pure, Result.andThen_ok, h1]
      · cases i with
        | zero => cases hv; cases hx; exact hf t
        | succ i => exact h3 i v x hv hx
  | .cell t ty :: rs, vs, e => by
    simp only [aresults] at e
    split at e
    case h_2 => cases e
    rename_i v hl
    cases hq : aresults S fn fr h rs with
    | none => rw [hq] at e; cases e
    | some vs' =>
      rw [hq] at e
      cases e
      obtain ⟨xs, h1, h2, h3⟩ := aresults_sound inv hf rs vs' hq
      obtain ⟨y, hy, hyr⟩ := aload_sound inv (hf t) hl
      unfold aload at hl
      obtain ⟨cs, hcs, hv⟩ := Option.bind_eq_some_iff.1 hl
      obtain ⟨b, o, hx, hc⟩ := acells_sound inv (hf t) hcs
      refine ⟨y :: xs, ?_, by simp [h2], fun i v x hv hx => ?_⟩
      · rw [hx] at hy
        simp only [Instr.loadAt, Instr.sureAddr, Sem.run_bind, Sem.run_pure, Result.andThen_ok] at hy
        simp only [List.mapM_cons, resOne, hx, Sem.run_bind, asAddr, Sem.run_pure, Result.andThen_ok, hy, h1]
      · cases i with
        | zero => cases hv; cases hx; exact hyr
        | succ i => exact h3 i v x hv hx
theorem results_sound {w0 : World} {g : Ghost} {w : World} (inv : Inv S w0 h g w) {tmps : Array Value} (hf : ∀ s, Rep g (fr.get s) (tmps.getD s undef)) {vs : List AV} (e : aresults S fn fr h fn.results.toList = some vs) :
    ∃ x, (results fn tmps).run S.P w = .ok x w ∧ Rep g (oneOf vs) x := by
  obtain ⟨xs, h1, h2, h3⟩ := aresults_sound inv hf _ vs e
  have hr : (results fn tmps).run S.P w = .ok (if h : xs.toArray.size = 1 then xs.toArray[0] else .tuple xs.toArray) w := by
    rw [results_eq, Array.mapM_eq_mapM_toList]
    simp only [Sem.run_bind, Sem.run_map, h1, Result.andThen_ok, Sem.run_pure]
  refine ⟨_, hr, ?_⟩
  match vs, xs, h2, h3 with
  | [v], [x], _, h3 => exact h3 0 v x rfl rfl
  | [], [], _, _ => exact .tup rfl (fun i v hv => by simp at hv)
  | v1 :: v2 :: vs, x1 :: x2 :: xs, h2, h3 =>
    have : ¬ (x1 :: x2 :: xs).toArray.size = 1 := by simp
    rw [dif_neg this]
    have hrl := RepL.of h2 h3
    exact .tup hrl.1 hrl.2
theorem Leave.ret {vs : List AV} (e : aresults S fn fr h fn.results.toList = some vs) (hR : R (.ret (oneOf vs)) h) : Leave S fn .returning [] fr h R := by
  intro w0 g w frm cs inv hf hds hfn hk hm
  obtain ⟨x, hx, hxr⟩ := results_sound inv hf.2 e
  have hd : frm.defers = [] := List.eq_nil_of_length_eq_zero hds.1
  have hmode : frm.mode = .returning := by
    revert hm
    cases frm.mode <;> intro hm <;> first | rfl | exact hm.elim
  exact ⟨.returned x, w, frm, Steps.refl _ _, rfl, ⟨hmode, hd, hk, fn, hfn, hx⟩, .ret (oneOf vs), h, g, Ghost.le.refl g, inv, hxr, hR⟩
theorem Leave.pan {v : AV} (hR : R (.pan v) h) : Leave S fn (.panicking v) [] fr h R := by
  intro w0 g w frm cs inv hf hds hfn hk hm
  have hd : frm.defers = [] := List.eq_nil_of_length_eq_zero hds.1
  cases hmode : frm.mode with
  | run => rw [hmode] at hm; exact hm.elim
  | returning => rw [hmode] at hm; exact hm.elim
  | panicking ch =>
    rw [hmode] at hm
    match ch, hm with
    | [pe], hm => exact ⟨.panicked [pe], w, frm, Steps.refl _ _, rfl, ⟨hmode, hd, fn, hfn⟩, .pan v, h, g, Ghost.le.refl g, inv, hm, hR⟩
theorem ModeRep.notRun {g : Ghost} {m : AMode} {f : FrameMode} (h : ModeRep g m f) : f ≠ .run := by rintro rfl; cases m <;> exact h
theorem ModeRep.mono {g g' : Ghost} (l : g.le g') {m : AMode} {f : FrameMode} (h : ModeRep g m f) : ModeRep g' m f := by
  cases m with
  | returning => cases f <;> exact h
  | panicking v =>
    cases f with
    | run => exact h
    | returning => exact h
    | panicking ch =>
      match ch, h with
      | [pe], h => exact ⟨h.1.mono l, h.2⟩
theorem Leave.del {m : AMode} {ts : Array TypeId} {mv kv : AV} {h' : AHeap} (e : adelete S ts[0]? mv kv h = some h') (hr : Leave S fn m ds fr h' R) : Leave S fn m (.del ts [mv, kv] :: ds) fr h R := by
  intro w0 g w frm cs inv hf hds hfn hk hm
  obtain ⟨d, dl, hdl⟩ : ∃ d dl, frm.defers = d :: dl := by
    cases hq : frm.defers with
    | nil => rw [hq] at hds; simp [DefsRep] at hds
    | cons d dl => exact ⟨d, dl, rfl⟩
  rw [hdl] at hds
  obtain ⟨ty, cst, xs, rfl, hxs⟩ := hds.2 0 _ _ rfl rfl
  obtain ⟨w', h1, h2⟩ := adelete_sound (ty := ty) inv hxs e
  have hinv : (invoke (.builtin .delete ts ty cst) xs).run S.P w = .ok (.value (.tuple #[])) w' := by
    simp only [invoke, builtin, Sem.run_bind, h1, Result.andThen_ok, Sem.run_pure]
  have hstep : step S.P (lone frm cs w) = .next (lone { frm with defers := dl } cs w') := by
    refine step_lone_go ?_
    have hnr := hm.notRun
    cases hmode : frm.mode with
    | run => exact absurd hmode hnr
    | returning => simp [stepG, unwind, callDeferred, hmode, hdl, hinv]
    | panicking chain => simp [stepG, unwind, callDeferred, hmode, hdl, hinv]
  exact (hr w0 g w' { frm with defers := dl } cs h2 hf ⟨by have := hds.1; simpa using this, fun i a d h1 h2 => hds.2 (i + 1) a d h1 h2⟩ hfn hk hm).of_step hstep
end
end Go.Proofs.YtajknofacjiddaaDoor.Abs
