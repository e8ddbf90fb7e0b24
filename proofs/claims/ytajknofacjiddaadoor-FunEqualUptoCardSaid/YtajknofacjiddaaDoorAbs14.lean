/- A region whose operations come in any order that its edges allow: one order is enough, if what is read is not written meanwhile. -/
import Derived.Test.YtajknofacjiddaaDoorAbs13
namespace Go.Proofs.YtajknofacjiddaaDoor.Abs
open Go Go.RowKit
set_option linter.unusedVariables false
set_option linter.unusedSimpArgs false

def quietOp : Op → Bool
  | .move _ | .assign _ | .pick .. | .load .. | .nilCheck _ | .binOp .. | .unOp .. | .convert .. | .makeFunc .. | .makeInterface .. | .fieldAddr .. | .field .. | .indexAddr .. | .index .. | .lookup .. | .extract .. | .slice .. | .build .. | .buildSlice .. => true
  | .call { callee := .builtin b, .. } => match b with
    | .len | .max | .min => true
    | _ => false
  | _ => false
def aqg (S : Seat) (ops : Array Oper) (o : Oper) (fr : Nat → AV) (h : AHeap) : Option AV :=
  match awanted ops o fr with
  | some true => aq S o.op (rho S fr) h
  | some false => some (.tup [])
  | none => none

/-- What an effect gives. -/
def Eff (S : Seat) (o : Oper) (ρ : Operand → AV) (ds : List ADef) (h : AHeap) (K : AV → List ADef → AHeap → Prop) (KP : AV → AHeap → Prop) : Prop :=
  (∃ v h', ae S o.op ρ h = some (v, h') ∧ K v ds h') ∨
  (∃ f args ts fid caps Rc, o.op = .call { callee := .value f, args := args, argTypes := ts } ∧ ρ f = .func fid caps ∧ Enters S fid ∧ AC S fid (args.toList.map ρ ++ caps) h Rc ∧ (∀ v h', Rc (.ret v) h' → K v ds h') ∧ (∀ v h', Rc (.pan v) h' → KP v h')) ∨
  (∃ args ts, o.op = .defer { callee := .builtin .delete, args := args, argTypes := ts } ∧ K .top (.del ts (args.toList.map ρ) :: ds) h)
theorem Eff.ae {S : Seat} {o : Oper} {ρ : Operand → AV} {ds : List ADef} {h : AHeap} {K : AV → List ADef → AHeap → Prop} {KP : AV → AHeap → Prop} {v : AV} {h' : AHeap} (e : ae S o.op ρ h = some (v, h')) (k : K v ds h') : Eff S o ρ ds h K KP := .inl ⟨v, h', e, k⟩
theorem Eff.call {S : Seat} {o : Oper} {ρ : Operand → AV} {ds : List ADef} {h : AHeap} {K : AV → List ADef → AHeap → Prop} {KP : AV → AHeap → Prop} {f : Operand} {args : Array Operand} {ts : Array TypeId} {fid : FuncId} {caps : List AV} {Rc : Post}
    (hop : o.op = .call { callee := .value f, args := args, argTypes := ts }) (hf : ρ f = .func fid caps) (he : Enters S fid) (hc : AC S fid (args.toList.map ρ ++ caps) h Rc) (hk : ∀ v h', Rc (.ret v) h' → K v ds h') (hp : ∀ v h', Rc (.pan v) h' → KP v h') : Eff S o ρ ds h K KP :=
  .inr (.inl ⟨f, args, ts, fid, caps, Rc, hop, hf, he, hc, hk, hp⟩)
theorem Eff.deferDel {S : Seat} {o : Oper} {ρ : Operand → AV} {ds : List ADef} {h : AHeap} {K : AV → List ADef → AHeap → Prop} {KP : AV → AHeap → Prop} {args : Array Operand} {ts : Array TypeId}
    (hop : o.op = .defer { callee := .builtin .delete, args := args, argTypes := ts }) (hk : K .top (.del ts (args.toList.map ρ) :: ds) h) : Eff S o ρ ds h K KP := .inr (.inr ⟨args, ts, hop, hk⟩)

theorem repL_append {g : Ghost} {us vs : List AV} {xs ys : Array Value} (h1 : RepL g us xs) (h2 : RepL g vs ys) : RepL g (us ++ vs) (xs ++ ys) := by
  refine ⟨by simp [h1.1, h2.1], fun j v hv => ?_⟩
  by_cases q : j < xs.size
  · rw [List.getElem?_append_left (by rw [← h1.1]; exact q)] at hv
    have := h1.2 j v hv
    have e1 : (xs ++ ys).getD j undef = xs.getD j undef := by simp only [Array.getD_eq_getD_getElem?, Array.getElem?_append, if_pos q]
    rw [e1]; exact this
  · rw [List.getElem?_append_right (by rw [← h1.1]; omega)] at hv
    have := h2.2 _ v hv
    have e1 : (xs ++ ys).getD j undef = ys.getD (j - us.length) undef := by
      simp only [Array.getD_eq_getD_getElem?, Array.getElem?_append, if_neg q]
      rw [h1.1]
    rw [e1]; exact this

theorem eff_sound {S : Seat} {w0 : World} {h : AHeap} {g : Ghost} {w : World} {o : Oper} {ρ : Operand → AV} {ds : List ADef} {K : AV → List ADef → AHeap → Prop} {KP : AV → AHeap → Prop} {a : Act} {b : Frame} {cs : List Frame} {ops : Array Oper} {i : Nat} {l : List Nat} {k : List Item}
    (inv : Inv S w0 h g w) (hr : ∀ x ∈ o.op.operands.toList, Rep g (ρ x) (a.eval x)) (hds : DefsRep g ds a.defers) (ho : ops[i]? = some o) (hw : Region.wanted o (yielded ops a.tmps) = true) (he : Eff S o ρ ds h K KP) :
    (∃ v x h' g' w' ds' dl, K v ds' h' ∧ g.le g' ∧ Inv S w0 h' g' w' ∧ Rep g' v x ∧ DefsRep g' ds' dl ∧
      Steps S.P (lone (b.at a (.inRegion ops (i :: l) :: k)) cs w) (lone (b.at ({ a with defers := dl }.put o.dst x) (.inRegion ops l :: k)) cs w')) ∨
    (∃ v pe h' g' w', KP v h' ∧ g.le g' ∧ Inv S w0 h' g' w' ∧ (Rep g' v pe.v ∧ pe.recovered = false ∧ pe.goexit = false) ∧
      Steps S.P (lone (b.at a (.inRegion ops (i :: l) :: k)) cs w) (lone { b.at a (.inRegion ops (i :: l) :: k) with mode := .panicking [pe] } cs w')) := by
  rcases he with ⟨v, h', hae, hk⟩ | ⟨f, args, ts, fid, caps, Rc, hop, hfn', hent, hc, hk, hp⟩ | ⟨args, ts, hop, hk⟩
  · obtain ⟨n, w', g', h1, h2, h3, h4⟩ := ae_sound inv hr hae
    left
    rcases h4 with ⟨y, rfl, h4⟩ | ⟨rfl, rfl⟩
    · exact ⟨v, y, h', g', w', ds, a.defers, hk, h2, h3, h4, hds.mono h2, .one (step_op_fin ho hw (.inl rfl) h1)⟩
    · exact ⟨.top, undef, h', g', w', ds, a.defers, hk, h2, h3, .top _, hds.mono h2, .one (step_op_fin ho hw (.inr ⟨rfl, rfl⟩) h1)⟩
  · have hops : o.op.operands.toList = f :: args.toList := by simp [hop, Op.operands, Call.operands]
    rw [hops] at hr
    have hrep := hr f (by simp)
    rw [hfn'] at hrep
    have hargs := list_rep (g := g) (ρ := ρ) (e := a.eval) (xs := args) (fun x hx => hr x (by simp at hx ⊢; exact .inr hx))
    obtain ⟨xs, hfv, hxs⟩ : ∃ xs : Array Value, a.eval f = .func (.func fid) #[] xs ∧ RepL g caps xs := by
      generalize a.eval f = z at hrep
      cases hrep
      exact ⟨_, rfl, ‹_›, ‹_›⟩
    have hrun : (execOp a.eval o).run S.P w = .ok (.enter fid (args.map a.eval ++ xs)) w := by
      unfold execOp
      simp only [hop, resolve, Sem.run_bind, Sem.run_pure, Result.andThen_ok, Deferred.ofValue, hfv, Array.empty_append, invoke]
      exact hent _ _
    obtain ⟨e, w', fr', ⟨r, h', g', l1, inv', hend, hR⟩, hcomes, hffn, hleave⟩ := hc w0 g w _ inv (repL_append hargs hxs) (b.at a (.inRegion ops (i :: l) :: k) :: cs)
    have s1 := step_op_enter (b := b) (k := k) (cs := cs) (l := l) ho hw hrun
    cases r with
    | ret v =>
      cases e with
      | returned x =>
        have s2 := step_leave_returned (c := b.at a (.inRegion ops (i :: l) :: k)) (cs := cs) hleave
        have hfin : (b.at a (.inRegion ops (i :: l) :: k)).finish x = b.at (a.put o.dst x) (.inRegion ops l :: k) := by rw [Frame.finish_at, ho]; rfl
        rw [hfin] at s2
        exact .inl ⟨v, x, h', g', w', ds, a.defers, hk v h' hR, l1, inv', hend, hds.mono l1, .head s1 (Steps.trans hcomes (.one s2))⟩
      | panicked ch => exact hend.elim
      | outgrown => exact hend.elim
    | pan v =>
      cases e with
      | returned x => exact hend.elim
      | panicked ch =>
        match ch, hend, hleave, hcomes with
        | [pe], hend, hleave, hcomes =>
          have s2 := step_leave_panicked (c := b.at a (.inRegion ops (i :: l) :: k)) (cs := cs) hleave
          rw [Frame.raise_at] at s2
          exact .inr ⟨v, pe, h', g', w', hp v h' hR, l1, inv', hend, .head s1 (Steps.trans hcomes (.one s2))⟩
      | outgrown => exact hend.elim
  · have hops : o.op.operands.toList = args.toList := by simp [hop, Op.operands, Call.operands]
    rw [hops] at hr
    have hargs := list_rep (g := g) (ρ := ρ) (e := a.eval) (xs := args) hr
    obtain ⟨cst, hrun⟩ : ∃ cst, (execOp a.eval o).run S.P w = .ok (.defer { target := .builtin .delete ts o.type cst, args := args.map a.eval }) w := by
      unfold execOp
      simp only [hop, resolve, Sem.run_bind, Sem.run_pure, Result.andThen_ok]
      exact ⟨_, rfl⟩
    exact .inl ⟨.top, undef, h, g, w, _, _, hk, Ghost.le.refl g, inv, .top _, DefsRep.cons ⟨_, _, _, rfl, hargs⟩ hds, .one (step_op_defer ho hw hrun)⟩

/-! The order in which the abstract run takes the operations, and what must hold of it -/
abbrev Pend := List (Nat × (Nat → AV) × AV)
def Stable (S : Seat) (ops : Array Oper) (tab : List (List Nat)) (e : Nat) (pend : Pend) (h : AHeap) : Prop :=
  ∀ x ∈ pend, x.1 ∈ tab.getD e [] ∨ ∀ o, ops[x.1]? = some o → aqg S ops o x.2.1 h = some x.2.2
def DRun (S : Seat) (fn : Func) (ops : Array Oper) (tab : List (List Nat)) (k : List Item) (R : Post) : List Nat → Pend → List ADef → Fr → AHeap → Prop
  | [], _, ds, fr, h => Run S fn k ds fr h R
  | i :: rest, pend, ds, fr, h => ∃ o, ops[i]? = some o ∧ dstOk fn.ntmps o.dst = true ∧
      if quietOp o.op then ∃ v, aqg S ops o fr.get h = some v ∧ DRun S fn ops tab k R rest ((i, fr.get, v) :: pend) ds (fr.put o.dst v) h
      else (awanted ops o fr.get = some false ∧ DRun S fn ops tab k R rest pend ds (fr.put o.dst (.tup [])) h) ∨ (awanted ops o fr.get = some true ∧ Eff S o (rho S fr.get) ds h (fun v ds' h' => Stable S ops tab i pend h' ∧ DRun S fn ops tab k R rest pend ds' (fr.put o.dst v) h') (fun v h' => Leave S fn (.panicking v) ds [] h' R))

def slotsOf (ops : Array Oper) (o : Oper) : List Nat :=
  (o.op.operands.toList.filterMap fun | .tmp t => some t | _ => none) ++
  (match o.guard with | some (j, _) => (match (ops[j]?).bind (·.dst) with | some t => [t] | none => []) | none => [])
/-- The certificate: 'ord' an order, 'tab' what comes before each. -/
structure DrawOk (ops : Array Oper) (ord : List Nat) (tab : List (List Nat)) : Prop where
  perm : ∀ i, i < ops.size → i ∈ ord
  lt : ∀ i ∈ ord, i < ops.size
  nodup : ord.Nodup
  edge : ∀ (i : Nat) o, ops[i]? = some o → ∀ e ∈ o.after, Region.binds .any e = true → e.on < i
  cert : ∀ i j, j ∈ tab.getD i [] → ∃ o, ops[i]? = some o ∧ ∃ e ∈ o.after, Region.binds .any e = true ∧ (e.on = j ∨ j ∈ tab.getD e.on [])
  dst : ∀ (i j : Nat) oi oj d, ops[i]? = some oi → ops[j]? = some oj → oi.dst = some d → oj.dst = some d → i = j
  slots : ∀ (i : Nat) o, ops[i]? = some o → ∀ s ∈ slotsOf ops o, ∀ (j : Nat) oj, ops[j]? = some oj → oj.dst = some s → j = i ∨ j ∈ tab.getD i [] ∨ i ∈ tab.getD j []
  before : ∀ i j, j ∈ tab.getD i [] → ord.idxOf j < ord.idxOf i
  eff : ∀ (i e : Nat) oe, i < ops.size → ops[e]? = some oe → quietOp oe.op = false → ord.idxOf e < ord.idxOf i → e ∈ tab.getD i []
def drawCheck (ops : Array Oper) (ord : List Nat) (tab : List (List Nat)) : Bool :=
  let n := ops.size
  let r := List.range n
  (r.all fun i => ord.contains i) && (ord.all fun i => decide (i < n)) && decide (ord.Nodup) &&
  (r.all fun i => (ops.getD i default).after.all fun e => !Region.binds .any e || decide (e.on < i)) &&
  decide (tab.length ≤ n) && (r.all fun i => (tab.getD i []).all fun j => (ops.getD i default).after.any fun e => Region.binds .any e && (decide (e.on = j) || (tab.getD e.on []).contains j)) &&
  (r.all fun i => r.all fun j => decide (i = j) || (ops.getD i default).dst.isNone || (ops.getD i default).dst != (ops.getD j default).dst) &&
  (r.all fun i => (slotsOf ops (ops.getD i default)).all fun s => r.all fun j => (ops.getD j default).dst != some s || decide (j = i) || (tab.getD i []).contains j || (tab.getD j []).contains i) &&
  (r.all fun i => (tab.getD i []).all fun j => decide (ord.idxOf j < ord.idxOf i)) &&
  (r.all fun i => r.all fun e => quietOp (ops.getD e default).op || !decide (ord.idxOf e < ord.idxOf i) || (tab.getD i []).contains e)
theorem drawCheck_ok {ops : Array Oper} {ord : List Nat} {tab : List (List Nat)} (h : drawCheck ops ord tab = true) : DrawOk ops ord tab := by
  unfold drawCheck at h
  simp only [Bool.and_eq_true, List.all_eq_true, List.mem_range, decide_eq_true_eq, Bool.or_eq_true, Bool.not_eq_true', bne_iff_ne, ne_eq, List.contains_iff_mem, Array.all_eq_true', Array.any_eq_true', decide_eq_false_iff_not] at h
  obtain ⟨⟨⟨⟨⟨⟨⟨⟨⟨h1, h2⟩, h3⟩, h4⟩, h5⟩, h6⟩, h7⟩, h8⟩, h9⟩, h10⟩ := h
  have hget : ∀ {i : Nat} {o : Oper}, ops[i]? = some o → i < ops.size ∧ ops.getD i default = o := by
    intro i o e
    exact ⟨(Array.getElem?_eq_some_iff.1 e).1, by simp [Array.getD_eq_getD_getElem?, e]⟩
  have htab : ∀ {i j : Nat}, j ∈ tab.getD i [] → i < ops.size := by
    intro i j hj
    rcases Nat.lt_or_ge i tab.length with q | q
    · omega
    · simp [List.getD, List.getElem?_eq_none q] at hj
  refine ⟨h1, h2, h3, fun i o ho e he hb => ?_, fun i j hj => ?_, fun i j oi oj d hi hj hdi hdj => ?_, fun i o ho s hs j oj hj hd => ?_, fun i j hj => h9 i (htab hj) j hj, fun i e oe hi he hq hlt => ?_⟩
  · obtain ⟨q1, q2⟩ := hget ho
    have := h4 i q1 e (by rw [q2]; exact he)
    rcases this with q | q
    · rw [hb] at q; cases q
    · exact q
  · have hi := htab hj
    obtain ⟨e, he, hb, q⟩ := h6 i hi j hj
    exact ⟨ops[i], by simp [hi], e, by simpa [Array.getD_eq_getD_getElem?, hi] using he, hb, q⟩
  · obtain ⟨a1, a2⟩ := hget hi
    obtain ⟨b1, b2⟩ := hget hj
    rcases h7 i a1 j b1 with (q | q) | q
    · exact q
    · rw [a2, hdi] at q; cases q
    · rw [a2, b2, hdi, hdj] at q; exact absurd rfl q
  · obtain ⟨a1, a2⟩ := hget ho
    obtain ⟨b1, b2⟩ := hget hj
    rcases h8 i a1 s (by rw [a2]; exact hs) j b1 with ((q | q) | q) | q
    · rw [b2, hd] at q; exact absurd rfl q
    · exact .inl q
    · exact .inr (.inl q)
    · exact .inr (.inr q)
  · obtain ⟨b1, b2⟩ := hget he
    rcases h10 i hi e b1 with (q | q) | q
    · rw [b2, hq] at q; cases q
    · exact absurd hlt q
    · exact q

section
open Classical
variable {S : Seat} {fn : Func} {ops : Array Oper} {ord : List Nat} {tab : List (List Nat)} {k : List Item} {R : Post} {w0 : World} {fr0 : Fr}
structure Sim (S : Seat) (fn : Func) (ops : Array Oper) (ord : List Nat) (tab : List (List Nat)) (k : List Item) (R : Post) (w0 : World) (fr0 : Fr) (listed : Array Bool) (p : Nat) (pend : Pend) (ds : List ADef) (fr : Fr) (h : AHeap) (g : Ghost) (w : World) (a : Act) : Prop where
  size : listed.size = ops.size
  run : DRun S fn ops tab k R (ord.drop p) pend ds fr h
  todo : ∀ (q i : Nat), p ≤ q → ord[q]? = some i → listed.getD i false = false
  effDone : ∀ (q i : Nat) o, q < p → ord[q]? = some i → ops[i]? = some o → quietOp o.op = false → listed.getD i false = true
  acc : ∀ (q i : Nat) o, q < p → ord[q]? = some i → ops[i]? = some o → quietOp o.op = true → ∃ fri v, (i, fri, v) ∈ pend ∧ dstOk fn.ntmps o.dst = true ∧ (∀ d, o.dst = some d → fr.get d = v) ∧
    (∀ s ∈ slotsOf ops o, fri s = if (∃ j oj, j ∈ tab.getD i [] ∧ ops[j]? = some oj ∧ oj.dst = some s) then fr.get s else fr0.get s)
  stable : ∀ x ∈ pend, listed.getD x.1 false = false → ∀ o, ops[x.1]? = some o → aqg S ops o x.2.1 h = some x.2.2
  slots : ∀ s, Rep g (if (∃ j oj, listed.getD j false = true ∧ ops[j]? = some oj ∧ oj.dst = some s) then fr.get s else fr0.get s) (a.tmps.getD s undef)
  untouched : ∀ s, (∀ (q j : Nat) oj, q < p → ord[q]? = some j → ops[j]? = some oj → oj.dst ≠ some s) → fr.get s = fr0.get s
  closed : ∀ (i : Nat) o e, listed.getD i false = true → ops[i]? = some o → e ∈ o.after → Region.binds .any e = true → listed.getD e.on false = true
  inv : Inv S w0 h g w
  tmps : a.tmps.size = fn.ntmps
  defs : DefsRep g ds a.defers

theorem pos_of (c : DrawOk ops ord tab) {q i : Nat} (h : ord[q]? = some i) : ord.idxOf i = q := by
  obtain ⟨hq, e⟩ := List.getElem?_eq_some_iff.1 h
  rw [← e]
  exact c.nodup.idxOf_getElem q hq
theorem at_pos (c : DrawOk ops ord tab) {i : Nat} (h : i < ops.size) : ord[ord.idxOf i]? = some i := by
  have hm := c.perm i h
  rw [List.getElem?_eq_getElem (List.idxOf_lt_length_of_mem hm)]
  simp
theorem tab_lt (c : DrawOk ops ord tab) {i j : Nat} (h : j ∈ tab.getD i []) : j < ops.size ∧ i < ops.size := by
  have hb := c.before i j h
  obtain ⟨o, ho, _⟩ := c.cert i j h
  have hi := (Array.getElem?_eq_some_iff.1 ho).1
  refine ⟨?_, hi⟩
  have h1 : ord.idxOf j < ord.length := Nat.lt_of_lt_of_le hb (Nat.le_of_lt (List.idxOf_lt_length_of_mem (c.perm i hi)))
  exact c.lt j (List.idxOf_lt_length_iff.1 h1)
theorem anc_listed (c : DrawOk ops ord tab) {listed : Array Bool} (hc : ∀ (i : Nat) o e, listed.getD i false = true → ops[i]? = some o → e ∈ o.after → Region.binds .any e = true → listed.getD e.on false = true) :
    ∀ (n i j : Nat), i ≤ n → listed.getD i false = true → j ∈ tab.getD i [] → listed.getD j false = true := by
  intro n
  induction n with
  | zero =>
    intro i j hi hl hj
    obtain ⟨o, ho, e, he, hb, hq⟩ := c.cert i j hj
    have := c.edge i o ho e he hb
    omega
  | succ n ih =>
    intro i j hi hl hj
    obtain ⟨o, ho, e, he, hb, hq⟩ := c.cert i j hj
    have hlt := c.edge i o ho e he hb
    have hle := hc i o e hl ho he hb
    rcases hq with rfl | hq
    · exact hle
    · exact ih e.on j (by omega) hle hq
theorem anc_listed' (c : DrawOk ops ord tab) {listed : Array Bool} (hc : ∀ (i : Nat) o e, listed.getD i false = true → ops[i]? = some o → e ∈ o.after → Region.binds .any e = true → listed.getD e.on false = true) {i j : Nat} {o : Oper}
    (ho : ops[i]? = some o) (hr : ∀ e ∈ o.after, Region.binds .any e = true → listed.getD e.on false = true) (hj : j ∈ tab.getD i []) : listed.getD j false = true := by
  obtain ⟨o', ho', e, he, hb, hq⟩ := c.cert i j hj
  cases ho.symm.trans ho'
  have hle := hr e he hb
  rcases hq with rfl | hq
  · exact hle
  · exact anc_listed c hc e.on e.on j (Nat.le_refl _) hle hq

theorem get_put_ne {fr : Fr} {d : Option Nat} {v : AV} {s : Nat} (h : d ≠ some s) : (fr.put d v).get s = fr.get s := by
  cases d with
  | none => rfl
  | some d =>
    simp only [Fr.put, Fr.get]
    rw [if_neg (fun e => h (by rw [e]))]
theorem get_put_eq {fr : Fr} {v : AV} {s : Nat} : (fr.put (some s) v).get s = v := by
  simp only [Fr.put, Fr.get, if_true]

/-- The quiet operations that stand next are taken into the account. -/
theorem Sim.commit (c : DrawOk ops ord tab) {listed : Array Bool} {ds : List ADef} {h : AHeap} {g : Ghost} {w : World} {a : Act} : ∀ (m p : Nat) (pend : Pend) (fr : Fr), ord.length - p ≤ m → Sim S fn ops ord tab k R w0 fr0 listed p pend ds fr h g w a →
    ∃ p' pend' fr', Sim S fn ops ord tab k R w0 fr0 listed p' pend' ds fr' h g w a ∧ ∀ i, ord[p']? = some i → ∀ o, ops[i]? = some o → quietOp o.op = false := by
  intro m
  induction m with
  | zero =>
    intro p pend fr hm s
    exact ⟨p, pend, fr, s, fun i hi => by have := (List.getElem?_eq_some_iff.1 hi).1; omega⟩
  | succ m ih =>
    intro p pend fr hm s
    cases hp : ord[p]? with
    | none => exact ⟨p, pend, fr, s, fun i hi => by rw [hp] at hi; cases hi⟩
    | some i =>
      have hlt : p < ord.length := (List.getElem?_eq_some_iff.1 hp).1
      have hdrop : ord.drop p = i :: ord.drop (p + 1) := by
        rw [List.drop_eq_getElem_cons hlt]
        congr 1
        exact (List.getElem?_eq_some_iff.1 hp).2
      have hrun := s.run
      rw [hdrop] at hrun
      obtain ⟨o, ho, hdst, hrest⟩ := hrun
      cases hq : quietOp o.op with
      | false => exact ⟨p, pend, fr, s, fun i' hi' o' ho' => by rw [hp] at hi'; cases hi'; rw [ho] at ho'; cases ho'; exact hq⟩
      | true =>
        rw [hq, if_pos rfl] at hrest
        obtain ⟨v, hv, hnext⟩ := hrest
        have hi : i < ops.size := (Array.getElem?_eq_some_iff.1 ho).1
        have hposi : ord.idxOf i = p := pos_of c hp
        refine ih (p + 1) ((i, fr.get, v) :: pend) (fr.put o.dst v) (by omega) ?_
        have hneq : ∀ (j : Nat) oj s', ops[j]? = some oj → oj.dst = some s' → j ≠ i → o.dst ≠ some s' := fun j oj s' hj hd hne e => hne (c.dst j i oj o s' hj ho hd e)
        refine ⟨s.size, hnext, fun q i' hq' h' => s.todo q i' (by omega) h', fun q i' o' hq' h' ho' hqq => ?_, fun q i' o' hq' h' ho' hqq => ?_, fun x hx hl o' ho' => ?_, fun s' => ?_, fun s' hs' => ?_, s.closed, s.inv, s.tmps, s.defs⟩
        · by_cases e : q = p
          · subst e; rw [hp] at h'; cases h'; rw [ho] at ho'; cases ho'; rw [hq] at hqq; cases hqq
          · exact s.effDone q i' o' (by omega) h' ho' hqq
        · by_cases e : q = p
          · subst e
            rw [hp] at h'; cases h'
            rw [ho] at ho'; cases ho'
            refine ⟨fr.get, v, .head _, hdst, fun d hd => by rw [hd]; exact get_put_eq, fun s' hs' => ?_⟩
            by_cases hex : ∃ j oj, j ∈ tab.getD i [] ∧ ops[j]? = some oj ∧ oj.dst = some s'
            · rw [if_pos hex]
              obtain ⟨j, oj, hj, hoj, hdj⟩ := hex
              have hne : j ≠ i := fun e => by subst e; exact absurd (c.before j j hj) (Nat.lt_irrefl _)
              rw [get_put_ne (hneq j oj s' hoj hdj hne)]
            · rw [if_neg hex]
              refine s.untouched s' (fun q' j oj hq2 hj hoj hdj => ?_)
              rcases c.slots i o ho s' hs' j oj hoj hdj with e | e | e
              · subst e; have := pos_of c hj; omega
              · exact hex ⟨j, oj, e, hoj, hdj⟩
              · have h1 := c.before j i e
                rw [pos_of c hj, hposi] at h1
                omega
          · obtain ⟨fri, v', h1, h0, h2, h3⟩ := s.acc q i' o' (by omega) h' ho' hqq
            have hii : i' ≠ i := fun e' => by subst e'; have := pos_of c h'; omega
            refine ⟨fri, v', .tail _ h1, h0, fun d hd => by rw [get_put_ne (hneq i' o' d ho' hd hii)]; exact h2 d hd, fun s' hs' => ?_⟩
            rw [h3 s' hs']
            by_cases hex : ∃ j oj, j ∈ tab.getD i' [] ∧ ops[j]? = some oj ∧ oj.dst = some s'
            · rw [if_pos hex, if_pos hex]
              obtain ⟨j, oj, hj, hoj, hdj⟩ := hex
              have hne : j ≠ i := fun e' => by
                subst e'
                have h4 := c.before i' j hj
                rw [hposi, pos_of c h'] at h4
                omega
              rw [get_put_ne (hneq j oj s' hoj hdj hne)]
            · rw [if_neg hex, if_neg hex]
        · cases hx with
          | head => rw [ho] at ho'; cases ho'; exact hv
          | tail _ hx => exact s.stable x hx hl o' ho'
        · have h1 := s.slots s'
          by_cases hex : ∃ j oj, listed.getD j false = true ∧ ops[j]? = some oj ∧ oj.dst = some s'
          · rw [if_pos hex] at h1 ⊢
            obtain ⟨j, oj, hl, hoj, hdj⟩ := hex
            have hne : j ≠ i := fun e' => by
              subst e'
              have := s.todo p j (Nat.le_refl _) hp
              rw [hl] at this; cases this
            rw [get_put_ne (hneq j oj s' hoj hdj hne)]
            exact h1
          · rw [if_neg hex] at h1 ⊢
            exact h1
        · rw [get_put_ne (hs' p i o (by omega) hp ho)]
          exact s.untouched s' (fun q j oj hq2 hj hoj => hs' q j oj (by omega) hj hoj)

theorem mem_slots_of_operand {o : Oper} {t : Nat} (h : Operand.tmp t ∈ o.op.operands.toList) : t ∈ slotsOf ops o :=
  List.mem_append_left _ (List.mem_filterMap.2 ⟨_, h, rfl⟩)
theorem rho_rep_slots {h : AHeap} {g : Ghost} {w : World} (i : Inv S w0 h g w) {fr : Nat → AV} {a : Act} (x : Operand) (hf : ∀ t, x = .tmp t → Rep g (fr t) (a.tmps.getD t undef)) : Rep g (rho S fr x) (a.eval x) := by
  cases x with
  | tmp t => exact hf t rfl
  | const v => exact ofValue_rep g v
  | global k =>
    simp only [rho, Act.eval]
    cases hk : S.gl k with
    | none => exact .top _
    | some cs => exact i.glob k cs hk
  | func f => exact .func (by simp) (by simp)
theorem awanted_slots {g : Ghost} {o : Oper} {fr : Nat → AV} {tmps : Array Value} {r : Bool} (hf : ∀ s ∈ slotsOf ops o, Rep g (fr s) (tmps.getD s undef)) (e : awanted ops o fr = some r) : Region.wanted o (yielded ops tmps) = r := by
  have hf' : ∀ s, Rep g (if s ∈ slotsOf ops o then fr s else .top) (tmps.getD s undef) := fun s => by
    by_cases q : s ∈ slotsOf ops o
    · rw [if_pos q]; exact hf s q
    · rw [if_neg q]; exact .top _
  refine awanted_sound hf' ?_
  unfold awanted at e ⊢
  cases hg : o.guard with
  | none => rw [hg] at e; exact e
  | some p =>
    obtain ⟨j, want⟩ := p
    rw [hg] at e
    simp only at e ⊢
    cases ht : (ops[j]?).bind (·.dst) with
    | none => rw [ht] at e; cases e
    | some t =>
      rw [ht] at e
      simp only at e ⊢
      have hm : t ∈ slotsOf ops o := by
        unfold slotsOf
        refine List.mem_append_right _ ?_
        rw [hg]
        simp only
        rw [ht]
        exact .head _
      rw [if_pos hm]
      exact e
theorem getD_set {listed : Array Bool} {i : Nat} (hi : i < listed.size) (j : Nat) : (listed.setIfInBounds i true).getD j false = if j = i then true else listed.getD j false := by
  simp only [Array.getD_eq_getD_getElem?]
  by_cases e : j = i
  · subst e; simp [hi]
  · rw [if_neg e, Array.getElem?_setIfInBounds_ne (fun q => e q.symm)]
theorem all_listed (c : DrawOk ops ord tab) {listed : Array Bool} (hsz : listed.size = ops.size) (hr : Region.ready .any ops listed = []) : ∀ (n i : Nat), i ≤ n → i < ops.size → listed.getD i false = true := by
  intro n
  induction n using Nat.strongRecOn with
  | _ n ih =>
    intro i hi hlt
    cases hl : listed.getD i false with
    | true => rfl
    | false =>
      have hm : i ∈ Region.ready .any ops listed := by
        unfold Region.ready
        refine List.mem_filter.2 ⟨List.mem_range.2 hlt, ?_⟩
        have h1 : listed.getD i true = false := by
          have : i < listed.size := by omega
          simp only [Array.getD_eq_getD_getElem?, Array.getElem?_eq_getElem this, Option.getD_some] at hl ⊢
          exact hl
        simp only [h1, Bool.not_false, Bool.true_and, Array.getElem?_eq_getElem hlt, Option.map_some, Option.getD_some, Array.all_eq_true', Bool.or_eq_true, Bool.not_eq_true']
        intro e he
        cases hb : Region.binds .any e with
        | false => exact .inl rfl
        | true =>
          have := c.edge i ops[i] (by simp [hlt]) e he hb
          exact .inr (ih e.on (by omega) e.on (Nat.le_refl _) (by omega))
      rw [hr] at hm
      simp at hm

theorem slot_new' (c : DrawOk ops ord tab) {listed listed' : Array Bool} {p : Nat} {pend : Pend} {ds : List ADef} {fr : Fr} {h : AHeap} {g g' : Ghost} {w : World} {a : Act} {dl : List Deferred} (s : Sim S fn ops ord tab k R w0 fr0 listed p pend ds fr h g w a) {i : Nat} {o : Oper} (ho : ops[i]? = some o)
    (hset : ∀ j, listed'.getD j false = if j = i then true else listed.getD j false) (hdst : dstOk fn.ntmps o.dst = true) (l : g.le g') {v : AV} {x : Value} (hx : Rep g' v x) (s' : Nat) :
    Rep g' (if (∃ j oj, listed'.getD j false = true ∧ ops[j]? = some oj ∧ oj.dst = some s') then (fr.put o.dst v).get s' else fr0.get s') ((({ a with defers := dl } : Act).put o.dst x).tmps.getD s' undef) := by
  have h1 := s.slots s'
  by_cases hd : o.dst = some s'
  · rw [if_pos ⟨i, o, by rw [hset, if_pos rfl], ho, hd⟩, hd, get_put_eq]
    rw [hd] at hdst
    have hlt : s' < fn.ntmps := of_decide_eq_true hdst
    have : (({ a with defers := dl } : Act).put (some s') x).tmps.getD s' undef = x := by
      simp only [Act.put]
      simp [Array.getD, s.tmps, hlt]
    rw [this]
    exact hx
  · have hval : (({ a with defers := dl } : Act).put o.dst x).tmps.getD s' undef = a.tmps.getD s' undef := by
      cases hq : o.dst with
      | none => rfl
      | some d =>
        have hne : d ≠ s' := fun e => hd (by rw [hq, e])
        simp only [Act.put, Array.getD_eq_getD_getElem?]
        rw [Array.getElem?_setIfInBounds_ne hne]
    rw [hval, get_put_ne hd]
    have hiff : (∃ j oj, listed'.getD j false = true ∧ ops[j]? = some oj ∧ oj.dst = some s') ↔ (∃ j oj, listed.getD j false = true ∧ ops[j]? = some oj ∧ oj.dst = some s') := by
      constructor
      · rintro ⟨j, oj, hl, hoj, hdj⟩
        rw [hset] at hl
        by_cases e : j = i
        · subst e; rw [ho] at hoj; cases hoj; exact absurd hdj hd
        · rw [if_neg e] at hl; exact ⟨j, oj, hl, hoj, hdj⟩
      · rintro ⟨j, oj, hl, hoj, hdj⟩
        refine ⟨j, oj, ?_, hoj, hdj⟩
        rw [hset]
        by_cases e : j = i
        · rw [if_pos e]
        · rw [if_neg e]; exact hl
    by_cases hex : ∃ j oj, listed.getD j false = true ∧ ops[j]? = some oj ∧ oj.dst = some s'
    · rw [if_pos (hiff.2 hex)]; rw [if_pos hex] at h1; exact h1.mono l
    · rw [if_neg (fun q => hex (hiff.1 q))]; rw [if_neg hex] at h1; exact h1.mono l
theorem slot_new (c : DrawOk ops ord tab) {listed listed' : Array Bool} {p : Nat} {pend : Pend} {ds : List ADef} {fr : Fr} {h : AHeap} {g g' : Ghost} {w : World} {a : Act} (s : Sim S fn ops ord tab k R w0 fr0 listed p pend ds fr h g w a) {i : Nat} {o : Oper} (ho : ops[i]? = some o)
    (hset : ∀ j, listed'.getD j false = if j = i then true else listed.getD j false) (hdst : dstOk fn.ntmps o.dst = true) (l : g.le g') {v : AV} (hdv : ∀ d, o.dst = some d → fr.get d = v) {x : Value} (hx : Rep g' v x) (s' : Nat) :
    Rep g' (if (∃ j oj, listed'.getD j false = true ∧ ops[j]? = some oj ∧ oj.dst = some s') then fr.get s' else fr0.get s') ((a.put o.dst x).tmps.getD s' undef) := by
  have h1 := slot_new' (dl := a.defers) c s ho hset hdst l hx s'
  have h2 : (fr.put o.dst v).get s' = fr.get s' := by
    by_cases hd : o.dst = some s'
    · rw [hd, get_put_eq, hdv s' hd]
    · exact get_put_ne hd
  rw [h2] at h1
  exact h1
theorem Sim.finish (c : DrawOk ops ord tab) {listed : Array Bool} {p : Nat} {pend : Pend} {ds : List ADef} {fr : Fr} {h : AHeap} {g : Ghost} {w : World} {a : Act} (s : Sim S fn ops ord tab k R w0 fr0 listed p pend ds fr h g w a)
    (hall : ∀ i, i < ops.size → listed.getD i false = true) (b : Frame) (cs : List Frame) (hfn : S.P.funcs[b.fn]? = some fn) (hk : b.kind = .normal) : Done S w0 g R (lone (b.at a (.inRegion ops [] :: k)) cs w) cs b.fn := by
  have hp : ord[p]? = none := by
    cases hq : ord[p]? with
    | none => rfl
    | some i =>
      have h1 := s.todo p i (Nat.le_refl _) hq
      rw [hall i (c.lt i (List.mem_of_getElem? hq))] at h1
      cases h1
  have hdrop : ord.drop p = [] := List.drop_eq_nil_of_le (List.getElem?_eq_none_iff.1 hp)
  have hrun := s.run
  rw [hdrop] at hrun
  refine (hrun w0 g w a b cs s.inv ⟨s.tmps, fun s' => ?_⟩ s.defs hfn hk).of_step step_region_end
  have h1 := s.slots s'
  by_cases hex : ∃ j oj, listed.getD j false = true ∧ ops[j]? = some oj ∧ oj.dst = some s'
  · rwa [if_pos hex] at h1
  · rw [if_neg hex] at h1
    rw [s.untouched s' (fun q j oj hq hj hoj hd => hex ⟨j, oj, hall j (Array.getElem?_eq_some_iff.1 hoj).1, hoj, hd⟩)]
    exact h1

theorem Sim.go (c : DrawOk ops ord tab) : ∀ (fuel t : Nat) (listed : Array Bool) (p : Nat) (pend : Pend) (ds : List ADef) (fr : Fr) (h : AHeap) (g : Ghost) (w : World) (a : Act), ((List.range ops.size).filter fun i => !listed.getD i false).length ≤ fuel →
    Sim S fn ops ord tab k R w0 fr0 listed p pend ds fr h g w a → ∀ (b : Frame) (cs : List Frame), S.P.funcs[b.fn]? = some fn → b.kind = .normal →
      Done S w0 g R (lone (b.at a (.inRegion ops (Region.linearise.go .any ops fuel t listed []) :: k)) cs w) cs b.fn := by
  intro fuel
  induction fuel with
  | zero =>
    intro t listed p pend ds fr h g w a hcount s b cs hfn hk
    refine s.finish c (fun i hi => ?_) b cs hfn hk
    have : (List.range ops.size).filter (fun i => !listed.getD i false) = [] := List.eq_nil_of_length_eq_zero (by omega)
    have h2 := List.filter_eq_nil_iff.1 this i (List.mem_range.2 hi)
    simpa using h2
  | succ fuel ih =>
    intro t listed p0 pend0 ds fr00 h g w a hcount s0 b cs hfn hk
    obtain ⟨p, pend, fr, s, hhead⟩ := s0.commit c (ord.length - p0) p0 pend0 fr00 (Nat.le_refl _)
    clear s0
    simp only [Region.linearise.go]
    change Done S w0 g R (lone (b.at a (.inRegion ops (match (Region.ready .any ops listed)[t % (Region.ready .any ops listed).length]? with
      | some i => Region.linearise.go .any ops fuel (t / (Region.ready .any ops listed).length) (listed.setIfInBounds i true) [i]
      | none => [].reverse) :: k)) cs w) cs b.fn
    cases hi : (Region.ready .any ops listed)[t % (Region.ready .any ops listed).length]? with
    | none =>
      have hnil : Region.ready .any ops listed = [] := by
        cases hr : Region.ready .any ops listed with
        | nil => rfl
        | cons x xs =>
          rw [hr] at hi
          have hlt : t % (x :: xs).length < (x :: xs).length := Nat.mod_lt _ (by simp)
          have := List.getElem?_eq_none_iff.1 hi
          omega
      exact s.finish c (fun i hlt => all_listed c s.size hnil i i (Nat.le_refl _) hlt) b cs hfn hk
    | some i =>
      simp only []
      rw [linearise_go_acc, List.reverse_singleton, List.singleton_append]
      generalize t / (Region.ready .any ops listed).length = t'
      obtain ⟨hmr, hrdy⟩ := List.mem_filter.1 (List.mem_of_getElem? hi)
      have hilt : i < ops.size := List.mem_range.1 hmr
      obtain ⟨o, ho⟩ : ∃ o, ops[i]? = some o := ⟨ops[i], by simp [hilt]⟩
      rw [ho] at hrdy
      simp only [Option.map_some, Option.getD_some, Bool.and_eq_true, Bool.not_eq_true', Array.all_eq_true', Bool.or_eq_true] at hrdy
      obtain ⟨hnl0, hedges⟩ := hrdy
      have hsz : i < listed.size := by rw [s.size]; exact hilt
      have hnl : listed.getD i false = false := by
        simp only [Array.getD_eq_getD_getElem?, Array.getElem?_eq_getElem hsz, Option.getD_some] at hnl0 ⊢
        exact hnl0
      have hed : ∀ e ∈ o.after, Region.binds .any e = true → listed.getD e.on false = true := fun e he hb => by
        rcases hedges e he with q | q
        · rw [hb] at q; cases q
        · exact q
      have hanc : ∀ j, j ∈ tab.getD i [] → listed.getD j false = true := fun j hj => anc_listed' c s.closed ho hed hj
      have hset : ∀ j, (listed.setIfInBounds i true).getD j false = if j = i then true else listed.getD j false := getD_set hsz
      have hcount' : ((List.range ops.size).filter fun j => !(listed.setIfInBounds i true).getD j false).length ≤ fuel := by
        have h1 : ((List.range ops.size).filter fun j => !(listed.setIfInBounds i true).getD j false) = ((List.range ops.size).filter fun j => !listed.getD j false).filter (fun j => j ≠ i) := by
          rw [List.filter_filter]
          apply List.filter_congr
          intro j _
          rw [hset]
          by_cases e : j = i
          · subst e; simp
          · simp [e]
        have h2 : i ∈ (List.range ops.size).filter fun j => !listed.getD j false := List.mem_filter.2 ⟨List.mem_range.2 hilt, by simp [hnl]⟩
        rw [h1]
        have h3 : ((((List.range ops.size).filter fun j => !listed.getD j false)).filter (fun j => j ≠ i)).length < ((List.range ops.size).filter fun j => !listed.getD j false).length := by
          refine List.length_filter_lt_length_iff_exists.2 ⟨i, h2, by simp⟩
        omega
      have hclosed' : ∀ (i' : Nat) o' e, (listed.setIfInBounds i true).getD i' false = true → ops[i']? = some o' → e ∈ o'.after → Region.binds .any e = true → (listed.setIfInBounds i true).getD e.on false = true := by
        intro i' o' e hl ho' he hb
        rw [hset] at hl ⊢
        by_cases q : e.on = i
        · rw [if_pos q]
        · rw [if_neg q]
          by_cases q' : i' = i
          · subst q'; rw [ho] at ho'; cases ho'; exact hed e he hb
          · rw [if_neg q'] at hl; exact s.closed i' o' e hl ho' he hb
      -- where i stands in the order
      have hpos := at_pos c hilt
      by_cases hdone : ord.idxOf i < p
      · -- it has been taken into the account: it is quiet
        cases hq : quietOp o.op with
        | false => have := s.effDone _ i o hdone hpos ho hq; rw [hnl] at this; cases this
        | true =>
          obtain ⟨fri, v, hmem, hdst, hdv, hfri⟩ := s.acc _ i o hdone hpos ho hq
          have hval := s.stable _ hmem hnl o ho
          simp only at hval
          have hslot : ∀ s' ∈ slotsOf ops o, Rep g (fri s') (a.tmps.getD s' undef) := by
            intro s' hs'
            rw [hfri s' hs']
            have h1 := s.slots s'
            by_cases hex : ∃ j oj, j ∈ tab.getD i [] ∧ ops[j]? = some oj ∧ oj.dst = some s'
            · rw [if_pos hex]
              obtain ⟨j, oj, hj, hoj, hdj⟩ := hex
              rwa [if_pos ⟨j, oj, hanc j hj, hoj, hdj⟩] at h1
            · rw [if_neg hex]
              rw [if_neg] at h1
              · exact h1
              · rintro ⟨j, oj, hl, hoj, hdj⟩
                rcases c.slots i o ho s' hs' j oj hoj hdj with e | e | e
                · subst e; rw [hnl] at hl; cases hl
                · exact hex ⟨j, oj, e, hoj, hdj⟩
                · have := anc_listed c s.closed j j i (Nat.le_refl _) hl e
                  rw [hnl] at this; cases this
          have hnew : ∀ (g' : Ghost) (w' : World) (x : Value), g.le g' → Inv S w0 h g' w' → Rep g' v x → Sim S fn ops ord tab k R w0 fr0 (listed.setIfInBounds i true) p pend ds fr h g' w' (a.put o.dst x) := by
            intro g' w' x l inv' hx
            refine ⟨by simp [s.size], s.run, fun q j hq' hj => ?_, fun q j o' hq' hj ho' hqq => ?_, s.acc, fun e he hl => ?_, fun s' => ?_, s.untouched, hclosed', inv', ?_, by rw [put_dst_defers]; exact s.defs.mono l⟩
            · rw [hset, if_neg (fun e => by subst e; have := pos_of c hj; omega)]
              exact s.todo q j hq' hj
            · rw [hset]
              by_cases e : j = i
              · rw [if_pos e]
              · rw [if_neg e]; exact s.effDone q j o' hq' hj ho' hqq
            · rw [hset] at hl
              by_cases e' : e.1 = i
              · rw [if_pos e'] at hl; cases hl
              · rw [if_neg e'] at hl; exact s.stable e he hl
            · exact slot_new c s ho hset hdst l hdv hx s'
            · have := s.tmps
              cases hd : o.dst with
              | none => exact this
              | some d => simp [Act.put, this]
          cases haw : awanted ops o fri with
          | none => unfold aqg at hval; rw [haw] at hval; cases hval
          | some r =>
            cases r with
            | true =>
              unfold aqg at hval
              rw [haw] at hval
              obtain ⟨y, w', g', h1, h2, h3, h4⟩ := aq_sound s.inv (o := o) (e := a.eval) (fun x hx => rho_rep_slots s.inv x (fun t e => hslot t (mem_slots_of_operand (e ▸ hx)))) hval
              exact ((ih t' _ p pend ds fr h g' w' (a.put o.dst y) hcount' (hnew g' w' y h2 h3 h4) b cs hfn hk).mono h2).of_step (step_op_fin ho (awanted_slots hslot haw) (.inl rfl) h1)
            | false =>
              unfold aqg at hval
              rw [haw] at hval
              cases hval
              have hs := step_op_skip (P := S.P) (b := b) (a := a) (k := k) (cs := cs) (w := w) (ops := ops) (i := i) (rest := Region.linearise.go .any ops fuel t' (listed.setIfInBounds i true) []) (by simp [ho, awanted_slots hslot haw])
              simp only [ho, Option.bind_some] at hs
              exact (ih t' _ p pend ds fr h g w (a.put o.dst undef) hcount' (hnew g w undef (Ghost.le.refl g) s.inv (.tup rfl (fun i v e => by simp at e))) b cs hfn hk).of_step hs
      · -- it stands next: an effect
        have hpi : ord[p]? = some i := by
          by_cases e : ord.idxOf i = p
          · rw [← e]; exact hpos
          · have hlen : ord.idxOf i < ord.length := (List.getElem?_eq_some_iff.1 hpos).1
            have hpl : p < ord.length := by omega
            have hep := List.getElem?_eq_getElem hpl
            have helt := c.lt _ (List.getElem_mem hpl)
            have hoe : ops[ord[p]]? = some ops[ord[p]] := by simp [helt]
            have hq := hhead _ hep _ hoe
            have h1 := c.eff i ord[p] _ hilt hoe hq (by rw [pos_of c hep]; omega)
            have h2 := s.todo p _ (Nat.le_refl _) hep
            rw [hanc _ h1] at h2
            cases h2
        have hpip := pos_of c hpi
        have hlt : p < ord.length := (List.getElem?_eq_some_iff.1 hpi).1
        have hdrop : ord.drop p = i :: ord.drop (p + 1) := by
          rw [List.drop_eq_getElem_cons hlt]
          congr 1
          exact (List.getElem?_eq_some_iff.1 hpi).2
        have hrun := s.run
        rw [hdrop] at hrun
        obtain ⟨o', ho', hdst, hrest⟩ := hrun
        cases ho.symm.trans ho'
        have hq := hhead i hpi o ho
        rw [hq, if_neg (by simp)] at hrest
        have hslot : ∀ s' ∈ slotsOf ops o, Rep g (fr.get s') (a.tmps.getD s' undef) := by
          intro s' hs'
          have h1 := s.slots s'
          by_cases hex : ∃ j oj, listed.getD j false = true ∧ ops[j]? = some oj ∧ oj.dst = some s'
          · rwa [if_pos hex] at h1
          · rw [if_neg hex] at h1
            rw [s.untouched s' (fun q j oj hq2 hj hoj hdj => ?_)]
            · exact h1
            · rcases c.slots i o ho s' hs' j oj hoj hdj with e | e | e
              · subst e; have := pos_of c hj; omega
              · exact hex ⟨j, oj, hanc j e, hoj, hdj⟩
              · have h1 := c.before j i e
                rw [pos_of c hj, hpip] at h1
                omega
        have both : (∃ v x h' g' w' ds' dl, ((∀ e ∈ pend, (listed.setIfInBounds i true).getD e.1 false = false → ∀ o', ops[e.1]? = some o' → aqg S ops o' e.2.1 h' = some e.2.2) ∧ DRun S fn ops tab k R (ord.drop (p + 1)) pend ds' (fr.put o.dst v) h') ∧ g.le g' ∧ Inv S w0 h' g' w' ∧ Rep g' v x ∧ DefsRep g' ds' dl ∧
            Steps S.P (lone (b.at a (.inRegion ops (i :: Region.linearise.go .any ops fuel t' (listed.setIfInBounds i true) []) :: k)) cs w) (lone (b.at (({ a with defers := dl } : Act).put o.dst x) (.inRegion ops (Region.linearise.go .any ops fuel t' (listed.setIfInBounds i true) []) :: k)) cs w')) ∨
            (∃ v pe h' g' w', Leave S fn (.panicking v) ds [] h' R ∧ g.le g' ∧ Inv S w0 h' g' w' ∧ ModeRep g' (.panicking v) (.panicking [pe]) ∧ Steps S.P (lone (b.at a (.inRegion ops (i :: Region.linearise.go .any ops fuel t' (listed.setIfInBounds i true) []) :: k)) cs w)
              (lone { b.at a (.inRegion ops (i :: Region.linearise.go .any ops fuel t' (listed.setIfInBounds i true) []) :: k) with mode := .panicking [pe] } cs w')) := by
          rcases hrest with ⟨haw, hskip⟩ | ⟨haw, heff⟩
          · refine .inl ⟨.tup [], undef, h, g, w, ds, a.defers, ⟨fun e he hl => ?_, hskip⟩, Ghost.le.refl g, s.inv, .tup rfl (fun i v e => by simp at e), s.defs, ?_⟩
            · rw [hset] at hl
              by_cases e' : e.1 = i
              · rw [if_pos e'] at hl; cases hl
              · rw [if_neg e'] at hl; exact s.stable e he hl
            · have hs := step_op_skip (P := S.P) (b := b) (a := a) (k := k) (cs := cs) (w := w) (ops := ops) (i := i) (rest := Region.linearise.go .any ops fuel t' (listed.setIfInBounds i true) []) (by simp [ho, awanted_slots hslot haw])
              simp only [ho, Option.bind_some] at hs
              exact .one hs
          · rcases eff_sound (b := b) (cs := cs) (l := Region.linearise.go .any ops fuel t' (listed.setIfInBounds i true) []) (k := k) s.inv (fun x hx => rho_rep_slots s.inv x (fun t e => hslot t (mem_slots_of_operand (e ▸ hx)))) s.defs ho (awanted_slots hslot haw) heff with
              ⟨v, x, h', g', w', ds', dl, ⟨hst, hnext⟩, l, inv', hx, hds', hsteps⟩ | ⟨v, pe, h', g', w', hleave, l, inv', hpe, hsteps⟩
            · refine .inl ⟨v, x, h', g', w', ds', dl, ⟨fun e he hl => ?_, hnext⟩, l, inv', hx, hds', hsteps⟩
              rw [hset] at hl
              by_cases e' : e.1 = i
              · rw [if_pos e'] at hl; cases hl
              · rw [if_neg e'] at hl
                rcases hst e he with q | q
                · rw [hanc _ q] at hl; cases hl
                · exact q
            · exact .inr ⟨v, pe, h', g', w', hleave, l, inv', hpe, hsteps⟩
        rcases both with
          ⟨v, x, h', g', w', ds', dl, ⟨hst, hnext⟩, l, inv', hx, hds', hsteps⟩ | ⟨v, pe, h', g', w', hleave, l, inv', hpe, hsteps⟩
        · refine Done.of_steps hsteps ((ih t' _ (p + 1) pend ds' (fr.put o.dst v) h' g' w' _ hcount' ?_ b cs hfn hk).mono l)
          have hneq : ∀ (j : Nat) oj s', ops[j]? = some oj → oj.dst = some s' → j ≠ i → o.dst ≠ some s' := fun j oj s' hj hd hne e => hne (c.dst j i oj o s' hj ho hd e)
          refine ⟨by simp [s.size], hnext, fun q j hq' hj => ?_, fun q j o' hq' hj ho' hqq => ?_, fun q j o' hq' hj ho' hqq => ?_, fun e he hl o' ho' => ?_, fun s' => ?_, fun s' hs' => ?_, hclosed', inv', ?_, by rw [put_dst_defers]; exact hds'⟩
          · rw [hset, if_neg (fun e => by subst e; have := pos_of c hj; omega)]
            exact s.todo q j (by omega) hj
          · rw [hset]
            by_cases e : j = i
            · rw [if_pos e]
            · rw [if_neg e]
              refine s.effDone q j o' ?_ hj ho' hqq
              rcases Nat.lt_or_ge q p with r | r
              · exact r
              · have : q = p := by omega
                subst this
                rw [hpi] at hj; cases hj; exact absurd rfl e
          · have hqp : q < p := by
              rcases Nat.lt_or_ge q p with r | r
              · exact r
              · have : q = p := by omega
                subst this
                rw [hpi] at hj; cases hj
                rw [ho] at ho'; cases ho'
                rw [hq] at hqq; cases hqq
            obtain ⟨fri, v', h1, h0, h2, h3⟩ := s.acc q j o' hqp hj ho' hqq
            have hji : j ≠ i := fun e' => by subst e'; have := pos_of c hj; omega
            refine ⟨fri, v', h1, h0, fun d hd => by rw [get_put_ne (hneq j o' d ho' hd hji)]; exact h2 d hd, fun s' hs' => ?_⟩
            rw [h3 s' hs']
            by_cases hex : ∃ j' oj, j' ∈ tab.getD j [] ∧ ops[j']? = some oj ∧ oj.dst = some s'
            · rw [if_pos hex, if_pos hex]
              obtain ⟨j', oj, hj', hoj, hdj⟩ := hex
              have hne : j' ≠ i := fun e' => by
                subst e'
                have h4 := c.before j j' hj'
                rw [hpip, pos_of c hj] at h4
                omega
              rw [get_put_ne (hneq j' oj s' hoj hdj hne)]
            · rw [if_neg hex, if_neg hex]
          · exact hst e he hl o' ho'
          · have h1 := slot_new' (dl := dl) c s ho hset hdst l hx s'
            exact h1
          · rw [get_put_ne (hs' p i o (by omega) hpi ho)]
            exact s.untouched s' (fun q j oj hq2 hj hoj => hs' q j oj (by omega) hj hoj)
          · have := s.tmps
            cases hd : o.dst with
            | none => exact this
            | some d => simp [Act.put, this]
        · exact Done.of_steps hsteps ((hleave w0 g' w' { b.at a (.inRegion ops (i :: Region.linearise.go .any ops fuel t' (listed.setIfInBounds i true) []) :: k) with mode := .panicking [pe] } cs inv' ⟨s.tmps, fun _ => .top _⟩ (s.defs.mono l) hfn hk hpe).mono l)

/-- A region in drawn order. -/
theorem Run.draw {id : Nat} {ds : List ADef} {fr : Fr} {h : AHeap} (hc : drawCheck ops ord tab = true) (hr : DRun S fn ops tab k R ord [] ds fr h) : Run S fn (.code (.region id ops true) :: k) ds fr h R := by
  intro w0 g w a b cs inv hf hds hfn hk
  have c := drawCheck_ok hc
  refine Done.of_step step_region_draw ?_
  simp only [Region.schedule, S.mixed, Bool.true_or, if_true]
  unfold Region.linearise
  have hrep : ∀ j, (Array.replicate ops.size false).getD j false = false := fun j => by
    simp only [Array.getD_eq_getD_getElem?, Array.getElem?_replicate]
    split <;> rfl
  refine Sim.go (fr0 := fr) c ops.size _ _ 0 [] ds fr h g { w with drawn := w.drawn + 1 } a ?_ ⟨by simp, by simpa using hr, fun q i _ _ => hrep i, fun q i o hq => absurd hq (Nat.not_lt_zero _), fun q i o hq => absurd hq (Nat.not_lt_zero _), fun x hx => by simp at hx, fun s => ?_, fun s _ => rfl, fun i o e hl => ?_, inv.same (w' := { w with drawn := w.drawn + 1 }) rfl rfl rfl rfl, hf.1, hds⟩ b cs hfn hk
  · exact Nat.le_trans (List.length_filter_le _ _) (by simp)
  · have : (if (∃ j oj, (Array.replicate ops.size false).getD j false = true ∧ ops[j]? = some oj ∧ oj.dst = some s) then fr.get s else fr.get s) = fr.get s := by split <;> rfl
    rw [this]
    exact hf.2 s
  · rw [hrep] at hl; cases hl
end
end Go.Proofs.YtajknofacjiddaaDoor.Abs
