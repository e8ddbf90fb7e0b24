/- Drawn regions reckoned. -/
import Derived.Test.YtajknofacjiddaaDoorAbs17
namespace Go.Proofs.YtajknofacjiddaaDoor.Abs
open Go Go.RowKit
set_option linter.unusedVariables false
set_option linter.unusedSimpArgs false

/-- A call, in a drawn region, that comes back with one value and leaves the heap as it was. -/
def DC (S : Seat) (fn : Func) (x : Option Oper) (ops : Array Oper) (fr : Fr) (h : AHeap) (E : Fr → Prop) : Prop :=
  (∃ o, x = some o ∧ quietOp o.op = false ∧ dstOk fn.ntmps o.dst = true ∧ awanted ops o fr.get = some false ∧ E (fr.put o.dst (.tup []))) ∨
  ∃ d f args ts ty pos af gd fid caps v, x = some ⟨d, .call ⟨.value f, ⟨args⟩, ts⟩, ty, pos, af, gd⟩ ∧ awanted ops ⟨d, .call ⟨.value f, ⟨args⟩, ts⟩, ty, pos, af, gd⟩ fr.get = some true ∧ dstOk fn.ntmps d = true ∧
    rho S fr.get f = .func fid caps ∧ Enters S fid ∧ AC S fid (args.map (rho S fr.get) ++ caps) h (Pure1 v h) ∧ E (fr.put d v)
def DD (S : Seat) (fn : Func) (x : Option Oper) (ds : List ADef) (fr : Fr) (E : List ADef → Fr → Prop) : Prop :=
  ∃ d args ts ty pos af, x = some ⟨d, .defer ⟨.builtin .delete, ⟨args⟩, ts⟩, ty, pos, af, none⟩ ∧ dstOk fn.ntmps d = true ∧ E (.del ts (args.map (rho S fr.get)) :: ds) (fr.put d .top)
/-- A call, in a drawn region, that changes no cells that were there. -/
def DG (S : Seat) (fn : Func) (x : Option Oper) (ops : Array Oper) (fr : Fr) (h : AHeap) (E : Fr → AHeap → Prop) : Prop :=
  ∃ d f args ts ty pos af gd fid caps, ∃ Rc : Post, x = some ⟨d, .call ⟨.value f, ⟨args⟩, ts⟩, ty, pos, af, gd⟩ ∧ awanted ops ⟨d, .call ⟨.value f, ⟨args⟩, ts⟩, ty, pos, af, gd⟩ fr.get = some true ∧ dstOk fn.ntmps d = true ∧
    rho S fr.get f = .func fid caps ∧ Enters S fid ∧ AC S fid (args.map (rho S fr.get) ++ caps) h Rc ∧ (∀ v h', ¬ Rc (.pan v) h') ∧
    ∀ v h', Rc (.ret v) h' → (∀ id off, cellsFrom (h'.get id) off = cellsFrom (h.get id) off) ∧ E (fr.put d v) h'
/-- A call, in a drawn region, that may change all. -/
def DX (S : Seat) (fn : Func) (x : Option Oper) (ops : Array Oper) (fr : Fr) (h : AHeap) (E : Fr → AHeap → Prop) : Prop :=
  ∃ d f args ts ty pos af gd fid caps, ∃ Rc : Post, x = some ⟨d, .call ⟨.value f, ⟨args⟩, ts⟩, ty, pos, af, gd⟩ ∧ awanted ops ⟨d, .call ⟨.value f, ⟨args⟩, ts⟩, ty, pos, af, gd⟩ fr.get = some true ∧ dstOk fn.ntmps d = true ∧
    rho S fr.get f = .func fid caps ∧ Enters S fid ∧ AC S fid (args.map (rho S fr.get) ++ caps) h Rc ∧ (∀ v h', ¬ Rc (.pan v) h') ∧ ∀ v h', Rc (.ret v) h' → E (fr.put d v) h'
/-- 0: quiet, 1: with an effect on the heap, 2: a call, 3: a deferred 'delete'. -/
def DEv (S : Seat) (fn : Func) (R : Post) (ops : Array Oper) (k : List Item) (n : Nat) : List (Nat × Nat) → List ADef → Fr → AHeap → Prop
  | [], ds, fr, h => Ev S fn R n k ds fr h
  | (i, 0) :: l, ds, fr, h => EvO S fn R (fun _ ds fr h => DEv S fn R ops k n l ds fr h) ops[i]? ops i [] k ds fr h
  | (i, 1) :: l, ds, fr, h => EvO S fn R (fun _ ds fr h => DEv S fn R ops k n l ds fr h) ops[i]? ops i [] k ds fr h
  | (i, 2) :: l, ds, fr, h => DC S fn ops[i]? ops fr h (fun fr => DEv S fn R ops k n l ds fr h)
  | (i, 3) :: l, ds, fr, h => DD S fn ops[i]? ds fr (fun ds fr => DEv S fn R ops k n l ds fr h)
  | (i, 4) :: l, ds, fr, h => DG S fn ops[i]? ops fr h (fun fr h => DEv S fn R ops k n l ds fr h)
  | (i, 5) :: l, ds, fr, h => DX S fn ops[i]? ops fr h (fun fr h => DEv S fn R ops k n l ds fr h)
  | (i, _ + 6) :: l, ds, fr, h => False
def heapFree : Op → Bool
  | .move _ | .assign _ | .pick .. | .nilCheck _ | .binOp .. | .unOp .. | .convert .. | .makeFunc .. | .makeInterface .. | .fieldAddr .. | .field .. | .indexAddr .. | .index .. | .extract .. | .slice .. | .build .. | .buildSlice .. => true
  | _ => false
def isLoad : Op → Bool
  | .load .. => true
  | _ => false
def aeOp : Op → Bool
  | .alloc _ | .box .. | .makeMap .. | .makeSlice .. | .store .. | .mapUpdate .. | .insert .. | .range .. => true
  | .call { callee := .builtin b, .. } => match b with
    | .append | .delete => true
    | _ => false
  | _ => false
/-- 'old': reckoned before some change of the heap. -/
def planOk (ops : Array Oper) (tab : List (List Nat)) : List (Nat × Nat) → List Nat → List Nat → Bool
  | [], _, _ => true
  | (i, q) :: l, old, cur =>
    let o := ops.getD i default
    let anc := tab.getD i []
    if q = 0 then quietOp o.op && !isLeaf o.op && planOk ops tab l old (i :: cur)
    else if q = 1 then aeOp o.op && o.guard.isNone && !quietOp o.op && !isLeaf o.op && (old.all fun j => anc.contains j || heapFree (ops.getD j default).op) && (cur.all fun j => anc.contains j || heapFree (ops.getD j default).op) && planOk ops tab l (cur ++ old) []
    else if q = 2 then !quietOp o.op && (old.all fun j => anc.contains j || heapFree (ops.getD j default).op) && planOk ops tab l old cur
    else if q = 3 then !quietOp o.op && (old.all fun j => anc.contains j || heapFree (ops.getD j default).op) && planOk ops tab l old cur
    else if q = 4 then !quietOp o.op && (old.all fun j => anc.contains j || heapFree (ops.getD j default).op) && (cur.all fun j => anc.contains j || heapFree (ops.getD j default).op || isLoad (ops.getD j default).op) && planOk ops tab l (cur ++ old) []
    else if q = 5 then !quietOp o.op && (old.all fun j => anc.contains j || heapFree (ops.getD j default).op) && (cur.all fun j => anc.contains j || heapFree (ops.getD j default).op) && planOk ops tab l (cur ++ old) []
    else false

theorem aq_free {S : Seat} {op : Op} (hf : heapFree op = true) (ρ : Operand → AV) (h h' : AHeap) : aq S op ρ h = aq S op ρ h' := by
  cases op
  case makeFunc fn first caps => cases fn <;> rfl
  all_goals first | rfl | (simp [heapFree] at hf; done)
theorem aqg_free {S : Seat} {ops : Array Oper} {o : Oper} (hf : heapFree o.op = true) (fr : Nat → AV) (h h' : AHeap) : aqg S ops o fr h = aqg S ops o fr h' := by
  unfold aqg
  rw [aq_free hf _ h h']
theorem aload_same {S : Seat} {t : Nat} {v : AV} {h h' : AHeap} (hh : ∀ id off, cellsFrom (h'.get id) off = cellsFrom (h.get id) off) : aload S t v h' = aload S t v h := by
  have : acells h' v = acells h v := by
    cases v <;> first | rfl | skip
    rw [acells_ptr, acells_ptr, hh]
  unfold aload
  rw [this]
theorem aqg_load {S : Seat} {ops : Array Oper} {o : Oper} (hf : isLoad o.op = true) (fr : Nat → AV) {h h' : AHeap} (hh : ∀ id off, cellsFrom (h'.get id) off = cellsFrom (h.get id) off) : aqg S ops o fr h' = aqg S ops o fr h := by
  obtain ⟨d, op, ty, pos, af, gd⟩ := o
  cases op <;> first | (simp [isLoad] at hf; done) | skip
  unfold aqg
  show (match awanted ops _ fr with | some true => aload S _ _ h' | some false => _ | none => _) = (match awanted ops _ fr with | some true => aload S _ _ h | some false => _ | none => _)
  rw [aload_same hh]
theorem EvO.quiet {S : Seat} {fn : Func} {R : Post} {E : EvT} {ops : Array Oper} {i : Nat} {o : Oper} {l : List Nat} {k : List Item} {ds : List ADef} {fr : Fr} {h : AHeap} (hq : quietOp o.op = true) (hl : isLeaf o.op = false)
    (e : EvO S fn R E (some o) ops i l k ds fr h) : dstOk fn.ntmps o.dst = true ∧ ∃ v, aqg S ops o fr.get h = some v ∧ E (.inRegion ops l :: k) ds (fr.put o.dst v) h := by
  obtain ⟨hd, e⟩ := e
  have hD : EvD S fn R E o ops i l k ds fr h → ∃ v, aq S o.op (rho S fr.get) h = some v ∧ E (.inRegion ops l :: k) ds (fr.put o.dst v) h := by
    intro e
    unfold EvD at e
    rw [hl, hq] at e
    cases hv : aq S o.op (rho S fr.get) h with
    | none => rw [hv] at e; exact e.elim
    | some v => rw [hv] at e; exact ⟨v, rfl, e⟩
  refine ⟨hd, ?_⟩
  cases hg : o.guard with
  | none =>
    rw [hg] at e
    obtain ⟨v, h1, h2⟩ := hD e
    exact ⟨v, by unfold aqg awanted; rw [hg]; exact h1, h2⟩
  | some p =>
    obtain ⟨j, want⟩ := p
    rw [hg] at e
    simp only at e
    cases hb : ((ops[j]?).bind (·.dst)).map fr.get with
    | none => rw [hb] at e; exact e.elim
    | some v =>
      rw [hb] at e
      cases v <;> simp only [EvG] at e
      case tup cs =>
        refine ⟨.tup [], ?_, e⟩
        unfold aqg awanted
        rw [hg]
        simp only
        cases ht : (ops[j]?).bind (·.dst) with
        | none => rw [ht] at hb; cases hb
        | some t =>
          rw [ht] at hb
          simp only [Option.map_some, Option.some.injEq] at hb
          simp only [hb]
      rename_i b
      have haw : awanted ops o fr.get = some (b == want) := by
        unfold awanted
        rw [hg]
        simp only
        cases ht : (ops[j]?).bind (·.dst) with
        | none => rw [ht] at hb; cases hb
        | some t =>
          rw [ht] at hb
          simp only [Option.map_some, Option.some.injEq] at hb
          simp only [hb]
      by_cases q : b = want
      · obtain ⟨v, h1, h2⟩ := hD (e.1 q)
        exact ⟨v, by unfold aqg; rw [haw, q]; simpa using h1, h2⟩
      · exact ⟨.tup [], by unfold aqg; rw [haw, beq_eq_false_iff_ne.2 q], e.2 (by cases b <;> cases want <;> simp_all)⟩
theorem EvO.eff {S : Seat} {fn : Func} {R : Post} {E : EvT} {ops : Array Oper} {i : Nat} {o : Oper} {l : List Nat} {k : List Item} {ds : List ADef} {fr : Fr} {h : AHeap} (hq : quietOp o.op = false) (hl : isLeaf o.op = false) (hg : o.guard = none)
    (e : EvO S fn R E (some o) ops i l k ds fr h) : dstOk fn.ntmps o.dst = true ∧ awanted ops o fr.get = some true ∧ ∃ v h', ae S o.op (rho S fr.get) h = some (v, h') ∧ E (.inRegion ops l :: k) ds (fr.put o.dst v) h' := by
  obtain ⟨hd, e⟩ := e
  rw [hg] at e
  refine ⟨hd, by unfold awanted; rw [hg], ?_⟩
  unfold EvD at e
  rw [hl, hq] at e
  cases hv : ae S o.op (rho S fr.get) h with
  | none => rw [hv] at e; exact e.elim
  | some p => obtain ⟨v, h'⟩ := p; rw [hv] at e; exact ⟨v, h', rfl, e⟩
theorem getD_of {ops : Array Oper} {i : Nat} {o : Oper} (h : ops[i]? = some o) : ops.getD i default = o := by
  rw [Array.getD_eq_getD_getElem?, h]; exact Option.getD_some
theorem DEv.sound {S : Seat} {fn : Func} {R : Post} {ops : Array Oper} {tab : List (List Nat)} {k : List Item} {n : Nat} : ∀ (l : List (Nat × Nat)) (old cur : List Nat) (pend : Pend) (ds : List ADef) (fr : Fr) (h : AHeap), planOk ops tab l old cur = true →
    (∀ x ∈ pend, (x.1 ∈ old ∧ (heapFree (ops.getD x.1 default).op = true → ∀ o, ops[x.1]? = some o → aqg S ops o x.2.1 h = some x.2.2)) ∨ (x.1 ∈ cur ∧ ∀ o, ops[x.1]? = some o → aqg S ops o x.2.1 h = some x.2.2)) → DEv S fn R ops k n l ds fr h → DRun S fn ops tab k R (l.map (·.1)) pend ds fr h := by
  intro l
  induction l with
  | nil => intro old cur pend ds fr h _ _ e; exact Ev.sound n k ds fr h e
  | cons p l ih =>
    obtain ⟨i, q⟩ := p
    intro old cur pend ds fr h hp hpend e
    have stable : ∀ h', (∀ x ∈ pend, heapFree (ops.getD x.1 default).op = true → ∀ o, ops[x.1]? = some o → aqg S ops o x.2.1 h' = some x.2.2) → (∀ x ∈ pend, x.1 ∈ tab.getD i [] ∨ heapFree (ops.getD x.1 default).op = true ∨ ∀ o, ops[x.1]? = some o → aqg S ops o x.2.1 h' = some x.2.2) → Stable S ops tab i pend h' := by
      intro h' hf hc x hx
      rcases hc x hx with a | a | a
      · exact .inl a
      · exact .inr (hf x hx a)
      · exact .inr a
    have free : ∀ h', ∀ x ∈ pend, heapFree (ops.getD x.1 default).op = true → ∀ o, ops[x.1]? = some o → aqg S ops o x.2.1 h' = some x.2.2 := by
      intro h' x hx hfr o ho
      have hfo : heapFree o.op = true := by rw [← getD_of ho]; exact hfr
      rw [aqg_free hfo _ h' h]
      rcases hpend x hx with ⟨_, a⟩ | ⟨_, a⟩
      · exact a hfr o ho
      · exact a o ho
    match q, e, hp with
    | 0, e, hp =>
      simp only [planOk, if_true, Bool.and_eq_true, Bool.not_eq_true'] at hp
      obtain ⟨⟨h1, h2⟩, h3⟩ := hp
      simp only [DEv] at e
      cases ho : ops[i]? with
      | none => rw [ho] at e; exact e.elim
      | some o =>
        rw [ho] at e
        rw [getD_of ho] at h1 h2
        obtain ⟨hd, v, hv, e⟩ := EvO.quiet h1 h2 e
        refine ⟨o, ho, hd, ?_⟩
        rw [if_pos h1]
        refine ⟨v, hv, ih old (i :: cur) _ ds _ h h3 ?_ e⟩
        intro x hx
        cases hx with
        | head => exact .inr ⟨.head _, fun o' ho' => by rw [ho] at ho'; cases ho'; exact hv⟩
        | tail _ hx =>
          rcases hpend x hx with a | ⟨a, b⟩
          · exact .inl a
          · exact .inr ⟨.tail _ a, b⟩
    | 1, e, hp =>
      simp only [planOk, Nat.one_ne_zero, if_false, if_true, Bool.and_eq_true, Bool.not_eq_true', List.all_eq_true, Bool.or_eq_true, List.contains_iff_mem, Option.isNone_iff_eq_none] at hp
      obtain ⟨⟨⟨⟨⟨⟨h0, hg⟩, h1⟩, h2⟩, h3⟩, h4⟩, h5⟩ := hp
      simp only [DEv] at e
      cases ho : ops[i]? with
      | none => rw [ho] at e; exact e.elim
      | some o =>
        rw [ho] at e
        rw [getD_of ho] at h1 h2 hg
        obtain ⟨hd, hw, v, h', hv, e⟩ := EvO.eff h1 h2 hg e
        refine ⟨o, ho, hd, ?_⟩
        rw [if_neg (by rw [h1]; decide)]
        refine .inr ⟨hw, .ae hv ⟨stable h' (free h') ?_, ih (cur ++ old) [] pend ds _ h' h5 ?_ e⟩⟩
        · intro x hx
          rcases hpend x hx with ⟨a, _⟩ | ⟨a, _⟩
          · rcases h3 _ a with b | b
            · exact .inl b
            · exact .inr (.inl b)
          · rcases h4 _ a with b | b
            · exact .inl b
            · exact .inr (.inl b)
        · intro x hx
          refine .inl ⟨?_, free h' x hx⟩
          rcases hpend x hx with ⟨a, _⟩ | ⟨a, _⟩
          · exact List.mem_append_right _ a
          · exact List.mem_append_left _ a
    | 2, e, hp =>
      simp only [planOk, Nat.reduceEqDiff, if_false, if_true, Bool.and_eq_true, Bool.not_eq_true', List.all_eq_true, Bool.or_eq_true, List.contains_iff_mem] at hp
      obtain ⟨⟨h1, h3⟩, h5⟩ := hp
      simp only [DEv] at e
      rcases e with ⟨o, ho, hqo, hd, hw, e⟩ | e
      · exact ⟨o, ho, hd, by rw [if_neg (by rw [hqo]; decide)]; exact .inl ⟨hw, ih old cur pend ds _ h h5 hpend e⟩⟩
      obtain ⟨d, f, args, ts, ty, pos, af, gd, fid, caps, v, ho, hw, hd, hf, hen, hc, e⟩ := e
      rw [getD_of ho] at h1
      refine ⟨_, ho, hd, ?_⟩
      rw [if_neg (by rw [h1]; decide)]
      refine .inr ⟨hw, .call (Rc := Pure1 v h) rfl hf hen (by simpa using hc) (fun v' h' hq => ?_) (fun v' h' hq => by obtain ⟨a, _⟩ := hq; cases a)⟩
      obtain ⟨a, rfl⟩ := hq
      cases a
      refine ⟨stable h' (free h') ?_, ih old cur pend ds _ h' h5 hpend e⟩
      intro x hx
      rcases hpend x hx with ⟨a, _⟩ | ⟨_, a⟩
      · rcases h3 _ a with b | b
        · exact .inl b
        · exact .inr (.inl b)
      · exact .inr (.inr a)
    | 3, e, hp =>
      simp only [planOk, Nat.reduceEqDiff, if_false, if_true, Bool.and_eq_true, Bool.not_eq_true', List.all_eq_true, Bool.or_eq_true, List.contains_iff_mem] at hp
      obtain ⟨⟨h1, h3⟩, h5⟩ := hp
      simp only [DEv] at e
      obtain ⟨d, args, ts, ty, pos, af, ho, hd, e⟩ := e
      rw [getD_of ho] at h1
      refine ⟨_, ho, hd, ?_⟩
      rw [if_neg (by rw [h1]; decide)]
      refine .inr ⟨by unfold awanted; rfl, .deferDel rfl ⟨stable h (free h) ?_, ih old cur pend _ _ h h5 hpend (by simpa using e)⟩⟩
      intro x hx
      rcases hpend x hx with ⟨a, _⟩ | ⟨_, a⟩
      · rcases h3 _ a with b | b
        · exact .inl b
        · exact .inr (.inl b)
      · exact .inr (.inr a)
    | 4, e, hp =>
      simp only [planOk, Nat.reduceEqDiff, if_false, if_true, Bool.and_eq_true, Bool.not_eq_true', List.all_eq_true, Bool.or_eq_true, List.contains_iff_mem] at hp
      obtain ⟨⟨⟨h1, h3⟩, h4⟩, h5⟩ := hp
      simp only [DEv] at e
      obtain ⟨d, f, args, ts, ty, pos, af, gd, fid, caps, Rc, ho, hw, hd, hf, hen, hc, hnp, e⟩ := e
      rw [getD_of ho] at h1
      refine ⟨_, ho, hd, ?_⟩
      rw [if_neg (by rw [h1]; decide)]
      refine .inr ⟨hw, .call (Rc := Rc) rfl hf hen (by simpa using hc) (fun v' h' hq => ?_) (fun v' h' hq => absurd hq (hnp v' h'))⟩
      obtain ⟨hh, e⟩ := e v' h' hq
      refine ⟨?_, ih (cur ++ old) [] pend ds _ h' h5 ?_ e⟩
      · intro x hx
        rcases hpend x hx with ⟨a, _⟩ | ⟨a, b⟩
        · rcases h3 _ a with c | c
          · exact .inl c
          · exact .inr (free h' x hx c)
        · rcases h4 _ a with (c | c) | c
          · exact .inl c
          · exact .inr (free h' x hx c)
          · exact .inr fun o ho => by rw [aqg_load (by rw [← getD_of ho]; exact c) _ hh]; exact b o ho
      · intro x hx
        refine .inl ⟨?_, free h' x hx⟩
        rcases hpend x hx with ⟨a, _⟩ | ⟨a, _⟩
        · exact List.mem_append_right _ a
        · exact List.mem_append_left _ a
    | 5, e, hp =>
      simp only [planOk, Nat.reduceEqDiff, if_false, if_true, Bool.and_eq_true, Bool.not_eq_true', List.all_eq_true, Bool.or_eq_true, List.contains_iff_mem] at hp
      obtain ⟨⟨⟨h1, h3⟩, h4⟩, h5⟩ := hp
      simp only [DEv] at e
      obtain ⟨d, f, args, ts, ty, pos, af, gd, fid, caps, Rc, ho, hw, hd, hf, hen, hc, hnp, e⟩ := e
      rw [getD_of ho] at h1
      refine ⟨_, ho, hd, ?_⟩
      rw [if_neg (by rw [h1]; decide)]
      refine .inr ⟨hw, .call (Rc := Rc) rfl hf hen (by simpa using hc) (fun v' h' hq => ?_) (fun v' h' hq => absurd hq (hnp v' h'))⟩
      have e := e v' h' hq
      refine ⟨stable h' (free h') ?_, ih (cur ++ old) [] pend ds _ h' h5 ?_ e⟩
      · intro x hx
        rcases hpend x hx with ⟨a, _⟩ | ⟨a, b⟩
        · rcases h3 _ a with c | c
          · exact .inl c
          · exact .inr (.inl c)
        · rcases h4 _ a with c | c
          · exact .inl c
          · exact .inr (.inl c)
      · intro x hx
        refine .inl ⟨?_, free h' x hx⟩
        rcases hpend x hx with ⟨a, _⟩ | ⟨a, _⟩
        · exact List.mem_append_right _ a
        · exact List.mem_append_left _ a
    | q + 6, e, hp => exact e.elim
/-- A drawn region. -/
theorem Stop.drawn {S : Seat} {fn : Func} {R : Post} {id : Nat} {ops : Array Oper} {k : List Item} {ds : List ADef} {fr : Fr} {h : AHeap} (l : List (Nat × Nat)) (tab : List (List Nat)) (n : Nat) (hc : (drawCheck ops (l.map (·.1)) tab && planOk ops tab l [] []) = true)
    (e : DEv S fn R ops k n l ds fr h) : Stop S fn R (.code (.region id ops true) :: k) ds fr h := by
  rw [Bool.and_eq_true] at hc
  exact Run.draw hc.1 (DEv.sound l [] [] [] ds fr h hc.2 (fun x hx => by cases hx) e)
section
variable {S : Seat} {fn : Func} {R : Post} {ops : List Oper} {k : List Item} {n : Nat} {l : List (Nat × Nat)} {ds : List ADef} {fr : Fr} {h : AHeap} (i : Nat)
theorem dev_nil (ops : Array Oper) : DEv S fn R ops k n [] ds fr h = Ev S fn R n k ds fr h := rfl
theorem dev_q : DEv S fn R ⟨ops⟩ k n ((i, 0) :: l) ds fr h = EvO S fn R (fun _ ds fr h => DEv S fn R ⟨ops⟩ k n l ds fr h) ops[i]? ⟨ops⟩ i [] k ds fr h := by
  show EvO S fn R _ (⟨ops⟩ : Array Oper)[i]? _ i [] k ds fr h = _
  rw [List.getElem?_toArray]
theorem dev_e : DEv S fn R ⟨ops⟩ k n ((i, 1) :: l) ds fr h = EvO S fn R (fun _ ds fr h => DEv S fn R ⟨ops⟩ k n l ds fr h) ops[i]? ⟨ops⟩ i [] k ds fr h := by
  show EvO S fn R _ (⟨ops⟩ : Array Oper)[i]? _ i [] k ds fr h = _
  rw [List.getElem?_toArray]
theorem dev_c : DEv S fn R ⟨ops⟩ k n ((i, 2) :: l) ds fr h = DC S fn ops[i]? ⟨ops⟩ fr h (fun fr => DEv S fn R ⟨ops⟩ k n l ds fr h) := by
  show DC S fn (⟨ops⟩ : Array Oper)[i]? _ fr h _ = _
  rw [List.getElem?_toArray]
theorem dev_d : DEv S fn R ⟨ops⟩ k n ((i, 3) :: l) ds fr h = DD S fn ops[i]? ds fr (fun ds fr => DEv S fn R ⟨ops⟩ k n l ds fr h) := by
  show DD S fn (⟨ops⟩ : Array Oper)[i]? ds fr _ = _
  rw [List.getElem?_toArray]
theorem dev_g : DEv S fn R ⟨ops⟩ k n ((i, 4) :: l) ds fr h = DG S fn ops[i]? ⟨ops⟩ fr h (fun fr h => DEv S fn R ⟨ops⟩ k n l ds fr h) := by
  show DG S fn (⟨ops⟩ : Array Oper)[i]? _ fr h _ = _
  rw [List.getElem?_toArray]
theorem dev_x : DEv S fn R ⟨ops⟩ k n ((i, 5) :: l) ds fr h = DX S fn ops[i]? ⟨ops⟩ fr h (fun fr h => DEv S fn R ⟨ops⟩ k n l ds fr h) := by
  show DX S fn (⟨ops⟩ : Array Oper)[i]? _ fr h _ = _
  rw [List.getElem?_toArray]
theorem dd_some (d : Option Nat) (args : List Operand) (ts : Array TypeId) (ty : Nat) (pos : String) (af : Array Edge) (E : List ADef → Fr → Prop) :
    DD S fn (some ⟨d, .defer ⟨.builtin .delete, ⟨args⟩, ts⟩, ty, pos, af, none⟩) ds fr E = (dstOk fn.ntmps d = true ∧ E (.del ts (args.map (rho S fr.get)) :: ds) (fr.put d .top)) := by
  apply propext
  constructor
  · rintro ⟨d', a', ts', ty', pos', af', ho, hd, e⟩
    injection ho with ho
    injection ho with h1 h2 h3 h4 h5 h6
    injection h2 with h2
    injection h2 with h7 h8 h9
    injection h8 with h8
    subst h1 h8 h9
    exact ⟨hd, e⟩
  · rintro ⟨hd, e⟩
    exact ⟨d, args, ts, ty, pos, af, rfl, hd, e⟩
end
/-- The call of a drawn region. -/
theorem DC.fact {S : Seat} {fn : Func} {ops : Array Oper} {fr : Fr} {h : AHeap} {E : Fr → Prop} {d : Option Nat} {f : Operand} {args : List Operand} {ts : Array TypeId} {ty : Nat} {pos : String} {af : Array Edge} {gd : Option (Nat × Bool)} {fid : FuncId} {caps as : List AV} {v : AV}
    (hc : AC S fid as h (Pure1 v h)) (hw : awanted ops ⟨d, .call ⟨.value f, ⟨args⟩, ts⟩, ty, pos, af, gd⟩ fr.get = some true) (hd : dstOk fn.ntmps d = true) (hfn : rho S fr.get f = .func fid caps) (he : Enters S fid)
    (has : fgtL (args.map (rho S fr.get) ++ caps) = as) (hr : E (fr.put d v)) : DC S fn (some ⟨d, .call ⟨.value f, ⟨args⟩, ts⟩, ty, pos, af, gd⟩) ops fr h E :=
  .inr ⟨d, f, args, ts, ty, pos, af, gd, fid, caps, v, rfl, hw, hd, hfn, he, by subst has; exact hc.args, hr⟩
/-- A call that is not wanted. -/
theorem DC.skip {S : Seat} {fn : Func} {ops : Array Oper} {fr : Fr} {h : AHeap} {E : Fr → Prop} {o : Oper} (hw : awanted ops o fr.get = some false) (hq : quietOp o.op = false) (hd : dstOk fn.ntmps o.dst = true) (hr : E (fr.put o.dst (.tup []))) : DC S fn (some o) ops fr h E :=
  .inl ⟨o, rfl, hq, hd, hw, hr⟩
end Go.Proofs.YtajknofacjiddaaDoor.Abs
