/- What it means that an abstract run ends so: over every world that bears it. Its steps. -/
import Derived.Test.YtajknofacjiddaaDoorAbs10
import Derived.Defers
namespace Go.Proofs.YtajknofacjiddaaDoor.Abs
open Go Go.RowKit
set_option linter.unusedVariables false
set_option linter.unusedSimpArgs false

/-! Frames -/
abbrev Fr := List (Nat × AV)
def Fr.get : Fr → Nat → AV
  | [], _ => .top
  | (i, v) :: fr, j => if i = j then v else Fr.get fr j
def Fr.put (fr : Fr) (d : Option Nat) (v : AV) : Fr :=
  match d with
  | some d => (d, v) :: fr
  | none => fr
def FrRep (g : Ghost) (n : Nat) (fr : Fr) (tmps : Array Value) : Prop := tmps.size = n ∧ ∀ s, Rep g (fr.get s) (tmps.getD s undef)
theorem FrRep.mono {g g' : Ghost} (l : g.le g') {n : Nat} {fr : Fr} {tmps : Array Value} (h : FrRep g n fr tmps) : FrRep g' n fr tmps := ⟨h.1, fun s => (h.2 s).mono l⟩
def dstOk (n : Nat) : Option Nat → Bool
  | some d => decide (d < n)
  | none => true
theorem FrRep.put {g : Ghost} {n : Nat} {fr : Fr} {a : Act} (h : FrRep g n fr a.tmps) {d : Option Nat} (hd : dstOk n d = true) {v : AV} {x : Value} (hv : Rep g v x) : FrRep g n (fr.put d v) (a.put d x).tmps := by
  cases d with
  | none => exact h
  | some d =>
    have hd' : d < n := of_decide_eq_true hd
    refine ⟨by simp [Act.put, h.1], fun s => ?_⟩
    simp only [Fr.put, Fr.get, Act.put]
    by_cases e : d = s
    · subst e
      rw [if_pos rfl]
      have : (a.tmps.setIfInBounds d x).getD d undef = x := by simp [Array.getD, h.1, hd']
      rw [this]
      exact hv
    · rw [if_neg e]
      have : (a.tmps.setIfInBounds d x).getD s undef = a.tmps.getD s undef := by
        simp only [Array.getD_eq_getD_getElem?]
        rw [Array.getElem?_setIfInBounds_ne e]
      rw [this]
      exact h.2 s
theorem FrRep.sub {g : Ghost} {n : Nat} {fr fr' : Fr} {tmps : Array Value} (h : FrRep g n fr tmps) (hs : ∀ s, fr'.get s = fr.get s ∨ fr'.get s = .top) : FrRep g n fr' tmps :=
  ⟨h.1, fun s => by rcases hs s with e | e <;> rw [e]; exact h.2 s; exact .top _⟩

/-! Ends, deferred calls -/
inductive AEnd where
  | ret (v : AV)
  | pan (v : AV)
def EndRep (g : Ghost) : AEnd → Ending → Prop
  | .ret v, .returned x => Rep g v x
  | .pan v, .panicked [e] => Rep g v e.v ∧ e.recovered = false ∧ e.goexit = false
  | _, _ => False
inductive ADef where
  | func (f : FuncId) (args : List AV)
  | del (ts : Array TypeId) (args : List AV)
def DefRep (g : Ghost) : ADef → Deferred → Prop
  | .func f args, d => ∃ caps xs, d = { target := .fn (.func f) caps, args := xs } ∧ RepL g args (xs ++ caps)
  | .del ts args, d => ∃ ty cs xs, d = { target := .builtin .delete ts ty cs, args := xs } ∧ RepL g args xs
def DefsRep (g : Ghost) (ds : List ADef) (dl : List Deferred) : Prop := dl.length = ds.length ∧ ∀ (i : Nat) a d, ds[i]? = some a → dl[i]? = some d → DefRep g a d
theorem DefRep.mono {g g' : Ghost} (l : g.le g') {a : ADef} {d : Deferred} (h : DefRep g a d) : DefRep g' a d := by
  cases a with
  | func f args => obtain ⟨c, x, h1, h2⟩ := h; exact ⟨c, x, h1, h2.mono l⟩
  | del ts args => obtain ⟨t, c, x, h1, h2⟩ := h; exact ⟨t, c, x, h1, h2.mono l⟩
theorem DefsRep.mono {g g' : Ghost} (l : g.le g') {ds : List ADef} {dl : List Deferred} (h : DefsRep g ds dl) : DefsRep g' ds dl := ⟨h.1, fun i a d h1 h2 => (h.2 i a d h1 h2).mono l⟩
theorem DefsRep.nil {g : Ghost} : DefsRep g [] [] := ⟨rfl, fun i a d h => by simp at h⟩

/-! Calls and runs -/
abbrev Post := AEnd → AHeap → Prop
def AC (S : Seat) (f : FuncId) (args : List AV) (h : AHeap) (R : Post) : Prop :=
  ∀ w0 g w xs, Inv S w0 h g w → RepL g args xs → Calls S.P f xs w fun e w' => ∃ r h' g', g.le g' ∧ Inv S w0 h' g' w' ∧ EndRep g' r e ∧ R r h'
def Done (S : Seat) (w0 : World) (g : Ghost) (R : Post) (m : Machine) (cs : List Frame) (f : FuncId) : Prop :=
  ∃ e w' fr', Comes S.P m (lone fr' cs w') e ∧ fr'.fn = f ∧ fr'.leaving S.P w' e ∧ ∃ r h' g', g.le g' ∧ Inv S w0 h' g' w' ∧ EndRep g' r e ∧ R r h'
theorem Done.of_steps {S : Seat} {w0 : World} {g : Ghost} {R : Post} {m m' : Machine} {cs : List Frame} {f : FuncId} (s : Steps S.P m m') (h : Done S w0 g R m' cs f) : Done S w0 g R m cs f :=
  let ⟨e, w', fr', h1, h2, h3, h4⟩ := h; ⟨e, w', fr', Comes.of_steps s h1, h2, h3, h4⟩
theorem Done.of_step {S : Seat} {w0 : World} {g : Ghost} {R : Post} {m m' : Machine} {cs : List Frame} {f : FuncId} (s : step S.P m = .next m') (h : Done S w0 g R m' cs f) : Done S w0 g R m cs f := h.of_steps (.one s)
theorem Done.mono {S : Seat} {w0 : World} {g g' : Ghost} (l : g.le g') {R : Post} {m : Machine} {cs : List Frame} {f : FuncId} (h : Done S w0 g' R m cs f) : Done S w0 g R m cs f :=
  let ⟨e, w', fr', h1, h2, h3, r, h', g2, h4, h5⟩ := h; ⟨e, w', fr', h1, h2, h3, r, h', g2, l.trans h4, h5⟩
/-- From this place on (what is still to be run: k) every world that bears the frame and the heap ends as R says. -/
def Run (S : Seat) (fn : Func) (k : List Item) (ds : List ADef) (fr : Fr) (h : AHeap) (R : Post) : Prop :=
  ∀ w0 g w (a : Act) (b : Frame) cs, Inv S w0 h g w → FrRep g fn.ntmps fr a.tmps → DefsRep g ds a.defers → S.P.funcs[b.fn]? = some fn → b.kind = .normal → Done S w0 g R (lone (b.at a k) cs w) cs b.fn
inductive AMode where
  | returning
  | panicking (v : AV)
def ModeRep (g : Ghost) : AMode → FrameMode → Prop
  | .returning, .returning => True
  | .panicking v, .panicking [e] => Rep g v e.v ∧ e.recovered = false ∧ e.goexit = false
  | _, _ => False
/-- The function is being left. -/
def Leave (S : Seat) (fn : Func) (m : AMode) (ds : List ADef) (fr : Fr) (h : AHeap) (R : Post) : Prop :=
  ∀ w0 g w (frm : Frame) cs, Inv S w0 h g w → FrRep g fn.ntmps fr frm.tmps → DefsRep g ds frm.defers → S.P.funcs[frm.fn]? = some fn → frm.kind = .normal → ModeRep g m frm.mode → Done S w0 g R (lone frm cs w) cs frm.fn

def argFr : Nat → List AV → Fr
  | _, [] => []
  | i, v :: vs => (i, v) :: argFr (i + 1) vs
theorem argFr_get (vs : List AV) : ∀ (i s : Nat), (argFr i vs).get s = if i ≤ s then (vs[s - i]?).getD .top else .top := by
  induction vs with
  | nil => intro i s; simp [argFr, Fr.get]
  | cons v vs ih =>
    intro i s
    simp only [argFr, Fr.get]
    by_cases e : i = s
    · subst e; simp
    · rw [if_neg e, ih]
      by_cases q : i + 1 ≤ s
      · rw [if_pos q, if_pos (by omega)]
        have : s - i = (s - (i + 1)) + 1 := by omega
        rw [this, List.getElem?_cons_succ]
      · rw [if_neg q, if_neg (by omega)]
theorem AC.enter {S : Seat} {f : FuncId} {fn : Func} {c : Code} {args : List AV} {h : AHeap} {R : Post} (hf : S.P.funcs[f]? = some fn) (hb : fn.body = some c) (hn : args.length ≤ fn.ntmps)
    (hr : Run S fn [.code c] [] (argFr 0 args) h R) : AC S f args h R := by
  intro w0 g w xs inv hargs cs
  let b : Frame := { (default : Frame) with fn := f, kind := .normal }
  let a : Act := { tmps := xs ++ Array.replicate (fn.ntmps - xs.size) undef, defers := [] }
  have henter : Frame.enter S.P f xs .normal = b.at a [.code c] := by simp [Frame.enter, Frame.at, hf, hb, b, a]
  have hfr : FrRep g fn.ntmps (argFr 0 args) a.tmps := by
    refine ⟨by simp [a, hargs.1]; omega, fun s => ?_⟩
    rw [argFr_get, if_pos (Nat.zero_le _), Nat.sub_zero]
    cases hs : args[s]? with
    | none => exact .top _
    | some v =>
      obtain ⟨x, hx, hxr⟩ := hargs.get hs
      have hlt : s < xs.size := (Array.getElem?_eq_some_iff.1 hx).1
      have : a.tmps.getD s undef = x := by
        simp only [a, Array.getD_eq_getD_getElem?, Array.getElem?_append, if_pos hlt, hx, Option.getD_some]
      rw [this]
      exact hxr
  obtain ⟨e, w', fr', h1, h2, h3, h4⟩ := hr w0 g w a b cs inv hfr DefsRep.nil hf rfl
  rw [← henter] at h1
  exact ⟨e, w', fr', h4, h1, h2, h3⟩
theorem AC.mono {S : Seat} {f : FuncId} {args : List AV} {h : AHeap} {R R' : Post} (hc : AC S f args h R) (hr : ∀ r h', R r h' → R' r h') : AC S f args h R' :=
  fun w0 g w xs inv hargs => (hc w0 g w xs inv hargs).mono fun e w' ⟨r, h', g', a, b, c, d⟩ => ⟨r, h', g', a, b, c, hr _ _ d⟩

/-! The steps of control -/
section
variable {S : Seat} {fn : Func} {k : List Item} {ds : List ADef} {fr : Fr} {h : AHeap} {R : Post}
theorem Run.seq {x y : Code} (hr : Run S fn (.code x :: .code y :: k) ds fr h R) : Run S fn (.code (.seq x y) :: k) ds fr h R :=
  fun w0 g w a b cs i hf hd hfn hk => (hr w0 g w a b cs i hf hd hfn hk).of_step step_seq
theorem Run.skip (hr : Run S fn k ds fr h R) : Run S fn (.code .skip :: k) ds fr h R :=
  fun w0 g w a b cs i hf hd hfn hk => (hr w0 g w a b cs i hf hd hfn hk).of_step step_skip
theorem Run.block {id : Nat} {c : Code} (hr : Run S fn (.code c :: .inBlock id :: k) ds fr h R) : Run S fn (.code (.block id c) :: k) ds fr h R :=
  fun w0 g w a b cs i hf hd hfn hk => (hr w0 g w a b cs i hf hd hfn hk).of_step step_block
theorem Run.inBlock {id : Nat} (hr : Run S fn k ds fr h R) : Run S fn (.inBlock id :: k) ds fr h R :=
  fun w0 g w a b cs i hf hd hfn hk => (hr w0 g w a b cs i hf hd hfn hk).of_step step_inBlock
theorem Run.inLoop {c : Code} (hr : Run S fn (.code c :: .inLoop c :: k) ds fr h R) : Run S fn (.inLoop c :: k) ds fr h R :=
  fun w0 g w a b cs i hf hd hfn hk => (hr w0 g w a b cs i hf hd hfn hk).of_step step_inLoop
theorem Run.loop {c : Code} (hr : Run S fn (.code c :: .inLoop c :: k) ds fr h R) : Run S fn (.code (.loop c) :: k) ds fr h R :=
  fun w0 g w a b cs i hf hd hfn hk => (hr w0 g w a b cs i hf hd hfn hk).of_step step_loop
theorem Run.exit {id : Nat} {k' : List Item} (he : exitTo id k = some k') (hr : Run S fn k' ds fr h R) : Run S fn (.code (.exit id) :: k) ds fr h R :=
  fun w0 g w a b cs i hf hd hfn hk => (hr w0 g w a b cs i hf hd hfn hk).of_step (step_exit he)
theorem Run.cond {c : Operand} {x y : Code} {t : Bool} (hc : rho S fr.get c = .bool t) (h1 : t = true → Run S fn (.code x :: k) ds fr h R) (h2 : t = false → Run S fn (.code y :: k) ds fr h R) : Run S fn (.code (.cond c x y) :: k) ds fr h R := by
  intro w0 g w a b cs i hf hd hfn hk
  have hr := rho_rep i hf.2 c
  rw [hc] at hr
  have he : a.eval c = .bool t := by
    generalize a.eval c = z at hr
    cases hr; rfl
  cases t
  · exact (h2 rfl w0 g w a b cs i hf hd hfn hk).of_step (step_cond he)
  · exact (h1 rfl w0 g w a b cs i hf hd hfn hk).of_step (step_cond he)
theorem Run.ret (hr : Leave S fn .returning ds fr h R) : Run S fn (.code .ret :: k) ds fr h R :=
  fun w0 g w a b cs i hf hd hfn hk => (hr w0 g w { b.at a (.code .ret :: k) with mode := .returning } cs i hf hd hfn hk trivial).of_step step_ret
theorem Run.nil (hr : Leave S fn .returning ds fr h R) : Run S fn [] ds fr h R :=
  fun w0 g w a b cs i hf hd hfn hk => (hr w0 g w { b.at a [] with mode := .returning } cs i hf hd hfn hk trivial).of_step step_end
theorem Run.region {id : Nat} {ops : Array Oper} (hr : Run S fn (.inRegion ops (List.range ops.size) :: k) ds fr h R) : Run S fn (.code (.region id ops false) :: k) ds fr h R :=
  fun w0 g w a b cs i hf hd hfn hk => (hr w0 g w a b cs i hf hd hfn hk).of_step step_region
theorem Run.regionEnd {ops : Array Oper} (hr : Run S fn k ds fr h R) : Run S fn (.inRegion ops [] :: k) ds fr h R :=
  fun w0 g w a b cs i hf hd hfn hk => (hr w0 g w a b cs i hf hd hfn hk).of_step step_region_end
/-- Slots may be forgotten. -/
theorem Run.sub {fr' : Fr} (hs : ∀ s, fr'.get s = fr.get s ∨ fr'.get s = .top) (hr : Run S fn k ds fr' h R) : Run S fn k ds fr h R :=
  fun w0 g w a b cs i hf hd hfn hk => hr w0 g w a b cs i (hf.sub hs) hd hfn hk
theorem Run.mono {R' : Post} (hq : ∀ r h', R r h' → R' r h') (hr : Run S fn k ds fr h R) : Run S fn k ds fr h R' :=
  fun w0 g w a b cs i hf hd hfn hk => let ⟨e, w', fr', h1, h2, h3, r, h', g2, h4, h5, h6, h7⟩ := hr w0 g w a b cs i hf hd hfn hk; ⟨e, w', fr', h1, h2, h3, r, h', g2, h4, h5, h6, hq _ _ h7⟩
end
end Go.Proofs.YtajknofacjiddaaDoor.Abs
