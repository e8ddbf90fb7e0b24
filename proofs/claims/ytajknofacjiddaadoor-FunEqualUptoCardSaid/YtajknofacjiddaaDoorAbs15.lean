/- A run reckoned as far as it goes without a loop, a call or a drawn region. -/
import Derived.Test.YtajknofacjiddaaDoorAbs14
namespace Go.Proofs.YtajknofacjiddaaDoor.Abs
open Go Go.RowKit
set_option linter.unusedVariables false
set_option linter.unusedSimpArgs false

/-- What stands next wants a law of its own. -/
def Stop (S : Seat) (fn : Func) (R : Post) (k : List Item) (ds : List ADef) (fr : Fr) (h : AHeap) : Prop := Run S fn k ds fr h R
def isLeaf : Op → Bool
  | .call { callee := .value _, .. } | .defer _ | .panic _ | .next .. | .entry _ => true
  | _ => false

abbrev EvT := List Item → List ADef → Fr → AHeap → Prop
def EvC (E : EvT) : AV → Code → Code → List Item → List ADef → Fr → AHeap → Prop
  | .bool t, x, y, k, ds, fr, h => (t = true → E (.code x :: k) ds fr h) ∧ (t = false → E (.code y :: k) ds fr h)
  | _, _, _, _, _, _, _ => False
def EvX (E : EvT) : Option (List Item) → List ADef → Fr → AHeap → Prop
  | some k, ds, fr, h => E k ds fr h
  | none, _, _, _ => False
def EvQ (E : EvT) : Option AV → Option Nat → Array Oper → List Nat → List Item → List ADef → Fr → AHeap → Prop
  | some v, dst, ops, l, k, ds, fr, h => E (.inRegion ops l :: k) ds (fr.put dst v) h
  | none, _, _, _, _, _, _, _ => False
def EvE (E : EvT) : Option (AV × AHeap) → Option Nat → Array Oper → List Nat → List Item → List ADef → Fr → Prop
  | some (v, h), dst, ops, l, k, ds, fr => E (.inRegion ops l :: k) ds (fr.put dst v) h
  | none, _, _, _, _, _, _ => False
def EvD (S : Seat) (fn : Func) (R : Post) (E : EvT) (o : Oper) (ops : Array Oper) (i : Nat) (l : List Nat) (k : List Item) (ds : List ADef) (fr : Fr) (h : AHeap) : Prop :=
  match isLeaf o.op, quietOp o.op with
  | true, _ => Stop S fn R (.inRegion ops (i :: l) :: k) ds fr h
  | false, true => EvQ E (aq S o.op (rho S fr.get) h) o.dst ops l k ds fr h
  | false, false => EvE E (ae S o.op (rho S fr.get) h) o.dst ops l k ds fr
def EvG (S : Seat) (fn : Func) (R : Post) (E : EvT) : Option AV → Bool → Oper → Array Oper → Nat → List Nat → List Item → List ADef → Fr → AHeap → Prop
  | some (.bool b), want, o, ops, i, l, k, ds, fr, h => (b = want → EvD S fn R E o ops i l k ds fr h) ∧ (b = !want → E (.inRegion ops l :: k) ds (fr.put o.dst (.tup [])) h)
  | some (.tup _), want, o, ops, i, l, k, ds, fr, h => E (.inRegion ops l :: k) ds (fr.put o.dst (.tup [])) h
  | _, _, _, _, _, _, _, _, _, _ => False
def EvO (S : Seat) (fn : Func) (R : Post) (E : EvT) : Option Oper → Array Oper → Nat → List Nat → List Item → List ADef → Fr → AHeap → Prop
  | some o, ops, i, l, k, ds, fr, h => dstOk fn.ntmps o.dst = true ∧ (match o.guard with
    | none => EvD S fn R E o ops i l k ds fr h
    | some (j, want) => EvG S fn R E (((ops[j]?).bind (·.dst)).map fr.get) want o ops i l k ds fr h)
  | none, _, _, _, _, _, _, _ => False
def Ev (S : Seat) (fn : Func) (R : Post) : Nat → List Item → List ADef → Fr → AHeap → Prop
  | 0, k, ds, fr, h => Stop S fn R k ds fr h
  | n + 1, k, ds, fr, h => match k with
    | [] => Leave S fn .returning ds fr h R
    | .code (.seq a b) :: k => Ev S fn R n (.code a :: .code b :: k) ds fr h
    | .code .skip :: k => Ev S fn R n k ds fr h
    | .code (.cond c x y) :: k => EvC (Ev S fn R n) (rho S fr.get c) x y k ds fr h
    | .code (.block id c) :: k => Ev S fn R n (.code c :: .inBlock id :: k) ds fr h
    | .inBlock id :: k => Ev S fn R n k ds fr h
    | .code (.exit id) :: k => EvX (Ev S fn R n) (exitTo id k) ds fr h
    | .code .ret :: k => Leave S fn .returning ds fr h R
    | .code (.region _ ops false) :: k => Ev S fn R n (.inRegion ops (List.range ops.size) :: k) ds fr h
    | .inRegion ops [] :: k => Ev S fn R n k ds fr h
    | .inRegion ops (i :: l) :: k => EvO S fn R (Ev S fn R n) ops[i]? ops i l k ds fr h
    | x :: k => Stop S fn R (x :: k) ds fr h

section
variable {S : Seat} {fn : Func} {R : Post} {E : EvT} {k : List Item} {ds : List ADef} {fr : Fr} {h : AHeap}
theorem EvD.sound (ih : ∀ k ds fr h, E k ds fr h → Run S fn k ds fr h R) {o : Oper} {ops : Array Oper} {i : Nat} {l : List Nat} (ho : ops[i]? = some o) (hd : dstOk fn.ntmps o.dst = true) (hw : awanted ops o fr.get = some true)
    (e : EvD S fn R E o ops i l k ds fr h) : Run S fn (.inRegion ops (i :: l) :: k) ds fr h R := by
  unfold EvD at e
  cases hl : isLeaf o.op with
  | true => rw [hl] at e; exact e
  | false =>
    cases hq : quietOp o.op with
    | true =>
      rw [hl, hq] at e
      cases hv : aq S o.op (rho S fr.get) h with
      | none => rw [hv] at e; exact e.elim
      | some v => rw [hv] at e; exact Run.opQ ho hw hd hv (ih _ _ _ _ e)
    | false =>
      rw [hl, hq] at e
      cases hv : ae S o.op (rho S fr.get) h with
      | none => rw [hv] at e; exact e.elim
      | some p => obtain ⟨v, h'⟩ := p; rw [hv] at e; exact Run.opE ho hw hd hv (ih _ _ _ _ e)
theorem EvO.sound (ih : ∀ k ds fr h, E k ds fr h → Run S fn k ds fr h R) {x : Option Oper} {ops : Array Oper} {i : Nat} {l : List Nat} (hx : ops[i]? = x) (e : EvO S fn R E x ops i l k ds fr h) : Run S fn (.inRegion ops (i :: l) :: k) ds fr h R := by
  cases x with
  | none => exact e.elim
  | some o =>
    obtain ⟨hd, e⟩ := e
    cases hg : o.guard with
    | none =>
      rw [hg] at e
      exact EvD.sound ih hx hd (by unfold awanted; rw [hg]) e
    | some p =>
      obtain ⟨j, want⟩ := p
      rw [hg] at e
      simp only at e
      cases hb : ((ops[j]?).bind (·.dst)).map fr.get with
      | none => rw [hb] at e; exact e.elim
      | some v =>
        rw [hb] at e
        cases v <;> simp only [EvG] at e
        case tup cs =>
          refine Run.opSkip hx ?_ hd (ih _ _ _ _ e)
          unfold awanted
          rw [hg]
          simp only
          cases ht : (ops[j]?).bind (·.dst) with
          | none => rw [ht] at hb; cases hb
          | some t =>
            rw [ht] at hb
            simp only [Option.map_some, Option.some.injEq] at hb
            simp only [hb]
        rename_i b
        have haw : awanted ops o fr.get = some (b == want) := by
          unfold awanted
          rw [hg]
          simp only
          cases ht : (ops[j]?).bind (·.dst) with
          | none => rw [ht] at hb; cases hb
          | some t =>
            rw [ht] at hb
            simp only [Option.map_some, Option.some.injEq] at hb
            simp only [hb]
        by_cases q : b = want
        · exact EvD.sound ih hx hd (by rw [haw, q]; simp) (e.1 q)
        · refine Run.opSkip hx ?_ hd (ih _ _ _ _ (e.2 ?_))
          · rw [haw]; simp [q]
          · cases b <;> cases want <;> simp_all
theorem EvC.sound (ih : ∀ k ds fr h, E k ds fr h → Run S fn k ds fr h R) {c : Operand} {x y : Code} (e : EvC E (rho S fr.get c) x y k ds fr h) : Run S fn (.code (.cond c x y) :: k) ds fr h R := by
  cases hc : rho S fr.get c <;> rw [hc] at e <;> simp only [EvC] at e
  exact Run.cond hc (fun ht => ih _ _ _ _ (e.1 ht)) (fun ht => ih _ _ _ _ (e.2 ht))
theorem EvX.sound (ih : ∀ k ds fr h, E k ds fr h → Run S fn k ds fr h R) {id : Nat} (e : EvX E (exitTo id k) ds fr h) : Run S fn (.code (.exit id) :: k) ds fr h R := by
  cases hk : exitTo id k with
  | none => rw [hk] at e; exact e.elim
  | some k' => rw [hk] at e; exact Run.exit hk (ih _ _ _ _ e)
end
theorem Ev.sound {S : Seat} {fn : Func} {R : Post} : ∀ (n : Nat) (k : List Item) (ds : List ADef) (fr : Fr) (h : AHeap), Ev S fn R n k ds fr h → Run S fn k ds fr h R := by
  intro n
  induction n with
  | zero => intro k ds fr h e; exact e
  | succ n ih =>
    intro k ds fr h e
    unfold Ev at e
    split at e
    · exact Run.nil e
    · exact Run.seq (ih _ _ _ _ e)
    · exact Run.skip (ih _ _ _ _ e)
    · exact EvC.sound ih e
    · exact Run.block (ih _ _ _ _ e)
    · exact Run.inBlock (ih _ _ _ _ e)
    · exact EvX.sound ih e
    · exact Run.ret e
    · exact Run.region (ih _ _ _ _ e)
    · exact Run.regionEnd (ih _ _ _ _ e)
    · exact EvO.sound ih rfl e
    · exact e


/-! Rules for the reckoning -/
section
variable {S : Seat} {fn : Func} {R : Post} {E : EvT} {n : Nat} {k : List Item} {ds : List ADef} {fr : Fr} {h : AHeap}
theorem ev_seq (a b : Code) : Ev S fn R (n + 1) (.code (.seq a b) :: k) ds fr h = Ev S fn R n (.code a :: .code b :: k) ds fr h := rfl
theorem ev_skip : Ev S fn R (n + 1) (.code .skip :: k) ds fr h = Ev S fn R n k ds fr h := rfl
theorem ev_cond (c : Operand) (x y : Code) : Ev S fn R (n + 1) (.code (.cond c x y) :: k) ds fr h = EvC (Ev S fn R n) (rho S fr.get c) x y k ds fr h := rfl
theorem ev_block (id : Nat) (c : Code) : Ev S fn R (n + 1) (.code (.block id c) :: k) ds fr h = Ev S fn R n (.code c :: .inBlock id :: k) ds fr h := rfl
theorem ev_inBlock (id : Nat) : Ev S fn R (n + 1) (.inBlock id :: k) ds fr h = Ev S fn R n k ds fr h := rfl
theorem ev_exit (id : Nat) : Ev S fn R (n + 1) (.code (.exit id) :: k) ds fr h = EvX (Ev S fn R n) (exitTo id k) ds fr h := rfl
theorem ev_ret : Ev S fn R (n + 1) (.code .ret :: k) ds fr h = Leave S fn .returning ds fr h R := rfl
theorem ev_nil : Ev S fn R (n + 1) [] ds fr h = Leave S fn .returning ds fr h R := rfl
theorem ev_region (id : Nat) (l : List Oper) : Ev S fn R (n + 1) (.code (.region id ⟨l⟩ false) :: k) ds fr h = Ev S fn R n (.inRegion ⟨l⟩ (List.range l.length) :: k) ds fr h := rfl
theorem ev_draw (id : Nat) (ops : Array Oper) : Ev S fn R (n + 1) (.code (.region id ops true) :: k) ds fr h = Stop S fn R (.code (.region id ops true) :: k) ds fr h := rfl
theorem ev_loop (c : Code) : Ev S fn R (n + 1) (.code (.loop c) :: k) ds fr h = Stop S fn R (.code (.loop c) :: k) ds fr h := rfl
theorem ev_inLoop (c : Code) : Ev S fn R (n + 1) (.inLoop c :: k) ds fr h = Stop S fn R (.inLoop c :: k) ds fr h := rfl
theorem ev_regionEnd (ops : Array Oper) : Ev S fn R (n + 1) (.inRegion ops [] :: k) ds fr h = Ev S fn R n k ds fr h := rfl
theorem ev_op (ops : List Oper) (i : Nat) (l : List Nat) : Ev S fn R (n + 1) (.inRegion ⟨ops⟩ (i :: l) :: k) ds fr h = EvO S fn R (Ev S fn R n) ops[i]? ⟨ops⟩ i l k ds fr h := by
  show EvO S fn R (Ev S fn R n) (⟨ops⟩ : Array Oper)[i]? ⟨ops⟩ i l k ds fr h = _
  rw [List.getElem?_toArray]
theorem evc_bool (t : Bool) (x y : Code) : EvC E (.bool t) x y k ds fr h = ((t = true → E (.code x :: k) ds fr h) ∧ (t = false → E (.code y :: k) ds fr h)) := rfl
theorem evx_some : EvX E (some k) ds fr h = E k ds fr h := rfl
theorem evq_some (v : AV) (dst : Option Nat) (ops : Array Oper) (l : List Nat) : EvQ E (some v) dst ops l k ds fr h = E (.inRegion ops l :: k) ds (fr.put dst v) h := rfl
theorem evq_ite (c : Prop) [Decidable c] (a : Option AV) (dst : Option Nat) (ops : Array Oper) (l : List Nat) : EvQ E (if c then a else none) dst ops l k ds fr h = (c ∧ EvQ E a dst ops l k ds fr h) := by
  by_cases q : c
  · simp [q]
  · simp [q, EvQ]
theorem evq_ite' (c : Prop) [Decidable c] (a : Option AV) (dst : Option Nat) (ops : Array Oper) (l : List Nat) : EvQ E (if c then none else a) dst ops l k ds fr h = (¬ c ∧ EvQ E a dst ops l k ds fr h) := by
  by_cases q : c
  · simp [q, EvQ]
  · simp [q]
theorem eve_some (v : AV) (h' : AHeap) (dst : Option Nat) (ops : Array Oper) (l : List Nat) : EvE E (some (v, h')) dst ops l k ds fr = E (.inRegion ops l :: k) ds (fr.put dst v) h' := rfl
theorem eve_ite (c : Prop) [Decidable c] (a : Option (AV × AHeap)) (dst : Option Nat) (ops : Array Oper) (l : List Nat) : EvE E (if c then a else none) dst ops l k ds fr = (c ∧ EvE E a dst ops l k ds fr) := by
  by_cases q : c
  · simp [q]
  · simp [q, EvE]
theorem evo_some (d : Option Nat) (op : Op) (ty : Nat) (pos : String) (af : Array Edge) (ops : Array Oper) (i : Nat) (l : List Nat) :
    EvO S fn R E (some ⟨d, op, ty, pos, af, none⟩) ops i l k ds fr h = (dstOk fn.ntmps d = true ∧ EvD S fn R E ⟨d, op, ty, pos, af, none⟩ ops i l k ds fr h) := rfl
theorem evo_guard (d : Option Nat) (op : Op) (ty : Nat) (pos : String) (af : Array Edge) (j : Nat) (want : Bool) (ops : List Oper) (i : Nat) (l : List Nat) :
    EvO S fn R E (some ⟨d, op, ty, pos, af, some (j, want)⟩) ⟨ops⟩ i l k ds fr h = (dstOk fn.ntmps d = true ∧ EvG S fn R E (((ops[j]?).bind (·.dst)).map fr.get) want ⟨d, op, ty, pos, af, some (j, want)⟩ ⟨ops⟩ i l k ds fr h) := by
  show (_ ∧ EvG S fn R E ((((⟨ops⟩ : Array Oper)[j]?).bind (·.dst)).map fr.get) want _ ⟨ops⟩ i l k ds fr h) = _
  rw [List.getElem?_toArray]
theorem evg_bool (b want : Bool) (o : Oper) (ops : Array Oper) (i : Nat) (l : List Nat) : EvG S fn R E (some (.bool b)) want o ops i l k ds fr h = ((b = want → EvD S fn R E o ops i l k ds fr h) ∧ (b = !want → E (.inRegion ops l :: k) ds (fr.put o.dst (.tup [])) h)) := rfl
theorem evg_tup (cs : List AV) (want : Bool) (o : Oper) (ops : Array Oper) (i : Nat) (l : List Nat) : EvG S fn R E (some (.tup cs)) want o ops i l k ds fr h = E (.inRegion ops l :: k) ds (fr.put o.dst (.tup [])) h := rfl
variable (d : Option Nat) (ty : Nat) (pos : String) (af : Array Edge) (gd : Option (Nat × Bool)) (ops : Array Oper) (i : Nat) (l : List Nat)
theorem evd_move (x : Operand) : EvD S fn R E ⟨d, .move x, ty, pos, af, gd⟩ ops i l k ds fr h = E (.inRegion ops l :: k) ds (fr.put d (rho S fr.get x)) h := rfl
theorem evd_assign (x : Operand) : EvD S fn R E ⟨d, .assign x, ty, pos, af, gd⟩ ops i l k ds fr h = E (.inRegion ops l :: k) ds (fr.put d (rho S fr.get x)) h := rfl
def apickO (c a b : AV) : Option AV := match c with | .bool t => some (apick t a b) | _ => none
theorem evd_pick (c a b : Operand) : EvD S fn R E ⟨d, .pick c a b, ty, pos, af, gd⟩ ops i l k ds fr h = EvQ E (apickO (rho S fr.get c) (rho S fr.get a) (rho S fr.get b)) d ops l k ds fr h := rfl
theorem evd_load (t : Nat) (a : Operand) : EvD S fn R E ⟨d, .load t a, ty, pos, af, gd⟩ ops i l k ds fr h = EvQ E (aload S t (rho S fr.get a) h) d ops l k ds fr h := rfl
theorem evd_nilCheck (x : Operand) : EvD S fn R E ⟨d, .nilCheck x, ty, pos, af, gd⟩ ops i l k ds fr h = EvQ E (anilCheck (rho S fr.get x)) d ops l k ds fr h := rfl
theorem evd_binOp (op : BinOp) (t : Nat) (x y : Operand) (yt : Nat) : EvD S fn R E ⟨d, .binOp op t x y yt, ty, pos, af, gd⟩ ops i l k ds fr h = EvQ E (abin S op t (rho S fr.get x) (rho S fr.get y)) d ops l k ds fr h := rfl
theorem evd_unOp (op : UnOp) (t : Nat) (x : Operand) : EvD S fn R E ⟨d, .unOp op t x, ty, pos, af, gd⟩ ops i l k ds fr h = EvQ E (aun op (rho S fr.get x)) d ops l k ds fr h := rfl
theorem evd_convert (s t : Nat) (x : Operand) : EvD S fn R E ⟨d, .convert s t x, ty, pos, af, gd⟩ ops i l k ds fr h = EvQ E (aconvert S s t (rho S fr.get x)) d ops l k ds fr h := rfl
theorem evd_makeFunc (f : Nat) (caps : List Operand) : EvD S fn R E ⟨d, .makeFunc (.func f) ⟨[]⟩ ⟨caps⟩, ty, pos, af, gd⟩ ops i l k ds fr h = E (.inRegion ops l :: k) ds (fr.put d (.func f (caps.map (rho S fr.get)))) h := rfl
theorem evd_makeIface (t : Nat) (x : Operand) : EvD S fn R E ⟨d, .makeInterface t x, ty, pos, af, gd⟩ ops i l k ds fr h = EvQ E (amakeIface S t (rho S fr.get x)) d ops l k ds fr h := rfl
theorem evd_fieldAddr (s : Nat) (x : Operand) (f : Nat) : EvD S fn R E ⟨d, .fieldAddr s x f, ty, pos, af, gd⟩ ops i l k ds fr h = EvQ E (afieldAddr S s (rho S fr.get x) f) d ops l k ds fr h := rfl
theorem evd_field (s : Nat) (x : Operand) (f : Nat) : EvD S fn R E ⟨d, .field s x f, ty, pos, af, gd⟩ ops i l k ds fr h = EvQ E (afield S s (rho S fr.get x) f) d ops l k ds fr h := rfl
theorem evd_indexAddr (t : Nat) (x y : Operand) : EvD S fn R E ⟨d, .indexAddr t x y, ty, pos, af, gd⟩ ops i l k ds fr h = EvQ E (aindexAddr S t (rho S fr.get x) (rho S fr.get y)) d ops l k ds fr h := rfl
theorem evd_index (t : Nat) (x y : Operand) : EvD S fn R E ⟨d, .index t x y, ty, pos, af, gd⟩ ops i l k ds fr h = EvQ E (aindex S t (rho S fr.get x) (rho S fr.get y)) d ops l k ds fr h := rfl
theorem evd_lookup (t : Nat) (x y : Operand) (ok : Bool) : EvD S fn R E ⟨d, .lookup t x y ok, ty, pos, af, gd⟩ ops i l k ds fr h = EvQ E (alookup S t (rho S fr.get x) (rho S fr.get y) ok h) d ops l k ds fr h := rfl
theorem evd_extract (x : Operand) (j : Nat) : EvD S fn R E ⟨d, .extract x j, ty, pos, af, gd⟩ ops i l k ds fr h = EvQ E (aextract (rho S fr.get x) j) d ops l k ds fr h := rfl
theorem evd_slice (t : Nat) (x : Operand) (lo hi mx : Option Operand) : EvD S fn R E ⟨d, .slice t x lo hi mx, ty, pos, af, gd⟩ ops i l k ds fr h = EvQ E (aslice S t (rho S fr.get x) (lo.map (rho S fr.get)) (hi.map (rho S fr.get)) (mx.map (rho S fr.get))) d ops l k ds fr h := rfl
theorem evd_build (t : Nat) (ps : List (Nat × Operand)) : EvD S fn R E ⟨d, .build t ⟨ps⟩, ty, pos, af, gd⟩ ops i l k ds fr h = EvQ E (abuild S t (ps.map fun p => (p.1, rho S fr.get p.2))) d ops l k ds fr h := rfl
theorem evd_buildSlice (t n : Nat) (ps : List (Nat × Operand)) : EvD S fn R E ⟨d, .buildSlice t n ⟨ps⟩, ty, pos, af, gd⟩ ops i l k ds fr h = EvQ E (abuildSlice S t n (ps.map fun p => (p.1, rho S fr.get p.2))) d ops l k ds fr h := rfl
theorem evd_len (args : List Operand) (ts : List Nat) : EvD S fn R E ⟨d, .call ⟨.builtin .len, ⟨args⟩, ⟨ts⟩⟩, ty, pos, af, gd⟩ ops i l k ds fr h = EvQ E (abuiltin S .len ⟨ts⟩ (args.map (rho S fr.get)) h) d ops l k ds fr h := rfl
theorem evd_max (args : List Operand) (ts : Array Nat) : EvD S fn R E ⟨d, .call ⟨.builtin .max, ⟨args⟩, ts⟩, ty, pos, af, gd⟩ ops i l k ds fr h = EvQ E (amm true (args.map (rho S fr.get))) d ops l k ds fr h := rfl
theorem evd_min (args : List Operand) (ts : Array Nat) : EvD S fn R E ⟨d, .call ⟨.builtin .min, ⟨args⟩, ts⟩, ty, pos, af, gd⟩ ops i l k ds fr h = EvQ E (amm false (args.map (rho S fr.get))) d ops l k ds fr h := rfl
theorem evd_alloc (t : Nat) : EvD S fn R E ⟨d, .alloc t, ty, pos, af, gd⟩ ops i l k ds fr h = EvE E (aalloc S t h) d ops l k ds fr := rfl
theorem evd_box (t : Nat) (x : Operand) : EvD S fn R E ⟨d, .box t x, ty, pos, af, gd⟩ ops i l k ds fr h = EvE E (abox (rho S fr.get x) h) d ops l k ds fr := rfl
theorem evd_makeMap (t : Nat) (r : Option Operand) : EvD S fn R E ⟨d, .makeMap t r, ty, pos, af, gd⟩ ops i l k ds fr h = EvE E (amakeMap S t (r.map (rho S fr.get)) h) d ops l k ds fr := rfl
theorem evd_makeSlice (t : Nat) (x y : Operand) : EvD S fn R E ⟨d, .makeSlice t x y, ty, pos, af, gd⟩ ops i l k ds fr h = EvE E (amakeSlice S t (rho S fr.get x) (rho S fr.get y) h) d ops l k ds fr := rfl
def justH : Option AHeap → Option (AV × AHeap)
  | some h => some (.top, h)
  | none => none
def justT : Option AHeap → Option (AV × AHeap)
  | some h => some (.tup [], h)
  | none => none
theorem justH_eq (x : Option AHeap) : x.map (fun h' => (AV.top, h')) = justH x := by cases x <;> rfl
theorem justT_eq (x : Option AHeap) : x.map (fun h' => (AV.tup [], h')) = justT x := by cases x <;> rfl
theorem evd_store (t : Nat) (x y : Operand) : EvD S fn R E ⟨d, .store t x y, ty, pos, af, gd⟩ ops i l k ds fr h = EvE E (justH (astore S t (rho S fr.get x) (rho S fr.get y) h)) d ops l k ds fr := by
  rw [← justH_eq]; rfl
theorem evd_mapUpdate (t : Nat) (m x y : Operand) : EvD S fn R E ⟨d, .mapUpdate t m x y, ty, pos, af, gd⟩ ops i l k ds fr h = EvE E (justH (amapUpdate S t (rho S fr.get m) (rho S fr.get x) (rho S fr.get y) h)) d ops l k ds fr := by
  rw [← justH_eq]; rfl
theorem evd_insert (t : Nat) (m x y : Operand) : EvD S fn R E ⟨d, .insert t m x y, ty, pos, af, gd⟩ ops i l k ds fr h = EvE E (justH (amapUpdate S t (rho S fr.get m) (rho S fr.get x) (rho S fr.get y) h)) d ops l k ds fr := by
  rw [← justH_eq]; rfl
theorem evd_range (t : Nat) (x : Operand) : EvD S fn R E ⟨d, .range t x, ty, pos, af, gd⟩ ops i l k ds fr h = EvE E (arange S t (rho S fr.get x) h) d ops l k ds fr := rfl
theorem evd_append (x y : Operand) (ts : Array Nat) : EvD S fn R E ⟨d, .call ⟨.builtin .append, ⟨[x, y]⟩, ts⟩, ty, pos, af, gd⟩ ops i l k ds fr h = EvE E (aappend S ts (rho S fr.get x) (rho S fr.get y) h) d ops l k ds fr := rfl
theorem evd_delete (x y : Operand) (ts : List Nat) : EvD S fn R E ⟨d, .call ⟨.builtin .delete, ⟨[x, y]⟩, ⟨ts⟩⟩, ty, pos, af, gd⟩ ops i l k ds fr h = EvE E (justT (adelete S ts[0]? (rho S fr.get x) (rho S fr.get y) h)) d ops l k ds fr := by
  rw [← justT_eq, ← List.getElem?_toArray]; rfl
theorem evd_call (f : Operand) (args : Array Operand) (ts : Array Nat) : EvD S fn R E ⟨d, .call ⟨.value f, args, ts⟩, ty, pos, af, gd⟩ ops i l k ds fr h = Stop S fn R (.inRegion ops (i :: l) :: k) ds fr h := rfl
theorem evd_defer (c : Call) : EvD S fn R E ⟨d, .defer c, ty, pos, af, gd⟩ ops i l k ds fr h = Stop S fn R (.inRegion ops (i :: l) :: k) ds fr h := rfl
theorem evd_panic (x : Operand) : EvD S fn R E ⟨d, .panic x, ty, pos, af, gd⟩ ops i l k ds fr h = Stop S fn R (.inRegion ops (i :: l) :: k) ds fr h := rfl
theorem evd_next (x : Operand) (b : Bool) : EvD S fn R E ⟨d, .next x b, ty, pos, af, gd⟩ ops i l k ds fr h = Stop S fn R (.inRegion ops (i :: l) :: k) ds fr h := rfl
end
theorem rho_tmp (S : Seat) (fr : Nat → AV) (t : Nat) : rho S fr (.tmp t) = fr t := rfl
theorem rho_const (S : Seat) (fr : Nat → AV) (v : Value) : rho S fr (.const v) = ofValue v := rfl
theorem rho_func (S : Seat) (fr : Nat → AV) (f : Nat) : rho S fr (.func f) = .func f [] := rfl
theorem ofV_int (k : IntKind) (n : Int) : ofValue (.int k n) = .int k n := rfl
theorem ofV_bool (b : Bool) : ofValue (.bool b) = .bool b := rfl
theorem ofV_str (s : ByteArray) : ofValue (.string s) = .str s := rfl
theorem ofV_nilptr : ofValue (.pointer none) = .nilptr := rfl
theorem ofV_nilslice : ofValue (.slice none 0 0) = .slice 0 [] .fixed := rfl
theorem ofV_nilmap : ofValue (.map none) = .nilmap := rfl
theorem ofV_nilfunc : ofValue .nilFunc = .nilfunc := rfl
theorem ofV_niliface : ofValue .nilIface = .niliface := rfl
theorem get_cons (i j : Nat) (v : AV) (fr : Fr) : Fr.get ((i, v) :: fr) j = if i = j then v else Fr.get fr j := rfl
theorem put_some (fr : Fr) (d : Nat) (v : AV) : Fr.put fr (some d) v = (d, v) :: fr := rfl
theorem put_none (fr : Fr) (v : AV) : Fr.put fr none v = fr := rfl
theorem dstOk_some (n d : Nat) : (dstOk n (some d) = true) = (d < n) := by simp [dstOk]
theorem dstOk_none (n : Nat) : (dstOk n none = true) = True := by simp [dstOk]
theorem exitTo_same (id : Nat) (k : List Item) : exitTo id (.inBlock id :: k) = some k := by simp [exitTo]
theorem exitTo_block (id j : Nat) (k : List Item) : exitTo id (.inBlock j :: k) = if j = id then some k else exitTo id k := by
  simp only [exitTo, beq_iff_eq]
theorem exitTo_loop (id : Nat) (c : Code) (k : List Item) : exitTo id (.inLoop c :: k) = exitTo id k := rfl
theorem exitTo_code (id : Nat) (c : Code) (k : List Item) : exitTo id (.code c :: k) = exitTo id k := rfl
theorem exitTo_region (id : Nat) (ops : Array Oper) (l : List Nat) (k : List Item) : exitTo id (.inRegion ops l :: k) = exitTo id k := rfl

theorem Leave.of {S : Seat} {fn : Func} {fr : Fr} {h : AHeap} {R : Post} (e : match aresults S fn fr h fn.results.toList with | some vs => R (.ret (oneOf vs)) h | none => False) : Leave S fn .returning [] fr h R := by
  cases hr : aresults S fn fr h fn.results.toList with
  | none => rw [hr] at e; exact e.elim
  | some vs => rw [hr] at e; exact Leave.ret hr e

/-- A heap that has only been added to. -/
structure Ext (h h' : AHeap) : Prop where
  next : h.next ≤ h'.next
  ntok : h.ntok ≤ h'.ntok
  get : ∀ id, id < h.next → h'.get id = h.get id
  tok : ∀ t, t < h.ntok → h'.tok t = h.tok t
theorem Ext.refl (h : AHeap) : Ext h h := ⟨Nat.le_refl _, Nat.le_refl _, fun _ _ => rfl, fun _ _ => rfl⟩
theorem Ext.trans {a b c : AHeap} (x : Ext a b) (y : Ext b c) : Ext a c :=
  ⟨Nat.le_trans x.next y.next, Nat.le_trans x.ntok y.ntok, fun id h => (y.get id (Nat.lt_of_lt_of_le h x.next)).trans (x.get id h), fun t h => (y.tok t (Nat.lt_of_lt_of_le h x.ntok)).trans (x.tok t h)⟩
theorem Ext.alloc {a b : AHeap} (x : Ext a b) (o : AObj) : Ext a (b.alloc o) :=
  ⟨by rw [next_alloc]; exact Nat.le_succ_of_le x.next, x.ntok, fun id h => by rw [get_alloc, if_neg (by have := x.next; omega)]; exact x.get id h, x.tok⟩
theorem Ext.newTok {a b : AHeap} (x : Ext a b) (n : Nat) : Ext a (b.newTok n) :=
  ⟨x.next, by rw [ntok_newTok]; exact Nat.le_succ_of_le x.ntok, x.get, fun t h => by rw [tok_newTok, if_neg (by have := x.ntok; omega)]; exact x.tok t h⟩
theorem Ext.set {a b : AHeap} (x : Ext a b) {id : Nat} (hid : a.next ≤ id) (o : AObj) : Ext a (b.set id o) :=
  ⟨by rw [next_set]; exact x.next, x.ntok, fun i h => by rw [get_set, if_neg (by omega)]; exact x.get i h, x.tok⟩
theorem Ext.setTok {a b : AHeap} (x : Ext a b) {t : Nat} (ht : a.ntok ≤ t) (n : Nat) : Ext a (b.setTok t n) :=
  ⟨x.next, by rw [ntok_setTok]; exact x.ntok, x.get, fun i h => by rw [tok_setTok, if_neg (by omega)]; exact x.tok i h⟩
theorem Ext.trim {h h' : AHeap} (x : Ext h h') : Trim h h' h :=
  ⟨Nat.le_refl _, Nat.le_refl _, x.ntok, fun t ht => (x.tok t ht).symm, fun id o ho => ⟨by rw [x.get id (get_lt h id ho)]; exact ho, .inl ho⟩⟩
/-- The end of a call that leaves the heap as it was. -/
theorem Dropped.same {h h' : AHeap} {R : Post} {r : AEnd} (x : Ext h h') (hok : r.val.ok h.next h.ntok = true) (hR : R r h) : Dropped h R r h' := ⟨h, x.trim, hok, hR⟩

/-! Loops -/
theorem fr_sub {f g : Fr} (h : ∀ p ∈ f, g.get p.1 = p.2) : ∀ s, f.get s = g.get s ∨ f.get s = .top := by
  induction f with
  | nil => intro s; exact .inr rfl
  | cons p f ih =>
    intro s
    obtain ⟨i, v⟩ := p
    rw [get_cons]
    by_cases e : i = s
    · rw [if_pos e]
      left
      have := h (i, v) (.head _)
      rw [← e]
      exact this.symm
    · rw [if_neg e]
      exact ih (fun p hp => h p (.tail _ hp)) s
/-- A loop: 'fr s' what the slots hold at its head, 'hp s' what the heap is like, 'μ' what goes down. -/
theorem Stop.loop {S : Seat} {fn : Func} {R : Post} {c : Code} {k : List Item} {ds : List ADef} {f0 : Fr} {h0 : AHeap} {σ : Type} (μ : σ → Nat) (fr : σ → Fr) (hp : σ → AHeap → Prop) (s0 : σ) (hh : hp s0 h0) (hf : ∀ p ∈ fr s0, f0.get p.1 = p.2)
    (round : ∀ s h, hp s h → (∀ s' h' f, μ s' < μ s → hp s' h' → (∀ p ∈ fr s', f.get p.1 = p.2) → Stop S fn R (.inLoop c :: k) ds f h') → Run S fn (.code c :: .inLoop c :: k) ds (fr s) h R) : Stop S fn R (.code (.loop c) :: k) ds f0 h0 := by
  have key : ∀ n s h, μ s = n → hp s h → Run S fn (.code c :: .inLoop c :: k) ds (fr s) h R := by
    intro n
    induction n using Nat.strongRecOn with
    | _ n ih =>
      intro s h hn hs
      exact round s h hs fun s' h' f hlt hp' hf' => Run.inLoop (Run.sub (fr_sub hf') (ih (μ s') (hn ▸ hlt) s' h' rfl hp'))
  exact Run.loop (Run.sub (fr_sub hf) (key _ s0 h0 rfl hh))
/-- A call. -/
theorem Stop.call {S : Seat} {fn : Func} {R : Post} {k : List Item} {ds : List ADef} {fr : Fr} {h : AHeap} {ops : List Oper} {i : Nat} {l : List Nat} {d : Option Nat} {f : Operand} {args : List Operand} {ts : Array TypeId} {ty : Nat} {pos : String} {af : Array Edge}
    (fid : FuncId) (caps : List AV) (Rc : Post) (ho : ops[i]? = some ⟨d, .call ⟨.value f, ⟨args⟩, ts⟩, ty, pos, af, none⟩) (hd : dstOk fn.ntmps d = true) (hfn : rho S fr.get f = .func fid caps) (he : Enters S fid)
    (hc : AC S fid (args.map (rho S fr.get) ++ caps) h Rc) (hr : ∀ v h', Rc (.ret v) h' → Run S fn (.inRegion ⟨ops⟩ l :: k) ds (fr.put d v) h' R) (hp : ∀ v h', Rc (.pan v) h' → Leave S fn (.panicking v) ds fr h' R) :
    Stop S fn R (.inRegion ⟨ops⟩ (i :: l) :: k) ds fr h :=
  Run.opCall (by rw [List.getElem?_toArray]; exact ho) (by unfold awanted; rfl) hd rfl hfn he (by simpa using hc) hr hp
/-- A call that comes back with one value and leaves the heap as it was. -/
def Pure1 (v : AV) (h : AHeap) : Post := fun r h' => r = .ret v ∧ h' = h
theorem Stop.pure {S : Seat} {fn : Func} {R : Post} {k : List Item} {ds : List ADef} {fr : Fr} {h : AHeap} {ops : List Oper} {i : Nat} {l : List Nat} {d : Option Nat} {f : Operand} {args : List Operand} {ts : Array TypeId} {ty : Nat} {pos : String} {af : Array Edge}
    {fid : FuncId} {caps : List AV} {v : AV} (hc : AC S fid (args.map (rho S fr.get) ++ caps) h (Pure1 v h)) (ho : ops[i]? = some ⟨d, .call ⟨.value f, ⟨args⟩, ts⟩, ty, pos, af, none⟩) (hd : dstOk fn.ntmps d = true) (hfn : rho S fr.get f = .func fid caps) (he : Enters S fid)
    (hr : Run S fn (.inRegion ⟨ops⟩ l :: k) ds (fr.put d v) h R) : Stop S fn R (.inRegion ⟨ops⟩ (i :: l) :: k) ds fr h :=
  Stop.call fid caps _ ho hd hfn he hc (fun v' h' ⟨h1, h2⟩ => by cases h1; subst h2; exact hr) (fun v' h' ⟨h1, _⟩ => by cases h1)
/-- The end of a function without deferred calls that leaves the heap as it was. -/
theorem Leave.pure {S : Seat} {fn : Func} {fr : Fr} {h h0 : AHeap} {v : AV} {t : Nat} (hres : fn.results = #[.tmp t]) (hv : (fr.get t).fgt = v) (hx : Ext h0 h) (hok : v.ok h0.next h0.ntok = true) :
    Leave S fn .returning [] fr h (fun r h' => Dropped h0 (Pure1 v h0) r.fgt h') := by
  refine Leave.ret (vs := [fr.get t]) ?_ ?_
  · rw [hres]; rfl
  · show Dropped h0 (Pure1 v h0) (.ret (fr.get t).fgt) h
    rw [hv]
    exact Dropped.same hx hok ⟨rfl, rfl⟩
/-- A function that leaves the heap as it was. -/
theorem AC.pure {S : Seat} {f : FuncId} {fn : Func} {c : Code} {args : List AV} {h : AHeap} {v : AV} (hf : S.P.funcs[f]? = some fn) (hb : fn.body = some c) {n : Nat} (hnt : fn.ntmps = n) (hn : args.length ≤ n)
    (hr : Run S fn [.code c] [] (argFr 0 args) h (fun r h' => Dropped h (Pure1 v h) r.fgt h')) : AC S f args h (Pure1 v h) :=
  (AC.enter hf hb (by rw [hnt]; exact hn) hr).forget.drop
end Go.Proofs.YtajknofacjiddaaDoor.Abs
