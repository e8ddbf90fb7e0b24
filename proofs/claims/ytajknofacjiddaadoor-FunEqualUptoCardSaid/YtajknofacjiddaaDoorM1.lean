/- Part 1 of the reckoning: the abstract machine, its soundness, and the contracts of the functions that the law reaches. -/
import Derived.Below
import Derived.Orders
import Derived.KernelRfl
import Derived.Laws.Cells
import Derived.Laws.Rows
import Derived.Laws.AppendOwn
import Derived.Laws.Entries
import Derived.Laws.Slices
import Derived.Laws.Strings
import Derived.Laws.Small
import Derived.Laws.Pointers
import Derived.ChangeKeysEq
import Derived.MapKept
import Derived.Laws.Unary
import Derived.Laws.Tables
import Derived.Great.BuildSlice
import Derived.Laws.CopyRow
import Derived.Laws.Append
import Derived.Defers
import Derived.Maps.RangeRun
/- An abstract machine: values by content, objects by number; how a world of the model bears them. -/
namespace Go.Proofs.YtajknofacjiddaaDoor.Abs
open Go Go.RowKit
set_option linter.unusedVariables false
set_option linter.unusedSimpArgs false

/-- May a slice be appended to? 'tip t': it is the newest of the row t; 'fixed': it has no room; 'unk': unknown. -/
inductive Tok where
  | tip (t : Nat)
  | fixed
  | unk
  deriving DecidableEq

inductive AV where
  | top
  | bool (b : Bool)
  | int (k : IntKind) (n : Int)
  | str (s : ByteArray)
  | ptr (id off : Nat)
  | nilptr
  | cptr (cs : List AV)
  | slice (sz : Nat) (els : List (List AV)) (tok : Tok)
  | row (id off len cap sz : Nat)
  | map (id : Nat)
  | nilmap
  | func (f : FuncId) (caps : List AV)
  | nilfunc
  | iface (t : TypeId) (v : AV)
  | niliface
  | agg (cs : List AV)
  | tup (cs : List AV)

structure AEnt where
  born : Nat
  key : AV
  val : AV

inductive AObj where
  | cells (cs : List AV)
  | map (clk : Nat) (es : List AEnt)
  | iter (m : Option Nat) (since : Nat) (seen : List Nat) (last : Nat)

structure AHeap where
  objs : List (Option AObj)
  toks : List Nat

/-- Which block an object is; which cells never change, and what they hold; where the slices of a row lie. -/
structure Ghost where
  G : Nat → Option Nat
  I : Nat → Nat → Option Value
  T : Nat → Nat → Option (Option Addr × Nat × Nat)

structure Ghost.le (g g' : Ghost) : Prop where
  G : ∀ i b, g.G i = some b → g'.G i = some b
  I : ∀ b o x, g.I b o = some x → g'.I b o = some x
  T : ∀ t n d, g.T t n = some d → g'.T t n = some d
theorem Ghost.le.refl (g : Ghost) : g.le g := ⟨fun _ _ h => h, fun _ _ _ h => h, fun _ _ _ h => h⟩
theorem Ghost.le.trans {a b c : Ghost} (h : a.le b) (k : b.le c) : a.le c := ⟨fun i x e => k.G _ _ (h.G _ _ e), fun i x y e => k.I _ _ _ (h.I _ _ _ e), fun i x y e => k.T _ _ _ (h.T _ _ _ e)⟩

def TokRep (g : Ghost) (sz n : Nat) (a : Option Addr) (cap : Nat) : Tok → Prop
  | .unk => True
  | .fixed => cap = n
  | .tip t => g.T t n = some (a, cap, sz)

inductive Rep (g : Ghost) : AV → Value → Prop
  | top (x : Value) : Rep g .top x
  | bool (b : Bool) : Rep g (.bool b) (.bool b)
  | int (k : IntKind) (n : Int) : Rep g (.int k n) (.int k n)
  | str (s : ByteArray) : Rep g (.str s) (.string s)
  | ptr {id off b : Nat} (h : g.G id = some b) : Rep g (.ptr id off) (.pointer (some ⟨b, off, none⟩))
  | nilptr : Rep g .nilptr (.pointer none)
  | cptr {cs : List AV} {b o : Nat} (f : Nat → Value) (hI : ∀ i, i < cs.length → g.I b (o + i) = some (f i)) (hR : ∀ i v, cs[i]? = some v → Rep g v (f i)) :
      Rep g (.cptr cs) (.pointer (some ⟨b, o, none⟩))
  | sliceNil {sz : Nat} {tok : Tok} {a : Option Addr} {cap : Nat} (h : TokRep g sz 0 a cap tok) (hn : a = none → cap = 0) : Rep g (.slice sz [] tok) (.slice a 0 cap)
  | slice {sz : Nat} {els : List (List AV)} {tok : Tok} {b o cap : Nat} (f : Nat → Value) (hI : ∀ i, i < els.length * sz → g.I b (o + i) = some (f i))
      (hsz : ∀ (i : Nat) (e : List AV), els[i]? = some e → e.length ≤ sz) (hR : ∀ (i j : Nat) (e : List AV) (v : AV), els[i]? = some e → e[j]? = some v → Rep g v (f (i * sz + j))) (hc : els.length ≤ cap)
      (ht : TokRep g sz els.length (some ⟨b, o, none⟩) cap tok) : Rep g (.slice sz els tok) (.slice (some ⟨b, o, none⟩) els.length cap)
  | row {id off len cap sz b : Nat} (h : g.G id = some b) : Rep g (.row id off len cap sz) (.slice (some ⟨b, off, none⟩) len cap)
  | map {id b : Nat} (h : g.G id = some b) : Rep g (.map id) (.map (some b))
  | nilmap : Rep g .nilmap (.map none)
  | func {f : FuncId} {caps : List AV} {xs : Array Value} (hs : xs.size = caps.length) (hR : ∀ i v, caps[i]? = some v → Rep g v (xs.getD i undef)) :
      Rep g (.func f caps) (.func (.func f) #[] xs)
  | nilfunc : Rep g .nilfunc .nilFunc
  | iface {t : TypeId} {v : AV} {x : Value} (h : Rep g v x) : Rep g (.iface t v) (.iface t x)
  | niliface : Rep g .niliface .nilIface
  | agg {cs : List AV} {xs : Array Value} (hs : xs.size = cs.length) (hR : ∀ i v, cs[i]? = some v → Rep g v (xs.getD i undef)) : Rep g (.agg cs) (.agg xs)
  | tup {cs : List AV} {xs : Array Value} (hs : xs.size = cs.length) (hR : ∀ i v, cs[i]? = some v → Rep g v (xs.getD i undef)) : Rep g (.tup cs) (.tuple xs)

theorem TokRep.mono {g g' : Ghost} (l : g.le g') {sz n cap : Nat} {a : Option Addr} : ∀ {tok : Tok}, TokRep g sz n a cap tok → TokRep g' sz n a cap tok
  | .unk, _ => trivial
  | .fixed, h => h
  | .tip _, h => l.T _ _ _ h

theorem Rep.mono {g g' : Ghost} (l : g.le g') {v : AV} {x : Value} (h : Rep g v x) : Rep g' v x := by
  induction h with
  | top x => exact .top x
  | bool b => exact .bool b
  | int k n => exact .int k n
  | str s => exact .str s
  | ptr h => exact .ptr (l.G _ _ h)
  | nilptr => exact .nilptr
  | cptr f hI _ ih => exact .cptr f (fun i hi => l.I _ _ _ (hI i hi)) ih
  | sliceNil h hn => exact .sliceNil (h.mono l) hn
  | slice f hI hsz _ hc ht ih => exact .slice f (fun i hi => l.I _ _ _ (hI i hi)) hsz ih hc (ht.mono l)
  | row h => exact .row (l.G _ _ h)
  | map h => exact .map (l.G _ _ h)
  | nilmap => exact .nilmap
  | func hs _ ih => exact .func hs ih
  | nilfunc => exact .nilfunc
  | iface _ ih => exact .iface ih
  | niliface => exact .niliface
  | agg hs _ ih => exact .agg hs ih
  | tup hs _ ih => exact .tup hs ih

/-- A list of values, an array. -/
def RepL (g : Ghost) (vs : List AV) (xs : Array Value) : Prop := xs.size = vs.length ∧ ∀ i v, vs[i]? = some v → Rep g v (xs.getD i undef)
theorem RepL.mono {g g' : Ghost} (l : g.le g') {vs : List AV} {xs : Array Value} (h : RepL g vs xs) : RepL g' vs xs := ⟨h.1, fun i v e => (h.2 i v e).mono l⟩
theorem RepL.get {g : Ghost} {vs : List AV} {xs : Array Value} (h : RepL g vs xs) {i : Nat} {v : AV} (e : vs[i]? = some v) : ∃ x, xs[i]? = some x ∧ Rep g v x := by
  have hi : i < xs.size := by rw [h.1]; exact (List.getElem?_eq_some_iff.1 e).1
  refine ⟨xs[i], by simp [hi], ?_⟩
  have := h.2 i v e
  simpa [Array.getD, hi] using this
theorem RepL.of {g : Ghost} {vs : List AV} {xs : List Value} (hl : xs.length = vs.length) (h : ∀ (i : Nat) (v : AV) (x : Value), vs[i]? = some v → xs[i]? = some x → Rep g v x) : RepL g vs xs.toArray := by
  refine ⟨by simpa using hl, fun i v e => ?_⟩
  have hi : i < xs.length := by rw [hl]; exact (List.getElem?_eq_some_iff.1 e).1
  have := h i v xs[i] e (by simp [hi])
  simpa [Array.getD, hi] using this

def AHeap.get (h : AHeap) (id : Nat) : Option AObj := (h.objs[id]?).join
def AHeap.next (h : AHeap) : Nat := h.objs.length
def AHeap.alloc (h : AHeap) (o : AObj) : AHeap := { h with objs := h.objs ++ [some o] }
def AHeap.set (h : AHeap) (id : Nat) (o : AObj) : AHeap := { h with objs := h.objs.set id (some o) }
def AHeap.tok (h : AHeap) (t : Nat) : Nat := (h.toks[t]?).getD 0
def AHeap.ntok (h : AHeap) : Nat := h.toks.length
def AHeap.newTok (h : AHeap) (n : Nat) : AHeap := { h with toks := h.toks ++ [n] }
def AHeap.setTok (h : AHeap) (t n : Nat) : AHeap := { h with toks := h.toks.set t n }

def ObjRep (g : Ghost) (w : World) (b : Nat) : AObj → Prop
  | .cells cs => ∃ vs e, w.heap[b]? = some (.cells vs e (0, 0)) ∧ RepL g cs vs
  | .map clk es => ∃ ms : Array MapEntry, w.heap[b]? = some (.map ms clk) ∧ ms.size = es.length ∧ ∀ (i : Nat) (e : AEnt), es[i]? = some e → ∃ m : MapEntry, ms[i]? = some m ∧ m.born = e.born ∧ Rep g e.key m.key ∧ Rep g e.val m.val
  | .iter m since seen last => ∃ mb, (match m with | none => mb = none | some id => ∃ k, g.G id = some k ∧ mb = some k) ∧ w.heap[b]? = some (.mapIter mb since seen.toArray last)

theorem ObjRep.mono {g g' : Ghost} (l : g.le g') {w w' : World} {b : Nat} (hw : w'.heap[b]? = w.heap[b]?) : ∀ {o : AObj}, ObjRep g w b o → ObjRep g' w' b o
  | .cells _, ⟨vs, e, h1, h2⟩ => ⟨vs, e, hw.trans h1, h2.mono l⟩
  | .map _ _, ⟨ms, h1, h2, h3⟩ => ⟨ms, hw.trans h1, h2, fun i e he => let ⟨m, a, b, c, d⟩ := h3 i e he; ⟨m, a, b, c.mono l, d.mono l⟩⟩
  | .iter m _ _ _, ⟨mb, h1, h2⟩ => ⟨mb, by cases m with | none => exact h1 | some id => exact (let ⟨k, a, b⟩ := h1; ⟨k, l.G _ _ a, b⟩), hw.trans h2⟩

structure Seat where
  P : Program
  gl : Nat → Option (List AV)
  base : World → Prop
  mixed : P.follows .mixedOrders = true

structure Spare (w0 : World) (g : Ghost) (w : World) (a : Addr) (n cap sz : Nat) : Prop where
  spot : a.spot = none
  base : w0.heap.size ≤ a.block
  noG : ∀ id, g.G id ≠ some a.block
  cells : ∃ vs e, w.heap[a.block]? = some (.cells vs e (0, 0)) ∧ a.off + cap * sz ≤ vs.size
  free : ∀ k, n * sz ≤ k → k < cap * sz → g.I a.block (a.off + k) = none

structure Inv (S : Seat) (w0 : World) (h : AHeap) (g : Ghost) (w : World) : Prop where
  below : Below w0.heap.size w0 w
  gdom : ∀ id b, g.G id = some b → id < h.next ∧ w0.heap.size ≤ b ∧ b < w.heap.size
  ginj : ∀ id id' b, g.G id = some b → g.G id' = some b → id = id'
  obj : ∀ id o, h.get id = some o → ∃ b, g.G id = some b ∧ ObjRep g w b o
  imm : ∀ b o x, g.I b o = some x → w.cell? ⟨b, o, none⟩ = some x ∧ (∀ id, g.G id ≠ some b) ∧ x.oneCell' = true
  tdom : ∀ t n d, g.T t n = some d → t < h.ntok ∧ n ≤ h.tok t
  tok : ∀ t a cap sz, g.T t (h.tok t) = some (some a, cap, sz) → h.tok t < cap → Spare w0 g w a (h.tok t) cap sz
  tdisj : ∀ t t' a cap sz a' cap' sz', g.T t (h.tok t) = some (some a, cap, sz) → h.tok t < cap → g.T t' (h.tok t') = some (some a', cap', sz') → h.tok t' < cap' → a.block = a'.block → t = t'
  glob : ∀ k cs, S.gl k = some cs → Rep g (.cptr cs) (.pointer (some ⟨k, 0, none⟩))
  base : S.base w0

theorem Inv.imm_lt {S : Seat} {w0 : World} {h : AHeap} {g : Ghost} {w : World} (i : Inv S w0 h g w) {b o : Nat} {x : Value} (e : g.I b o = some x) : b < w.heap.size :=
  World.block_lt_of_cell? w _ (i.imm b o x e).1

/-! The heap's laws -/
section
variable (h : AHeap) (o o' : AObj) (i j : Nat)
theorem get_alloc : (h.alloc o).get i = if i = h.next then some o else h.get i := by
  unfold AHeap.get AHeap.alloc AHeap.next
  by_cases e : i = h.objs.length
  · subst e; simp
  · simp only [e, if_false]
    rcases Nat.lt_or_ge i h.objs.length with k | k
    · rw [List.getElem?_append_left k]
    · rw [List.getElem?_append_right k, List.getElem?_eq_none k]
      have : i - h.objs.length ≠ 0 := by omega
      cases hq : i - h.objs.length with
      | zero => omega
      | succ n => simp
theorem next_alloc : (h.alloc o).next = h.next + 1 := by simp [AHeap.alloc, AHeap.next]
theorem next_set : (h.set i o).next = h.next := by simp [AHeap.set, AHeap.next]
theorem get_lt {o : AObj} (e : h.get i = some o) : i < h.next := by
  unfold AHeap.get at e
  unfold AHeap.next
  rcases Nat.lt_or_ge i h.objs.length with k | k
  · exact k
  · rw [List.getElem?_eq_none k] at e; simp at e
theorem get_set : (h.set i o).get j = if j = i ∧ i < h.next then some o else h.get j := by
  unfold AHeap.get AHeap.set AHeap.next
  simp only [List.getElem?_set]
  by_cases e : i = j
  · subst e
    by_cases k : i < h.objs.length
    · simp [k]
    · simp [k]
  · have : ¬ j = i := fun q => e q.symm
    simp [e, this]
theorem tok_alloc : (h.alloc o).tok i = h.tok i := rfl
theorem tok_set : (h.set j o).tok i = h.tok i := rfl
theorem ntok_alloc : (h.alloc o).ntok = h.ntok := rfl
theorem ntok_set : (h.set j o).ntok = h.ntok := rfl
theorem get_newTok (n : Nat) : (h.newTok n).get i = h.get i := rfl
theorem get_setTok (n : Nat) : (h.setTok j n).get i = h.get i := rfl
theorem next_newTok (n : Nat) : (h.newTok n).next = h.next := rfl
theorem next_setTok (n : Nat) : (h.setTok j n).next = h.next := rfl
theorem ntok_newTok (n : Nat) : (h.newTok n).ntok = h.ntok + 1 := by simp [AHeap.newTok, AHeap.ntok]
theorem ntok_setTok (n : Nat) : (h.setTok j n).ntok = h.ntok := by simp [AHeap.setTok, AHeap.ntok]
theorem tok_newTok (n : Nat) : (h.newTok n).tok i = if i = h.ntok then n else h.tok i := by
  unfold AHeap.tok AHeap.newTok AHeap.ntok
  by_cases e : i = h.toks.length
  · subst e; simp
  · simp only [e, if_false]
    rcases Nat.lt_or_ge i h.toks.length with k | k
    · rw [List.getElem?_append_left k]
    · rw [List.getElem?_append_right k, List.getElem?_eq_none k]
      cases hq : i - h.toks.length with
      | zero => omega
      | succ n => simp
theorem tok_setTok (n : Nat) : (h.setTok j n).tok i = if i = j ∧ j < h.ntok then n else h.tok i := by
  unfold AHeap.tok AHeap.setTok AHeap.ntok
  simp only [List.getElem?_set]
  by_cases e : j = i
  · subst e
    by_cases k : j < h.toks.length
    · simp [k]
    · simp [k]
  · have : ¬ i = j := fun q => e q.symm
    simp [e, this]
end
end Go.Proofs.YtajknofacjiddaaDoor.Abs

/- Operations that turn no memory: what they give on abstract values, and that the model's operation gives the same. -/
namespace Go.Proofs.YtajknofacjiddaaDoor.Abs
open Go Go.RowKit
set_option linter.unusedVariables false
set_option linter.unusedSimpArgs false

theorem addr_add (b o j : Nat) : (⟨b, o, none⟩ : Addr).add j = ⟨b, o + j, none⟩ := by
  unfold Addr.add
  split
  · simp [*]
  · rfl
theorem addr_add' (a : Addr) (h : a.spot = none) (j : Nat) : a.add j = ⟨a.block, a.off + j, none⟩ := by
  obtain ⟨b, o, s⟩ := a
  cases h
  exact addr_add b o j
theorem str_toList (s : ByteArray) : s.toList = s.data.toList := by rw [ByteArray.toList_eq]
theorem str_beq (a b : ByteArray) : (a.toList == b.toList) = decide (a = b) := by
  rw [Bool.eq_iff_iff]
  simp only [beq_iff_eq, decide_eq_true_eq, str_toList]
  constructor
  · intro h
    cases a; cases b
    simp only [ByteArray.mk.injEq]
    exact Array.ext' h
  · intro h; rw [h]

/-! Constants -/
def ofScalar : Value → AV
  | .bool b => .bool b
  | .int k n => .int k n
  | .string s => .str s
  | .pointer none => .nilptr
  | .slice none 0 0 => .slice 0 [] .fixed
  | .map none => .nilmap
  | .nilFunc => .nilfunc
  | .nilIface => .niliface
  | .func (.func f) ⟨[]⟩ ⟨[]⟩ => .func f []
  | _ => .top
def ofValue : Value → AV
  | .agg cs => .agg (cs.toList.map ofScalar)
  | .tuple ⟨[]⟩ => .tup []
  | .iface t v => .iface t (ofScalar v)
  | v => ofScalar v
theorem ofScalar_rep (g : Ghost) (v : Value) : Rep g (ofScalar v) v := by
  unfold ofScalar
  split
  · exact .bool _
  · exact .int _ _
  · exact .str _
  · exact .nilptr
  · exact .sliceNil rfl (fun _ => rfl)
  · exact .nilmap
  · exact .nilfunc
  · exact .niliface
  · exact .func (by simp) (by simp)
  · exact .top _
theorem ofValue_rep (g : Ghost) (v : Value) : Rep g (ofValue v) v := by
  unfold ofValue
  split
  · rename_i cs
    refine .agg (by simp) (fun i v e => ?_)
    rw [List.getElem?_map] at e
    cases hq : cs.toList[i]? with
    | none => simp [hq] at e
    | some x =>
      rw [hq] at e
      cases e
      have : cs.getD i undef = x := by
        have hi : i < cs.size := by have := (List.getElem?_eq_some_iff.1 hq).1; simpa using this
        have := (List.getElem?_eq_some_iff.1 hq).2
        simp at this
        simp [Array.getD, hi, this]
      rw [this]
      exact ofScalar_rep g x
  · exact .tup (by simp) (by simp)
  · exact .iface (ofScalar_rep g _)
  · exact ofScalar_rep g _

/-- What an operand is, over what the slots hold. -/
def rho (S : Seat) (fr : Nat → AV) : Operand → AV
  | .tmp t => fr t
  | .const v => ofValue v
  | .global k => match S.gl k with | some cs => .cptr cs | none => .top
  | .func f => .func f []
theorem rho_rep {S : Seat} {w0 : World} {h : AHeap} {g : Ghost} {w : World} (i : Inv S w0 h g w) {fr : Nat → AV} {a : Act} (hf : ∀ s, Rep g (fr s) (a.tmps.getD s undef)) (x : Operand) : Rep g (rho S fr x) (a.eval x) := by
  cases x with
  | tmp t => exact hf t
  | const v => exact ofValue_rep g v
  | global k =>
    simp only [rho, Act.eval]
    cases hk : S.gl k with
    | none => exact .top _
    | some cs => exact i.glob k cs hk
  | func f => exact .func (by simp) (by simp)

/-! Numbers, strings, bools -/
def aint (op : BinOp) (k : IntKind) (a b : Int) : Option AV :=
  match op with
  | .add => some (.int k (k.wrap (a + b)))
  | .sub => some (.int k (k.wrap (a - b)))
  | .mul => some (.int k (k.wrap (a * b)))
  | .quo => if b = 0 then none else some (.int k (k.wrap (a.tdiv b)))
  | .rem => if b = 0 then none else some (.int k (a.tmod b))
  | .and => some (.int k (k.wrap (BitVec.ofInt k.bits a &&& BitVec.ofInt k.bits b).toNat))
  | .or => some (.int k (k.wrap (BitVec.ofInt k.bits a ||| BitVec.ofInt k.bits b).toNat))
  | .xor => some (.int k (k.wrap (BitVec.ofInt k.bits a ^^^ BitVec.ofInt k.bits b).toNat))
  | .andNot => some (.int k (k.wrap (BitVec.ofInt k.bits a &&& ~~~BitVec.ofInt k.bits b).toNat))
  | .eql => some (.bool (decide (a = b)))
  | .neq => some (.bool (!decide (a = b)))
  | .lss => some (.bool (decide (a < b)))
  | .leq => some (.bool (decide (a ≤ b)))
  | .gtr => some (.bool (decide (b < a)))
  | .geq => some (.bool (decide (b ≤ a)))
  | .shl | .shr => none
def ashift (op : BinOp) (k : IntKind) (a b : Int) : Option AV :=
  if b < 0 then none else
  match op with
  | .shl => some (.int k (k.wrap (a * 2 ^ (min b.toNat k.bits))))
  | .shr => some (.int k (a.fdiv (2 ^ (min b.toNat k.bits))))
  | _ => none
def astr (op : BinOp) (a b : ByteArray) : Option AV :=
  match op with
  | .add => if ((a.size + b.size : Nat) : Int) > 9223372036854775807 then none else some (.str (a ++ b))
  | .eql => some (.bool (decide (a = b)))
  | .neq => some (.bool (!decide (a = b)))
  | .lss => some (.bool (Op.bytesLess a.toList b.toList))
  | .leq => some (.bool (Op.bytesLess a.toList b.toList || decide (a = b)))
  | .gtr => some (.bool (!(Op.bytesLess a.toList b.toList || decide (a = b))))
  | .geq => some (.bool (!Op.bytesLess a.toList b.toList))
  | _ => none
/-- Is a value the nil of its type? -/
def anil : AV → Option Bool
  | .nilptr | .nilmap | .nilfunc => some true
  | .ptr .. | .cptr _ | .map _ | .func .. => some false
  | _ => none
def abin (S : Seat) (op : BinOp) (t : TypeId) (x y : AV) : Option AV :=
  match x, y with
  | .int k a, .int k' b => match op with
    | .shl | .shr => ashift op k a b
    | op => if k = k' then aint op k a b else none
  | .str a, .str b => astr op a b
  | .bool a, .bool b => match S.P.underlying t, op with
    | some .bool, .eql => some (.bool (a == b))
    | some .bool, .neq => some (.bool (!(a == b)))
    | _, _ => none
  | x, .nilptr => match S.P.underlying t, op, anil x with
    | some (.pointer _), .eql, some b => match x with | .nilptr | .ptr .. | .cptr _ => some (.bool b) | _ => none
    | some (.pointer _), .neq, some b => match x with | .nilptr | .ptr .. | .cptr _ => some (.bool (!b)) | _ => none
    | _, _, _ => none
  | _, _ => none

theorem eqGuard_plain {S : Seat} (op : BinOp) (t : TypeId) (a b : Operand) (x y : Value) (w : World) (h : (match x, y with | .nilIface, .nilIface => false | .agg _, .agg _ => false | _, _ => true) = true) :
    ((eqGuard op t a b x y) : Sem Unit).run S.P w = .ok () w := by
  unfold eqGuard
  cases op <;> simp <;> (split <;> simp_all)

theorem eql_nil {P : Program} {t e : TypeId} (hu : P.underlying t = some (.pointer e)) (p : Option Addr) (w : World) : (binOp .eql t (.pointer p) (.pointer none)).run P w = .ok (.bool p.isNone) w :=
  run_eql_pointer_nil w t p (by rw [hu]; simp [Program.pointee, hu])
theorem neq_nil {P : Program} {t e : TypeId} (hu : P.underlying t = some (.pointer e)) (p : Option Addr) (w : World) : (binOp .neq t (.pointer p) (.pointer none)).run P w = .ok (.bool (!p.isNone)) w := by
  have h := run_neq_pointer_nil w t p (by rw [hu]; simp [Program.pointee, hu])
  simpa using h

theorem abin_sound {S : Seat} {g : Ghost} {op : BinOp} {t : TypeId} {x y v : AV} {x' y' : Value} (a b : Operand) (w : World) (hx : Rep g x x') (hy : Rep g y y') (e : abin S op t x y = some v) :
    ∃ z, ((do eqGuard op t a b x' y'; binOp op t x' y') : Sem Value).run S.P w = .ok z w ∧ Rep g v z := by
  unfold abin at e
  split at e
  · cases hx; cases hy
    rename_i k m k' n
    simp only [Sem.run_bind, eqGuard_plain (S := S) op t a b (.int k m) (.int k' n) w rfl, Result.andThen_ok]
    cases op <;> simp only [aint, ashift] at e <;> (try (split at e)) <;> (try (split at e)) <;> (try (cases e; done)) <;> (try cases e) <;> (try subst_vars) <;>
      simp [binOp, Op.intArith, Op.intDiv, Op.intBits, Op.intCmp, Op.shift, *] <;> (first | exact Rep.int _ _ | exact Rep.bool _ | exact (by simpa [eq_comm] using Rep.bool _))
  · cases hx; cases hy
    rename_i m n
    simp only [Sem.run_bind, eqGuard_plain (S := S) op t a b (.string m) (.string n) w rfl, Result.andThen_ok]
    cases op <;> simp only [astr] at e <;> (try (split at e)) <;> (try (cases e; done)) <;> (try cases e) <;> simp [binOp, Op.stringOp, str_beq, IntKind.max, IntKind.signed, IntKind.bits, *] <;>
      (first | exact Rep.bool _ | exact Rep.str _ | (rw [if_neg (by omega)]; exact ⟨_, rfl, Rep.str _⟩) | skip)
  · cases hx; cases hy
    rename_i m n
    simp only [Sem.run_bind, eqGuard_plain (S := S) op t a b (.bool m) (.bool n) w rfl, Result.andThen_ok]
    split at e
    · rename_i hu
      cases e
      exact ⟨_, by rw [run_eql_bool w t m n hu], Rep.bool _⟩
    · rename_i hu
      cases e
      exact ⟨_, by rw [run_neq_bool w t m n hu], Rep.bool _⟩
    · cases e
  · cases hy
    split at e
    · rename_i e' hu hn
      have hg : (eqGuard .eql t a b x' (.pointer none) : Sem Unit).run S.P w = .ok () w := eqGuard_plain (S := S) _ t a b _ _ w (by cases x' <;> rfl)
      simp only [Sem.run_bind, hg, Result.andThen_ok]
      split at e <;> cases e <;> cases hx <;> cases hn <;> (refine ⟨_, eql_nil hu _ w, Rep.bool _⟩)
    · rename_i e' hu hn
      have hg : (eqGuard .neq t a b x' (.pointer none) : Sem Unit).run S.P w = .ok () w := eqGuard_plain (S := S) _ t a b _ _ w (by cases x' <;> rfl)
      simp only [Sem.run_bind, hg, Result.andThen_ok]
      split at e <;> cases e <;> cases hx <;> cases hn <;> (refine ⟨_, neq_nil hu _ w, Rep.bool _⟩)
    · cases e
  · cases e

/-! Memory that is read -/
/-- The cells from a pointer on. -/
def acells (h : AHeap) : AV → Option (List AV)
  | .cptr cs => some cs
  | .ptr id off => match h.get id with
    | some (.cells cs) => some (cs.drop off)
    | _ => none
  | _ => none
def isAggT : Option TypeDesc → Bool
  | some (.struct _) | some (.array _ _) => true
  | _ => false
def areadT (S : Seat) (t : TypeId) (cs : List AV) : Option AV :=
  match S.P.underlying t with
  | none => none
  | d => if isAggT d then (if S.P.cellsOf t ≤ cs.length then some (.agg (cs.take (S.P.cellsOf t))) else none) else cs.head?
def aload (S : Seat) (t : TypeId) (p : AV) (h : AHeap) : Option AV := (acells h p).bind (areadT S t)

theorem acells_sound {S : Seat} {w0 : World} {h : AHeap} {g : Ghost} {w : World} (i : Inv S w0 h g w) {p : AV} {x : Value} (hp : Rep g p x) {cs : List AV} (e : acells h p = some cs) :
    ∃ b o, x = .pointer (some ⟨b, o, none⟩) ∧ ∀ j v, cs[j]? = some v → ∃ y, w.cell? ⟨b, o + j, none⟩ = some y ∧ Rep g v y := by
  cases hp <;> simp only [acells] at e <;> (try (cases e; done))
  · rename_i id off b hb
    split at e
    · rename_i cs' ho
      cases e
      obtain ⟨b', hb', vs, ty, h1, h2⟩ := i.obj _ _ ho
      cases hb.symm.trans hb'
      refine ⟨b, off, rfl, fun j v hj => ?_⟩
      rw [List.getElem?_drop] at hj
      obtain ⟨y, hy, hr⟩ := h2.get hj
      exact ⟨y, by rw [cell_of_row w b _ vs _ _ h1]; exact hy, hr⟩
    · cases e
  · rename_i cs' b o f hI hR
    cases e
    refine ⟨b, o, rfl, fun j v hj => ⟨f j, (i.imm _ _ _ (hI j (List.getElem?_eq_some_iff.1 hj).1)).1, hR j v hj⟩⟩

theorem info_of_underlying {P : Program} {t : TypeId} {d : TypeDesc} (h : P.underlying t = some d) : ∃ i, P.info? t = some i := by
  unfold Program.underlying at h
  cases hi : P.info? t with
  | none => simp [hi] at h
  | some i => exact ⟨i, rfl⟩
theorem run_sizeOf' {P : Program} {t : TypeId} {d : TypeDesc} (h : P.underlying t = some d) (w : World) : (sizeOf t).run P w = .ok (P.cellsOf t) w := by
  obtain ⟨i, hi⟩ := info_of_underlying h
  simp [sizeOf, typeInfo, hi, Program.cellsOf]
theorem run_isAgg' {P : Program} {t : TypeId} {d : TypeDesc} (h : P.underlying t = some d) (w : World) : (isAgg t).run P w = .ok (isAggT (some d)) w := by
  unfold isAgg
  simp only [Sem.run_bind, run_underlying h, Result.andThen_ok]
  cases d <;> rfl

theorem aread_sound {S : Seat} {g : Ghost} {w : World} {t : TypeId} {b o : Nat} {cs : List AV} {v : AV} (hc : ∀ j v, cs[j]? = some v → ∃ y, w.cell? ⟨b, o + j, none⟩ = some y ∧ Rep g v y) (e : areadT S t cs = some v) :
    ∃ y, (loadVar t ⟨b, o, none⟩).run S.P w = .ok y w ∧ Rep g v y := by
  unfold areadT at e
  cases hu : S.P.underlying t with
  | none => rw [hu] at e; cases e
  | some d =>
    rw [hu] at e
    unfold loadVar
    simp only [Sem.run_bind, run_isAgg' hu, Result.andThen_ok]
    cases hd : isAggT (some d) with
    | false =>
      simp only [hd, Bool.false_eq_true, if_false] at e ⊢
      cases cs with
      | nil => cases e
      | cons v' cs =>
        cases e
        obtain ⟨y, hy, hr⟩ := hc 0 v rfl
        exact ⟨y, by simp only [run_load]; rw [show w.cell? ⟨b, o, none⟩ = some y from hy], hr⟩
    | true =>
      simp only [hd, if_true] at e ⊢
      split at e
      case isFalse => cases e
      rename_i hl
      cases e
      have hf : ∀ j, j < S.P.cellsOf t → w.cell? ((⟨b, o, none⟩ : Addr).add j) = some ((w.cell? ⟨b, o + j, none⟩).getD undef) := by
        intro j hj
        obtain ⟨y, hy, _⟩ := hc j _ (List.getElem?_eq_getElem (by omega : j < cs.length))
        rw [addr_add, hy]; rfl
      simp only [Sem.run_bind, run_sizeOf' hu, Result.andThen_ok, run_loadCells w _ _ _ hf, Sem.run_pure]
      refine ⟨_, rfl, .agg (by simp; omega) (fun i v hv => ?_)⟩
      rw [List.getElem?_take] at hv
      split at hv
      case isFalse => cases hv
      rename_i hi
      obtain ⟨y, hy, hr⟩ := hc i v hv
      have : ((List.range (S.P.cellsOf t)).map fun j => (w.cell? ⟨b, o + j, none⟩).getD undef).toArray.getD i undef = y := by
        simp [Array.getD, hi, hy]
      rw [this]
      exact hr

theorem aload_sound {S : Seat} {w0 : World} {h : AHeap} {g : Ghost} {w : World} (i : Inv S w0 h g w) {t : TypeId} {p v : AV} {x : Value} (hp : Rep g p x) (e : aload S t p h = some v) :
    ∃ y, (Instr.loadAt t x).run S.P w = .ok y w ∧ Rep g v y := by
  unfold aload at e
  obtain ⟨cs, hcs, hv⟩ := Option.bind_eq_some_iff.1 e
  obtain ⟨b, o, rfl, hc⟩ := acells_sound i hp hcs
  obtain ⟨y, hy, hr⟩ := aread_sound hc hv
  refine ⟨y, ?_, hr⟩
  unfold Instr.loadAt
  simp only [Sem.run_bind, Instr.sureAddr, Sem.run_pure, Result.andThen_ok]
  exact hy

/-! Addresses of parts -/
def afieldAddr (S : Seat) (s : TypeId) (p : AV) (f : Nat) : Option AV :=
  match S.P.underlying s with
  | some (.struct fields) => match fields[f]? with
    | some fd => if S.P.cellsOf fd.type = 0 ∨ S.P.underlying fd.type = none then none else match p with
      | .ptr id off => some (.ptr id (off + fd.offset))
      | .cptr cs => some (.cptr (cs.drop fd.offset))
      | _ => none
    | none => none
  | _ => none
theorem rep_cptr_drop {g : Ghost} {cs : List AV} {b o n : Nat} (h : Rep g (.cptr cs) (.pointer (some ⟨b, o, none⟩))) : Rep g (.cptr (cs.drop n)) (.pointer (some ⟨b, o + n, none⟩)) := by
  cases h with
  | cptr f hI hR =>
    refine .cptr (fun i => f (n + i)) (fun i hi => ?_) (fun i v hv => ?_)
    · rw [Nat.add_assoc]; exact hI (n + i) (by simp at hi; omega)
    · rw [List.getElem?_drop] at hv; exact hR _ _ hv
theorem afieldAddr_sound {S : Seat} {g : Ghost} {w : World} {s : TypeId} {p v : AV} {x : Value} {f : Nat} (hp : Rep g p x) (e : afieldAddr S s p f = some v) :
    ∃ y, (Instr.fieldAt s x f).run S.P w = .ok y w ∧ Rep g v y := by
  unfold afieldAddr at e
  split at e
  case h_2 => cases e
  rename_i fields hu
  split at e
  case h_2 => cases e
  rename_i fd hf
  split at e
  case isTrue => cases e
  rename_i hz
  obtain ⟨hz, hud⟩ := not_or.1 hz
  obtain ⟨d, hd⟩ := Option.ne_none_iff_exists'.1 hud
  have hplace : ∀ a : Addr, (fieldPlace a fd).run S.P w = .ok (a.add fd.offset) w := by
    intro a
    unfold fieldPlace
    simp only [Sem.run_bind, run_sizeOf' hd, Result.andThen_ok, hz, if_false, Sem.run_pure]
  split at e <;> cases e
  · cases hp
    rename_i b hb
    refine ⟨_, ?_, .ptr (id := _) (off := _) hb⟩
    unfold Instr.fieldAt
    simp only [Sem.run_bind, run_underlying hu, Result.andThen_ok, hf, Instr.sureAddr, Sem.run_pure, hplace, addr_add]
  · cases hp
    rename_i b o ff hI hR
    refine ⟨_, ?_, rep_cptr_drop (.cptr ff hI hR)⟩
    unfold Instr.fieldAt
    simp only [Sem.run_bind, run_underlying hu, Result.andThen_ok, hf, Instr.sureAddr, Sem.run_pure, hplace, addr_add]

/-- The part of a row of cells that is a value of type t. -/
def apart (S : Seat) (t : TypeId) (cs : List AV) (off : Nat) : Option AV :=
  match S.P.underlying t with
  | none => none
  | d => if isAggT d then (if off + S.P.cellsOf t ≤ cs.length then some (.agg ((cs.drop off).take (S.P.cellsOf t))) else none) else cs[off]?
theorem apart_sound {S : Seat} {g : Ghost} {w : World} {t : TypeId} {cs : List AV} {xs : Array Value} {off : Nat} {v : AV} (hs : RepL g cs xs) (e : apart S t cs off = some v) :
    ∃ y, (part t xs off).run S.P w = .ok y w ∧ Rep g v y := by
  unfold apart at e
  cases hu : S.P.underlying t with
  | none => rw [hu] at e; cases e
  | some d =>
    rw [hu] at e
    unfold part
    simp only [Sem.run_bind, run_isAgg' hu, Result.andThen_ok]
    cases hd : isAggT (some d) with
    | false =>
      simp only [hd, Bool.false_eq_true, if_false] at e ⊢
      obtain ⟨y, hy, hr⟩ := hs.get e
      exact ⟨y, by rw [hy]; rfl, hr⟩
    | true =>
      simp only [hd, if_true] at e ⊢
      split at e
      case isFalse => cases e
      rename_i hl
      cases e
      simp only [Sem.run_bind, run_sizeOf' hu, Result.andThen_ok, Sem.run_pure]
      have h1 := hs.1
      refine ⟨_, rfl, .agg (by simp; omega) (fun i v hv => ?_)⟩
      rw [List.getElem?_take] at hv
      split at hv
      case isFalse => cases hv
      rename_i hi
      rw [List.getElem?_drop] at hv
      obtain ⟨y, hy, hr⟩ := hs.get hv
      have : (xs.extract off (off + S.P.cellsOf t)).getD i undef = y := by
        have : (xs.extract off (off + S.P.cellsOf t))[i]? = some y := by
          rw [Array.getElem?_extract]
          rw [if_pos (by omega)]
          exact hy
        simp [this]
      rw [this]
      exact hr
def afield (S : Seat) (s : TypeId) (x : AV) (f : Nat) : Option AV :=
  match S.P.underlying s, x with
  | some (.struct fields), .agg cs => match fields[f]? with
    | some fd => apart S fd.type cs fd.offset
    | none => none
  | _, _ => none
theorem afield_sound {S : Seat} {g : Ghost} {w : World} {s : TypeId} {p v : AV} {x : Value} {f : Nat} (hp : Rep g p x) (e : afield S s p f = some v) :
    ∃ y, (Instr.field s x f).run S.P w = .ok y w ∧ Rep g v y := by
  unfold afield at e
  split at e
  case h_2 => cases e
  rename_i fields cs hu
  split at e
  case h_2 => cases e
  rename_i fd hf
  cases hp
  rename_i xs hs hR
  obtain ⟨y, hy, hr⟩ := apart_sound (w := w) ⟨hs, hR⟩ e
  refine ⟨y, ?_, hr⟩
  unfold Instr.field
  simp only [Sem.run_bind, run_underlying hu, Result.andThen_ok, hf, asAgg, Sem.run_pure]
  exact hy

/-- The element with a number, if there is one. -/
def aindexAddr (S : Seat) (t : TypeId) (x ix : AV) : Option AV :=
  match ix with
  | .int k i => match S.P.underlying t, x with
    | some (.slice e), .slice sz els _ => if S.P.underlying e = none ∨ sz ≠ S.P.cellsOf e then none else if 0 ≤ i ∧ i < els.length then some (.cptr (els.getD i.toNat [])) else none
    | some (.slice e), .row id off len cap sz => if S.P.underlying e = none ∨ sz ≠ S.P.cellsOf e then none else if 0 ≤ i ∧ i < len then some (.ptr id (off + i.toNat * sz)) else none
    | some (.array n e), .ptr id off => if S.P.underlying e = none then none else if 0 ≤ i ∧ i < n then some (.ptr id (off + i.toNat * S.P.cellsOf e)) else none
    | some (.array n e), .cptr cs => if S.P.underlying e = none then none else if 0 ≤ i ∧ i < n then some (.cptr (cs.drop (i.toNat * S.P.cellsOf e))) else none
    | _, _ => none
  | _ => none
theorem rep_slice_at {g : Ghost} {sz : Nat} {els : List (List AV)} {tok : Tok} {a : Option Addr} {n c : Nat} (h : Rep g (.slice sz els tok) (.slice a n c)) {i : Nat} (hi : i < els.length) :
    ∃ b o, a = some ⟨b, o, none⟩ ∧ Rep g (.cptr (els.getD i [])) (.pointer (some ⟨b, o + i * sz, none⟩)) := by
  cases h with
  | sliceNil => simp at hi
  | slice f hI hsz hR hc ht =>
    rename_i b o
    have hg : els[i]? = some (els.getD i []) := by simp [List.getD, List.getElem?_eq_getElem hi]
    have hl := hsz i _ hg
    refine ⟨b, o, rfl, .cptr (fun j => f (i * sz + j)) (fun j hj => ?_) (fun j v hv => hR i j _ v hg hv)⟩
    rw [Nat.add_assoc]
    refine hI _ ?_
    have : (i + 1) * sz ≤ els.length * sz := Nat.mul_le_mul_right sz hi
    rw [Nat.add_mul] at this
    omega
theorem aindexAddr_sound {S : Seat} {g : Ghost} {w : World} {t : TypeId} {p q v : AV} {x y : Value} (hp : Rep g p x) (hq : Rep g q y) (e : aindexAddr S t p q = some v) :
    ∃ z, (Instr.indexAt t x y).run S.P w = .ok z w ∧ Rep g v z := by
  unfold aindexAddr at e
  split at e
  case h_2 => cases e
  rename_i k i
  cases hq
  split at e
  case h_5 => cases e
  · rename_i e' sz els tok hu
    split at e
    case isTrue => cases e
    rename_i hz
    obtain ⟨hud, hz⟩ := not_or.1 hz
    obtain ⟨d, hd⟩ := Option.ne_none_iff_exists'.1 hud
    have hz : sz = S.P.cellsOf e' := Decidable.not_not.1 hz
    split at e
    case isFalse => cases e
    rename_i hi
    cases e
    have hi' : i.toNat < els.length := by omega
    obtain ⟨a, n, c, hx⟩ : ∃ a n c, x = .slice a n c := by cases hp <;> exact ⟨_, _, _, rfl⟩
    subst hx
    have hn : n = els.length := by cases hp <;> simp
    obtain ⟨b, o, rfl, hr⟩ := rep_slice_at hp hi'
    refine ⟨_, ?_, hr⟩
    unfold Instr.indexAt
    simp only [Sem.run_bind, asIntOf, Sem.run_pure, Result.andThen_ok, run_underlying hu]
    rw [Sem.run_ite, if_pos (by omega)]
    simp only [Sem.run_bind, run_sizeOf' hd, Result.andThen_ok, Sem.run_pure, addr_add, hz]
  · rename_i e' id off len cap sz hu
    split at e
    case isTrue => cases e
    rename_i hz
    obtain ⟨hud, hz⟩ := not_or.1 hz
    obtain ⟨d, hd⟩ := Option.ne_none_iff_exists'.1 hud
    have hz : sz = S.P.cellsOf e' := Decidable.not_not.1 hz
    split at e
    case isFalse => cases e
    rename_i hi
    cases e
    cases hp
    rename_i b hb
    refine ⟨_, ?_, .ptr hb⟩
    unfold Instr.indexAt
    simp only [Sem.run_bind, asIntOf, Sem.run_pure, Result.andThen_ok, run_underlying hu]
    rw [Sem.run_ite, if_pos (by omega)]
    simp only [Sem.run_bind, run_sizeOf' hd, Result.andThen_ok, Sem.run_pure, addr_add, hz]
  · rename_i n e' id off hu
    split at e
    case isTrue => cases e
    rename_i hud
    obtain ⟨d, hd⟩ := Option.ne_none_iff_exists'.1 hud
    split at e
    case isFalse => cases e
    rename_i hi
    cases e
    cases hp
    rename_i b hb
    refine ⟨_, ?_, .ptr hb⟩
    unfold Instr.indexAt
    simp only [Sem.run_bind, asIntOf, Sem.run_pure, Result.andThen_ok, run_underlying hu, Instr.sureAddr]
    rw [Sem.run_ite, if_pos (by omega)]
    simp only [Sem.run_bind, run_sizeOf' hd, Result.andThen_ok, Sem.run_pure, addr_add]
  · rename_i n e' cs hu
    split at e
    case isTrue => cases e
    rename_i hud
    obtain ⟨d, hd⟩ := Option.ne_none_iff_exists'.1 hud
    split at e
    case isFalse => cases e
    rename_i hi
    cases e
    cases hp
    rename_i b o f hI hR
    refine ⟨_, ?_, rep_cptr_drop (.cptr f hI hR)⟩
    unfold Instr.indexAt
    simp only [Sem.run_bind, asIntOf, Sem.run_pure, Result.andThen_ok, run_underlying hu, Instr.sureAddr]
    rw [Sem.run_ite, if_pos (by omega)]
    simp only [Sem.run_bind, run_sizeOf' hd, Result.andThen_ok, Sem.run_pure, addr_add]

def aindex (S : Seat) (t : TypeId) (x ix : AV) : Option AV :=
  match ix with
  | .int k i => match S.P.underlying t, x with
    | some .string, .str s => if 0 ≤ i ∧ i < s.size then some (.int .u8 ((s.data.toList.getD i.toNat 0).toNat)) else none
    | some (.array n e), .agg cs => if 0 ≤ i ∧ i < n then apart S e cs (i.toNat * S.P.cellsOf e) else none
    | _, _ => none
  | _ => none
theorem aindex_sound {S : Seat} {g : Ghost} {w : World} {t : TypeId} {p q v : AV} {x y : Value} (hp : Rep g p x) (hq : Rep g q y) (e : aindex S t p q = some v) :
    ∃ z, (Instr.index t x y).run S.P w = .ok z w ∧ Rep g v z := by
  unfold aindex at e
  split at e
  case h_2 => cases e
  rename_i k i
  cases hq
  split at e
  case h_3 => cases e
  · rename_i s hu
    split at e
    case isFalse => cases e
    rename_i hi
    cases e
    cases hp
    have hlt : i.toNat < s.size := by omega
    have hb : s[i.toNat]? = some (s.data.toList.getD i.toNat 0) := by
      rw [getElem?_pos s i.toNat hlt]
      have : i.toNat < s.data.toList.length := by simpa using hlt
      simp only [List.getD, List.getElem?_eq_getElem this, Option.getD_some, Array.getElem_toList]
      rfl
    refine ⟨_, ?_, .int _ _⟩
    unfold Instr.index
    simp only [Sem.run_bind, asIntOf, Sem.run_pure, Result.andThen_ok, run_underlying hu, hi.1, if_true, hb]
  · rename_i n e' cs hu
    split at e
    case isFalse => cases e
    rename_i hi
    cases hp
    rename_i xs hs hR
    obtain ⟨y, hy, hr⟩ := apart_sound (w := w) ⟨hs, hR⟩ e
    refine ⟨y, ?_, hr⟩
    unfold Instr.index
    have hud : ∃ d, S.P.underlying e' = some d := by
      unfold apart at e
      cases hd : S.P.underlying e' with
      | none => rw [hd] at e; cases e
      | some d => exact ⟨d, rfl⟩
    obtain ⟨d, hd⟩ := hud
    simp only [Sem.run_bind, asIntOf, Sem.run_pure, Result.andThen_ok, run_underlying hu]
    rw [Sem.run_ite, if_pos (by omega)]
    simp only [Sem.run_bind, run_sizeOf' hd, Result.andThen_ok]
    exact hy
end Go.Proofs.YtajknofacjiddaaDoor.Abs

/- More operations that turn no memory: slices, maps that are read, lengths, conversions; all of them in one function. -/
namespace Go.Proofs.YtajknofacjiddaaDoor.Abs
open Go Go.RowKit
set_option linter.unusedVariables false
set_option linter.unusedSimpArgs false

/-! Maps that are read -/
def akeyEq : AV → AV → Option Bool
  | .int k a, .int k' b => if k = k' then some (decide (a = b)) else none
  | .str a, .str b => some (decide (a = b))
  | .bool a, .bool b => some (a == b)
  | _, _ => none
def keyOk (d : Option TypeDesc) (k : AV) : Bool :=
  match d, k with
  | some (.int k'), .int k _ => decide (k' = k)
  | some .string, .str _ | some .bool, .bool _ => true
  | _, _ => false
def afind (k : AV) : List AEnt → Nat → Option (Option (Nat × AV))
  | [], _ => some none
  | e :: es, i => match akeyEq k e.key with
    | some true => some (some (i, e.val))
    | some false => afind k es (i + 1)
    | none => none
def azero (S : Seat) (t : TypeId) : Option AV := (S.P.info? t).bind fun i => i.zero.map ofValue
def okTup (ok : Bool) (v : AV) (b : Bool) : AV := if ok then .tup [v, .bool b] else v
def alookup (S : Seat) (t : TypeId) (m k : AV) (ok : Bool) (h : AHeap) : Option AV :=
  match S.P.underlying t with
  | some (.map kt et) =>
    if keyOk (S.P.underlying kt) k then
      (match m with
      | .nilmap => (azero S et).map fun z => okTup ok z false
      | .map id => match h.get id with
        | some (.map _ es) => match afind k es 0 with
          | some (some (_, v)) => some (okTup ok v true)
          | some none => (azero S et).map fun z => okTup ok z false
          | none => none
        | _ => none
      | _ => none)
    else none
  | _ => none

def MapRep (g : Ghost) (es : List AEnt) (ms : List MapEntry) : Prop := ms.length = es.length ∧ ∀ (i : Nat) (e : AEnt), es[i]? = some e → ∃ m : MapEntry, ms[i]? = some m ∧ m.born = e.born ∧ Rep g e.key m.key ∧ Rep g e.val m.val
theorem afind_sound {g : Ghost} {d : TypeDesc} {k : AV} {x : Value} (hk : Rep g k x) (hd : keyOk (some d) k = true) : ∀ (es : List AEnt) (ms : List MapEntry) (i : Nat) (r : Option (Nat × AV)), MapRep g es ms → afind k es i = some r →
    ∃ r', Instr.findNow d x ms i = some r' ∧ (match r, r' with | none, none => True | some (j, v), some (j', y) => j = j' ∧ Rep g v y ∧ i ≤ j ∧ j - i < es.length | _, _ => False)
  | [], ms, i, r, hm, e => by
    have : ms = [] := by simpa using hm.1
    subst this
    cases e
    exact ⟨none, rfl, trivial⟩
  | e0 :: es, ms, i, r, hm, e => by
    obtain ⟨m, hm0, hb, hkey, hval⟩ := hm.2 0 e0 rfl
    cases ms with
    | nil => simp at hm0
    | cons m' ms =>
      have : m' = m := by simpa using hm0
      subst this
      have hrest : MapRep g es ms := ⟨by simpa using hm.1, fun i e he => by simpa using hm.2 (i + 1) e (by simpa using he)⟩
      have hsame : ∀ b, akeyEq k e0.key = some b → Instr.sameNow d x m'.key = some b := by
        intro b hq
        revert hq hkey hk hd
        generalize e0.key = k2
        generalize m'.key = x2
        intro hk hd hkey hq
        cases hk <;> simp only [akeyEq] at hq <;> (try (cases hq; done))
        all_goals (cases hkey <;> simp only at hq <;> (try (cases hq; done)))
        all_goals (cases d <;> simp only [keyOk] at hd <;> (try (cases hd; done)))
        · cases hq; rfl
        · split at hq
          case isFalse => cases hq
          rename_i hkk
          cases hq
          subst hkk
          simp only [Instr.sameNow, if_true]
          congr 1
        · cases hq
          simp only [Instr.sameNow]
          congr 1
          rw [Bool.eq_iff_iff, MapKept.bytes_beq, decide_eq_true_eq]
      simp only [afind] at e
      unfold Instr.findNow
      cases hq : akeyEq k e0.key with
      | none => rw [hq] at e; cases e
      | some b =>
        rw [hq] at e
        rw [hsame b hq]
        cases b with
        | true =>
          cases e
          exact ⟨some (i, m'.val), rfl, rfl, hval, Nat.le_refl _, by simp⟩
        | false =>
          obtain ⟨r', h1, h2⟩ := afind_sound hk hd es ms (i + 1) r hrest e
          refine ⟨r', h1, ?_⟩
          cases r with
          | none => cases r' with | none => trivial | some q => exact h2.elim
          | some p => cases r' with
            | none => exact h2.elim
            | some q => exact ⟨h2.1, h2.2.1, by have := h2.2.2.1; omega, by have := h2.2.2; simp; omega⟩

theorem isKey_of {g : Ghost} {d : TypeDesc} {k : AV} {x : Value} (hk : Rep g k x) (hd : keyOk (some d) k = true) : MapKept.IsKey d x := by
  cases hk <;> cases d <;> simp only [keyOk] at hd <;> (first | exact trivial | (cases hd; done) | (have := of_decide_eq_true hd; subst this; simp [MapKept.IsKey]) | simp [MapKept.IsKey])

theorem azero_sound {S : Seat} {g : Ghost} {t : TypeId} {v : AV} (e : azero S t = some v) (w : World) : ∃ y, (zeroValue t).run S.P w = .ok y w ∧ Rep g v y := by
  unfold azero at e
  obtain ⟨i, hi, hz⟩ := Option.bind_eq_some_iff.1 e
  cases hzz : i.zero with
  | none => simp [hzz] at hz
  | some z =>
    rw [hzz] at hz
    cases hz
    exact ⟨z, by simp [zeroValue, typeInfo, hi, hzz], ofValue_rep g z⟩

theorem okTup_rep {g : Ghost} {v : AV} {y : Value} (h : Rep g v y) (ok b : Bool) : Rep g (okTup ok v b) (if ok then .tuple #[y, .bool b] else y) := by
  unfold okTup
  cases ok
  · exact h
  · refine .tup rfl (fun i u hu => ?_)
    match i with
    | 0 => cases hu; exact h
    | 1 => cases hu; exact .bool _
    | n + 2 => simp at hu

theorem alookup_sound {S : Seat} {w0 : World} {h : AHeap} {g : Ghost} {w : World} (i : Inv S w0 h g w) {t : TypeId} {m k v : AV} {x y : Value} {ok : Bool} (hm : Rep g m x) (hk : Rep g k y) (e : alookup S t m k ok h = some v) :
    ∃ z, (Instr.lookup t x y ok).run S.P w = .ok z w ∧ Rep g v z := by
  unfold alookup at e
  split at e
  case h_2 => cases e
  rename_i kt et hu
  split at e
  case isFalse => cases e
  rename_i hko
  cases hkt : S.P.underlying kt with
  | none => rw [hkt] at hko; simp [keyOk] at hko
  | some d =>
    rw [hkt] at hko
    have hck := fun (b : Bool) => MapKept.run_checkKey (P := S.P) (w := w) hkt (isKey_of hk hko) b 9999
    unfold Instr.lookup
    simp only [Sem.run_bind, run_underlying hu, Result.andThen_ok]
    split at e
    · cases hm
      cases hz : azero S et with
      | none => rw [hz] at e; cases e
      | some z =>
        rw [hz] at e
        cases e
        obtain ⟨y', hy', hr⟩ := azero_sound (S := S) (g := g) hz w
        refine ⟨_, ?_, okTup_rep hr ok false⟩
        simp only [Sem.run_pure, Sem.run_bind, Result.andThen_ok, hck, MapKept.run_findKey (P := S.P) (w := w) (l := []) hkt (show Instr.findNow d y [] 0 = some none from rfl), hy', Array.toList, Array.isEmpty]
    · rename_i id
      split at e
      case h_2 => cases e
      rename_i clk es ho
      cases hm
      rename_i b hb
      obtain ⟨b', hb', ms, h1, h2, h3⟩ := i.obj _ _ ho
      cases hb.symm.trans hb'
      have hmr : MapRep g es ms.toList := ⟨by simpa using h2, fun i e he => by simpa using h3 i e he⟩
      split at e
      · rename_i j v' hf
        cases e
        obtain ⟨r', hr', hh⟩ := afind_sound hk hko es ms.toList 0 _ hmr hf
        cases r' with
        | none => exact hh.elim
        | some q =>
          obtain ⟨j', y'⟩ := q
          refine ⟨_, ?_, okTup_rep hh.2.1 ok true⟩
          simp only [Sem.run_pure, Sem.run_bind, Result.andThen_ok, hck, MapKept.run_findKey (P := S.P) (w := w) hkt hr', MapKept.run_getObj_map (P := S.P) h1]
      · rename_i hf
        cases hz : azero S et with
        | none => rw [hz] at e; cases e
        | some z =>
          rw [hz] at e
          cases e
          obtain ⟨r', hr', hh⟩ := afind_sound hk hko es ms.toList 0 _ hmr hf
          cases r' with
          | some q => exact hh.elim
          | none =>
            obtain ⟨y', hy', hr⟩ := azero_sound (S := S) (g := g) hz w
            refine ⟨_, ?_, okTup_rep hr ok false⟩
            simp only [Sem.run_pure, Sem.run_bind, Result.andThen_ok, hck, MapKept.run_findKey (P := S.P) (w := w) hkt hr', MapKept.run_getObj_map (P := S.P) h1, hy']
      · cases e
    · cases e

/-! Slicing -/
/-- A bound, if there is one. -/
def abnd : Option AV → Option (Option Nat)
  | none => some none
  | some (.int _ i) => if 0 ≤ i then some (some i.toNat) else none
  | _ => none
def aslice (S : Seat) (t : TypeId) (x : AV) (lo hi mx : Option AV) : Option AV :=
  match abnd lo, abnd hi, abnd mx with
  | some lo, some hi, some mx =>
    if mx.isSome ∧ hi = none then none else
    (match S.P.underlying t, x with
    | some .string, .str s => if mx = none ∧ lo.getD 0 ≤ hi.getD s.size ∧ hi.getD s.size ≤ s.size then some (.str (s.extract (lo.getD 0) (hi.getD s.size))) else none
    | some (.slice e), .slice sz els tok =>
      if S.P.underlying e = none ∨ (sz ≠ S.P.cellsOf e ∧ els.length ≠ 0) then none else
      if lo.getD 0 ≤ hi.getD els.length ∧ hi.getD els.length ≤ mx.getD els.length ∧ mx.getD els.length ≤ els.length then
        some (.slice sz ((els.drop (lo.getD 0)).take (hi.getD els.length - lo.getD 0))
          (match mx with
          | none => if lo.getD 0 = 0 ∧ hi.getD els.length = els.length then tok else if tok = .fixed ∧ hi.getD els.length = els.length then .fixed else .unk
          | some m => if m = hi.getD els.length then .fixed else .unk))
      else none
    | some (.slice e), .row id off len cap sz =>
      if S.P.underlying e = none ∨ sz ≠ S.P.cellsOf e then none else
      if lo.getD 0 ≤ hi.getD len ∧ hi.getD len ≤ mx.getD cap ∧ mx.getD cap ≤ cap then
        some (.row id (if mx.getD cap = lo.getD 0 then off else off + lo.getD 0 * sz) (hi.getD len - lo.getD 0) (mx.getD cap - lo.getD 0) sz) else none
    | some (.array n e), .ptr id off =>
      if S.P.underlying e = none then none else
      if lo.getD 0 ≤ hi.getD n ∧ hi.getD n ≤ mx.getD n ∧ mx.getD n ≤ n then
        some (.row id (if mx.getD n = lo.getD 0 then off else off + lo.getD 0 * S.P.cellsOf e) (hi.getD n - lo.getD 0) (mx.getD n - lo.getD 0) (S.P.cellsOf e)) else none
    | _, _ => none)
  | _, _, _ => none

/-- A bound and its value. -/
def BndRep : Option Nat → Option Value → Prop
  | none, none => True
  | some n, some v => ∃ k i, v = .int k i ∧ 0 ≤ i ∧ n = i.toNat
  | _, _ => False
theorem abnd_rep {g : Ghost} {a : Option AV} {b : Option Value} (h : match a, b with | none, none => True | some v, some x => Rep g v x | _, _ => False) {r : Option Nat} (e : abnd a = some r) : BndRep r b := by
  cases a with
  | none => cases b with
    | none => cases e; trivial
    | some x => exact h.elim
  | some v => cases b with
    | none => exact h.elim
    | some x =>
      cases v <;> simp only [abnd] at e <;> (try (cases e; done))
      split at e
      case isFalse => cases e
      rename_i hi
      cases e
      cases h
      exact ⟨_, _, rfl, hi, rfl⟩
theorem run_bounds {P : Program} {w : World} (isS : Bool) (len cap : Nat) {lo hi mx : Option Nat} {l h m : Option Value} (hl : BndRep lo l) (hh : BndRep hi h) (hm : BndRep mx m) (hx : ¬ (mx.isSome ∧ hi = none))
    (h1 : lo.getD 0 ≤ hi.getD len) (h2 : hi.getD len ≤ mx.getD cap) (h3 : mx.getD cap ≤ cap) :
    (Instr.sliceBounds isS len cap l h m).run P w = .ok (lo.getD 0, hi.getD len, mx.getD cap) w := by
  have sb : ∀ (k : IntKind) (i : Int) (y : Nat) (c : BoundsCode), 0 ≤ i → i.toNat ≤ y → (Instr.sliceBound (.int k i) y c).run P w = .ok i.toNat w := by
    intro k i y c h0 h1
    unfold Instr.sliceBound
    simp only [Sem.run_bind, asIntOf, Sem.run_pure, Result.andThen_ok]
    rw [Sem.run_ite, if_pos (by omega)]
    rfl
  unfold Instr.sliceBounds
  cases mx with
  | none =>
    cases m with
    | some _ => exact hm.elim
    | none =>
      cases hi with
      | none =>
        cases h with
        | some _ => exact hh.elim
        | none =>
          cases lo with
          | none => cases l with
            | some _ => exact hl.elim
            | none => rfl
          | some n => cases l with
            | none => exact hl.elim
            | some v =>
              obtain ⟨k, i, rfl, hi0, rfl⟩ := hl
              simp only [Option.getD_some, Option.getD_none] at h1 h2 h3
              simp [sb _ _ _ _ hi0 h1]
      | some n =>
        cases h with
        | none => exact hh.elim
        | some v =>
          obtain ⟨k, i, rfl, hi0, rfl⟩ := hh
          simp only [Option.getD_some, Option.getD_none] at h1 h2 h3
          cases lo with
          | none => cases l with
            | some _ => exact hl.elim
            | none => simp [sb _ _ _ _ hi0 h2]
          | some n => cases l with
            | none => exact hl.elim
            | some v =>
              obtain ⟨k', i', rfl, hi0', rfl⟩ := hl
              simp only [Option.getD_some] at h1
              simp [sb _ _ _ _ hi0 h2, sb _ _ _ _ hi0' h1]
  | some mv =>
    cases m with
    | none => exact hm.elim
    | some v =>
      obtain ⟨km, im, rfl, hm0, rfl⟩ := hm
      cases hi with
      | none => exact absurd ⟨rfl, rfl⟩ hx
      | some n =>
        cases h with
        | none => exact hh.elim
        | some v =>
          obtain ⟨k, i, rfl, hi0, rfl⟩ := hh
          simp only [Option.getD_some, Option.getD_none] at h1 h2 h3
          cases lo with
          | none => cases l with
            | some _ => exact hl.elim
            | none => simp [sb _ _ _ _ hi0 h2, sb _ _ _ _ hm0 h3]
          | some n => cases l with
            | none => exact hl.elim
            | some v =>
              obtain ⟨k', i', rfl, hi0', rfl⟩ := hl
              simp only [Option.getD_some] at h1
              simp [sb _ _ _ _ hi0 h2, sb _ _ _ _ hi0' h1, sb _ _ _ _ hm0 h3]

/-- A part of a slice. -/
theorem rep_slice_part {g : Ghost} {sz : Nat} {els : List (List AV)} {tok tok' : Tok} {a : Option Addr} {n c : Nat} (h : Rep g (.slice sz els tok) (.slice a n c)) {l k m : Nat} (hl : l ≤ k) (hk : k ≤ els.length) (hkm : k ≤ m)
    (ht : ∀ a', a' = (if m = l then a else a.map (·.add (l * sz))) → TokRep g sz (k - l) a' (m - l) tok') :
    (m ≤ c) → Rep g (.slice sz ((els.drop l).take (k - l)) tok') (.slice (if m = l then a else a.map (·.add (l * sz))) (k - l) (m - l)) := by
  intro hm
  have hlen : ((els.drop l).take (k - l)).length = k - l := by simp; omega
  cases h with
  | sliceNil _ hn =>
    simp at hk
    subst hk
    have : l = 0 := by omega
    subst this
    refine .sliceNil (ht _ rfl) (fun e => ?_)
    by_cases hm0 : m = 0
    · omega
    · rw [if_neg hm0] at e
      have := hn (by cases a with | none => rfl | some _ => cases e)
      omega
  | slice f hI hsz hR hc ht0 =>
    rename_i b o
    have key : ∀ o', (m ≠ l → o' = o + l * sz) → TokRep g sz (k - l) (some ⟨b, o', none⟩) (m - l) tok' → Rep g (.slice sz ((els.drop l).take (k - l)) tok') (.slice (some ⟨b, o', none⟩) (k - l) (m - l)) := by
      intro o' ho' ht'
      have := Rep.slice (g := g) (sz := sz) (els := (els.drop l).take (k - l)) (tok := tok') (b := b) (o := o') (cap := m - l) (fun i => f (l * sz + i)) (fun i hi => by
          rw [hlen] at hi
          have hne : m ≠ l := fun e => by
            have : k - l = 0 := by omega
            rw [this] at hi
            omega
          rw [ho' hne, Nat.add_assoc]
          refine hI _ ?_
          have h1 : l * sz + (k - l) * sz = k * sz := by rw [← Nat.add_mul]; congr 1; omega
          have h2 : k * sz ≤ els.length * sz := Nat.mul_le_mul_right sz hk
          omega) (fun i e he => by
          rw [List.getElem?_take] at he
          split at he
          case isFalse => cases he
          rw [List.getElem?_drop] at he
          exact hsz _ e he) (fun i j e v he hv => by
          rw [List.getElem?_take] at he
          split at he
          case isFalse => cases he
          rw [List.getElem?_drop] at he
          have := hR _ j e v he hv
          rw [Nat.add_mul, Nat.add_assoc] at this
          exact this) (by rw [hlen]; omega) (by rw [hlen]; exact ht')
      rw [hlen] at this
      exact this
    by_cases e : m = l
    · rw [if_pos e]
      exact key o (fun q => absurd e q) (ht _ (by rw [if_pos e]))
    · rw [if_neg e]
      simp only [Option.map_some, addr_add]
      exact key (o + l * sz) (fun _ => rfl) (ht _ (by rw [if_neg e]; simp only [Option.map_some, addr_add]))

theorem tokRep_of_slice {g : Ghost} {sz : Nat} {els : List (List AV)} {tok : Tok} {a : Option Addr} {n c : Nat} (h : Rep g (.slice sz els tok) (.slice a n c)) : n = els.length ∧ els.length ≤ c ∧ TokRep g sz els.length a c tok := by
  cases h with
  | sliceNil h => exact ⟨rfl, Nat.zero_le _, h⟩
  | slice f hI hsz hR hc ht => exact ⟨rfl, hc, ht⟩
theorem rep_slice_shape {g : Ghost} {sz : Nat} {els : List (List AV)} {tok : Tok} {x : Value} (h : Rep g (.slice sz els tok) x) : ∃ a c, x = .slice a els.length c := by
  cases h <;> exact ⟨_, _, rfl⟩

theorem aslice_sound {S : Seat} {g : Ghost} {w : World} {t : TypeId} {p v : AV} {x : Value} {lo hi mx : Option AV} {lo' hi' mx' : Option Value} (hp : Rep g p x)
    (h1 : match lo, lo' with | none, none => True | some v, some x => Rep g v x | _, _ => False) (h2 : match hi, hi' with | none, none => True | some v, some x => Rep g v x | _, _ => False)
    (h3 : match mx, mx' with | none, none => True | some v, some x => Rep g v x | _, _ => False) (e : aslice S t p lo hi mx = some v) :
    ∃ z, (Instr.sliceAt t x lo' hi' mx').run S.P w = .ok z w ∧ Rep g v z := by
  unfold aslice at e
  split at e
  case h_2 => cases e
  rename_i l k m e1 e2 e3
  have b1 := abnd_rep h1 e1
  have b2 := abnd_rep h2 e2
  have b3 := abnd_rep h3 e3
  clear h1 h2 h3 e1 e2 e3
  split at e
  case isTrue => cases e
  rename_i hx
  split at e
  case h_5 => cases e
  · rename_i s hu
    split at e
    case isFalse => cases e
    rename_i hc
    obtain ⟨rfl, hc1, hc2⟩ := hc
    cases e
    cases hp
    cases mx' with
    | some _ => exact b3.elim
    | none =>
      refine ⟨_, ?_, .str _⟩
      unfold Instr.sliceAt Instr.slice
      simp only [Sem.run_bind, run_underlying hu, Result.andThen_ok, Option.isSome_none, Bool.false_eq_true, if_false, Sem.run_pure, run_bounds false s.size s.size b1 b2 (mx := none) (m := none) trivial hx hc1 hc2 (Nat.le_refl _)]
  · rename_i e' sz els tok hu
    split at e
    case isTrue => cases e
    rename_i hz
    obtain ⟨hud, hz⟩ := not_or.1 hz
    obtain ⟨d, hd⟩ := Option.ne_none_iff_exists'.1 hud
    split at e
    case isFalse => cases e
    rename_i hc
    obtain ⟨hc1, hc2, hc3⟩ := hc
    cases e
    obtain ⟨a, c, rfl⟩ := rep_slice_shape hp
    obtain ⟨_, hcap, htok⟩ := tokRep_of_slice hp
    have hh2 : k.getD els.length ≤ m.getD c := by
      cases m with
      | none => simp at hc2 ⊢; omega
      | some mv => exact hc2
    have hh3 : m.getD c ≤ c := by
      cases m with
      | none => simp
      | some mv => simp at hc3 ⊢; omega
    have hk : k.getD els.length ≤ els.length := by omega
    have hadr : ∀ q : Option Addr, (if m.getD c = l.getD 0 then a else a.map (·.add (l.getD 0 * S.P.cellsOf e'))) = (if m.getD c = l.getD 0 then a else a.map (·.add (l.getD 0 * sz))) := by
      intro q
      by_cases q : m.getD c = l.getD 0
      · rw [if_pos q, if_pos q]
      · rw [if_neg q, if_neg q]
        by_cases hl0 : els.length = 0
        · have : l.getD 0 = 0 := by omega
          rw [this]; simp
        · have : sz = S.P.cellsOf e' := Decidable.not_not.1 (fun hne => hz ⟨hne, hl0⟩)
          rw [this]
    refine ⟨_, ?_, rep_slice_part hp hc1 hk hh2 (fun a' ha' => ?_) hh3⟩
    · unfold Instr.sliceAt Instr.slice
      simp only [Sem.run_bind, run_underlying hu, Result.andThen_ok, Sem.run_pure, run_bounds true els.length c b1 b2 b3 hx hc1 hh2 hh3, run_sizeOf' hd, hadr none]
    · cases m with
      | none =>
        simp only [Option.getD_none] at ha' ⊢
        by_cases q : l.getD 0 = 0 ∧ k.getD els.length = els.length
        · rw [if_pos q]
          rw [q.1] at ha' ⊢
          rw [q.2]
          have : a' = a := by
            rw [ha']
            by_cases r : c = 0
            · rw [if_pos r]
            · rw [if_neg r]
              cases a with
              | none => rfl
              | some ad => simp [Addr.add]
          rw [this]
          exact htok
        · rw [if_neg q]
          by_cases r : tok = .fixed ∧ k.getD els.length = els.length
          · rw [if_pos r]
            rw [r.1] at htok
            have : c = els.length := htok
            show c - l.getD 0 = k.getD els.length - l.getD 0
            omega
          · rw [if_neg r]
            trivial
      | some mv =>
        simp only [Option.getD_some] at ha' ⊢
        by_cases q : mv = k.getD els.length
        · rw [if_pos q]
          show mv - l.getD 0 = k.getD els.length - l.getD 0
          omega
        · rw [if_neg q]
          trivial
  · rename_i e' id off len cap sz hu
    split at e
    case isTrue => cases e
    rename_i hz
    obtain ⟨hud, hz⟩ := not_or.1 hz
    obtain ⟨d, hd⟩ := Option.ne_none_iff_exists'.1 hud
    have hz : sz = S.P.cellsOf e' := Decidable.not_not.1 hz
    split at e
    case isFalse => cases e
    rename_i hc
    obtain ⟨hc1, hc2, hc3⟩ := hc
    cases e
    cases hp
    rename_i b hb
    refine ⟨_, ?_, .row hb⟩
    unfold Instr.sliceAt Instr.slice
    simp only [Sem.run_bind, run_underlying hu, Result.andThen_ok, Sem.run_pure, run_bounds true len cap b1 b2 b3 hx hc1 hc2 hc3, run_sizeOf' hd, hz]
    by_cases q : m.getD cap = l.getD 0
    · simp only [if_pos q]
    · simp only [if_neg q, Option.map_some, addr_add]
  · rename_i n e' id off hu
    split at e
    case isTrue => cases e
    rename_i hud
    obtain ⟨d, hd⟩ := Option.ne_none_iff_exists'.1 hud
    split at e
    case isFalse => cases e
    rename_i hc
    obtain ⟨hc1, hc2, hc3⟩ := hc
    cases e
    cases hp
    rename_i b hb
    refine ⟨_, ?_, .row hb⟩
    unfold Instr.sliceAt
    simp only [Sem.run_bind, run_underlying hu, Result.andThen_ok, Sem.run_pure, Instr.sureAddr, run_bounds false n n b1 b2 b3 hx hc1 hc2 hc3, run_sizeOf' hd]
    by_cases q : m.getD n = l.getD 0
    · simp only [if_pos q]
    · simp only [if_neg q, addr_add]
end Go.Proofs.YtajknofacjiddaaDoor.Abs

/- Values that are put together; lengths; conversions; all operations that turn no memory, in one function. -/
namespace Go.Proofs.YtajknofacjiddaaDoor.Abs
open Go Go.RowKit
set_option linter.unusedVariables false
set_option linter.unusedSimpArgs false

/-! Structs and rows from their parts -/
/-- The cells of a value. -/
def acs : AV → Option (List AV)
  | .agg cs => some cs
  | .top | .tup _ => none
  | v => some [v]
def asplice (cells : List AV) (off : Nat) (cs : List AV) : List AV := cells.take off ++ cs ++ cells.drop (off + cs.length)
def afill (place : Nat → Option (Nat × Nat)) : List AV → List (Nat × AV) → Option (List AV)
  | cells, [] => some cells
  | cells, (i, v) :: rest =>
    match place i with
    | none => none
    | some (off, size) => match acs v with
      | none => none
      | some cs => if cs.length = size ∧ off + cs.length ≤ cells.length then afill place (asplice cells off cs) rest else none

theorem acs_rep {g : Ghost} {v : AV} {x : Value} (h : Rep g v x) {cs : List AV} (e : acs v = some cs) : RepL g cs x.cells := by
  have one : x.cells = #[x] → RepL g [v] x.cells := by
    intro hx
    rw [hx]
    refine ⟨rfl, fun i u hu => ?_⟩
    match i, hu with
    | 0, hu => cases hu; exact h
    | n + 1, hu => simp at hu
  cases h <;> simp only [acs] at e <;> (try (cases e; done)) <;> cases e <;> (first | exact one rfl | skip)
  rename_i xs hs hR
  exact ⟨hs, hR⟩

theorem fold_set (off : Nat) : ∀ (l : List Value) (k : Nat) (cs : Array Value), off + k + l.length ≤ cs.size →
    ((l.zipIdx k).foldl (fun (cs : Array Value) (p : Value × Nat) => cs.setIfInBounds (off + p.2) p.1) cs).size = cs.size ∧
    ∀ i, ((l.zipIdx k).foldl (fun (cs : Array Value) (p : Value × Nat) => cs.setIfInBounds (off + p.2) p.1) cs)[i]? = if off + k ≤ i ∧ i < off + k + l.length then l[i - (off + k)]? else cs[i]?
  | [], k, cs, _ => ⟨rfl, fun i => by rw [if_neg (by simp)]; rfl⟩
  | x :: l, k, cs, h => by
    simp only [List.zipIdx_cons, List.foldl_cons]
    obtain ⟨h1, h2⟩ := fold_set off l (k + 1) (cs.setIfInBounds (off + k) x) (by simp at h ⊢; omega)
    refine ⟨by rw [h1]; simp, fun i => ?_⟩
    rw [h2 i]
    simp only [List.length_cons] at h ⊢
    by_cases c1 : off + (k + 1) ≤ i ∧ i < off + (k + 1) + l.length
    · rw [if_pos c1, if_pos (by omega)]
      have : i - (off + k) = (i - (off + (k + 1))) + 1 := by omega
      rw [this, List.getElem?_cons_succ]
    · rw [if_neg c1]
      by_cases c2 : i = off + k
      · subst c2
        rw [if_pos (by omega)]
        have : off + k < cs.size := by omega
        simp [this]
      · rw [if_neg (by omega)]
        rw [Array.getElem?_setIfInBounds]
        rw [if_neg (fun q => c2 q.symm)]

theorem afill_sound {g : Ghost} {place : Nat → Option (Nat × Nat)} : ∀ (parts : List (Nat × AV)) (ps : List (Nat × Value)) (cells : List AV) (xs : Array Value) (r : List AV), RepL g cells xs →
    ps.length = parts.length → (∀ (i : Nat) p q, parts[i]? = some p → ps[i]? = some q → p.1 = q.1 ∧ Rep g p.2 q.2) → afill place cells parts = some r → ∃ ys, Instr.fill place xs ps = some ys ∧ RepL g r ys
  | [], ps, cells, xs, r, hr, hl, _, e => by
    have : ps = [] := by simpa using hl
    subst this
    cases e
    exact ⟨xs, rfl, hr⟩
  | (i, v) :: parts, ps, cells, xs, r, hr, hl, hp, e => by
    cases ps with
    | nil => simp at hl
    | cons q ps =>
      obtain ⟨i', y⟩ := q
      obtain ⟨hi, hv⟩ := hp 0 _ _ rfl rfl
      simp only at hi hv
      subst hi
      unfold afill at e
      unfold Instr.fill
      cases hpl : place i with
      | none => rw [hpl] at e; cases e
      | some o =>
        obtain ⟨off, size⟩ := o
        rw [hpl] at e
        simp only at e ⊢
        cases hc : acs v with
        | none => rw [hc] at e; cases e
        | some cs =>
          rw [hc] at e
          simp only at e
          split at e
          case isFalse => cases e
          rename_i hcond
          have hy := acs_rep hv hc
          have hsz : y.cells.size = cs.length := hy.1
          have hxs : xs.size = cells.length := hr.1
          have c1 : (y.cells.size ≠ size || off + y.cells.size > xs.size) = false := by
            rw [hsz, hxs]; simp; omega
          simp only [ne_eq, decide_not] at c1
          rw [if_neg (by simp [hsz, hxs]; omega)]
          obtain ⟨f1, f2⟩ := fold_set off y.cells.toList 0 xs (by simp [hsz, hxs]; omega)
          have hzip : (y.cells.zipIdx.foldl (fun (cs : Array Value) (x : Value × Nat) => match x with | (c, j) => cs.setIfInBounds (off + j) c) xs) = (y.cells.toList.zipIdx 0).foldl (fun (cs : Array Value) (p : Value × Nat) => cs.setIfInBounds (off + p.2) p.1) xs := by
            rw [← Array.foldl_toList, Array.toList_zipIdx]
          refine afill_sound parts ps (asplice cells off cs) _ r ?_ (by simpa using hl) (fun j p q h1 h2 => hp (j + 1) p q (by simpa using h1) (by simpa using h2)) e
          rw [hzip]
          refine ⟨by rw [f1, hxs]; simp [asplice]; omega, fun j u hu => ?_⟩
          have hj := f2 j
          simp only [Array.length_toList, Nat.add_zero, Array.getElem?_toList] at hj
          unfold asplice at hu
          by_cases c2 : off ≤ j ∧ j < off + cs.length
          · rw [List.getElem?_append_left (by simp; omega), List.getElem?_append_right (by simp; omega)] at hu
            rw [if_pos (by omega)] at hj
            have hto : (cells.take off).length = off := by simp; omega
            rw [hto] at hu
            obtain ⟨z, hz, hzr⟩ := hy.get hu
            rw [hz] at hj
            simpa [hj] using hzr
          · rw [if_neg (by omega)] at hj
            have hu' : cells[j]? = some u := by
              by_cases c3 : j < off
              · rw [List.getElem?_append_left (by simp; omega), List.getElem?_append_left (by simp; omega), List.getElem?_take, if_pos c3] at hu
                exact hu
              · rw [List.getElem?_append_right (by simp; omega), List.getElem?_drop] at hu
                have : off + cs.length + (j - (List.take off cells ++ cs).length) = j := by simp; omega
                rwa [this] at hu
            obtain ⟨z, hz, hzr⟩ := hr.get hu'
            rw [hz] at hj
            simpa [hj] using hzr

/-! New blocks that never change -/
structure NewBlk (w w' : World) (o : Obj) : Prop where
  os : w'.os = w.os
  tape : w'.tape = w.tape
  output : w'.output = w.output
  heap : w'.heap = w.heap.push o
theorem NewBlk.size {w w' : World} {o : Obj} (n : NewBlk w w' o) : w'.heap.size = w.heap.size + 1 := by rw [n.heap]; simp
theorem NewBlk.old {w w' : World} {o : Obj} (n : NewBlk w w' o) {b : Nat} (hb : b < w.heap.size) : w'.heap[b]? = w.heap[b]? := by
  rw [n.heap, Array.getElem?_push, if_neg (by omega)]
theorem NewBlk.new {w w' : World} {o : Obj} (n : NewBlk w w' o) : w'.heap[w.heap.size]? = some o := by
  rw [n.heap]; simp
theorem NewBlk.cell {w w' : World} {o : Obj} (n : NewBlk w w' o) {a : Addr} {x : Value} (h : w.cell? a = some x) : w'.cell? a = some x :=
  (World.cell?_of_block (n.old (World.block_lt_of_cell? w a h))).trans h
theorem NewBlk.below {w0 w w' : World} {o : Obj} (n : NewBlk w w' o) (h : Below w0.heap.size w0 w) : Below w0.heap.size w0 w' :=
  ⟨n.os.trans h.os, n.tape.trans h.tape, n.output.trans h.output, by have := h.size; have := n.size; omega, fun k hk => (n.old (by have := h.size; omega)).trans (h.block k hk)⟩
theorem NewBlk.alloc (w : World) (o : Obj) : NewBlk w (w.alloc o) o := ⟨rfl, rfl, rfl, rfl⟩

theorem Spare.kept {w0 : World} {g g' : Ghost} {w w' : World} {a : Addr} {n cap sz : Nat} (h : Spare w0 g w a n cap sz) (hb : w'.heap[a.block]? = w.heap[a.block]?) (hG : ∀ id, g'.G id ≠ some a.block) (hI : ∀ k, n * sz ≤ k → k < cap * sz → g'.I a.block (a.off + k) = none) :
    Spare w0 g' w' a n cap sz :=
  ⟨h.spot, h.base, hG, let ⟨vs, e, h1, h2⟩ := h.cells; ⟨vs, e, hb.trans h1, h2⟩, hI⟩
theorem Spare.lt {w0 : World} {g : Ghost} {w : World} {a : Addr} {n cap sz : Nat} (h : Spare w0 g w a n cap sz) : a.block < w.heap.size := by
  obtain ⟨vs, e, h1, _⟩ := h.cells
  exact (Array.getElem?_eq_some_iff.1 h1).1

theorem Inv.same {S : Seat} {w0 : World} {h : AHeap} {g : Ghost} {w w' : World} (i : Inv S w0 h g w) (hh : w'.heap = w.heap) (ho : w'.os = w.os) (ht : w'.tape = w.tape) (hp : w'.output = w.output) : Inv S w0 h g w' := by
  have hc : ∀ a, w'.cell? a = w.cell? a := fun a => by simp [World.cell?, hh]
  exact ⟨⟨ho.trans i.below.os, ht.trans i.below.tape, hp.trans i.below.output, by rw [hh]; exact i.below.size, fun k hk => by rw [hh]; exact i.below.block k hk⟩,
    fun id b e => by rw [hh]; exact i.gdom id b e, i.ginj,
    fun id o e => let ⟨b, h1, h2⟩ := i.obj id o e; ⟨b, h1, h2.mono (Ghost.le.refl g) (by rw [hh])⟩,
    fun b o x e => by rw [hc]; exact i.imm b o x e, i.tdom,
    fun t a cap sz e l => (i.tok t a cap sz e l).kept (by rw [hh]) (i.tok t a cap sz e l).noG (i.tok t a cap sz e l).free, i.tdisj, i.glob, i.base⟩

def Ghost.addI (g : Ghost) (nb : Nat) (ys : Array Value) : Ghost := { g with I := fun b o => if b = nb then ys[o]? else g.I b o }
def acell : AV → Bool
  | .top | .agg _ | .tup _ => false
  | _ => true
theorem acell_one {g : Ghost} {v : AV} {x : Value} (h : Rep g v x) (e : acell v = true) : x.oneCell' = true := by
  cases h <;> first | rfl | (cases e; done)
theorem Inv.newImm {S : Seat} {w0 : World} {h : AHeap} {g : Ghost} {w w' : World} (i : Inv S w0 h g w) {ys : Array Value} {e : TypeId} {fz : Nat × Nat} (n : NewBlk w w' (.cells ys e fz)) (h1 : ∀ (k : Nat) y, ys[k]? = some y → y.oneCell' = true) :
    g.le (g.addI w.heap.size ys) ∧ Inv S w0 h (g.addI w.heap.size ys) w' := by
  have hne : ∀ {b o x}, g.I b o = some x → b ≠ w.heap.size := fun hx q => by have := i.imm_lt hx; omega
  have le : g.le (g.addI w.heap.size ys) := ⟨fun _ _ h => h, fun b o x hx => by show (if b = w.heap.size then ys[o]? else g.I b o) = _; rw [if_neg (hne hx)]; exact hx, fun _ _ _ h => h⟩
  refine ⟨le, n.below i.below, fun id b hb => let ⟨a, c, d⟩ := i.gdom id b hb; ⟨a, c, by have := n.size; omega⟩, i.ginj, fun id o ho => ?_, fun b o x hx => ?_, i.tdom, fun t a cap sz ht hl => ?_, i.tdisj, fun k cs hk => (i.glob k cs hk).mono le, i.base⟩
  · obtain ⟨b, h1, h2⟩ := i.obj id o ho
    exact ⟨b, h1, h2.mono le (n.old (i.gdom id b h1).2.2)⟩
  · change (if b = w.heap.size then ys[o]? else g.I b o) = some x at hx
    by_cases q : b = w.heap.size
    · rw [if_pos q] at hx
      subst q
      refine ⟨by rw [cell_of_row w' _ o ys e fz n.new]; exact hx, fun id hid => ?_, h1 _ _ hx⟩
      have := (i.gdom id _ hid).2.2
      omega
    · rw [if_neg q] at hx
      obtain ⟨h1, h2⟩ := i.imm b o x hx
      exact ⟨n.cell h1, h2⟩
  · have s := i.tok t a cap sz ht hl
    exact s.kept (n.old s.lt) s.noG (fun k h1 h2 => by
      show (if a.block = w.heap.size then ys[a.off + k]? else g.I a.block (a.off + k)) = none
      rw [if_neg (by have := s.lt; omega)]
      exact s.free k h1 h2)

/-! Struct and slice literals -/
def aplaces (S : Seat) (fields : Array Field) (i : Nat) : Option (Nat × Nat) := (fields[i]?).map fun f => (f.offset, S.P.cellsOf f.type)
def fieldsKnown (S : Seat) (fields : Array Field) : Bool := fields.toList.all fun f => (S.P.info? f.type).isSome
def abuild (S : Seat) (t : TypeId) (parts : List (Nat × AV)) : Option AV :=
  match azero S t with
  | some (.agg zs) => match S.P.underlying t with
    | some (.struct fields) => if fieldsKnown S fields then (afill (aplaces S fields) zs parts).map .agg else none
    | some (.array _ e) => if (S.P.info? e).isSome then (afill (fun i => some (i * S.P.cellsOf e, S.P.cellsOf e)) zs parts).map .agg else none
    | _ => none
  | _ => none
theorem cellsOf_info {P : Program} {t : TypeId} {i : TypeInfo} (h : P.info? t = some i) : P.cellsOf t = i.size := by simp [Program.cellsOf, h]
theorem azero_parts {S : Seat} {t : TypeId} {v : AV} (e : azero S t = some v) : ∃ i z, S.P.info? t = some i ∧ i.zero = some z ∧ v = ofValue z := by
  unfold azero at e
  obtain ⟨i, hi, hz⟩ := Option.bind_eq_some_iff.1 e
  cases hzz : i.zero with
  | none => simp [hzz] at hz
  | some z =>
    rw [hzz] at hz
    cases hz
    exact ⟨i, z, hi, hzz, rfl⟩
theorem places_eq {S : Seat} : ∀ (fs : List Field), (fs.all fun f => (S.P.info? f.type).isSome) = true → ∃ places, fs.mapM (fun f => (S.P.info? f.type).map fun i => (f.offset, i.size)) = some places ∧ ∀ i : Nat, places[i]? = (fs[i]?).map fun f => (f.offset, S.P.cellsOf f.type)
  | [], _ => ⟨[], rfl, fun i => rfl⟩
  | f :: fs, h => by
    simp only [List.all_cons, Bool.and_eq_true] at h
    obtain ⟨i, hi⟩ := Option.isSome_iff_exists.1 h.1
    obtain ⟨places, h1, h2⟩ := places_eq fs h.2
    refine ⟨(f.offset, i.size) :: places, by simp [List.mapM_cons, hi, h1], fun k => ?_⟩
    cases k with
    | zero => simp [cellsOf_info hi]
    | succ k => simpa using h2 k
theorem fill_congr {p q : Nat → Option (Nat × Nat)} (h : ∀ i, p i = q i) : ∀ (ps : List (Nat × Value)) (xs : Array Value), Instr.fill p xs ps = Instr.fill q xs ps := by
  have : p = q := funext h
  subst this
  intros; rfl

def PartsRep (g : Ghost) (parts : List (Nat × AV)) (ps : List (Nat × Value)) : Prop := ps.length = parts.length ∧ ∀ (i : Nat) p q, parts[i]? = some p → ps[i]? = some q → p.1 = q.1 ∧ Rep g p.2 q.2
theorem abuild_sound {S : Seat} {g : Ghost} {w : World} {t : TypeId} {parts : List (Nat × AV)} {ps : Array (Nat × Value)} {v : AV} (hp : PartsRep g parts ps.toList) (e : abuild S t parts = some v) :
    ∃ y, (Instr.build t ps).run S.P w = .ok y w ∧ Rep g v y := by
  unfold abuild at e
  split at e
  case h_2 => cases e
  rename_i zs hz
  obtain ⟨it, z, hit, hzz, hzv⟩ := azero_parts hz
  have hzr : RepL g zs z.cells := acs_rep (v := .agg zs) (hzv ▸ ofValue_rep g z) rfl
  split at e
  case h_3 => cases e
  · rename_i fields hu
    split at e
    case isFalse => cases e
    rename_i hk
    obtain ⟨places, h1, h2⟩ := places_eq fields.toList hk
    cases hf : afill (aplaces S fields) zs parts with
    | none => rw [hf] at e; cases e
    | some r =>
      rw [hf] at e
      cases e
      obtain ⟨ys, hy1, hy2⟩ := afill_sound parts ps.toList zs z.cells r hzr hp.1 hp.2 hf
      refine ⟨_, run_build w t ps ys ?_, .agg hy2.1 hy2.2⟩
      unfold Program.built
      simp only [hit, hu, hzz, h1]
      rw [← hy1]
      refine fill_congr (fun i => ?_) _ _
      have := h2 i
      simp only [Array.getElem?_toList] at this
      unfold aplaces
      rw [← this]
      simp
  · rename_i n e' hu
    split at e
    case isFalse => cases e
    rename_i hk
    obtain ⟨ie, hie⟩ := Option.isSome_iff_exists.1 hk
    cases hf : afill (fun i => some (i * S.P.cellsOf e', S.P.cellsOf e')) zs parts with
    | none => rw [hf] at e; cases e
    | some r =>
      rw [hf] at e
      cases e
      obtain ⟨ys, hy1, hy2⟩ := afill_sound parts ps.toList zs z.cells r hzr hp.1 hp.2 hf
      refine ⟨_, run_build w t ps ys ?_, .agg hy2.1 hy2.2⟩
      unfold Program.built
      simp only [hit, hu, hzz, hie]
      rw [← hy1]
      exact fill_congr (fun i => by rw [cellsOf_info hie]) _ _

def chunk (sz : Nat) : Nat → List AV → List (List AV)
  | 0, _ => []
  | n + 1, cs => cs.take sz :: chunk sz n (cs.drop sz)
theorem length_chunk (sz : Nat) : ∀ (n : Nat) (cs : List AV), (chunk sz n cs).length = n
  | 0, _ => rfl
  | n + 1, cs => by simp [chunk, length_chunk sz n]
theorem get_chunk (sz : Nat) : ∀ (n : Nat) (cs : List AV) (i : Nat) (e : List AV), (chunk sz n cs)[i]? = some e → e = (cs.drop (i * sz)).take sz
  | 0, _, _, _, h => by simp [chunk] at h
  | n + 1, cs, 0, e, h => by simp [chunk] at h; simp [h]
  | n + 1, cs, i + 1, e, h => by
    simp only [chunk, List.getElem?_cons_succ] at h
    rw [get_chunk sz n _ i e h, List.drop_drop, Nat.add_mul, Nat.one_mul, Nat.add_comm]
def azeros (zs : List AV) : Nat → List AV
  | 0 => []
  | n + 1 => zs ++ azeros zs n
theorem length_azeros (zs : List AV) : ∀ n, (azeros zs n).length = n * zs.length
  | 0 => by simp [azeros]
  | n + 1 => by simp [azeros, length_azeros zs n, Nat.add_mul, Nat.add_comm]
theorem get_azeros (zs : List AV) : ∀ (n i : Nat), i < n * zs.length → (azeros zs n)[i]? = zs[i % zs.length]?
  | 0, i, h => by simp at h
  | n + 1, i, h => by
    by_cases q : i < zs.length
    · rw [azeros, List.getElem?_append_left q, Nat.mod_eq_of_lt q]
    · rw [azeros, List.getElem?_append_right (by omega), get_azeros zs n _ (by rw [Nat.add_mul] at h; omega)]
      congr 1
      rw [← Nat.mod_eq_sub_mod (by omega)]
def abuildSlice (S : Seat) (t : TypeId) (len : Nat) (parts : List (Nat × AV)) : Option AV :=
  match S.P.underlying t with
  | some (.slice e) => match (azero S e).bind acs with
    | some zs => if zs.length = S.P.cellsOf e ∧ 0 < zs.length ∧ len * zs.length ≤ 16777216 then
        (afill (fun i => some (i * S.P.cellsOf e, S.P.cellsOf e)) (azeros zs len) parts).bind fun r => if r.all acell then some (.slice (S.P.cellsOf e) (chunk (S.P.cellsOf e) len r) .fixed) else none
      else none
    | none => none
  | _ => none
theorem afill_length {place : Nat → Option (Nat × Nat)} : ∀ (parts : List (Nat × AV)) (cells r : List AV), afill place cells parts = some r → r.length = cells.length
  | [], _, _, e => by cases e; rfl
  | (i, v) :: parts, cells, r, e => by
    unfold afill at e
    split at e
    · cases e
    · split at e
      · cases e
      · split at e
        · rw [afill_length parts _ r e]
          simp [asplice]; omega
        · cases e
theorem abuildSlice_sound {S : Seat} {w0 : World} {h : AHeap} {g : Ghost} {w : World} (i : Inv S w0 h g w) {t : TypeId} {len : Nat} {parts : List (Nat × AV)} {ps : Array (Nat × Value)} {v : AV} (hp : PartsRep g parts ps.toList) (e : abuildSlice S t len parts = some v) :
    ∃ y w' g', (Instr.buildSlice t len ps).run S.P w = .ok y w' ∧ g.le g' ∧ Inv S w0 h g' w' ∧ Rep g' v y := by
  unfold abuildSlice at e
  split at e
  case h_2 => cases e
  rename_i e' hu
  split at e
  case h_2 => cases e
  rename_i zs hzs
  obtain ⟨zv, hzv, hza⟩ := Option.bind_eq_some_iff.1 hzs
  obtain ⟨ie, z, hie, hzz, rfl⟩ := azero_parts hzv
  have hzr : RepL g zs z.cells := acs_rep (ofValue_rep g z) hza
  split at e
  case isFalse => cases e
  rename_i hc
  obtain ⟨hc1, hc2, hc3⟩ := hc
  have hsz : S.P.cellsOf e' = ie.size := cellsOf_info hie
  cases hf : afill (fun i => some (i * S.P.cellsOf e', S.P.cellsOf e')) (azeros zs len) parts with
  | none => rw [hf] at e; cases e
  | some r =>
    rw [hf] at e
    simp only [Option.bind_some] at e
    split at e
    case isFalse => cases e
    rename_i hall
    cases e
    have hz0 : RepL g (azeros zs len) ((Array.range (len * ie.size)).map (z.cells[· % z.cells.size]!)) := by
      refine ⟨by simp [length_azeros, ← hsz, hc1], fun j v hv => ?_⟩
      have hj : j < len * zs.length := by have := (List.getElem?_eq_some_iff.1 hv).1; rwa [length_azeros] at this
      rw [get_azeros zs len j hj] at hv
      obtain ⟨y, hy, hr⟩ := hzr.get hv
      have hzsz : z.cells.size = zs.length := hzr.1
      have hj' : j < len * ie.size := by rw [← hsz, ← hc1]; exact hj
      have : ((Array.range (len * ie.size)).map (z.cells[· % z.cells.size]!)).getD j undef = y := by
        have : ((Array.range (len * ie.size)).map (z.cells[· % z.cells.size]!))[j]? = some y := by
          simp [hj', hzsz]
          rw [getElem!_def, hy]
        simp [this]
      rw [this]
      exact hr
    obtain ⟨ys, hy1, hy2⟩ := afill_sound parts ps.toList _ _ r hz0 hp.1 hp.2 hf
    have hrl := afill_length _ _ _ hf
    rw [length_azeros] at hrl
    rw [hsz] at hy1
    have hone : ∀ (k : Nat) y, ys[k]? = some y → y.oneCell' = true := by
      intro k y hk
      have hk' : k < r.length := by rw [← hy2.1]; exact (Array.getElem?_eq_some_iff.1 hk).1
      have h3 := hy2.2 k r[k] (List.getElem?_eq_getElem hk')
      have h4 : ys.getD k undef = y := by simp [hk]
      rw [h4] at h3
      exact acell_one h3 (List.all_eq_true.1 hall _ (List.getElem_mem hk'))
    by_cases hlen : len = 0
    · subst hlen
      have hys : ys = #[] := by
        have := hy2.1
        rw [hrl] at this
        exact Array.eq_empty_of_size_eq_zero (by simpa using this)
      subst hys
      obtain ⟨le, inv⟩ := i.newImm (NewBlk.alloc w (.cells #[] e')) (fun k y hk => by simp at hk)
      refine ⟨.slice (some ⟨w.heap.size, 0, none⟩) 0 0, w.alloc (.cells #[] e'), _, ?_, le, inv, ?_⟩
      · have hr0 : Array.range 0 = #[] := rfl
        simp only [Nat.zero_mul, hr0, List.map_toArray, List.map_nil, Array.map_empty] at hy1
        simp [Instr.buildSlice, run_underlying hu, sizeOf, typeInfo, hie, hr0, hy1, newRow]
      · exact .slice (fun _ => undef) (by simp [chunk]) (by simp [chunk]) (by simp [chunk]) (by simp [chunk]) rfl
    · obtain ⟨le, inv⟩ := i.newImm (NewBlk.alloc w (.cells ys e')) hone
      refine ⟨_, _, _, run_buildSlice w t e' len ps ys ie z hu hie hzz (by rw [← hsz, ← hc1]; omega) (by rw [← hsz, ← hc1]; have := Nat.mul_pos (Nat.pos_of_ne_zero hlen) hc2; omega) hy1, le, inv, ?_⟩
      have hl : (chunk (S.P.cellsOf e') len r).length = len := length_chunk _ _ _
      have hI : ∀ k, k < r.length → (g.addI w.heap.size ys).I w.heap.size (0 + k) = some (ys.getD k undef) := by
        intro k hk
        show (if w.heap.size = w.heap.size then ys[0 + k]? else _) = _
        rw [if_pos rfl, Nat.zero_add]
        have : k < ys.size := by rw [hy2.1]; exact hk
        simp [this]
      have := Rep.slice (g := g.addI w.heap.size ys) (sz := S.P.cellsOf e') (els := chunk (S.P.cellsOf e') len r) (tok := .fixed) (b := w.heap.size) (o := 0) (cap := len) (fun k => ys.getD k undef)
        (fun k hk => hI k (by rw [hl] at hk; rw [hrl, hc1]; exact hk))
        (fun k e0 he => by rw [get_chunk _ _ _ _ _ he]; simp; omega)
        (fun k j e0 v he hv => by
          rw [get_chunk _ _ _ _ _ he, List.getElem?_take] at hv
          split at hv
          case isFalse => cases hv
          rw [List.getElem?_drop] at hv
          exact (hy2.2 _ v hv).mono le)
        (by rw [hl]; omega) (by rw [hl]; exact rfl)
      rw [hl] at this
      exact this
end Go.Proofs.YtajknofacjiddaaDoor.Abs

/- All operations that turn no memory of the call's own, in one function. -/
namespace Go.Proofs.YtajknofacjiddaaDoor.Abs
open Go Go.RowKit
set_option linter.unusedVariables false
set_option linter.unusedSimpArgs false

def alen (S : Seat) (t : Option TypeId) (x : AV) (h : AHeap) : Option AV :=
  match t.bind S.P.underlying, x with
  | some (.slice _), .slice _ els _ => some (.int .i64 els.length)
  | some (.slice _), .row _ _ len _ _ => some (.int .i64 len)
  | some .string, .str s => some (.int .i64 s.size)
  | some (.map _ _), .nilmap => some (.int .i64 0)
  | some (.map _ _), .map id => match h.get id with
    | some (.map _ es) => some (.int .i64 es.length)
    | _ => none
  | some (.array n _), _ => some (.int .i64 n)
  | _, _ => none
theorem alen_sound {S : Seat} {w0 : World} {h : AHeap} {g : Ghost} {w : World} (i : Inv S w0 h g w) {ts : Array TypeId} {ty : TypeId} {x v : AV} {xs : Array Value} (hx : Rep g x (xs.getD 0 undef)) (hn : xs.size ≠ 0) (e : alen S ts[0]? x h = some v) :
    ∃ y, (Builtin.len_ ts ty xs).run S.P w = .ok y w ∧ Rep g v y := by
  unfold alen at e
  have h0 : xs[0]? = some (xs.getD 0 undef) := by
    have : 0 < xs.size := by omega
    simp [Array.getD, this]
  generalize xs.getD 0 undef = y at hx h0
  cases ht : ts[0]? with
  | none => rw [ht] at e; simp at e
  | some t =>
    rw [ht] at e
    simp only [Option.bind_some] at e
    unfold Builtin.len_
    simp only [ht, h0]
    split at e
    case h_7 => cases e
    all_goals (rename_i hu)
    · cases e
      obtain ⟨a, c, rfl⟩ := rep_slice_shape hx
      exact ⟨_, by simp only [Sem.run_bind, run_underlying hu, Result.andThen_ok, Sem.run_pure, goInt], .int _ _⟩
    · cases e
      cases hx
      exact ⟨_, by simp only [Sem.run_bind, run_underlying hu, Result.andThen_ok, Sem.run_pure, goInt], .int _ _⟩
    · cases e
      cases hx
      exact ⟨_, by simp only [Sem.run_bind, run_underlying hu, Result.andThen_ok, Sem.run_pure, goInt], .int _ _⟩
    · cases e
      cases hx
      exact ⟨_, by simp only [Sem.run_bind, run_underlying hu, Result.andThen_ok, Sem.run_pure, goInt], .int _ _⟩
    · split at e
      case h_2 => cases e
      rename_i clk es ho
      cases e
      cases hx
      rename_i b hb
      obtain ⟨b', hb', ms, h1, h2, h3⟩ := i.obj _ _ ho
      cases hb.symm.trans hb'
      refine ⟨_, by simp only [Sem.run_bind, run_underlying hu, Result.andThen_ok, MapKept.run_getObj_map (P := S.P) h1, Sem.run_pure, goInt]; rfl, ?_⟩
      rw [h2]
      exact .int _ _
    · cases e
      exact ⟨_, by simp only [Sem.run_bind, run_underlying hu, Result.andThen_ok, Sem.run_pure, goInt], .int _ _⟩

/-- The greater, the smaller of integers. -/
def amm (mx : Bool) : List AV → Option AV
  | [] => none
  | [x] => match x with | .int k a => some (.int k a) | _ => none
  | x :: y :: rest => match x, y with
    | .int k a, .int _ b => amm mx (.int k (if mx then (if b > a then b else a) else (if b < a then b else a)) :: rest)
    | _, _ => none
  termination_by l => l.length
theorem repl_getD {g : Ghost} {vs : List AV} {xs : List Value} (hl : xs.length = vs.length) (h : ∀ (i : Nat) v x, vs[i]? = some v → xs[i]? = some x → Rep g v x) (v : AV) (vs' : List AV) (e : vs = v :: vs') : ∃ x xs', xs = x :: xs' ∧ Rep g v x ∧ xs'.length = vs'.length ∧ ∀ (i : Nat) v x, vs'[i]? = some v → xs'[i]? = some x → Rep g v x := by
  subst e
  cases xs with
  | nil => simp at hl
  | cons x xs' => exact ⟨x, xs', rfl, h 0 _ _ rfl rfl, by simpa using hl, fun i v x h1 h2 => h (i + 1) v x (by simpa using h1) (by simpa using h2)⟩
theorem amm_max {S : Seat} {g : Ghost} {w : World} : ∀ (n : Nat) (vs : List AV) (x : Value) (xs : List Value) (v0 v : AV), vs.length = n → Rep g v0 x → xs.length = vs.length → (∀ (i : Nat) v x, vs[i]? = some v → xs[i]? = some x → Rep g v x) → amm true (v0 :: vs) = some v →
    ∃ y, (xs.foldlM Builtin.max2 x).run S.P w = .ok y w ∧ Rep g v y := by
  intro n
  induction n with
  | zero =>
    intro vs x xs v0 v hn h0 hl _ e
    have : vs = [] := List.eq_nil_of_length_eq_zero hn
    subst this
    have : xs = [] := by simpa using hl
    subst this
    unfold amm at e
    split at e
    · cases e; exact ⟨x, rfl, h0⟩
    · cases e
  | succ n ih =>
    intro vs x xs v0 v hn h0 hl hr e
    cases vs with
    | nil => simp at hn
    | cons v1 vs =>
      obtain ⟨x1, xs', rfl, h1, hl', hr'⟩ := repl_getD hl hr v1 vs rfl
      unfold amm at e
      split at e
      case h_2 => cases e
      cases h0; cases h1
      simp only [List.foldlM_cons, Sem.run_bind, Builtin.max2, Sem.run_pure, Result.andThen_ok]
      exact ih vs _ xs' _ v (by simpa using hn) (by simpa using Rep.int _ _) hl' hr' e
theorem amm_min {S : Seat} {g : Ghost} {w : World} : ∀ (n : Nat) (vs : List AV) (x : Value) (xs : List Value) (v0 v : AV), vs.length = n → Rep g v0 x → xs.length = vs.length → (∀ (i : Nat) v x, vs[i]? = some v → xs[i]? = some x → Rep g v x) → amm false (v0 :: vs) = some v →
    ∃ y, (xs.foldlM Builtin.min2 x).run S.P w = .ok y w ∧ Rep g v y := by
  intro n
  induction n with
  | zero =>
    intro vs x xs v0 v hn h0 hl _ e
    have : vs = [] := List.eq_nil_of_length_eq_zero hn
    subst this
    have : xs = [] := by simpa using hl
    subst this
    unfold amm at e
    split at e
    · cases e; exact ⟨x, rfl, h0⟩
    · cases e
  | succ n ih =>
    intro vs x xs v0 v hn h0 hl hr e
    cases vs with
    | nil => simp at hn
    | cons v1 vs =>
      obtain ⟨x1, xs', rfl, h1, hl', hr'⟩ := repl_getD hl hr v1 vs rfl
      unfold amm at e
      split at e
      case h_2 => cases e
      cases h0; cases h1
      simp only [List.foldlM_cons, Sem.run_bind, Builtin.min2, Sem.run_pure, Result.andThen_ok]
      exact ih vs _ xs' _ v (by simpa using hn) (by simpa using Rep.int _ _) hl' hr' e

/-! Conversions -/
def bytesAV (s : ByteArray) : AV := .slice 1 (s.data.toList.map fun b => [.int .u8 b.toNat]) .unk
def aconvert (S : Seat) (src dst : TypeId) (x : AV) : Option AV :=
  match S.P.underlying src, S.P.underlying dst, x with
  | some _, some (.int k), .int _ n => some (.int k (k.wrap n))
  | some _, some .string, .str s => some (.str s)
  | some _, some (.slice e), .str s => match S.P.underlying e with
    | some (.int .u8) => if s.size ≤ 140737488355328 then some (bytesAV s) else none
    | _ => none
  | _, _, _ => none
theorem aconvert_sound {S : Seat} {w0 : World} {h : AHeap} {g : Ghost} {w : World} (i : Inv S w0 h g w) {src dst : TypeId} {x v : AV} {y : Value} (hx : Rep g x y) (e : aconvert S src dst x = some v) :
    ∃ z w' g', (convert src dst y).run S.P w = .ok z w' ∧ g.le g' ∧ Inv S w0 h g' w' ∧ Rep g' v z := by
  unfold aconvert at e
  split at e
  case h_4 => cases e
  · rename_i d k _ n hs hd
    cases e
    cases hx
    refine ⟨_, w, g, ?_, Ghost.le.refl g, i, .int _ _⟩
    unfold convert
    simp only [Sem.run_bind, run_underlying hs, run_underlying hd, Result.andThen_ok, Conv.intToInt, Sem.run_pure]
  · rename_i d s hs hd
    cases e
    cases hx
    refine ⟨_, w, g, ?_, Ghost.le.refl g, i, .str _⟩
    unfold convert
    simp only [Sem.run_bind, run_underlying hs, run_underlying hd, Result.andThen_ok, Sem.run_pure]
  · rename_i d el s hs hd
    split at e
    case h_2 => cases e
    rename_i hel
    split at e
    case isFalse => cases e
    rename_i hsz
    cases e
    cases hx
    let cap := (Question.appendCap s.size 0 el).cut (w.tape w.drawn (.appendCap s.size 0 el))
    have hcap : s.size ≤ cap := by simp only [cap, Question.cut]; omega
    let arr : Array Value := (s.data.map fun b => Value.int .u8 b.toNat) ++ Array.replicate (cap - s.size) (.int .u8 0)
    have hrun : (convert src dst (.string s)).run S.P w = .ok (.slice (some ⟨w.heap.size, 0, none⟩) s.size cap) (((w.drew).alloc (.cells arr el)).freeze ⟨w.heap.size, arr.size, none⟩ 1) := by
      unfold convert
      simp only [Sem.run_bind, run_underlying hs, run_underlying hd, Result.andThen_ok, run_underlying hel, Conv.stringToBytes, run_choose, Question.forced, Bool.false_eq_true, if_false, newRow, run_newObj, Sem.run_pure, markStringish, run_shape]
      have hsh : ({ { w with drawn := w.drawn + 1 } with heap := w.heap.push (.cells ((s.data.map fun b => Value.int .u8 b.toNat) ++ Array.replicate ((Question.appendCap s.size 0 el).cut (w.tape w.drawn (.appendCap s.size 0 el)) - s.size) (.int .u8 0)) el) } : World).shape? w.heap.size = some (el, arr.size) := by
        simp [World.shape?, arr, cap]
      simp only [hsh, run_freeze]
      rfl
    have hnb : NewBlk w (((w.drew).alloc (.cells arr el)).freeze ⟨w.heap.size, arr.size, none⟩ 1) (.cells arr el (arr.size, arr.size + 1)) := by
      refine ⟨rfl, rfl, rfl, ?_⟩
      simp only [World.freeze, Nat.one_ne_zero, if_false, World.alloc, World.drew]
      apply Array.ext_getElem?
      intro k
      rw [Array.getElem?_modify]
      by_cases hk : w.heap.size = k
      · subst hk; simp
      · rw [if_neg hk]
        have hk2 : ¬ k = w.heap.size := fun q => hk q.symm
        simp [Array.getElem?_push, hk2]
    obtain ⟨le, inv⟩ := i.newImm hnb (fun k y hk => by
      have hm : y ∈ arr := Array.mem_of_getElem? hk
      simp only [arr, Array.mem_append, Array.mem_map, Array.mem_replicate] at hm
      rcases hm with ⟨b, _, rfl⟩ | ⟨_, rfl⟩ <;> rfl)
    refine ⟨_, _, _, hrun, le, inv, ?_⟩
    have hl : (s.data.toList.map fun b => [AV.int .u8 b.toNat]).length = s.size := by simp
    have hget : ∀ k, k < s.size → arr[k]? = some (.int .u8 (s.data.toList.getD k 0).toNat) := by
      intro k hk
      have hk' : k < s.data.size := hk
      have hk2 : s.data[k]? = some (s.data[k]'hk') := Array.getElem?_eq_getElem hk'
      simp [arr, Array.getElem?_append, hk, hk2]
    have := Rep.slice (g := g.addI w.heap.size arr) (sz := 1) (els := s.data.toList.map fun b => [AV.int .u8 b.toNat]) (tok := .unk) (b := w.heap.size) (o := 0) (cap := cap) (fun k => .int .u8 (s.data.toList.getD k 0).toNat)
      (fun k hk => by
        rw [hl] at hk
        show (if w.heap.size = w.heap.size then arr[0 + k]? else _) = _
        rw [if_pos rfl, Nat.zero_add]
        exact hget k (by omega))
      (fun k e0 he => by
        rw [List.getElem?_map] at he
        cases hq : s.data.toList[k]? with
        | none => simp [hq] at he
        | some b => rw [hq] at he; cases he; simp)
      (fun k j e0 v he hv => by
        rw [List.getElem?_map] at he
        cases hq : s.data.toList[k]? with
        | none => simp [hq] at he
        | some b =>
          rw [hq] at he
          cases he
          cases j with
          | succ j => simp at hv
          | zero =>
            cases hv
            have : s.data.toList.getD (k * 1 + 0) 0 = b := by simp [List.getD, hq]
            rw [this]
            exact .int _ _)
      (by rw [hl]; exact hcap) trivial
    rw [hl] at this
    exact this
end Go.Proofs.YtajknofacjiddaaDoor.Abs

/- The quiet operations in one function, and that the model does as it says. -/
namespace Go.Proofs.YtajknofacjiddaaDoor.Abs
open Go Go.RowKit
set_option linter.unusedVariables false
set_option linter.unusedSimpArgs false

def aun (op : UnOp) (x : AV) : Option AV :=
  match op, x with
  | .not, .bool b => some (.bool (!b))
  | .neg, .int k n => some (.int k (k.wrap (0 - n)))
  | .xor, .int k n => some (.int k (k.wrap (BitVec.ofInt k.bits (if k.signed then -1 else k.max) ^^^ BitVec.ofInt k.bits n).toNat))
  | _, _ => none
def apick (t : Bool) (x y : AV) : AV :=
  match x, y with
  | .bool a, .bool b => .bool (if t then a else b)
  | .int k a, .int k' b => if k = k' then .int k (if t then a else b) else if t then .int k a else .int k' b
  | .str a, .str b => .str (if t then a else b)
  | x, y => if t then x else y
def anilCheck : AV → Option AV
  | .ptr i o => some (.ptr i o)
  | .cptr cs => some (.cptr cs)
  | .func f cs => some (.func f cs)
  | _ => none
def aparts (ρ : Operand → AV) (ps : Array (Nat × Operand)) : List (Nat × AV) := ps.toList.map fun p => (p.1, ρ p.2)
def amakeIface (S : Seat) (t : TypeId) (x : AV) : Option AV :=
  match S.P.underlying t with
  | some (.interface _) | none => none
  | some _ => some (.iface t x)
def aextract (x : AV) (i : Nat) : Option AV :=
  match x with
  | .tup vs => vs[i]?
  | _ => none
def abuiltin (S : Seat) (b : Builtin) (ts : Array TypeId) (args : List AV) (h : AHeap) : Option AV :=
  match b with
  | .len => match args with | x :: _ => alen S ts[0]? x h | [] => none
  | .max => amm true args
  | .min => amm false args
  | _ => none
def aq (S : Seat) (op : Op) (ρ : Operand → AV) (h : AHeap) : Option AV :=
  match op with
  | .move x | .assign x => some (ρ x)
  | .pick c a b => match ρ c with
    | .bool t => some (apick t (ρ a) (ρ b))
    | _ => none
  | .load t a => aload S t (ρ a) h
  | .nilCheck x => anilCheck (ρ x)
  | .binOp op t x y _ => abin S op t (ρ x) (ρ y)
  | .unOp op _ x => aun op (ρ x)
  | .convert s d x => aconvert S s d (ρ x)
  | .makeFunc (.func f) first caps => if first.size = 0 then some (.func f (caps.toList.map ρ)) else none
  | .makeInterface t x => amakeIface S t (ρ x)
  | .fieldAddr s x f => afieldAddr S s (ρ x) f
  | .field s x f => afield S s (ρ x) f
  | .indexAddr t x i => aindexAddr S t (ρ x) (ρ i)
  | .index t x i => aindex S t (ρ x) (ρ i)
  | .lookup t x i ok => alookup S t (ρ x) (ρ i) ok h
  | .extract t i => aextract (ρ t) i
  | .slice t x lo hi mx => aslice S t (ρ x) (lo.map ρ) (hi.map ρ) (mx.map ρ)
  | .build t ps => abuild S t (aparts ρ ps)
  | .buildSlice t n ps => abuildSlice S t n (aparts ρ ps)
  | .call { callee := .builtin b, args, argTypes } => abuiltin S b argTypes (args.toList.map ρ) h
  | _ => none

theorem apick_rep {g : Ghost} {t : Bool} {u v : AV} {x y : Value} (hu : Rep g u x) (hv : Rep g v y) : Rep g (apick t u v) (if t then x else y) := by
  unfold apick
  split
  · cases hu; cases hv; cases t <;> exact .bool _
  · cases hu; cases hv
    split
    · rename_i hk; subst hk; cases t <;> exact .int _ _
    · cases t
      · exact .int _ _
      · exact .int _ _
  · cases hu; cases hv; cases t <;> exact .str _
  · cases t
    · exact hv
    · exact hu
theorem aun_sound {S : Seat} {g : Ghost} {w : World} {op : UnOp} {x v : AV} {y : Value} (hx : Rep g x y) (e : aun op x = some v) : ∃ z, (Op.unary op y).run S.P w = .ok z w ∧ Rep g v z := by
  unfold aun at e
  split at e <;> cases e <;> cases hx
  · exact ⟨_, rfl, .bool _⟩
  · exact ⟨_, rfl, .int _ _⟩
  · exact ⟨_, rfl, .int _ _⟩
theorem parts_rep {g : Ghost} {ρ : Operand → AV} {e : Operand → Value} {ps : Array (Nat × Operand)} (hr : ∀ p ∈ ps.toList, Rep g (ρ p.2) (e p.2)) : PartsRep g (aparts ρ ps) (ps.map fun (i, x) => (i, e x)).toList := by
  refine ⟨by simp [aparts], fun i p q hp hq => ?_⟩
  unfold aparts at hp
  rw [List.getElem?_map] at hp
  rw [Array.toList_map, List.getElem?_map] at hq
  cases hps : ps.toList[i]? with
  | none => simp [hps] at hp
  | some r =>
    rw [hps] at hp hq
    cases hp
    cases hq
    exact ⟨rfl, hr r (List.mem_of_getElem? hps)⟩
theorem list_rep {g : Ghost} {ρ : Operand → AV} {e : Operand → Value} {xs : Array Operand} (hr : ∀ x ∈ xs.toList, Rep g (ρ x) (e x)) : RepL g (xs.toList.map ρ) (xs.map e) := by
  refine ⟨by simp, fun i v hv => ?_⟩
  rw [List.getElem?_map] at hv
  cases hx : xs.toList[i]? with
  | none => simp [hx] at hv
  | some x =>
    rw [hx] at hv
    cases hv
    have hi : i < xs.size := by have := (List.getElem?_eq_some_iff.1 hx).1; simpa using this
    have hx' : xs[i] = x := by have := (List.getElem?_eq_some_iff.1 hx).2; simpa using this
    have : (xs.map e).getD i undef = e x := by simp [Array.getD, hi, hx']
    rw [this]
    exact hr x (List.mem_of_getElem? hx)
theorem opt_rep {g : Ghost} {ρ : Operand → AV} {e : Operand → Value} (x : Option Operand) (hr : ∀ y ∈ x.toArray.toList, Rep g (ρ y) (e y)) :
    match x.map ρ, x.map e with | none, none => True | some v, some x => Rep g v x | _, _ => False := by
  cases x with
  | none => trivial
  | some y => exact hr y (by simp)

theorem aq_sound {S : Seat} {w0 : World} {h : AHeap} {g : Ghost} {w : World} (i : Inv S w0 h g w) {o : Oper} {ρ : Operand → AV} {e : Operand → Value} (hr : ∀ x ∈ o.op.operands.toList, Rep g (ρ x) (e x)) {v : AV} (ha : aq S o.op ρ h = some v) :
    ∃ y w' g', (execOp e o).run S.P w = .ok (.value y) w' ∧ g.le g' ∧ Inv S w0 h g' w' ∧ Rep g' v y := by
  have still : ∀ {s : Sem Value} {v : AV}, (∃ y, s.run S.P w = .ok y w ∧ Rep g v y) → ∃ y w' g', ((do pure (Next.value (← s)) : Sem Next)).run S.P w = .ok (.value y) w' ∧ g.le g' ∧ Inv S w0 h g' w' ∧ Rep g' v y := by
    intro s v ⟨y, h1, h2⟩
    exact ⟨y, w, g, by simp only [Sem.run_bind, h1, Result.andThen_ok, Sem.run_pure], Ghost.le.refl g, i, h2⟩
  have moved : ∀ {s : Sem Value} {v : AV}, (∃ y w' g', s.run S.P w = .ok y w' ∧ g.le g' ∧ Inv S w0 h g' w' ∧ Rep g' v y) → ∃ y w' g', ((do pure (Next.value (← s)) : Sem Next)).run S.P w = .ok (.value y) w' ∧ g.le g' ∧ Inv S w0 h g' w' ∧ Rep g' v y := by
    intro s v ⟨y, w', g', h1, h2⟩
    exact ⟨y, w', g', by simp only [Sem.run_bind, h1, Result.andThen_ok, Sem.run_pure], h2⟩
  unfold execOp
  unfold aq at ha
  cases hop : o.op <;> rw [hop] at ha hr <;> simp only [Op.operands, List.mem_cons, List.not_mem_nil, or_false, forall_eq_or_imp, forall_eq, Array.toList_append, List.mem_append] at hr <;> simp only at ha ⊢ <;> (try (cases ha; done))
  case move x => cases ha; exact ⟨_, w, g, rfl, Ghost.le.refl g, i, hr⟩
  case assign x => cases ha; exact ⟨_, w, g, rfl, Ghost.le.refl g, i, hr⟩
  case pick c a b =>
    obtain ⟨h1, h2, h3⟩ := hr
    split at ha
    case h_2 => cases ha
    rename_i t ht
    cases ha
    rw [ht] at h1
    generalize e c = y at h1
    cases h1
    exact ⟨_, w, g, by simp only [Sem.run_bind, asBool, Sem.run_pure, Result.andThen_ok], Ghost.le.refl g, i, apick_rep h2 h3⟩
  case build t ps => exact still (abuild_sound (parts_rep (fun p hp => hr _ (List.mem_map.2 ⟨p, hp, rfl⟩))) ha)
  case buildSlice t n ps => exact moved (abuildSlice_sound i (parts_rep (fun p hp => hr _ (List.mem_map.2 ⟨p, hp, rfl⟩))) ha)
  case load t a => exact still (aload_sound i hr ha)
  case nilCheck x =>
    unfold anilCheck at ha
    generalize e x = y at hr
    split at ha <;> (try (cases ha; done)) <;> rename_i hx <;> rw [hx] at hr <;> cases ha <;> cases hr <;> exact ⟨_, w, g, rfl, Ghost.le.refl g, i, by first | exact .ptr ‹_› | exact .cptr _ ‹_› ‹_› | exact .func ‹_› ‹_›⟩
  case binOp op t x y yt => exact still (abin_sound x y w hr.1 hr.2 ha)
  case unOp op t x => exact still (aun_sound hr ha)
  case convert s d x => exact moved (aconvert_sound i hr ha)
  case makeInterface t x =>
    unfold amakeIface at ha
    refine still ?_
    split at ha <;> (try (cases ha; done))
    rename_i d hd hu
    cases ha
    refine ⟨_, ?_, .iface hr⟩
    unfold Instr.makeInterface
    simp only [Sem.run_bind, run_underlying hu, Result.andThen_ok]
    cases d <;> (first | rfl | exact absurd rfl (hd _))
  case makeFunc fn first caps =>
    cases fn <;> simp only at ha <;> (try (cases ha; done))
    split at ha
    case isFalse => cases ha
    rename_i hf
    cases ha
    have hfe : first = #[] := Array.eq_empty_of_size_eq_zero hf
    subst hfe
    refine still ⟨_, rfl, ?_⟩
    have := list_rep (g := g) (ρ := ρ) (e := e) (xs := caps) (fun x hx => hr x (.inr hx))
    simp only [List.map_toArray, List.map_nil, Array.map_empty]
    exact .func this.1 this.2
  case slice t x lo hi mx =>
    have h0 : Rep g (ρ x) (e x) := hr x (by simp)
    exact still (aslice_sound h0 (opt_rep lo (fun y hy => hr y (by simp at hy ⊢; simp [hy]))) (opt_rep hi (fun y hy => hr y (by simp at hy ⊢; simp [hy]))) (opt_rep mx (fun y hy => hr y (by simp at hy ⊢; simp [hy]))) ha)
  case fieldAddr s x f => exact still (afieldAddr_sound hr ha)
  case field s x f => exact still (afield_sound hr ha)
  case indexAddr t x ix => exact still (aindexAddr_sound hr.1 hr.2 ha)
  case index t x ix => exact still (aindex_sound hr.1 hr.2 ha)
  case lookup t x ix ok => exact still (alookup_sound i hr.1 hr.2 ha)
  case extract t ix =>
    unfold aextract at ha
    split at ha
    case h_2 => cases ha
    rename_i vs ht
    rw [ht] at hr
    generalize e t = y at hr
    cases hr
    rename_i xs hs hR
    obtain ⟨x, hx, hxr⟩ := RepL.get (vs := vs) (xs := xs) ⟨hs, hR⟩ ha
    refine still ⟨x, ?_, hxr⟩
    unfold Instr.extract
    simp only [hx]
    rfl
  case call c =>
    obtain ⟨cal, args, ts⟩ := c
    cases cal <;> simp only at ha <;> (try (cases ha; done))
    rename_i b
    have hl := list_rep (g := g) (ρ := ρ) (e := e) (xs := args) (fun x hx => hr x (by simp [Call.operands]; simpa using hx))
    unfold abuiltin at ha
    cases b <;> simp only at ha <;> (try (cases ha; done))
    · cases hargs : args.toList.map ρ with
      | nil => rw [hargs] at ha; cases ha
      | cons x vs =>
        rw [hargs] at ha hl
        have h0 : Rep g x ((args.map e).getD 0 undef) := hl.2 0 x rfl
        have hne : (args.map e).size ≠ 0 := by rw [hl.1]; simp
        obtain ⟨y, hy, hyr⟩ := alen_sound (ty := o.type) i h0 hne ha
        refine ⟨y, w, g, ?_, Ghost.le.refl g, i, hyr⟩
        simp only [resolve, Sem.run_bind, Sem.run_pure, Result.andThen_ok, invoke, builtin, hy]
    · cases hargs : args.toList.map ρ with
      | nil => rw [hargs] at ha; unfold amm at ha; cases ha
      | cons x vs =>
        rw [hargs] at ha hl
        have hls : (args.map e).toList.length = (x :: vs).length := by have := hl.1; simpa using this
        obtain ⟨x0, xs', hxs, h1, h2, h3⟩ := repl_getD hls (fun i v x hv hx => by
          have := hl.2 i v hv
          have hx' : (args.map e)[i]? = some x := by simpa using hx
          simpa [hx'] using this) x vs rfl
        obtain ⟨y, hy, hyr⟩ := amm_max (S := S) (w := w) vs.length vs x0 xs' x v rfl h1 h2 h3 ha
        refine ⟨y, w, g, ?_, Ghost.le.refl g, i, hyr⟩
        simp only [resolve, Sem.run_bind, Sem.run_pure, Result.andThen_ok, invoke, builtin, Builtin.max_, hxs, hy]
    · cases hargs : args.toList.map ρ with
      | nil => rw [hargs] at ha; unfold amm at ha; cases ha
      | cons x vs =>
        rw [hargs] at ha hl
        have hls : (args.map e).toList.length = (x :: vs).length := by have := hl.1; simpa using this
        obtain ⟨x0, xs', hxs, h1, h2, h3⟩ := repl_getD hls (fun i v x hv hx => by
          have := hl.2 i v hv
          have hx' : (args.map e)[i]? = some x := by simpa using hx
          simpa [hx'] using this) x vs rfl
        obtain ⟨y, hy, hyr⟩ := amm_min (S := S) (w := w) vs.length vs x0 xs' x v rfl h1 h2 h3 ha
        refine ⟨y, w, g, ?_, Ghost.le.refl g, i, hyr⟩
        simp only [resolve, Sem.run_bind, Sem.run_pure, Result.andThen_ok, invoke, builtin, Builtin.min_, hxs, hy]
end Go.Proofs.YtajknofacjiddaaDoor.Abs

/- Operations that turn memory: objects that are made and written; slices that grow. -/
namespace Go.Proofs.YtajknofacjiddaaDoor.Abs
open Go Go.RowKit
set_option linter.unusedVariables false
set_option linter.unusedSimpArgs false

/-! New objects -/
def Ghost.addG (g : Ghost) (id nb : Nat) : Ghost := { g with G := fun i => if i = id then some nb else g.G i }
theorem Inv.newObj {S : Seat} {w0 : World} {h : AHeap} {g : Ghost} {w w' : World} (i : Inv S w0 h g w) {ob : Obj} (n : NewBlk w w' ob) {o : AObj} (ho : ∀ g', g.le g' → g'.G h.next = some w.heap.size → ObjRep g' w' w.heap.size o) :
    g.le (g.addG h.next w.heap.size) ∧ Inv S w0 (h.alloc o) (g.addG h.next w.heap.size) w' := by
  have fresh : ∀ {id b}, g.G id = some b → id ≠ h.next := fun hb q => by have := (i.gdom _ _ hb).1; omega
  have le : g.le (g.addG h.next w.heap.size) := ⟨fun id b hb => by show (if id = h.next then some w.heap.size else g.G id) = _; rw [if_neg (fresh hb)]; exact hb, fun _ _ _ h => h, fun _ _ _ h => h⟩
  have hG : ∀ id b, (g.addG h.next w.heap.size).G id = some b → (id = h.next ∧ b = w.heap.size) ∨ (id ≠ h.next ∧ g.G id = some b) := by
    intro id b hb
    change (if id = h.next then some w.heap.size else g.G id) = some b at hb
    by_cases q : id = h.next
    · rw [if_pos q] at hb; cases hb; exact .inl ⟨q, rfl⟩
    · rw [if_neg q] at hb; exact .inr ⟨q, hb⟩
  have notnew : ∀ {b}, b < w.heap.size → (∀ id, g.G id ≠ some b) → ∀ id, (g.addG h.next w.heap.size).G id ≠ some b := by
    intro b hb hn id hid
    rcases hG id b hid with ⟨_, rfl⟩ | ⟨_, q⟩
    · omega
    · exact hn id q
  refine ⟨le, n.below i.below, fun id b hb => ?_, fun id id' b h1 h2 => ?_, fun id o' ho' => ?_, fun b o x hx => ?_, fun t n d hd => i.tdom t n d hd, fun t a cap sz ht hl => ?_, i.tdisj, fun k cs hk => (i.glob k cs hk).mono le, i.base⟩
  · rw [next_alloc, n.size]
    rcases hG id b hb with ⟨rfl, rfl⟩ | ⟨_, q⟩
    · exact ⟨by omega, i.below.size, by omega⟩
    · have := i.gdom id b q; omega
  · rcases hG id b h1 with ⟨rfl, rfl⟩ | ⟨q1, r1⟩ <;> rcases hG id' _ h2 with ⟨rfl, e⟩ | ⟨q2, r2⟩
    · rfl
    · have := (i.gdom _ _ r2).2.2; omega
    · have := (i.gdom _ _ r1).2.2; omega
    · exact i.ginj _ _ _ r1 r2
  · rw [get_alloc] at ho'
    by_cases q : id = h.next
    · rw [if_pos q] at ho'
      cases ho'
      have hn : (g.addG h.next w.heap.size).G h.next = some w.heap.size := by show (if h.next = h.next then some w.heap.size else _) = _; rw [if_pos rfl]
      exact ⟨w.heap.size, by rw [q]; exact hn, ho _ le hn⟩
    · rw [if_neg q] at ho'
      obtain ⟨b, h1, h2⟩ := i.obj id o' ho'
      exact ⟨b, le.G _ _ h1, h2.mono le (n.old (i.gdom id b h1).2.2)⟩
  · obtain ⟨h1, h2, h3⟩ := i.imm b o x hx
    exact ⟨n.cell h1, notnew (i.imm_lt hx) h2, h3⟩
  · have s := i.tok t a cap sz ht hl
    exact s.kept (n.old s.lt) (notnew s.lt s.noG) s.free

/-! Objects that are written -/
structure OneBlk (w w' : World) (b : Nat) : Prop where
  os : w'.os = w.os
  tape : w'.tape = w.tape
  output : w'.output = w.output
  size : w'.heap.size = w.heap.size
  other : ∀ k, k ≠ b → w'.heap[k]? = w.heap[k]?
theorem OneBlk.cell {w w' : World} {b : Nat} (n : OneBlk w w' b) {a : Addr} (ha : a.block ≠ b) : w'.cell? a = w.cell? a := World.cell?_of_block (n.other _ ha)
theorem OneBlk.below {w0 w w' : World} {b : Nat} (n : OneBlk w w' b) (h : Below w0.heap.size w0 w) (hb : w0.heap.size ≤ b) : Below w0.heap.size w0 w' :=
  ⟨n.os.trans h.os, n.tape.trans h.tape, n.output.trans h.output, by rw [n.size]; exact h.size, fun k hk => (n.other k (by omega)).trans (h.block k hk)⟩
theorem Inv.setObj {S : Seat} {w0 : World} {h : AHeap} {g : Ghost} {w w' : World} (i : Inv S w0 h g w) {id b : Nat} (hb : g.G id = some b) (n : OneBlk w w' b) {o : AObj} (hold : (h.get id).isSome = true) (ho : ObjRep g w' b o) : Inv S w0 (h.set id o) g w' := by
  have dom := i.gdom id b hb
  refine ⟨n.below i.below dom.2.1, fun id b hb => ?_, i.ginj, fun id' o' ho' => ?_, fun b' o x hx => ?_, i.tdom, fun t a cap sz ht hl => ?_, i.tdisj, i.glob, i.base⟩
  · rw [next_set, n.size]; exact i.gdom id b hb
  · rw [get_set] at ho'
    by_cases q : id' = id ∧ id < h.next
    · rw [if_pos q] at ho'
      cases ho'
      exact ⟨b, by rw [q.1]; exact hb, ho⟩
    · rw [if_neg q] at ho'
      obtain ⟨b', h1, h2⟩ := i.obj id' o' ho'
      have hne : b' ≠ b := fun e => by
        subst e
        exact q ⟨i.ginj _ _ _ h1 hb, dom.1⟩
      exact ⟨b', h1, h2.mono (Ghost.le.refl g) (n.other _ hne)⟩
  · obtain ⟨h1, h2, h3⟩ := i.imm b' o x hx
    exact ⟨by rw [n.cell (a := ⟨b', o, none⟩) (fun e => h2 id (by rw [hb]; exact congrArg some e.symm))]; exact h1, h2, h3⟩
  · have s := i.tok t a cap sz ht hl
    exact s.kept (n.other _ (fun e => s.noG id (by rw [hb, e]))) s.noG s.free
theorem setRow_one {w : World} {b : Nat} {vs vs' : Array Value} {e : TypeId} {fz : Nat × Nat} (hb : w.heap[b]? = some (.cells vs e fz)) : OneBlk w (w.setRow b vs') b ∧ (w.setRow b vs').heap[b]? = some (.cells vs' e fz) := by
  refine ⟨⟨rfl, rfl, rfl, size_setRow w b vs', fun k hk => ?_⟩, setRow_heap w b vs vs' e fz hb⟩
  have hk2 : ¬ b = k := fun q => hk q.symm
  simp [World.setRow, Array.getElem?_modify, hk2]
theorem setMap_one {w : World} {b : Nat} {ob : Obj} (o' : Obj) (hb : w.heap[b]? = some ob) : OneBlk w { w with heap := w.heap.setIfInBounds b o' } b ∧ ({ w with heap := w.heap.setIfInBounds b o' } : World).heap[b]? = some o' := by
  have := MapKept.heap_set (o' := o') hb
  exact ⟨⟨rfl, rfl, rfl, by simp, fun k hk => this.2 k hk⟩, this.1⟩

/-! What each of them gives -/
def aalloc (S : Seat) (t : TypeId) (h : AHeap) : Option (AV × AHeap) :=
  match (azero S t).bind acs with
  | some zs => some (.ptr h.next 0, h.alloc (.cells zs))
  | none => none
def abox (x : AV) (h : AHeap) : Option (AV × AHeap) :=
  match acs x with
  | some cs => some (.ptr h.next 0, h.alloc (.cells cs))
  | none => none
def amakeMap (S : Seat) (t : TypeId) (r : Option AV) (h : AHeap) : Option (AV × AHeap) :=
  match r with
  | none => some (.map h.next, h.alloc (.map 0 []))
  | some (.int _ _) => match S.P.underlying t with
    | some (.map _ _) => some (.map h.next, h.alloc (.map 0 []))
    | _ => none
  | _ => none
def astore (S : Seat) (t : TypeId) (p x : AV) (h : AHeap) : Option AHeap :=
  match p, acs x with
  | .ptr id off, some vs => match h.get id with
    | some (.cells cs) => if (S.P.info? t).isSome ∧ vs.length = S.P.cellsOf t ∧ off + vs.length ≤ cs.length ∧ vs.all acell then some (h.set id (.cells (asplice cs off vs))) else none
    | _ => none
  | _, _ => none
def amapPut (clk : Nat) (es : List AEnt) (k x : AV) : Option AObj :=
  match afind k es 0 with
  | some (some (i, _)) => some (.map clk (es.set i { born := ((es[i]?).map AEnt.born).getD 0, key := k, val := x }))
  | some none => some (.map (clk + 1) (es ++ [{ born := clk, key := k, val := x }]))
  | none => none
def amapUpdate (S : Seat) (t : TypeId) (m k x : AV) (h : AHeap) : Option AHeap :=
  match S.P.underlying t, m with
  | some (.map kt _), .map id => if keyOk (S.P.underlying kt) k then
      (match h.get id with
      | some (.map clk es) => (amapPut clk es k x).map (h.set id)
      | _ => none)
    else none
  | _, _ => none
def adelete (S : Seat) (t : Option TypeId) (m k : AV) (h : AHeap) : Option AHeap :=
  match t.bind S.P.underlying, m with
  | some (.map kt _), .nilmap => if keyOk (S.P.underlying kt) k then some h else none
  | some (.map kt _), .map id => if keyOk (S.P.underlying kt) k then
      (match h.get id with
      | some (.map clk es) => match afind k es 0 with
        | some (some (i, _)) => some (h.set id (.map clk (es.eraseIdx i)))
        | some none => some h
        | none => none
      | _ => none)
    else none
  | _, _ => none

theorem aalloc_sound {S : Seat} {w0 : World} {h : AHeap} {g : Ghost} {w : World} (i : Inv S w0 h g w) {t : TypeId} {v : AV} {h' : AHeap} (e : aalloc S t h = some (v, h')) :
    ∃ y w' g', (Instr.alloc t true (.tuple #[])).run S.P w = .ok y w' ∧ g.le g' ∧ Inv S w0 h' g' w' ∧ Rep g' v y := by
  unfold aalloc at e
  split at e
  case h_2 => cases e
  rename_i zs hz
  cases e
  obtain ⟨zv, hzv, hza⟩ := Option.bind_eq_some_iff.1 hz
  obtain ⟨ie, z, hie, hzz, rfl⟩ := azero_parts hzv
  have hzr : RepL g zs z.cells := acs_rep (ofValue_rep g z) hza
  obtain ⟨le, inv⟩ := i.newObj (o := .cells zs) (NewBlk.alloc w (.cells z.cells t)) (fun g' l _ => ⟨z.cells, t, (NewBlk.alloc w _).new, hzr.mono l⟩)
  refine ⟨.pointer (some ⟨w.heap.size, 0, none⟩), _, _, ?_, le, inv, .ptr (by show (if h.next = h.next then some w.heap.size else _) = _; rw [if_pos rfl])⟩
  simp [Instr.alloc, zeroValue, typeInfo, hie, hzz, newVar, newRow]
theorem abox_sound {S : Seat} {w0 : World} {h : AHeap} {g : Ghost} {w : World} (i : Inv S w0 h g w) {t : TypeId} {x v : AV} {z : Value} {h' : AHeap} (hx : Rep g x z) (e : abox x h = some (v, h')) :
    ∃ y w' g', (Instr.box t z).run S.P w = .ok y w' ∧ g.le g' ∧ Inv S w0 h' g' w' ∧ Rep g' v y := by
  unfold abox at e
  split at e
  case h_2 => cases e
  rename_i cs hc
  cases e
  have hzr : RepL g cs z.cells := acs_rep hx hc
  obtain ⟨le, inv⟩ := i.newObj (o := .cells cs) (NewBlk.alloc w (.cells z.cells t)) (fun g' l _ => ⟨z.cells, t, (NewBlk.alloc w _).new, hzr.mono l⟩)
  refine ⟨.pointer (some ⟨w.heap.size, 0, none⟩), _, _, ?_, le, inv, .ptr (by show (if h.next = h.next then some w.heap.size else _) = _; rw [if_pos rfl])⟩
  simp [Instr.box, newVar, newRow]
theorem amakeMap_sound {S : Seat} {w0 : World} {h : AHeap} {g : Ghost} {w : World} (i : Inv S w0 h g w) {t : TypeId} {r : Option AV} {r' : Option Value} {v : AV} {h' : AHeap} (hr : match r, r' with | none, none => True | some v, some x => Rep g v x | _, _ => False) (e : amakeMap S t r h = some (v, h')) :
    ∃ y w' g', (Instr.makeMap t r').run S.P w = .ok y w' ∧ g.le g' ∧ Inv S w0 h' g' w' ∧ Rep g' v y := by
  obtain ⟨le, inv⟩ := i.newObj (o := .map 0 []) (NewBlk.alloc w (.map #[] 0)) (fun g' l _ => ⟨#[], (NewBlk.alloc w _).new, rfl, fun i e he => by simp at he⟩)
  have hrep : Rep (g.addG h.next w.heap.size) (.map h.next) (.map (some w.heap.size)) := .map (by show (if h.next = h.next then some w.heap.size else _) = _; rw [if_pos rfl])
  unfold amakeMap at e
  split at e
  · cases e
    cases r' with
    | some _ => exact hr.elim
    | none => exact ⟨_, _, _, rfl, le, inv, hrep⟩
  · split at e
    case h_2 => cases e
    rename_i kt et hu
    cases e
    cases r' with
    | none => exact hr.elim
    | some x =>
      cases hr
      refine ⟨_, _, _, ?_, le, inv, hrep⟩
      simp [Instr.makeMap, run_underlying hu, asInt, asIntOf]
  · cases e

theorem repL_splice {g : Ghost} {cs vs : List AV} {xs ys : Array Value} {off : Nat} (h : RepL g cs xs) (k : RepL g vs ys) (hl : off + vs.length ≤ cs.length) :
    RepL g (asplice cs off vs) (xs.toList.take off ++ ys.toList ++ xs.toList.drop (off + ys.toList.length)).toArray := by
  have h1 := h.1
  have h2 := k.1
  refine RepL.of (by simp [asplice]; omega) (fun j u y hu hy => ?_)
  unfold asplice at hu
  by_cases c1 : j < off
  · rw [List.getElem?_append_left (by simp; omega), List.getElem?_append_left (by simp; omega), List.getElem?_take, if_pos c1] at hu
    rw [List.getElem?_append_left (by simp; omega), List.getElem?_append_left (by simp; omega), List.getElem?_take, if_pos c1] at hy
    have := h.2 j u hu
    have hy' : xs[j]? = some y := by simpa using hy
    simpa [hy'] using this
  · by_cases c2 : j < off + vs.length
    · rw [List.getElem?_append_left (by simp; omega), List.getElem?_append_right (by simp; omega)] at hu
      rw [List.getElem?_append_left (by simp; omega), List.getElem?_append_right (by simp; omega)] at hy
      have e1 : (cs.take off).length = off := by simp; omega
      have e2 : (xs.toList.take off).length = off := by simp; omega
      rw [e1] at hu
      rw [e2] at hy
      have := k.2 _ u hu
      have hy' : ys[j - off]? = some y := by simpa using hy
      simpa [hy'] using this
    · rw [List.getElem?_append_right (by simp; omega), List.getElem?_drop] at hu
      rw [List.getElem?_append_right (by simp; omega), List.getElem?_drop] at hy
      have e1 : off + vs.length + (j - (List.take off cs ++ vs).length) = j := by simp; omega
      have e2 : off + ys.toList.length + (j - (List.take off xs.toList ++ ys.toList).length) = j := by simp; omega
      rw [e1] at hu
      rw [e2] at hy
      have := h.2 j u hu
      have hy' : xs[j]? = some y := by simpa using hy
      simpa [hy'] using this
theorem astore_sound {S : Seat} {w0 : World} {h : AHeap} {g : Ghost} {w : World} (i : Inv S w0 h g w) {t : TypeId} {p x : AV} {p' x' : Value} {h' : AHeap} (hp : Rep g p p') (hx : Rep g x x') (e : astore S t p x h = some h') :
    ∃ w', (Instr.storeAt t p' x').run S.P w = .ok () w' ∧ Inv S w0 h' g w' := by
  unfold astore at e
  split at e
  case h_2 => cases e
  rename_i id off vs hvs
  split at e
  case h_2 => cases e
  rename_i cs ho
  split at e
  case isFalse => cases e
  rename_i hc
  obtain ⟨hi, hl, hoff, hall⟩ := hc
  cases e
  cases hp
  rename_i b hb
  obtain ⟨b', hb', xs, ty, h1, h2⟩ := i.obj _ _ ho
  cases hb.symm.trans hb'
  have hv := acs_rep hx hvs
  obtain ⟨ie, hie⟩ := Option.isSome_iff_exists.1 hi
  have hone : ∀ v ∈ x'.cells.toList, v.oneCell' = true := by
    intro v hm
    obtain ⟨k, hk⟩ := List.mem_iff_getElem?.1 hm
    have hk' : k < vs.length := by rw [← hv.1]; have := (List.getElem?_eq_some_iff.1 hk).1; simpa using this
    have h3 := hv.2 k vs[k] (List.getElem?_eq_getElem hk')
    have h4 : x'.cells[k]? = some v := by simpa using hk
    have h5 : x'.cells.getD k undef = v := by simp [h4]
    rw [h5] at h3
    exact acell_one h3 (List.all_eq_true.1 hall _ (List.getElem_mem hk'))
  have hsz : x'.cells.size = vs.length := hv.1
  have hxs : xs.size = cs.length := h2.1
  have hst := run_storeCells_at (P := S.P) b off ty x'.cells.toList 0 xs w h1 (by simp; omega) hone
  simp only [Nat.add_zero] at hst
  obtain ⟨s1, s2⟩ := setRow_one (vs' := (xs.toList.take off ++ x'.cells.toList ++ xs.toList.drop (off + x'.cells.toList.length)).toArray) h1
  refine ⟨_, ?_, i.setObj hb s1 (by rw [ho]; rfl) ⟨_, ty, s2, repL_splice h2 hv (by omega)⟩⟩
  have hsize : (sizeOf t).run S.P w = .ok (S.P.cellsOf t) w := by simp [sizeOf, typeInfo, hie, Program.cellsOf]
  unfold Instr.storeAt storeVar
  simp only [Sem.run_bind, Instr.sureAddr, Sem.run_pure, Result.andThen_ok, hsize]
  rw [Sem.run_ite, if_neg (by omega)]
  exact hst

theorem afind_le {k : AV} : ∀ (es : List AEnt) (i j : Nat) (v : AV), afind k es i = some (some (j, v)) → i ≤ j
  | [], _, _, _, e => by simp [afind] at e
  | e0 :: es, i, j, v, e => by
    simp only [afind] at e
    split at e
    · cases e; exact Nat.le_refl _
    · have := afind_le es (i + 1) j v e; omega
    · cases e
theorem keyEq_value {g : Ghost} {a b : AV} {x y : Value} (ha : Rep g a x) (hb : Rep g b y) (e : akeyEq a b = some true) : x = y := by
  cases ha <;> simp only [akeyEq] at e <;> (try (cases e; done)) <;> cases hb <;> simp only [akeyEq] at e <;> (try (cases e; done))
  · simp at e; rw [e]
  · split at e
    · rename_i hk
      subst hk
      simp at e
      rw [e]
    · cases e
  · simp at e; rw [e]
theorem afind_key {g : Ghost} {k : AV} {x : Value} (hk : Rep g k x) : ∀ (es : List AEnt) (ms : List MapEntry) (i j : Nat) (v : AV), MapRep g es ms → afind k es i = some (some (j, v)) → ∃ m, ms[j - i]? = some m ∧ m.key = x
  | [], ms, i, j, v, hm, e => by simp [afind] at e
  | e0 :: es, ms, i, j, v, hm, e => by
    obtain ⟨m, hm0, hb, hkey, hval⟩ := hm.2 0 e0 rfl
    simp only [afind] at e
    cases hq : akeyEq k e0.key with
    | none => rw [hq] at e; cases e
    | some b =>
      rw [hq] at e
      cases b with
      | true =>
        cases e
        exact ⟨m, by simpa using hm0, (keyEq_value hk hkey hq).symm⟩
      | false =>
        cases ms with
        | nil => simp at hm0
        | cons m' ms =>
          have hrest : MapRep g es ms := ⟨by simpa using hm.1, fun i e he => by simpa using hm.2 (i + 1) e (by simpa using he)⟩
          obtain ⟨m1, q1, q2⟩ := afind_key hk es ms (i + 1) j v hrest e
          have hle : i + 1 ≤ j := afind_le es (i + 1) j v e
          refine ⟨m1, ?_, q2⟩
          have : j - i = (j - (i + 1)) + 1 := by omega
          rw [this, List.getElem?_cons_succ]
          exact q1
theorem mapRep_toList {g : Ghost} {es : List AEnt} {ms : Array MapEntry} (h2 : ms.size = es.length) (h3 : ∀ (i : Nat) (e : AEnt), es[i]? = some e → ∃ m : MapEntry, ms[i]? = some m ∧ m.born = e.born ∧ Rep g e.key m.key ∧ Rep g e.val m.val) : MapRep g es ms.toList :=
  ⟨by simpa using h2, fun i e he => by simpa using h3 i e he⟩
theorem amapUpdate_sound {S : Seat} {w0 : World} {h : AHeap} {g : Ghost} {w : World} (i : Inv S w0 h g w) {t : TypeId} {m k x : AV} {m' k' x' : Value} {h' : AHeap} (hm : Rep g m m') (hk : Rep g k k') (hx : Rep g x x') (e : amapUpdate S t m k x h = some h') :
    ∃ w', (Instr.mapUpdate t m' k' x').run S.P w = .ok () w' ∧ Inv S w0 h' g w' := by
  unfold amapUpdate at e
  split at e
  case h_2 => cases e
  rename_i kt et id hu
  split at e
  case isFalse => cases e
  rename_i hko
  split at e
  case h_2 => cases e
  rename_i clk es ho
  cases hm
  rename_i b hb
  obtain ⟨b', hb', ms, h1, h2, h3⟩ := i.obj _ _ ho
  cases hb.symm.trans hb'
  cases hkt : S.P.underlying kt with
  | none => rw [hkt] at hko; simp [keyOk] at hko
  | some d =>
    rw [hkt] at hko
    have hck := fun (b : Bool) => MapKept.run_checkKey (P := S.P) (w := w) hkt (isKey_of hk hko) b 9999
    have hmr := mapRep_toList h2 h3
    unfold amapPut at e
    cases hf : afind k es 0 with
    | none => rw [hf] at e; cases e
    | some r =>
      rw [hf] at e
      obtain ⟨r', hr', hh⟩ := afind_sound hk hko es ms.toList 0 _ hmr hf
      cases r with
      | none =>
        cases e
        cases r' with
        | some q => exact hh.elim
        | none =>
          obtain ⟨s1, s2⟩ := setMap_one (.map (ms.push { key := k', val := x', born := clk }) (clk + 1)) h1
          refine ⟨_, ?_, i.setObj hb s1 (by rw [ho]; rfl) ⟨_, s2, by simp [h2], fun j e' he => ?_⟩⟩
          · unfold Instr.mapUpdate
            simp only [Sem.run_bind, run_underlying hu, Result.andThen_ok, MapKept.run_getObj_map (P := S.P) h1, hck, MapKept.run_findKey (P := S.P) (w := w) hkt hr', MapKept.run_setObj_map (P := S.P) _ h1]
          · by_cases q : j < es.length
            · rw [List.getElem?_append_left q] at he
              obtain ⟨m, a1, a2⟩ := h3 j e' he
              exact ⟨m, by rw [Array.getElem?_push, if_neg (by omega)]; exact a1, a2⟩
            · rw [List.getElem?_append_right (by omega)] at he
              have : j = es.length := by
                cases hq : j - es.length with
                | zero => omega
                | succ n => rw [hq] at he; simp at he
              subst this
              simp at he
              subst he
              exact ⟨{ key := k', val := x', born := clk }, by rw [← h2]; simp, rfl, hk, hx⟩
      | some p =>
        obtain ⟨j, v⟩ := p
        cases e
        cases r' with
        | none => exact hh.elim
        | some q =>
          obtain ⟨j', y⟩ := q
          obtain ⟨rfl, hv, _, hlt⟩ := hh
          simp only [Nat.sub_zero] at hlt
          obtain ⟨m0, a1, a2, a3, a4⟩ := h3 j es[j] (List.getElem?_eq_getElem hlt)
          have hkey : m0.key = k' := by
            obtain ⟨m1, q1, q2⟩ := afind_key hk es ms.toList 0 j v hmr hf
            have : ms[j]? = some m1 := by simpa using q1
            rw [a1] at this
            cases this
            exact q2
          obtain ⟨s1, s2⟩ := setMap_one (.map (ms.modify j fun e => { e with key := k', val := x' }) clk) h1
          refine ⟨_, ?_, i.setObj hb s1 (by rw [ho]; rfl) ⟨_, s2, by simp [h2], fun l e' he => ?_⟩⟩
          · unfold Instr.mapUpdate
            have hkk : (((ms[j]?).map (·.key)).getD k') = k' := by rw [a1]; exact hkey
            simp only [Sem.run_bind, run_underlying hu, Result.andThen_ok, MapKept.run_getObj_map (P := S.P) h1, hck, MapKept.run_findKey (P := S.P) (w := w) hkt hr', hkk, MapKept.run_keyThatStays (isKey_of hk hko), MapKept.run_setObj_map (P := S.P) _ h1]
          · rw [List.getElem?_set] at he
            by_cases q : j = l
            · subst q
              rw [if_pos rfl, if_pos hlt] at he
              cases he
              refine ⟨{ m0 with key := k', val := x' }, by rw [Array.getElem?_modify, if_pos rfl, a1]; rfl, ?_, hk, hx⟩
              show m0.born = _
              rw [List.getElem?_eq_getElem hlt]
              exact a2
            · rw [if_neg q] at he
              obtain ⟨m, b1, b2⟩ := h3 l e' he
              exact ⟨m, by rw [Array.getElem?_modify, if_neg q]; exact b1, b2⟩

theorem adelete_sound {S : Seat} {w0 : World} {h : AHeap} {g : Ghost} {w : World} (i : Inv S w0 h g w) {ts : Array TypeId} {ty : TypeId} {m k : AV} {xs : Array Value} {h' : AHeap} (hm : RepL g [m, k] xs) (e : adelete S ts[0]? m k h = some h') :
    ∃ w', (Builtin.delete_ ts ty xs).run S.P w = .ok (.tuple #[]) w' ∧ Inv S w0 h' g w' := by
  obtain ⟨x0, hx0, hr0⟩ := hm.get (i := 0) (v := m) rfl
  obtain ⟨x1, hx1, hr1⟩ := hm.get (i := 1) (v := k) rfl
  unfold adelete at e
  cases ht : ts[0]? with
  | none => rw [ht] at e; simp at e
  | some t =>
    rw [ht] at e
    simp only [Option.bind_some] at e
    unfold Builtin.delete_
    simp only [ht, hx0, hx1]
    split at e
    case h_3 => cases e
    · rename_i kt et hu
      split at e
      case isFalse => cases e
      rename_i hko
      cases e
      cases hr0
      cases hkt : S.P.underlying kt with
      | none => rw [hkt] at hko; simp [keyOk] at hko
      | some d =>
        rw [hkt] at hko
        exact ⟨w, by simp only [Sem.run_bind, run_underlying hu, Result.andThen_ok, MapKept.run_checkKey (P := S.P) (w := w) hkt (isKey_of hr1 hko) true 9999, Sem.run_pure], i⟩
    · rename_i kt et id hu
      split at e
      case isFalse => cases e
      rename_i hko
      split at e
      case h_2 => cases e
      rename_i clk es ho
      cases hr0
      rename_i b hb
      obtain ⟨b', hb', ms, h1, h2, h3⟩ := i.obj _ _ ho
      cases hb.symm.trans hb'
      cases hkt : S.P.underlying kt with
      | none => rw [hkt] at hko; simp [keyOk] at hko
      | some d =>
        rw [hkt] at hko
        have hck := fun (b : Bool) => MapKept.run_checkKey (P := S.P) (w := w) hkt (isKey_of hr1 hko) b 9999
        have hmr := mapRep_toList h2 h3
        cases hf : afind k es 0 with
        | none => rw [hf] at e; cases e
        | some r =>
          rw [hf] at e
          obtain ⟨r', hr', hh⟩ := afind_sound hr1 hko es ms.toList 0 _ hmr hf
          cases r with
          | none =>
            cases e
            cases r' with
            | some q => exact hh.elim
            | none =>
              obtain ⟨s1, s2⟩ := setMap_one (.map ms clk) h1
              have hsame : ({ w with heap := w.heap.setIfInBounds b (.map ms clk) } : World).heap = w.heap := by
                apply Array.ext_getElem?
                intro l
                by_cases q : l = b
                · subst q; rw [h1]; exact s2
                · exact s1.other l q
              refine ⟨_, ?_, i.same hsame rfl rfl rfl⟩
              simp only [Sem.run_bind, run_underlying hu, Result.andThen_ok, MapKept.run_getObj_map (P := S.P) h1, hck, MapKept.run_findKey (P := S.P) (w := w) hkt hr', MapKept.run_setObj_map (P := S.P) _ h1, Sem.run_pure]
          | some p =>
            obtain ⟨j, v⟩ := p
            cases e
            cases r' with
            | none => exact hh.elim
            | some q =>
              obtain ⟨j', y⟩ := q
              obtain ⟨rfl, hv, _, hlt⟩ := hh
              simp only [Nat.sub_zero] at hlt
              obtain ⟨s1, s2⟩ := setMap_one (.map (ms.eraseIdxIfInBounds j) clk) h1
              have hjm : j < ms.size := by omega
              refine ⟨_, ?_, i.setObj hb s1 (by rw [ho]; rfl) ⟨_, s2, by simp [Array.eraseIdxIfInBounds, hjm, h2, List.length_eraseIdx, hlt], fun l e' he => ?_⟩⟩
              · simp only [Sem.run_bind, run_underlying hu, Result.andThen_ok, MapKept.run_getObj_map (P := S.P) h1, hck, MapKept.run_findKey (P := S.P) (w := w) hkt hr', MapKept.run_setObj_map (P := S.P) _ h1, Sem.run_pure]
              · rw [List.getElem?_eraseIdx] at he
                have hge : ∀ l, (ms.eraseIdxIfInBounds j)[l]? = if l < j then ms[l]? else ms[l + 1]? := by
                  intro l
                  simp only [Array.eraseIdxIfInBounds, hjm, dif_pos]
                  rw [Array.getElem?_eraseIdx]
                rw [hge]
                by_cases q : l < j
                · rw [if_pos q] at he ⊢
                  exact h3 l e' he
                · rw [if_neg q] at he ⊢
                  exact h3 (l + 1) e' he
end Go.Proofs.YtajknofacjiddaaDoor.Abs

/- Slices that grow. -/
namespace Go.Proofs.YtajknofacjiddaaDoor.Abs
open Go Go.RowKit
set_option linter.unusedVariables false
set_option linter.unusedSimpArgs false

def notInt : TypeDesc → Bool
  | .int _ => false
  | _ => true
section
variable {P : Program} {w w' : World} {ts : Array TypeId} {ty t e t1 : TypeId} {d1 : TypeDesc} {args : Array Value} {base : Option Addr} {sLen sCap n : Nat} {x : Value} {ie : TypeInfo} {new old : Array Value} {z : Value}
theorem run_append_room (ht0 : ts[0]? = some t) (hu : P.underlying t = some (.slice e)) (ht1 : ts[1]? = some t1) (hu1 : P.underlying t1 = some d1) (hd : notInt d1 = true) (h0 : args[0]? = some (.slice base sLen sCap)) (h1 : args[1]? = some x)
    (hi : P.info? e = some ie) (hn : (Builtin.lenOf x).run P w = .ok n w) (hf : (Builtin.firstCells ie.size n x).run P w = .ok new w) (hc : sLen + n ≤ sCap)
    (hst : match base with | some a => (storeCells (a.add (sLen * ie.size)) new.toList).run P w = .ok () w' | none => w' = w) :
    (Builtin.append_ ts ty args).run P w = .ok (.slice base (sLen + n) sCap) w' := by
  have hsz : (sizeOf e).run P w = .ok ie.size w := by simp [sizeOf, typeInfo, hi]
  unfold Builtin.append_
  simp only [ht0, h0, h1, ht1, Sem.run_bind, run_underlying hu, Result.andThen_ok, hsz]
  rw [run_underlying hu1]
  simp only [Result.andThen_ok, Sem.run_pure]
  cases d1 <;> simp only [notInt, Bool.false_eq_true] at hd
  all_goals
    simp only [Result.andThen_ok, Sem.run_bind, Bool.false_eq_true, if_false, hn, Bool.not_false, if_true]
    rw [Sem.run_ite, if_pos hc]
    simp only [Sem.run_bind, hf, Result.andThen_ok]
    cases base with
    | none => subst hst; rfl
    | some a => simp only [Sem.run_bind, hst, Result.andThen_ok, Sem.run_pure]
theorem run_append_more (ht0 : ts[0]? = some t) (hu : P.underlying t = some (.slice e)) (ht1 : ts[1]? = some t1) (hu1 : P.underlying t1 = some d1) (hd : notInt d1 = true) (h0 : args[0]? = some (.slice base sLen sCap)) (h1 : args[1]? = some x)
    (hi : P.info? e = some ie) (hz : ie.zero = some z) (hn : (Builtin.lenOf x).run P w = .ok n w) (hf : (Builtin.firstCells ie.size n x).run P w.drew = .ok new w.drew) (ho : (Builtin.firstCells ie.size sLen (.slice base sLen sCap)).run P w.drew = .ok old w.drew)
    (hc : ¬ sLen + n ≤ sCap) (hb : 0 < ie.bytes) (hbound : (sLen + n) * ie.bytes ≤ 140737488355328) :
    (Builtin.append_ ts ty args).run P w = .ok (.slice (some ⟨w.heap.size, 0, none⟩) (sLen + n) (grownCap w (sLen + n) sCap e))
      ((w.drew).alloc (.cells (old ++ new ++ Builtin.zeroCells z.cells (grownCap w (sLen + n) sCap e - (sLen + n))) e)) := by
  have hsz : (sizeOf e).run P w = .ok ie.size w := by simp [sizeOf, typeInfo, hi]
  have hti : ∀ w, (typeInfo e).run P w = .ok ie w := fun w => by simp [typeInfo, hi]
  have hzv : ∀ w, (zeroValue e).run P w = .ok z w := fun w => by simp [zeroValue, typeInfo, hi, hz]
  have hfit := growslice_fits (need := sLen + n) (old := sCap) (bytes := ie.bytes) (by omega) hbound
  have hle : sLen + n ≤ (sLen + n) * ie.bytes := Nat.le_mul_of_pos_right _ hb
  unfold Builtin.append_
  simp only [ht0, h0, h1, ht1, Sem.run_bind, run_underlying hu, Result.andThen_ok, hsz]
  rw [run_underlying hu1]
  simp only [Result.andThen_ok, Sem.run_pure]
  cases d1 <;> simp only [notInt, Bool.false_eq_true] at hd
  all_goals
    simp only [Result.andThen_ok, Sem.run_bind, Bool.false_eq_true, if_false, hn, Bool.not_false, if_true]
    rw [Sem.run_ite, if_neg hc]
    simp only [Sem.run_bind, hti, Result.andThen_ok, false_or]
    rw [Sem.run_ite, if_neg (by omega)]
    simp only [Sem.run_bind, hti, Result.andThen_ok, Sem.run_pure]
    rw [Sem.run_ite, if_neg (by omega)]
    simp only [Sem.run_bind, run_choose, Question.forced, Bool.false_eq_true, if_false, Result.andThen_ok, hti, run_askRoom]
    simp only [World.drew_eq, ho, hf, Result.andThen_ok, hzv, newRow, Sem.run_bind, run_newObj, Sem.run_pure, World.size_drew]
    rfl
end

/-! The abstract operation -/
/-- The elements that are appended. -/
def aels (S : Seat) (e : TypeId) (t1 : Option TypeId) (x : AV) (h : AHeap) : Option (List (List AV)) :=
  match t1.bind S.P.underlying, x with
  | some (.slice _), .slice sz els _ => if sz = S.P.cellsOf e ∨ els.length = 0 then some els else none
  | some .string, .str s => if S.P.cellsOf e = 1 then some (s.data.toList.map fun b => [.int .u8 b.toNat]) else none
  | _, _ => none
def aappend (S : Seat) (ts : Array TypeId) (s x : AV) (h : AHeap) : Option (AV × AHeap) :=
  match ts[0]?.bind S.P.underlying, s with
  | some (.slice e), .slice sz els tok =>
    match aels S e ts[1]? x h, (azero S e).bind acs with
    | some els', some zs =>
      if zs.length = S.P.cellsOf e ∧ 0 < S.P.cellsOf e ∧ 0 < S.P.bytesOf e ∧ (els.length + els'.length) * S.P.bytesOf e ≤ 140737488355328 ∧ (sz = S.P.cellsOf e ∨ els.length = 0) then
        (match tok with
        | .tip t => if h.tok t = els.length ∧ t < h.ntok ∧ sz = S.P.cellsOf e then some (.slice (S.P.cellsOf e) (els ++ els') (.tip t), h.setTok t (els.length + els'.length)) else none
        | .fixed => some (.slice (S.P.cellsOf e) (els ++ els') (.tip h.ntok), h.newTok (els.length + els'.length))
        | .unk => none)
      else none
    | _, _ => none
  | _, _ => none

/-- The cells of a slice, read from memory. -/
theorem slice_cells {S : Seat} {w0 : World} {h : AHeap} {g : Ghost} {w : World} (i : Inv S w0 h g w) {sz : Nat} {els : List (List AV)} {tok : Tok} {a : Option Addr} {n c : Nat} (hx : Rep g (.slice sz els tok) (.slice a n c)) :
    ∃ f : Nat → Value, (∀ w', w'.heap = w.heap → (Builtin.firstCells sz els.length (.slice a n c)).run S.P w' = .ok ((List.range (els.length * sz)).map f).toArray w') ∧ (∀ k, k < els.length * sz → (f k).oneCell' = true) ∧
      (∀ (i : Nat) e, els[i]? = some e → e.length ≤ sz) ∧ (∀ (i j : Nat) e v, els[i]? = some e → e[j]? = some v → Rep g v (f (i * sz + j))) := by
  cases hx with
  | sliceNil => exact ⟨fun _ => undef, fun w' _ => by cases a <;> simp [Builtin.firstCells, loadCells, loadCellsFrom], fun k hk => by simp at hk, fun i e he => by simp at he, fun i j e v he => by simp at he⟩
  | slice f hI hsz hR hc ht =>
    rename_i b o
    refine ⟨f, fun w' hw => ?_, fun k hk => (i.imm _ _ _ (hI k hk)).2.2, hsz, hR⟩
    unfold Builtin.firstCells
    refine run_loadCells w' _ _ f (fun j hj => ?_)
    have hc' : ∀ a, w'.cell? a = w.cell? a := fun a => by simp [World.cell?, hw]
    rw [addr_add, hc']
    exact (i.imm _ _ _ (hI j hj)).1

/-- The new elements, as cells. -/
theorem aels_sound {S : Seat} {w0 : World} {h : AHeap} {g : Ghost} {w : World} (i : Inv S w0 h g w) {e : TypeId} {t1 : Option TypeId} {x : AV} {y : Value} {els : List (List AV)} (hx : Rep g x y) (he : aels S e t1 x h = some els) :
    ∃ (t : TypeId) (d : TypeDesc) (f : Nat → Value), t1 = some t ∧ S.P.underlying t = some d ∧ notInt d = true ∧ (∀ w', (Builtin.lenOf y).run S.P w' = .ok els.length w') ∧
      (∀ w', w'.heap = w.heap → (Builtin.firstCells (S.P.cellsOf e) els.length y).run S.P w' = .ok ((List.range (els.length * S.P.cellsOf e)).map f).toArray w') ∧ (∀ k, k < els.length * S.P.cellsOf e → (f k).oneCell' = true) ∧
      (∀ (i : Nat) e', els[i]? = some e' → e'.length ≤ S.P.cellsOf e) ∧ (∀ (i j : Nat) e' v, els[i]? = some e' → e'[j]? = some v → Rep g v (f (i * S.P.cellsOf e + j))) := by
  unfold aels at he
  cases t1 with
  | none => simp at he
  | some t =>
    simp only [Option.bind_some] at he
    split at he
    case h_3 => cases he
    · rename_i e1 sz els0 tok hu
      split at he
      case isFalse => cases he
      rename_i hz
      cases he
      obtain ⟨a, c, rfl⟩ := rep_slice_shape hx
      obtain ⟨f, f1, f2, f3, f4⟩ := slice_cells i hx
      by_cases hz' : sz = S.P.cellsOf e
      · subst hz'
        exact ⟨t, _, f, rfl, hu, rfl, fun w' => rfl, f1, f2, f3, f4⟩
      · have h0 : els.length = 0 := hz.resolve_left hz'
        have h0' : els = [] := List.eq_nil_of_length_eq_zero h0
        subst h0'
        refine ⟨t, _, f, rfl, hu, rfl, fun w' => rfl, fun w' hw => ?_, fun k hk => by simp at hk, fun i e he => by simp at he, fun i j e v he => by simp at he⟩
        cases a with
        | none => simp [Builtin.firstCells]
        | some ad => simp [Builtin.firstCells, loadCells, loadCellsFrom]
    · rename_i s hu
      split at he
      case isFalse => cases he
      rename_i hz
      cases he
      cases hx
      rw [hz]
      refine ⟨t, _, fun k => .int .u8 (s.data.toList.getD k 0).toNat, rfl, hu, rfl, fun w' => by simp [Builtin.lenOf], fun w' hw => ?_, fun k hk => rfl, fun i e he => ?_, fun i j e v he hv => ?_⟩
      · simp only [Builtin.firstCells, Sem.run_pure]
        congr 1
        apply Array.ext_getElem?
        intro k
        simp only [List.length_map, Array.length_toList, Nat.mul_one, List.getElem?_toArray, List.getElem?_map]
        by_cases hk : k < s.size
        · have hk2 : k < s.data.size := hk
          have : (s.extract 0 s.data.size).data = s.data := by
            have : s.extract 0 s.data.size = s := by
              apply ByteArray.ext
              simp
            rw [this]
          rw [this]
          have h3 : s.data[k]? = some (s.data[k]'hk2) := Array.getElem?_eq_getElem hk2
          have h4 : (List.range s.size)[k]? = some k := List.getElem?_range hk
          simp [h3, h4]
        · have hk2 : ¬ k < s.data.size := hk
          have : (s.extract 0 s.data.size).data = s.data := by
            have : s.extract 0 s.data.size = s := by
              apply ByteArray.ext
              simp
            rw [this]
          rw [this]
          have h3 : s.data[k]? = none := by simp; exact Nat.le_of_not_lt hk2
          have h4 : (List.range s.size)[k]? = none := by simp; exact Nat.le_of_not_lt hk
          simp [h3, h4]
      · rw [List.getElem?_map] at he
        cases hq : s.data.toList[i]? with
        | none => simp [hq] at he
        | some b => rw [hq] at he; cases he; simp
      · rw [List.getElem?_map] at he
        cases hq : s.data.toList[i]? with
        | none => simp [hq] at he
        | some b =>
          rw [hq] at he
          cases he
          cases j with
          | succ j => simp at hv
          | zero =>
            cases hv
            have : s.data.toList.getD (i * 1 + 0) 0 = b := by simp [List.getD, hq]
            show Rep g (.int .u8 b.toNat) (.int .u8 (s.data.toList.getD (i * 1 + 0) 0).toNat)
            rw [this]
            exact .int _ _
end Go.Proofs.YtajknofacjiddaaDoor.Abs

/- Slices that grow: the abstract operation holds. -/
namespace Go.Proofs.YtajknofacjiddaaDoor.Abs
open Go Go.RowKit
set_option linter.unusedVariables false
set_option linter.unusedSimpArgs false

def Ghost.addT (g : Ghost) (t n : Nat) (hd : Option Addr × Nat × Nat) : Ghost := { g with T := fun t' n' => if t' = t ∧ n' = n then some hd else g.T t' n' }
def Ghost.putI (g : Ghost) (b : Nat) (F : Nat → Option Value) : Ghost := { g with I := fun b' o => if b' = b then (match F o with | some x => some x | none => g.I b' o) else g.I b' o }
theorem Ghost.le_addT {g : Ghost} {t n : Nat} {hd : Option Addr × Nat × Nat} (h : ∀ d, g.T t n = some d → d = hd) : g.le (g.addT t n hd) :=
  ⟨fun _ _ h => h, fun _ _ _ h => h, fun t' n' d hd' => by
    show (if t' = t ∧ n' = n then some hd else g.T t' n') = some d
    by_cases q : t' = t ∧ n' = n
    · rw [if_pos q]; rw [q.1, q.2] at hd'; rw [h d hd']
    · rw [if_neg q]; exact hd'⟩
theorem Ghost.le_putI {g : Ghost} {b : Nat} {F : Nat → Option Value} (h : ∀ o x y, g.I b o = some x → F o = some y → y = x) : g.le (g.putI b F) :=
  ⟨fun _ _ h => h, fun b' o x hx => by
    show (if b' = b then (match F o with | some x => some x | none => g.I b' o) else g.I b' o) = some x
    by_cases q : b' = b
    · rw [if_pos q]
      subst q
      cases hF : F o with
      | none => exact hx
      | some y => rw [h o x y hx hF]
    · rw [if_neg q]; exact hx, fun _ _ _ h => h⟩

/-- A heap whose row t has got longer (or is new). -/
structure TokTo (h h' : AHeap) (t n : Nat) : Prop where
  next : h'.next = h.next
  get : ∀ id, h'.get id = h.get id
  ntok : h.ntok ≤ h'.ntok
  lt : t < h'.ntok
  tok : h'.tok t = n
  other : ∀ t', t' ≠ t → h'.tok t' = h.tok t'
  up : t < h.ntok → h.tok t ≤ n
theorem TokTo.set {h : AHeap} {t n : Nat} (ht : t < h.ntok) (hn : h.tok t ≤ n) : TokTo h (h.setTok t n) t n :=
  ⟨rfl, fun _ => rfl, by rw [ntok_setTok]; exact Nat.le_refl _, by rw [ntok_setTok]; exact ht, by rw [tok_setTok, if_pos ⟨rfl, ht⟩], fun t' hne => by rw [tok_setTok, if_neg (fun q => hne q.1)], fun _ => hn⟩
theorem TokTo.new {h : AHeap} {n : Nat} : TokTo h (h.newTok n) h.ntok n :=
  ⟨rfl, fun _ => rfl, by rw [ntok_newTok]; omega, by rw [ntok_newTok]; omega, by rw [tok_newTok, if_pos rfl], fun t' hne => by rw [tok_newTok, if_neg hne], fun q => absurd q (Nat.lt_irrefl _)⟩

/-- No memory is turned; a row gets a header without room. -/
theorem Inv.tokStill {S : Seat} {w0 : World} {h h' : AHeap} {g : Ghost} {w : World} (i : Inv S w0 h g w) {t n : Nat} (k : TokTo h h' t n) {a : Option Addr} {sz : Nat} (hT : ∀ d, g.T t n = some d → d = (a, n, sz)) :
    g.le (g.addT t n (a, n, sz)) ∧ Inv S w0 h' (g.addT t n (a, n, sz)) w := by
  have le := Ghost.le_addT (g := g) (t := t) (n := n) hT
  have hTT : ∀ t' d, (g.addT t n (a, n, sz)).T t' (h'.tok t') = some d → (t' = t ∧ d = (a, n, sz)) ∨ (t' ≠ t ∧ g.T t' (h.tok t') = some d ∧ h'.tok t' = h.tok t') := by
    intro t' d hd
    change (if t' = t ∧ h'.tok t' = n then some (a, n, sz) else g.T t' (h'.tok t')) = some d at hd
    by_cases q : t' = t
    · rw [if_pos ⟨q, by rw [q]; exact k.tok⟩] at hd
      cases hd
      exact .inl ⟨q, rfl⟩
    · rw [if_neg (fun r => q r.1), k.other t' q] at hd
      exact .inr ⟨q, hd, k.other t' q⟩
  refine ⟨le, i.below, fun id b hb => by rw [k.next]; exact i.gdom id b hb, i.ginj, fun id o ho => ?_, i.imm, fun t' n' d hd => ?_, fun t' a' cap sz' ht hl => ?_, fun t1 t2 a1 c1 s1 a2 c2 s2 h1 l1 h2 l2 e => ?_, fun k' cs hk => (i.glob k' cs hk).mono le, i.base⟩
  · rw [k.get] at ho
    obtain ⟨b, h1, h2⟩ := i.obj id o ho
    exact ⟨b, h1, h2.mono le rfl⟩
  · change (if t' = t ∧ n' = n then some (a, n, sz) else g.T t' n') = some d at hd
    by_cases q : t' = t ∧ n' = n
    · rw [q.1, q.2]
      exact ⟨k.lt, by rw [k.tok]; exact Nat.le_refl _⟩
    · rw [if_neg q] at hd
      obtain ⟨h1, h2⟩ := i.tdom t' n' d hd
      refine ⟨Nat.lt_of_lt_of_le h1 k.ntok, ?_⟩
      by_cases r : t' = t
      · rw [r, k.tok]; rw [r] at h1 h2; exact Nat.le_trans h2 (k.up h1)
      · rw [k.other t' r]; exact h2
  · rcases hTT t' _ ht with ⟨q, e⟩ | ⟨q, e, r⟩
    · cases e
      rw [q, k.tok] at hl
      exact absurd hl (Nat.lt_irrefl _)
    · rw [r] at hl ⊢
      have s := i.tok t' a' cap sz' e hl
      exact s.kept rfl s.noG s.free
  · rcases hTT t1 _ h1 with ⟨q, e1⟩ | ⟨q, e1, r⟩
    · cases e1; rw [q, k.tok] at l1; exact absurd l1 (Nat.lt_irrefl _)
    · rcases hTT t2 _ h2 with ⟨q2, e2⟩ | ⟨q2, e2, r2⟩
      · cases e2; rw [q2, k.tok] at l2; exact absurd l2 (Nat.lt_irrefl _)
      · rw [r] at l1; rw [r2] at l2
        exact i.tdisj t1 t2 a1 c1 s1 a2 c2 s2 e1 l1 e2 l2 e

/-- A row's cells are written, in its own room or in a new block. -/
theorem Inv.tokGrow {S : Seat} {w0 : World} {h h' : AHeap} {g : Ghost} {w w' : World} (i : Inv S w0 h g w) {t n : Nat} (k : TokTo h h' t n) {b o cap sz : Nat} {F : Nat → Option Value} {ys : Array Value} {e : TypeId}
    (os : w'.os = w.os) (tape : w'.tape = w.tape) (output : w'.output = w.output) (size : w.heap.size ≤ w'.heap.size) (other : ∀ j, j ≠ b → j < w.heap.size → w'.heap[j]? = w.heap[j]?) (hb : w'.heap[b]? = some (.cells ys e (0, 0)))
    (hbase : w0.heap.size ≤ b) (hG : ∀ id, g.G id ≠ some b) (hF : ∀ j x, F j = some x → ys[j]? = some x ∧ x.oneCell' = true) (hI : ∀ j x, g.I b j = some x → F j = none ∧ ys[j]? = some x)
    (hT : ∀ d, g.T t n ≠ some d) (hfit : o + cap * sz ≤ ys.size) (hfree : ∀ j, n * sz ≤ j → j < cap * sz → F (o + j) = none ∧ g.I b (o + j) = none)
    (hdis : ∀ t' a' cap' sz', t' ≠ t → g.T t' (h.tok t') = some (some a', cap', sz') → h.tok t' < cap' → a'.block ≠ b) :
    g.le ((g.putI b F).addT t n (some ⟨b, o, none⟩, cap, sz)) ∧ Inv S w0 h' ((g.putI b F).addT t n (some ⟨b, o, none⟩, cap, sz)) w' := by
  have le1 : g.le (g.putI b F) := Ghost.le_putI (fun j x y hx hy => by rw [(hI j x hx).1] at hy; cases hy)
  have le : g.le ((g.putI b F).addT t n (some ⟨b, o, none⟩, cap, sz)) := le1.trans (Ghost.le_addT (fun d hd => absurd hd (hT d)))
  have hIeq : ∀ b' j, ((g.putI b F).addT t n (some ⟨b, o, none⟩, cap, sz)).I b' j = if b' = b then (match F j with | some x => some x | none => g.I b' j) else g.I b' j := fun _ _ => rfl
  have hTT : ∀ t' d, ((g.putI b F).addT t n (some ⟨b, o, none⟩, cap, sz)).T t' (h'.tok t') = some d → (t' = t ∧ d = (some ⟨b, o, none⟩, cap, sz)) ∨ (t' ≠ t ∧ g.T t' (h.tok t') = some d ∧ h'.tok t' = h.tok t') := by
    intro t' d hd
    change (if t' = t ∧ h'.tok t' = n then some _ else g.T t' (h'.tok t')) = some d at hd
    by_cases q : t' = t
    · rw [if_pos ⟨q, by rw [q]; exact k.tok⟩] at hd
      cases hd
      exact .inl ⟨q, rfl⟩
    · rw [if_neg (fun r => q r.1), k.other t' q] at hd
      exact .inr ⟨q, hd, k.other t' q⟩
  refine ⟨le, ⟨os.trans i.below.os, tape.trans i.below.tape, output.trans i.below.output, Nat.le_trans i.below.size size, fun j hj => (other j (by omega) (by have := i.below.size; omega)).trans (i.below.block j hj)⟩,
    fun id b' hb' => by rw [k.next]; have := i.gdom id b' hb'; omega, i.ginj, fun id o' ho' => ?_, fun b' j x hx => ?_, fun t' n' d hd => ?_, fun t' a' cap' sz' ht hl => ?_, fun t1 t2 a1 c1 s1 a2 c2 s2 h1 l1 h2 l2 e => ?_, fun k' cs hk => (i.glob k' cs hk).mono le, i.base⟩
  · rw [k.get] at ho'
    obtain ⟨b', h1, h2⟩ := i.obj id o' ho'
    exact ⟨b', h1, h2.mono le (other b' (fun q => hG id (by rw [h1, q])) (i.gdom id b' h1).2.2)⟩
  · rw [hIeq] at hx
    by_cases q : b' = b
    · rw [if_pos q] at hx
      subst q
      have hcell : ∀ j, w'.cell? ⟨b', j, none⟩ = ys[j]? := fun j => cell_of_row w' b' j ys e _ hb
      cases hFj : F j with
      | some y =>
        rw [hFj] at hx
        cases hx
        obtain ⟨h1, h2⟩ := hF j x hFj
        exact ⟨by rw [hcell]; exact h1, hG, h2⟩
      | none =>
        rw [hFj] at hx
        exact ⟨by rw [hcell]; exact (hI j x hx).2, hG, (i.imm b' j x hx).2.2⟩
    · rw [if_neg q] at hx
      obtain ⟨h1, h2, h3⟩ := i.imm b' j x hx
      exact ⟨(World.cell?_of_block (a := ⟨b', j, none⟩) (other b' q (i.imm_lt hx))).trans h1, h2, h3⟩
  · change (if t' = t ∧ n' = n then some _ else g.T t' n') = some d at hd
    by_cases q : t' = t ∧ n' = n
    · rw [q.1, q.2]
      exact ⟨k.lt, by rw [k.tok]; exact Nat.le_refl _⟩
    · rw [if_neg q] at hd
      obtain ⟨h1, h2⟩ := i.tdom t' n' d hd
      refine ⟨Nat.lt_of_lt_of_le h1 k.ntok, ?_⟩
      by_cases r : t' = t
      · rw [r, k.tok]; rw [r] at h1 h2; exact Nat.le_trans h2 (k.up h1)
      · rw [k.other t' r]; exact h2
  · rcases hTT t' _ ht with ⟨q, e'⟩ | ⟨q, e', r⟩
    · cases e'
      rw [q, k.tok]
      refine ⟨rfl, hbase, hG, ⟨ys, e, hb, hfit⟩, fun j h1 h2 => ?_⟩
      rw [hIeq, if_pos rfl, (hfree j h1 h2).1]
      exact (hfree j h1 h2).2
    · rw [r] at hl ⊢
      have s := i.tok t' a' cap' sz' e' hl
      have hne := hdis t' a' cap' sz' q e' hl
      refine s.kept (other _ hne s.lt) s.noG (fun j h1 h2 => ?_)
      rw [hIeq, if_neg hne]
      exact s.free j h1 h2
  · rcases hTT t1 _ h1 with ⟨q, e1⟩ | ⟨q, e1, r⟩
    · rcases hTT t2 _ h2 with ⟨q2, e2⟩ | ⟨q2, e2, r2⟩
      · rw [q, q2]
      · cases e1
        rw [r2] at l2
        exact absurd e.symm (hdis t2 a2 c2 s2 q2 e2 l2)
    · rcases hTT t2 _ h2 with ⟨q2, e2⟩ | ⟨q2, e2, r2⟩
      · cases e2
        rw [r] at l1
        exact absurd e (hdis t1 a1 c1 s1 q e1 l1)
      · rw [r] at l1; rw [r2] at l2
        exact i.tdisj t1 t2 a1 c1 s1 a2 c2 s2 e1 l1 e2 l2 e

theorem rep_concat {g : Ghost} {sz : Nat} {els els' : List (List AV)} {tok : Tok} {b o cap : Nat} {f f' : Nat → Value}
    (hI : ∀ k, k < (els.length + els'.length) * sz → g.I b (o + k) = some (if k < els.length * sz then f k else f' (k - els.length * sz)))
    (h1 : ∀ (i : Nat) e, els[i]? = some e → e.length ≤ sz) (h2 : ∀ (i j : Nat) e v, els[i]? = some e → e[j]? = some v → Rep g v (f (i * sz + j)))
    (h1' : ∀ (i : Nat) e, els'[i]? = some e → e.length ≤ sz) (h2' : ∀ (i j : Nat) e v, els'[i]? = some e → e[j]? = some v → Rep g v (f' (i * sz + j)))
    (hc : els.length + els'.length ≤ cap) (ht : TokRep g sz (els.length + els'.length) (some ⟨b, o, none⟩) cap tok) :
    Rep g (.slice sz (els ++ els') tok) (.slice (some ⟨b, o, none⟩) (els.length + els'.length) cap) := by
  have hl : (els ++ els').length = els.length + els'.length := List.length_append
  have := Rep.slice (g := g) (sz := sz) (els := els ++ els') (tok := tok) (b := b) (o := o) (cap := cap) (fun k => if k < els.length * sz then f k else f' (k - els.length * sz))
    (fun k hk => hI k (by rw [hl] at hk; exact hk))
    (fun i e he => by
      by_cases q : i < els.length
      · rw [List.getElem?_append_left q] at he; exact h1 i e he
      · rw [List.getElem?_append_right (by omega)] at he; exact h1' _ e he)
    (fun i j e v he hv => by
      by_cases q : i < els.length
      · rw [List.getElem?_append_left q] at he
        have hj : j < sz := Nat.lt_of_lt_of_le (List.getElem?_eq_some_iff.1 hv).1 (h1 i e he)
        have : i * sz + j < els.length * sz := by
          have : (i + 1) * sz ≤ els.length * sz := Nat.mul_le_mul_right sz q
          rw [Nat.add_mul] at this
          omega
        show Rep g v (if i * sz + j < els.length * sz then _ else _)
        rw [if_pos this]
        exact h2 i j e v he hv
      · rw [List.getElem?_append_right (by omega)] at he
        have hle : els.length * sz ≤ i * sz := Nat.mul_le_mul_right sz (by omega)
        show Rep g v (if i * sz + j < els.length * sz then _ else _)
        rw [if_neg (by omega)]
        have := h2' _ j e v he hv
        have e1 : (i - els.length) * sz + j = i * sz + j - els.length * sz := by rw [Nat.sub_mul]; omega
        rw [← e1]
        exact this)
    (by rw [hl]; exact hc) (by rw [hl]; exact ht)
  rw [hl] at this
  exact this

theorem setTok_same {h : AHeap} {t : Nat} (ht : t < h.ntok) : h.setTok t (h.tok t) = h := by
  unfold AHeap.setTok AHeap.tok
  unfold AHeap.ntok at ht
  cases h with
  | mk objs toks =>
    simp only [AHeap.mk.injEq, true_and]
    apply List.ext_getElem?
    intro k
    rw [List.getElem?_set]
    by_cases q : t = k
    · subst q
      simp only at ht
      rw [if_pos rfl, if_pos ht, List.getElem?_eq_getElem ht]
      rfl
    · rw [if_neg q]

theorem aappend_sound {S : Seat} {w0 : World} {h : AHeap} {g : Ghost} {w : World} (i : Inv S w0 h g w) {ts : Array TypeId} {ty : TypeId} {s x v : AV} {args : Array Value} {h' : AHeap} (hargs : RepL g [s, x] args) (e : aappend S ts s x h = some (v, h')) :
    ∃ y w' g', (Builtin.append_ ts ty args).run S.P w = .ok y w' ∧ g.le g' ∧ Inv S w0 h' g' w' ∧ Rep g' v y := by
  obtain ⟨xs, hxs, hs⟩ := hargs.get (i := 0) (v := s) rfl
  obtain ⟨xx, hxx, hx⟩ := hargs.get (i := 1) (v := x) rfl
  unfold aappend at e
  cases ht0 : ts[0]? with
  | none => rw [ht0] at e; simp at e
  | some t0 =>
    rw [ht0] at e
    simp only [Option.bind_some] at e
    split at e
    case h_2 => cases e
    rename_i el sz els tok hu
    split at e
    case h_2 => cases e
    rename_i els' zs hels hzs
    split at e
    case isFalse => cases e
    rename_i hc
    obtain ⟨hc1, hc2, hc3, hc4, hc5⟩ := hc
    obtain ⟨zv, hzv, hza⟩ := Option.bind_eq_some_iff.1 hzs
    obtain ⟨ie, z, hie, hzz, rfl⟩ := azero_parts hzv
    have hzr : RepL g zs z.cells := acs_rep (ofValue_rep g z) hza
    have hcs : S.P.cellsOf el = ie.size := cellsOf_info hie
    have hbs : S.P.bytesOf el = ie.bytes := by simp [Program.bytesOf, hie]
    obtain ⟨a, c, rfl⟩ := rep_slice_shape hs
    obtain ⟨_, hcap, htok⟩ := tokRep_of_slice hs
    obtain ⟨t1, d1, f', ht1, hu1, hd1, hlen, hfirst, hone', hsz', hR'⟩ := aels_sound i hx hels
    -- the old elements, at the type's own size
    have hold : ∃ f : Nat → Value, (∀ w', w'.heap = w.heap → (Builtin.firstCells (S.P.cellsOf el) els.length (.slice a els.length c)).run S.P w' = .ok ((List.range (els.length * S.P.cellsOf el)).map f).toArray w') ∧ (∀ k, k < els.length * S.P.cellsOf el → (f k).oneCell' = true) ∧
        (∀ (i : Nat) e, els[i]? = some e → e.length ≤ S.P.cellsOf el) ∧ (∀ (i j : Nat) e v, els[i]? = some e → e[j]? = some v → Rep g v (f (i * S.P.cellsOf el + j))) ∧
        (∀ b o, a = some ⟨b, o, none⟩ → ∀ k, k < els.length * S.P.cellsOf el → g.I b (o + k) = some (f k)) := by
      by_cases hz : sz = S.P.cellsOf el
      · subst hz
        cases hs with
        | sliceNil => exact ⟨fun _ => undef, fun w' _ => by cases a <;> simp [Builtin.firstCells, loadCells, loadCellsFrom], fun k hk => by simp at hk, fun i e he => by simp at he, fun i j e v he => by simp at he, fun b o q k hk => by simp at hk⟩
        | slice f hI hsz hR hcc htt =>
          rename_i b o
          refine ⟨f, fun w' hw => ?_, fun k hk => (i.imm _ _ _ (hI k hk)).2.2, hsz, hR, fun b' o' q k hk => by cases q; exact hI k hk⟩
          unfold Builtin.firstCells
          refine run_loadCells w' _ _ f (fun j hj => ?_)
          have hc' : ∀ a, w'.cell? a = w.cell? a := fun a => by simp [World.cell?, hw]
          rw [addr_add, hc']
          exact (i.imm _ _ _ (hI j hj)).1
      · have h0 : els = [] := List.eq_nil_of_length_eq_zero (hc5.resolve_left hz)
        subst h0
        refine ⟨fun _ => undef, fun w' hw => ?_, fun k hk => by simp at hk, fun i e he => by simp at he, fun i j e v he => by simp at he, fun b o q k hk => by simp at hk⟩
        cases a with
          | none => simp [Builtin.firstCells]
          | some ad => simp [Builtin.firstCells, loadCells, loadCellsFrom]
    obtain ⟨f, hf1, hf2, hf3, hf4, hf5⟩ := hold
    have hnew0 := hfirst w rfl
    rw [hcs] at hnew0
    by_cases hroom : els.length + els'.length ≤ c
    · -- there is room
      by_cases hm : els'.length = 0
      · -- nothing is appended
        have hm' : els' = [] := List.eq_nil_of_length_eq_zero hm
        subst hm'
        have hrun := run_append_room (ty := ty) (w' := w) ht0 hu ht1 hu1 hd1 hxs hxx hie (hlen w) hnew0 hroom (by cases a <;> simp [storeCells])
        simp only [List.length_nil, Nat.add_zero, List.append_nil] at hrun e
        cases tok with
        | unk => cases e
        | tip t =>
          simp only at e
          split at e
          case isFalse => cases e
          rename_i hq
          cases e
          refine ⟨_, w, g, hrun, Ghost.le.refl g, ?_, by rw [← hq.2.2]; exact hs⟩
          rw [← hq.1, setTok_same hq.2.1]
          exact i
        | fixed =>
          cases e
          have hcl : c = els.length := htok
          have hTn : ∀ d, g.T h.ntok els.length ≠ some d := fun d hd => absurd (i.tdom _ _ _ hd).1 (Nat.lt_irrefl _)
          obtain ⟨le, inv⟩ := i.tokStill (h' := h.newTok els.length) (t := h.ntok) (n := els.length) TokTo.new (a := a) (sz := S.P.cellsOf el) (fun d hd => absurd hd (hTn d))
          refine ⟨_, w, _, hrun, le, inv, ?_⟩
          have hTT : TokRep (g.addT h.ntok els.length (a, els.length, S.P.cellsOf el)) (S.P.cellsOf el) els.length a c (.tip h.ntok) := by
            show (if h.ntok = h.ntok ∧ els.length = els.length then some _ else _) = some (a, c, S.P.cellsOf el)
            rw [if_pos ⟨rfl, rfl⟩, hcl]
          by_cases hz : sz = S.P.cellsOf el
          · subst hz
            have hs' := hs.mono le
            cases hs' with
            | sliceNil _ hn => exact .sliceNil hTT hn
            | slice f hI hsz hR hcc htt => exact .slice f hI hsz hR hcc hTT
          · have h0 : els = [] := List.eq_nil_of_length_eq_zero (hc5.resolve_left hz)
            subst h0
            exact .sliceNil hTT (fun _ => hcl)
      · -- into the room
        cases tok with
        | unk => cases e
        | fixed => have hcl : c = els.length := htok; omega
        | tip t =>
          simp only at e
          split at e
          case isFalse => cases e
          rename_i hq
          obtain ⟨hq1, hq2, hq3⟩ := hq
          cases e
          subst hq3
          cases a with
          | none =>
            cases hs with
            | sliceNil _ hn =>
              have := hn rfl
              rw [List.length_nil, Nat.zero_add] at hroom
              omega
          | some ad =>
            have hT : g.T t els.length = some (some ad, c, S.P.cellsOf el) := htok
            have sp := i.tok t ad c (S.P.cellsOf el) (by rw [hq1]; exact hT) (by omega)
            rw [hq1] at sp
            obtain ⟨vs, ety, hvs1, hvs2⟩ := sp.cells
            have hspot := sp.spot
            obtain ⟨ab, ao, avs⟩ := ad
            simp only at hspot
            subst hspot
            simp only at hvs1 hvs2
            let newL : List Value := (List.range (els'.length * S.P.cellsOf el)).map f'
            have hnl : newL.length = els'.length * S.P.cellsOf el := by simp [newL]
            have hsum : els.length * S.P.cellsOf el + els'.length * S.P.cellsOf el ≤ c * S.P.cellsOf el := by rw [← Nat.add_mul]; exact Nat.mul_le_mul_right _ hroom
            have hst := run_storeCells_at (P := S.P) ab (ao + els.length * S.P.cellsOf el) ety newL 0 vs w hvs1 (by rw [hnl]; omega) (fun v hv => by
              simp only [newL, List.mem_map, List.mem_range] at hv
              obtain ⟨k, hk, rfl⟩ := hv
              exact hone' k hk)
            simp only [Nat.add_zero] at hst
            let ys : Array Value := (vs.toList.take (ao + els.length * S.P.cellsOf el) ++ newL ++ vs.toList.drop (ao + els.length * S.P.cellsOf el + newL.length)).toArray
            obtain ⟨s1, s2⟩ := setRow_one (vs' := ys) hvs1
            have hys : ys.size = vs.size := by simp [ys, hnl]; omega
            have hyget : ∀ j, ys[j]? = if ao + els.length * S.P.cellsOf el ≤ j ∧ j < ao + els.length * S.P.cellsOf el + els'.length * S.P.cellsOf el then some (f' (j - (ao + els.length * S.P.cellsOf el))) else vs[j]? := by
              intro j
              simp only [ys, List.getElem?_toArray]
              by_cases c1 : j < ao + els.length * S.P.cellsOf el
              · rw [List.getElem?_append_left (by simp; omega), List.getElem?_append_left (by simp; omega), List.getElem?_take, if_pos c1, if_neg (by omega)]
                simp
              · by_cases c2 : j < ao + els.length * S.P.cellsOf el + els'.length * S.P.cellsOf el
                · rw [List.getElem?_append_left (by simp [hnl]; omega), List.getElem?_append_right (by simp; omega), if_pos (by omega)]
                  have e1 : (vs.toList.take (ao + els.length * S.P.cellsOf el)).length = ao + els.length * S.P.cellsOf el := by simp; omega
                  rw [e1]
                  simp only [newL]
                  rw [List.getElem?_map, List.getElem?_range (by omega)]
                  rfl
                · rw [List.getElem?_append_right (by simp [hnl]; omega), List.getElem?_drop, if_neg (by omega)]
                  have e1 : ao + els.length * S.P.cellsOf el + newL.length + (j - (vs.toList.take (ao + els.length * S.P.cellsOf el) ++ newL).length) = j := by simp [hnl]; omega
                  rw [e1]
                  simp
            have hrun := run_append_room (ty := ty) (w' := w.setRow ab ys) ht0 hu ht1 hu1 hd1 hxs hxx hie (hlen w) hnew0 hroom (by
              simp only [addr_add]
              rw [← hcs]
              exact hst)
            have hTn : ∀ d, g.T t (els.length + els'.length) ≠ some d := fun d hd => by
              have := (i.tdom _ _ _ hd).2
              omega
            obtain ⟨le, inv⟩ := i.tokGrow (h' := h.setTok t (els.length + els'.length)) (t := t) (n := els.length + els'.length) (TokTo.set hq2 (by omega)) (b := ab) (o := ao) (cap := c) (sz := S.P.cellsOf el)
              (F := fun j => if ao + els.length * S.P.cellsOf el ≤ j ∧ j < ao + els.length * S.P.cellsOf el + els'.length * S.P.cellsOf el then some (f' (j - (ao + els.length * S.P.cellsOf el))) else none) (ys := ys) (e := ety)
              s1.os s1.tape s1.output (by rw [s1.size]; exact Nat.le_refl _) (fun j hj _ => s1.other j hj) s2 sp.base sp.noG
              (fun j x hx => by
                split at hx
                case isFalse => cases hx
                rename_i hj
                cases hx
                exact ⟨by rw [hyget, if_pos hj], hone' _ (by omega)⟩)
              (fun j x hx => by
                have hnj : ¬ (ao + els.length * S.P.cellsOf el ≤ j ∧ j < ao + els.length * S.P.cellsOf el + els'.length * S.P.cellsOf el) := fun hj => by
                  have := sp.free (j - ao) (by omega) (by omega)
                  rw [show ao + (j - ao) = j by omega, hx] at this
                  cases this
                refine ⟨by rw [if_neg hnj], ?_⟩
                rw [hyget, if_neg hnj]
                have := (i.imm ab j x hx).1
                rwa [cell_of_row w ab j vs ety _ hvs1] at this)
              hTn (by rw [hys]; exact hvs2)
              (fun j h1 h2 => by
                rw [Nat.add_mul] at h1
                exact ⟨by rw [if_neg (by omega)], sp.free j (by omega) h2⟩)
              (fun t' a' cap' sz' hne hT' hl' heq => hne (i.tdisj t' t a' cap' sz' ⟨ab, ao, none⟩ c (S.P.cellsOf el) hT' hl' (by rw [hq1]; exact hT) (by omega) heq))
            refine ⟨_, _, _, hrun, le, inv, rep_concat (f := f) (f' := f') (fun k hk => ?_) hf3 (fun i j e v he hv => (hf4 i j e v he hv).mono le) hsz' (fun i j e v he hv => (hR' i j e v he hv).mono le) hroom ?_⟩
            · rw [Nat.add_mul] at hk
              show (if ab = ab then (match (if ao + els.length * S.P.cellsOf el ≤ ao + k ∧ ao + k < ao + els.length * S.P.cellsOf el + els'.length * S.P.cellsOf el then some (f' (ao + k - (ao + els.length * S.P.cellsOf el))) else none) with | some x => some x | none => g.I ab (ao + k)) else _) = _
              rw [if_pos rfl]
              by_cases q : k < els.length * S.P.cellsOf el
              · rw [if_neg (by omega), if_pos q]
                exact hf5 ab ao rfl k q
              · rw [if_pos (by omega), if_neg q]
                simp only [Option.some.injEq]
                congr 1
                omega
            · show (if t = t ∧ els.length + els'.length = els.length + els'.length then some _ else _) = some _
              rw [if_pos ⟨rfl, rfl⟩]
    · -- a new block
      have hnew1 := hfirst w.drew rfl
      rw [hcs] at hnew1
      have hold1 := hf1 w.drew rfl
      rw [hcs] at hold1
      have hrun := run_append_more (ty := ty) ht0 hu ht1 hu1 hd1 hxs hxx hie hzz (hlen w) hnew1 hold1 hroom (by rw [← hbs]; exact hc3) (by rw [← hbs]; exact hc4)
      let newCap := grownCap w (els.length + els'.length) c el
      have hnc : els.length + els'.length ≤ newCap := grownCap_ge w _ c el
      let ys : Array Value := ((List.range (els.length * ie.size)).map f).toArray ++ ((List.range (els'.length * ie.size)).map f').toArray ++ Builtin.zeroCells z.cells (newCap - (els.length + els'.length))
      have hzsz : z.cells.size = ie.size := by rw [hzr.1, hc1, hcs]
      have hys : ys.size = newCap * ie.size := by
        simp only [ys, Array.size_append, List.size_toArray, List.length_map, List.length_range, size_zeroCells, hzsz]
        rw [← Nat.add_mul, ← Nat.add_mul]
        congr 1
        omega
      have hyget : ∀ k, k < (els.length + els'.length) * ie.size → ys[k]? = some (if k < els.length * ie.size then f k else f' (k - els.length * ie.size)) := by
        intro k hk
        rw [Nat.add_mul] at hk
        simp only [ys, Array.getElem?_append, Array.size_append, List.size_toArray, List.length_map, List.length_range, List.getElem?_toArray]
        rw [if_pos hk]
        by_cases q : k < els.length * ie.size
        · rw [if_pos q, if_pos q, List.getElem?_map, List.getElem?_range q]; rfl
        · rw [if_neg q, if_neg q, List.getElem?_map, List.getElem?_range (by omega)]; rfl
      have hgen : ∀ (h' : AHeap) (t : Nat), TokTo h h' t (els.length + els'.length) → (∀ d, g.T t (els.length + els'.length) ≠ some d) →
          ∃ y w' g', (Builtin.append_ ts ty args).run S.P w = .ok y w' ∧ g.le g' ∧ Inv S w0 h' g' w' ∧ Rep g' (.slice (S.P.cellsOf el) (els ++ els') (.tip t)) y := by
        intro h' t kt hTn
        have nb : NewBlk w ((w.drew).alloc (.cells ys el)) (.cells ys el) := ⟨rfl, rfl, rfl, rfl⟩
        obtain ⟨le, inv⟩ := i.tokGrow kt (b := w.heap.size) (o := 0) (cap := newCap) (sz := S.P.cellsOf el)
          (F := fun j => if j < (els.length + els'.length) * ie.size then ys[j]? else none) (ys := ys) (e := el) (w' := (w.drew).alloc (.cells ys el))
          rfl rfl rfl (by rw [nb.size]; omega) (fun j _ hj => nb.old hj) nb.new i.below.size (fun id hid => by have := (i.gdom id _ hid).2.2; omega)
          (fun j x hx => by
            split at hx
            case isFalse => cases hx
            rename_i hj
            refine ⟨hx, ?_⟩
            rw [hyget j hj] at hx
            cases hx
            rw [Nat.add_mul] at hj
            by_cases q : j < els.length * ie.size
            · rw [if_pos q]; exact hf2 j (by rw [hcs]; exact q)
            · rw [if_neg q]; exact hone' _ (by rw [hcs]; omega))
          (fun j x hx => by have := i.imm_lt hx; omega)
          hTn (by rw [hys, hcs]; omega)
          (fun j h1 h2 => by
            refine ⟨by rw [if_neg (by rw [← hcs]; omega)], ?_⟩
            cases hq : g.I w.heap.size (0 + j) with
            | none => rfl
            | some x => have := i.imm_lt hq; omega)
          (fun t' a' cap' sz' hne hT' hl' heq => by have := (i.tok t' a' cap' sz' hT' hl').lt; omega)
        refine ⟨_, _, _, hrun, le, inv, rep_concat (f := f) (f' := f') (fun k hk => ?_) hf3 (fun i j e v he hv => (hf4 i j e v he hv).mono le) hsz' (fun i j e v he hv => (hR' i j e v he hv).mono le) hnc ?_⟩
        · show (if w.heap.size = w.heap.size then (match (if 0 + k < (els.length + els'.length) * ie.size then ys[0 + k]? else none) with | some x => some x | none => g.I w.heap.size (0 + k)) else _) = _
          rw [if_pos rfl, Nat.zero_add, if_pos (by rw [← hcs]; exact hk), hyget k (by rw [← hcs]; exact hk), hcs]
        · show (if t = t ∧ els.length + els'.length = els.length + els'.length then some _ else _) = some _
          rw [if_pos ⟨rfl, rfl⟩]
      cases tok with
      | unk => cases e
      | tip t =>
        simp only at e
        split at e
        case isFalse => cases e
        rename_i hq
        cases e
        exact hgen _ t (TokTo.set hq.2.1 (by omega)) (fun d hd => by have := (i.tdom _ _ _ hd).2; omega)
      | fixed =>
        cases e
        exact hgen _ h.ntok TokTo.new (fun d hd => absurd (i.tdom _ _ _ hd).1 (Nat.lt_irrefl _))
end Go.Proofs.YtajknofacjiddaaDoor.Abs

/- All operations that turn memory, in one function. -/
namespace Go.Proofs.YtajknofacjiddaaDoor.Abs
open Go Go.RowKit
set_option linter.unusedVariables false
set_option linter.unusedSimpArgs false

theorem i64_id {x : Int} (h0 : 0 ≤ x) (h1 : x < 9223372036854775808) : IntKind.i64.wrap x = x := by
  have : x % 18446744073709551616 = x := Int.emod_eq_of_lt h0 (by omega)
  simp [IntKind.wrap, IntKind.signed, IntKind.bits, this]
  omega
def amakeSlice (S : Seat) (t : TypeId) (l c : AV) (h : AHeap) : Option (AV × AHeap) :=
  match S.P.underlying t, l, c with
  | some (.slice e), .int _ l, .int _ c =>
    match (azero S e).bind acs with
    | some zs => if zs.length = S.P.cellsOf e ∧ 0 < S.P.cellsOf e ∧ 0 < S.P.bytesOf e ∧ 0 ≤ l ∧ l ≤ c ∧ c.toNat * S.P.bytesOf e ≤ 140737488355328 then
        (if l = 0 then some (.slice (S.P.cellsOf e) [] (.tip h.ntok), h.newTok 0)
        else some (.row h.next 0 l.toNat c.toNat (S.P.cellsOf e), h.alloc (.cells (azeros zs c.toNat))))
      else none
    | none => none
  | _, _, _ => none
theorem amakeSlice_sound {S : Seat} {w0 : World} {h : AHeap} {g : Ghost} {w : World} (i : Inv S w0 h g w) {t : TypeId} {l c v : AV} {l' c' : Value} {h' : AHeap} (hl : Rep g l l') (hc : Rep g c c') (e : amakeSlice S t l c h = some (v, h')) :
    ∃ y w' g', (Instr.makeSlice t l' c').run S.P w = .ok y w' ∧ g.le g' ∧ Inv S w0 h' g' w' ∧ Rep g' v y := by
  unfold amakeSlice at e
  split at e
  case h_2 => cases e
  rename_i el _ l _ c hu
  cases hl; cases hc
  split at e
  case h_2 => cases e
  rename_i zs hzs
  split at e
  case isFalse => cases e
  rename_i hcond
  obtain ⟨hc1, hc2, hc3, hc4, hc5, hc6⟩ := hcond
  obtain ⟨zv, hzv, hza⟩ := Option.bind_eq_some_iff.1 hzs
  obtain ⟨ie, z, hie, hzz, rfl⟩ := azero_parts hzv
  have hzr : RepL g zs z.cells := acs_rep (ofValue_rep g z) hza
  have hcs : S.P.cellsOf el = ie.size := cellsOf_info hie
  have hbs : S.P.bytesOf el = ie.bytes := by simp [Program.bytesOf, hie]
  have hcb : c.toNat ≤ c.toNat * S.P.bytesOf el := Nat.le_mul_of_pos_right _ hc3
  have w1 : IntKind.i64.wrap l = l := i64_id hc4 (by omega)
  have w2 : IntKind.i64.wrap c = c := i64_id (by omega) (by omega)
  let ys : Array Value := (Array.range (c.toNat * ie.size)).map ((if c.toNat * ie.size = 0 then #[] else z.cells)[· % (if c.toNat * ie.size = 0 then #[] else z.cells).size]!)
  have hrun : ∀ k k', (Instr.makeSlice t (.int k l) (.int k' c)).run S.P w = .ok (.slice (some ⟨w.heap.size, 0, none⟩) l.toNat c.toNat) (w.alloc (.cells ys el)) := by
    intro k k'
    have hbi : ((ie.bytes : Nat) : Int) * c ≤ 140737488355328 := by
      have : c = (c.toNat : Int) := by omega
      rw [this]
      rw [hbs] at hc6
      have := Int.ofNat_le.2 hc6
      rw [Int.natCast_mul] at this
      rw [Int.mul_comm]
      exact this
    unfold Instr.makeSlice
    simp only [Sem.run_bind, run_underlying hu, Result.andThen_ok, asInt, asIntOf, Sem.run_pure, typeInfo, run_program, hie, w1, w2]
    rw [Sem.run_ite, if_neg (by simp; omega)]
    simp only [Sem.run_bind, run_askRoom, Result.andThen_ok, sizeOf, typeInfo, run_program, hie, Sem.run_pure]
    by_cases h0 : c.toNat * ie.size = 0
    · simp only [h0, if_true, Sem.run_pure, Result.andThen_ok, newRow, Sem.run_bind, run_newObj]
      simp only [ys, h0, if_true]
      rfl
    · simp only [h0, if_false, zeroValue, typeInfo, Sem.run_bind, run_program, hie, hzz, Sem.run_pure, Result.andThen_ok, newRow, run_newObj]
      simp only [ys, h0, if_false]
      rfl
  have hzsz : z.cells.size = ie.size := by rw [hzr.1, hc1, hcs]
  have hys : ys.size = c.toNat * ie.size := by simp [ys]
  have nb : NewBlk w (w.alloc (.cells ys el)) (.cells ys el) := NewBlk.alloc w _
  split at e
  · rename_i hl0
    cases e
    subst hl0
    obtain ⟨le, inv⟩ := i.tokGrow (h' := h.newTok 0) (t := h.ntok) (n := 0) TokTo.new (b := w.heap.size) (o := 0) (cap := c.toNat) (sz := S.P.cellsOf el) (F := fun _ => none) (ys := ys) (e := el) (w' := w.alloc (.cells ys el))
      rfl rfl rfl (by rw [nb.size]; omega) (fun j _ hj => nb.old hj) nb.new i.below.size (fun id hid => by have := (i.gdom id _ hid).2.2; omega)
      (fun j x hx => by cases hx) (fun j x hx => by have := i.imm_lt hx; omega) (fun d hd => absurd (i.tdom _ _ _ hd).1 (Nat.lt_irrefl _)) (by rw [hys, hcs]; omega)
      (fun j h1 h2 => ⟨rfl, by
        cases hq : g.I w.heap.size (0 + j) with
        | none => rfl
        | some x => have := i.imm_lt hq; omega⟩)
      (fun t' a' cap' sz' hne hT' hl' heq => by have := (i.tok t' a' cap' sz' hT' hl').lt; omega)
    refine ⟨_, _, _, hrun _ _, le, inv, ?_⟩
    exact .slice (els := []) (fun _ => undef) (fun k hk => by simp at hk) (fun i e he => by simp at he) (fun i j e v he => by simp at he) (Nat.zero_le _) (by
      show (if h.ntok = h.ntok ∧ 0 = 0 then some _ else _) = some _
      rw [if_pos ⟨rfl, rfl⟩])
  · rename_i hl0
    cases e
    have hc0 : c.toNat * ie.size ≠ 0 := by
      rw [← hcs]
      have : 0 < c.toNat := by omega
      have := Nat.mul_pos this hc2
      omega
    have hrep : RepL g (azeros zs c.toNat) ys := by
      refine ⟨by rw [hys, length_azeros, hc1, hcs], fun j v hv => ?_⟩
      have hj : j < c.toNat * zs.length := by have := (List.getElem?_eq_some_iff.1 hv).1; rwa [length_azeros] at this
      rw [get_azeros zs _ j hj] at hv
      obtain ⟨y, hy, hr⟩ := hzr.get hv
      have hj' : j < c.toNat * ie.size := by rw [← hcs, ← hc1]; exact hj
      have hzl : z.cells.size = zs.length := hzr.1
      have : ys[j]? = some y := by
        simp only [ys, if_neg hc0]
        simp [hj', hzl]
        rw [getElem!_def, hy]
      simp [this]
      exact hr
    obtain ⟨le, inv⟩ := i.newObj (o := .cells (azeros zs c.toNat)) nb (fun g' l _ => ⟨ys, el, nb.new, hrep.mono l⟩)
    exact ⟨_, _, _, hrun _ _, le, inv, .row (by show (if h.next = h.next then some w.heap.size else _) = _; rw [if_pos rfl])⟩

def arange (S : Seat) (t : TypeId) (x : AV) (h : AHeap) : Option (AV × AHeap) :=
  match S.P.underlying t, x with
  | some (.map _ _), .nilmap => some (.ptr h.next 0, h.alloc (.iter none 0 [] 0))
  | some (.map _ _), .map id => match h.get id with
    | some (.map clk _) => some (.ptr h.next 0, h.alloc (.iter (some id) clk [] clk))
    | _ => none
  | _, _ => none
theorem arange_sound {S : Seat} {w0 : World} {h : AHeap} {g : Ghost} {w : World} (i : Inv S w0 h g w) {t : TypeId} {x v : AV} {z : Value} {h' : AHeap} (hx : Rep g x z) (e : arange S t x h = some (v, h')) :
    ∃ y w' g', (Instr.range t z).run S.P w = .ok y w' ∧ g.le g' ∧ Inv S w0 h' g' w' ∧ Rep g' v y := by
  unfold arange at e
  split at e
  case h_3 => cases e
  · rename_i hu
    cases e
    cases hx
    obtain ⟨le, inv⟩ := i.newObj (o := .iter none 0 [] 0) (NewBlk.alloc w (.mapIter none 0 #[] 0)) (fun g' l _ => ⟨none, rfl, (NewBlk.alloc w _).new⟩)
    refine ⟨.pointer (some ⟨w.heap.size, 0, none⟩), _, _, ?_, le, inv, .ptr (by show (if h.next = h.next then some w.heap.size else _) = _; rw [if_pos rfl])⟩
    simp [Instr.range, run_underlying hu]
  · rename_i kt et id hu
    split at e
    case h_2 => cases e
    rename_i clk es ho
    cases e
    cases hx
    rename_i b hb
    obtain ⟨b', hb', ms, h1, h2, h3⟩ := i.obj _ _ ho
    cases hb.symm.trans hb'
    obtain ⟨le, inv⟩ := i.newObj (o := .iter (some id) clk [] clk) (NewBlk.alloc w (.mapIter (some b) clk #[] clk)) (fun g' l _ => ⟨some b, ⟨b, l.G _ _ hb, rfl⟩, (NewBlk.alloc w _).new⟩)
    refine ⟨.pointer (some ⟨w.heap.size, 0, none⟩), _, _, ?_, le, inv, .ptr (by show (if h.next = h.next then some w.heap.size else _) = _; rw [if_pos rfl])⟩
    simp [Instr.range, run_underlying hu, MapKept.run_getObj_map (P := S.P) h1]

def ae (S : Seat) (op : Op) (ρ : Operand → AV) (h : AHeap) : Option (AV × AHeap) :=
  match op with
  | .alloc t => aalloc S t h
  | .box _ x => abox (ρ x) h
  | .makeMap t r => amakeMap S t (r.map ρ) h
  | .makeSlice t l c => amakeSlice S t (ρ l) (ρ c) h
  | .store t a x => (astore S t (ρ a) (ρ x) h).map fun h' => (.top, h')
  | .mapUpdate t m k x | .insert t m k x => (amapUpdate S t (ρ m) (ρ k) (ρ x) h).map fun h' => (.top, h')
  | .range t x => arange S t (ρ x) h
  | .call { callee := .builtin b, args, argTypes } => match b, args.toList with
    | .append, [s, x] => aappend S argTypes (ρ s) (ρ x) h
    | .delete, [m, k] => (adelete S argTypes[0]? (ρ m) (ρ k) h).map fun h' => (.tup [], h')
    | _, _ => none
  | _ => none

theorem list2_rep {g : Ghost} {ρ : Operand → AV} {e : Operand → Value} {xs : Array Operand} {a b : Operand} (hxs : xs.toList = [a, b]) (hr : ∀ x ∈ xs.toList, Rep g (ρ x) (e x)) : RepL g [ρ a, ρ b] (xs.map e) := by
  have := list_rep hr
  rwa [hxs] at this

theorem ae_sound {S : Seat} {w0 : World} {h : AHeap} {g : Ghost} {w : World} (i : Inv S w0 h g w) {o : Oper} {ρ : Operand → AV} {e : Operand → Value} (hr : ∀ x ∈ o.op.operands.toList, Rep g (ρ x) (e x)) {v : AV} {h' : AHeap} (ha : ae S o.op ρ h = some (v, h')) :
    ∃ n w' g', (execOp e o).run S.P w = .ok n w' ∧ g.le g' ∧ Inv S w0 h' g' w' ∧ ((∃ y, n = .value y ∧ Rep g' v y) ∨ (n = .skip ∧ v = .top)) := by
  have moved : ∀ {s : Sem Value} {v : AV} {h' : AHeap}, (∃ y w' g', s.run S.P w = .ok y w' ∧ g.le g' ∧ Inv S w0 h' g' w' ∧ Rep g' v y) →
      ∃ n w' g', ((do pure (Next.value (← s)) : Sem Next)).run S.P w = .ok n w' ∧ g.le g' ∧ Inv S w0 h' g' w' ∧ ((∃ y, n = .value y ∧ Rep g' v y) ∨ (n = .skip ∧ v = .top)) := by
    intro s v h' ⟨y, w', g', h1, h2, h3, h4⟩
    exact ⟨.value y, w', g', by simp only [Sem.run_bind, h1, Result.andThen_ok, Sem.run_pure], h2, h3, .inl ⟨y, rfl, h4⟩⟩
  have skipped : ∀ {s : Sem Unit} {h' : AHeap}, (∃ w', s.run S.P w = .ok () w' ∧ Inv S w0 h' g w') →
      ∃ n w' g', ((do s; pure Next.skip : Sem Next)).run S.P w = .ok n w' ∧ g.le g' ∧ Inv S w0 h' g' w' ∧ ((∃ y, n = .value y ∧ Rep g' .top y) ∨ (n = .skip ∧ AV.top = .top)) := by
    intro s h' ⟨w', h1, h2⟩
    exact ⟨.skip, w', g, by simp only [Sem.run_bind, h1, Result.andThen_ok, Sem.run_pure], Ghost.le.refl g, h2, .inr ⟨rfl, rfl⟩⟩
  unfold execOp
  unfold ae at ha
  cases hop : o.op <;> rw [hop] at ha hr <;> simp only [Op.operands, List.mem_cons, List.not_mem_nil, or_false, forall_eq_or_imp, forall_eq, Array.toList_append, List.mem_append] at hr <;> simp only at ha ⊢ <;> (try (cases ha; done))
  case alloc t => exact moved (aalloc_sound i ha)
  case box t x => exact moved (abox_sound i hr ha)
  case insert t m k x =>
    cases hq : amapUpdate S t (ρ m) (ρ k) (ρ x) h with
    | none => rw [hq] at ha; cases ha
    | some h1 => rw [hq] at ha; cases ha; exact skipped (amapUpdate_sound i hr.1 hr.2.1 hr.2.2 hq)
  case store t a x =>
    cases hq : astore S t (ρ a) (ρ x) h with
    | none => rw [hq] at ha; cases ha
    | some h1 => rw [hq] at ha; cases ha; exact skipped (astore_sound i hr.1 hr.2 hq)
  case makeMap t r => exact moved (amakeMap_sound i (opt_rep r (fun y hy => hr y hy)) ha)
  case makeSlice t l c => exact moved (amakeSlice_sound i hr.1 hr.2 ha)
  case mapUpdate t m k x =>
    cases hq : amapUpdate S t (ρ m) (ρ k) (ρ x) h with
    | none => rw [hq] at ha; cases ha
    | some h1 => rw [hq] at ha; cases ha; exact skipped (amapUpdate_sound i hr.1 hr.2.1 hr.2.2 hq)
  case range t x => exact moved (arange_sound i hr ha)
  case call c =>
    obtain ⟨cal, args, ts⟩ := c
    cases cal <;> simp only at ha <;> (try (cases ha; done))
    rename_i b
    have hl : ∀ x ∈ args.toList, Rep g (ρ x) (e x) := fun x hx => hr x (by simp [Call.operands]; simpa using hx)
    have him : ∀ (s : Sem Value) (f : Array TypeId → TypeId → Array Value → Sem Value), True := fun _ _ => trivial
    cases b <;> (try simp only at ha) <;> (try (cases ha; done))
    · split at ha
      case h_3 => cases ha
      · rename_i s x _ hargs
        obtain ⟨y, w', g', h1, h2, h3, h4⟩ := aappend_sound (ty := o.type) i (list2_rep hargs hl) ha
        exact ⟨.value y, w', g', by simp only [resolve, Sem.run_bind, Sem.run_pure, Result.andThen_ok, invoke, builtin, h1], h2, h3, .inl ⟨y, rfl, h4⟩⟩
      · rename_i hb _
        cases hb
    · split at ha
      case h_3 => cases ha
      · rename_i hb _
        cases hb
      · rename_i m k _ hargs
        cases hq : adelete S ts[0]? (ρ m) (ρ k) h with
        | none => rw [hq] at ha; cases ha
        | some h1 =>
          rw [hq] at ha
          cases ha
          obtain ⟨w', h1, h2⟩ := adelete_sound (ty := o.type) i (list2_rep hargs hl) hq
          exact ⟨.value (.tuple #[]), w', g, by simp only [resolve, Sem.run_bind, Sem.run_pure, Result.andThen_ok, invoke, builtin, h1], Ghost.le.refl g, h2, .inl ⟨_, rfl, .tup rfl (fun i v hv => by simp at hv)⟩⟩
end Go.Proofs.YtajknofacjiddaaDoor.Abs

/- What it means that an abstract run ends so: over every world that bears it. Its steps. -/
namespace Go.Proofs.YtajknofacjiddaaDoor.Abs
open Go Go.RowKit
set_option linter.unusedVariables false
set_option linter.unusedSimpArgs false

/-! Frames -/
abbrev Fr := List (Nat × AV)
def Fr.get : Fr → Nat → AV
  | [], _ => .top
  | (i, v) :: fr, j => if i = j then v else Fr.get fr j
def Fr.put (fr : Fr) (d : Option Nat) (v : AV) : Fr :=
  match d with
  | some d => (d, v) :: fr
  | none => fr
def FrRep (g : Ghost) (n : Nat) (fr : Fr) (tmps : Array Value) : Prop := tmps.size = n ∧ ∀ s, Rep g (fr.get s) (tmps.getD s undef)
theorem FrRep.mono {g g' : Ghost} (l : g.le g') {n : Nat} {fr : Fr} {tmps : Array Value} (h : FrRep g n fr tmps) : FrRep g' n fr tmps := ⟨h.1, fun s => (h.2 s).mono l⟩
def dstOk (n : Nat) : Option Nat → Bool
  | some d => decide (d < n)
  | none => true
theorem FrRep.put {g : Ghost} {n : Nat} {fr : Fr} {a : Act} (h : FrRep g n fr a.tmps) {d : Option Nat} (hd : dstOk n d = true) {v : AV} {x : Value} (hv : Rep g v x) : FrRep g n (fr.put d v) (a.put d x).tmps := by
  cases d with
  | none => exact h
  | some d =>
    have hd' : d < n := of_decide_eq_true hd
    refine ⟨by simp [Act.put, h.1], fun s => ?_⟩
    simp only [Fr.put, Fr.get, Act.put]
    by_cases e : d = s
    · subst e
      rw [if_pos rfl]
      have : (a.tmps.setIfInBounds d x).getD d undef = x := by simp [Array.getD, h.1, hd']
      rw [this]
      exact hv
    · rw [if_neg e]
      have : (a.tmps.setIfInBounds d x).getD s undef = a.tmps.getD s undef := by
        simp only [Array.getD_eq_getD_getElem?]
        rw [Array.getElem?_setIfInBounds_ne e]
      rw [this]
      exact h.2 s
theorem FrRep.sub {g : Ghost} {n : Nat} {fr fr' : Fr} {tmps : Array Value} (h : FrRep g n fr tmps) (hs : ∀ s, fr'.get s = fr.get s ∨ fr'.get s = .top) : FrRep g n fr' tmps :=
  ⟨h.1, fun s => by rcases hs s with e | e <;> rw [e]; exact h.2 s; exact .top _⟩

/-! Ends, deferred calls -/
inductive AEnd where
  | ret (v : AV)
  | pan (v : AV)
def EndRep (g : Ghost) : AEnd → Ending → Prop
  | .ret v, .returned x => Rep g v x
  | .pan v, .panicked [e] => Rep g v e.v ∧ e.recovered = false ∧ e.goexit = false
  | _, _ => False
inductive ADef where
  | func (f : FuncId) (args : List AV)
  | del (ts : Array TypeId) (args : List AV)
def DefRep (g : Ghost) : ADef → Deferred → Prop
  | .func f args, d => ∃ caps xs, d = { target := .fn (.func f) caps, args := xs } ∧ RepL g args (xs ++ caps)
  | .del ts args, d => ∃ ty cs xs, d = { target := .builtin .delete ts ty cs, args := xs } ∧ RepL g args xs
def DefsRep (g : Ghost) (ds : List ADef) (dl : List Deferred) : Prop := dl.length = ds.length ∧ ∀ (i : Nat) a d, ds[i]? = some a → dl[i]? = some d → DefRep g a d
theorem DefRep.mono {g g' : Ghost} (l : g.le g') {a : ADef} {d : Deferred} (h : DefRep g a d) : DefRep g' a d := by
  cases a with
  | func f args => obtain ⟨c, x, h1, h2⟩ := h; exact ⟨c, x, h1, h2.mono l⟩
  | del ts args => obtain ⟨t, c, x, h1, h2⟩ := h; exact ⟨t, c, x, h1, h2.mono l⟩
theorem DefsRep.mono {g g' : Ghost} (l : g.le g') {ds : List ADef} {dl : List Deferred} (h : DefsRep g ds dl) : DefsRep g' ds dl := ⟨h.1, fun i a d h1 h2 => (h.2 i a d h1 h2).mono l⟩
theorem DefsRep.nil {g : Ghost} : DefsRep g [] [] := ⟨rfl, fun i a d h => by simp at h⟩

/-! Calls and runs -/
abbrev Post := AEnd → AHeap → Prop
def AC (S : Seat) (f : FuncId) (args : List AV) (h : AHeap) (R : Post) : Prop :=
  ∀ w0 g w xs, Inv S w0 h g w → RepL g args xs → Calls S.P f xs w fun e w' => ∃ r h' g', g.le g' ∧ Inv S w0 h' g' w' ∧ EndRep g' r e ∧ R r h'
def Done (S : Seat) (w0 : World) (g : Ghost) (R : Post) (m : Machine) (cs : List Frame) (f : FuncId) : Prop :=
  ∃ e w' fr', Comes S.P m (lone fr' cs w') e ∧ fr'.fn = f ∧ fr'.leaving S.P w' e ∧ ∃ r h' g', g.le g' ∧ Inv S w0 h' g' w' ∧ EndRep g' r e ∧ R r h'
theorem Done.of_steps {S : Seat} {w0 : World} {g : Ghost} {R : Post} {m m' : Machine} {cs : List Frame} {f : FuncId} (s : Steps S.P m m') (h : Done S w0 g R m' cs f) : Done S w0 g R m cs f :=
  let ⟨e, w', fr', h1, h2, h3, h4⟩ := h; ⟨e, w', fr', Comes.of_steps s h1, h2, h3, h4⟩
theorem Done.of_step {S : Seat} {w0 : World} {g : Ghost} {R : Post} {m m' : Machine} {cs : List Frame} {f : FuncId} (s : step S.P m = .next m') (h : Done S w0 g R m' cs f) : Done S w0 g R m cs f := h.of_steps (.one s)
theorem Done.mono {S : Seat} {w0 : World} {g g' : Ghost} (l : g.le g') {R : Post} {m : Machine} {cs : List Frame} {f : FuncId} (h : Done S w0 g' R m cs f) : Done S w0 g R m cs f :=
  let ⟨e, w', fr', h1, h2, h3, r, h', g2, h4, h5⟩ := h; ⟨e, w', fr', h1, h2, h3, r, h', g2, l.trans h4, h5⟩
/-- From this place on (what is still to be run: k) every world that bears the frame and the heap ends as R says. -/
def Run (S : Seat) (fn : Func) (k : List Item) (ds : List ADef) (fr : Fr) (h : AHeap) (R : Post) : Prop :=
  ∀ w0 g w (a : Act) (b : Frame) cs, Inv S w0 h g w → FrRep g fn.ntmps fr a.tmps → DefsRep g ds a.defers → S.P.funcs[b.fn]? = some fn → b.kind = .normal → Done S w0 g R (lone (b.at a k) cs w) cs b.fn
inductive AMode where
  | returning
  | panicking (v : AV)
def ModeRep (g : Ghost) : AMode → FrameMode → Prop
  | .returning, .returning => True
  | .panicking v, .panicking [e] => Rep g v e.v ∧ e.recovered = false ∧ e.goexit = false
  | _, _ => False
/-- The function is being left. -/
def Leave (S : Seat) (fn : Func) (m : AMode) (ds : List ADef) (fr : Fr) (h : AHeap) (R : Post) : Prop :=
  ∀ w0 g w (frm : Frame) cs, Inv S w0 h g w → FrRep g fn.ntmps fr frm.tmps → DefsRep g ds frm.defers → S.P.funcs[frm.fn]? = some fn → frm.kind = .normal → ModeRep g m frm.mode → Done S w0 g R (lone frm cs w) cs frm.fn

def argFr : Nat → List AV → Fr
  | _, [] => []
  | i, v :: vs => (i, v) :: argFr (i + 1) vs
theorem argFr_get (vs : List AV) : ∀ (i s : Nat), (argFr i vs).get s = if i ≤ s then (vs[s - i]?).getD .top else .top := by
  induction vs with
  | nil => intro i s; simp [argFr, Fr.get]
  | cons v vs ih =>
    intro i s
    simp only [argFr, Fr.get]
    by_cases e : i = s
    · subst e; simp
    · rw [if_neg e, ih]
      by_cases q : i + 1 ≤ s
      · rw [if_pos q, if_pos (by omega)]
        have : s - i = (s - (i + 1)) + 1 := by omega
        rw [this, List.getElem?_cons_succ]
      · rw [if_neg q, if_neg (by omega)]
theorem AC.enter {S : Seat} {f : FuncId} {fn : Func} {c : Code} {args : List AV} {h : AHeap} {R : Post} (hf : S.P.funcs[f]? = some fn) (hb : fn.body = some c) (hn : args.length ≤ fn.ntmps)
    (hr : Run S fn [.code c] [] (argFr 0 args) h R) : AC S f args h R := by
  intro w0 g w xs inv hargs cs
  let b : Frame := { (default : Frame) with fn := f, kind := .normal }
  let a : Act := { tmps := xs ++ Array.replicate (fn.ntmps - xs.size) undef, defers := [] }
  have henter : Frame.enter S.P f xs .normal = b.at a [.code c] := by simp [Frame.enter, Frame.at, hf, hb, b, a]
  have hfr : FrRep g fn.ntmps (argFr 0 args) a.tmps := by
    refine ⟨by simp [a, hargs.1]; omega, fun s => ?_⟩
    rw [argFr_get, if_pos (Nat.zero_le _), Nat.sub_zero]
    cases hs : args[s]? with
    | none => exact .top _
    | some v =>
      obtain ⟨x, hx, hxr⟩ := hargs.get hs
      have hlt : s < xs.size := (Array.getElem?_eq_some_iff.1 hx).1
      have : a.tmps.getD s undef = x := by
        simp only [a, Array.getD_eq_getD_getElem?, Array.getElem?_append, if_pos hlt, hx, Option.getD_some]
      rw [this]
      exact hxr
  obtain ⟨e, w', fr', h1, h2, h3, h4⟩ := hr w0 g w a b cs inv hfr DefsRep.nil hf rfl
  rw [← henter] at h1
  exact ⟨e, w', fr', h4, h1, h2, h3⟩
theorem AC.mono {S : Seat} {f : FuncId} {args : List AV} {h : AHeap} {R R' : Post} (hc : AC S f args h R) (hr : ∀ r h', R r h' → R' r h') : AC S f args h R' :=
  fun w0 g w xs inv hargs => (hc w0 g w xs inv hargs).mono fun e w' ⟨r, h', g', a, b, c, d⟩ => ⟨r, h', g', a, b, c, hr _ _ d⟩

/-! The steps of control -/
section
variable {S : Seat} {fn : Func} {k : List Item} {ds : List ADef} {fr : Fr} {h : AHeap} {R : Post}
theorem Run.seq {x y : Code} (hr : Run S fn (.code x :: .code y :: k) ds fr h R) : Run S fn (.code (.seq x y) :: k) ds fr h R :=
  fun w0 g w a b cs i hf hd hfn hk => (hr w0 g w a b cs i hf hd hfn hk).of_step step_seq
theorem Run.skip (hr : Run S fn k ds fr h R) : Run S fn (.code .skip :: k) ds fr h R :=
  fun w0 g w a b cs i hf hd hfn hk => (hr w0 g w a b cs i hf hd hfn hk).of_step step_skip
theorem Run.block {id : Nat} {c : Code} (hr : Run S fn (.code c :: .inBlock id :: k) ds fr h R) : Run S fn (.code (.block id c) :: k) ds fr h R :=
  fun w0 g w a b cs i hf hd hfn hk => (hr w0 g w a b cs i hf hd hfn hk).of_step step_block
theorem Run.inBlock {id : Nat} (hr : Run S fn k ds fr h R) : Run S fn (.inBlock id :: k) ds fr h R :=
  fun w0 g w a b cs i hf hd hfn hk => (hr w0 g w a b cs i hf hd hfn hk).of_step step_inBlock
theorem Run.inLoop {c : Code} (hr : Run S fn (.code c :: .inLoop c :: k) ds fr h R) : Run S fn (.inLoop c :: k) ds fr h R :=
  fun w0 g w a b cs i hf hd hfn hk => (hr w0 g w a b cs i hf hd hfn hk).of_step step_inLoop
theorem Run.loop {c : Code} (hr : Run S fn (.code c :: .inLoop c :: k) ds fr h R) : Run S fn (.code (.loop c) :: k) ds fr h R :=
  fun w0 g w a b cs i hf hd hfn hk => (hr w0 g w a b cs i hf hd hfn hk).of_step step_loop
theorem Run.exit {id : Nat} {k' : List Item} (he : exitTo id k = some k') (hr : Run S fn k' ds fr h R) : Run S fn (.code (.exit id) :: k) ds fr h R :=
  fun w0 g w a b cs i hf hd hfn hk => (hr w0 g w a b cs i hf hd hfn hk).of_step (step_exit he)
theorem Run.cond {c : Operand} {x y : Code} {t : Bool} (hc : rho S fr.get c = .bool t) (h1 : t = true → Run S fn (.code x :: k) ds fr h R) (h2 : t = false → Run S fn (.code y :: k) ds fr h R) : Run S fn (.code (.cond c x y) :: k) ds fr h R := by
  intro w0 g w a b cs i hf hd hfn hk
  have hr := rho_rep i hf.2 c
  rw [hc] at hr
  have he : a.eval c = .bool t := by
    generalize a.eval c = z at hr
    cases hr; rfl
  cases t
  · exact (h2 rfl w0 g w a b cs i hf hd hfn hk).of_step (step_cond he)
  · exact (h1 rfl w0 g w a b cs i hf hd hfn hk).of_step (step_cond he)
theorem Run.ret (hr : Leave S fn .returning ds fr h R) : Run S fn (.code .ret :: k) ds fr h R :=
  fun w0 g w a b cs i hf hd hfn hk => (hr w0 g w { b.at a (.code .ret :: k) with mode := .returning } cs i hf hd hfn hk trivial).of_step step_ret
theorem Run.nil (hr : Leave S fn .returning ds fr h R) : Run S fn [] ds fr h R :=
  fun w0 g w a b cs i hf hd hfn hk => (hr w0 g w { b.at a [] with mode := .returning } cs i hf hd hfn hk trivial).of_step step_end
theorem Run.region {id : Nat} {ops : Array Oper} (hr : Run S fn (.inRegion ops (List.range ops.size) :: k) ds fr h R) : Run S fn (.code (.region id ops false) :: k) ds fr h R :=
  fun w0 g w a b cs i hf hd hfn hk => (hr w0 g w a b cs i hf hd hfn hk).of_step step_region
theorem Run.regionEnd {ops : Array Oper} (hr : Run S fn k ds fr h R) : Run S fn (.inRegion ops [] :: k) ds fr h R :=
  fun w0 g w a b cs i hf hd hfn hk => (hr w0 g w a b cs i hf hd hfn hk).of_step step_region_end
/-- Slots may be forgotten. -/
theorem Run.sub {fr' : Fr} (hs : ∀ s, fr'.get s = fr.get s ∨ fr'.get s = .top) (hr : Run S fn k ds fr' h R) : Run S fn k ds fr h R :=
  fun w0 g w a b cs i hf hd hfn hk => hr w0 g w a b cs i (hf.sub hs) hd hfn hk
theorem Run.mono {R' : Post} (hq : ∀ r h', R r h' → R' r h') (hr : Run S fn k ds fr h R) : Run S fn k ds fr h R' :=
  fun w0 g w a b cs i hf hd hfn hk => let ⟨e, w', fr', h1, h2, h3, r, h', g2, h4, h5, h6, h7⟩ := hr w0 g w a b cs i hf hd hfn hk; ⟨e, w', fr', h1, h2, h3, r, h', g2, h4, h5, h6, hq _ _ h7⟩
end
end Go.Proofs.YtajknofacjiddaaDoor.Abs

/- The operations, step by step; leaving a function; what a call leaves behind may be dropped. -/
namespace Go.Proofs.YtajknofacjiddaaDoor.Abs
open Go Go.RowKit
set_option linter.unusedVariables false
set_option linter.unusedSimpArgs false

def awanted (ops : Array Oper) (o : Oper) (fr : Nat → AV) : Option Bool :=
  match o.guard with
  | none => some true
  | some (j, want) => match (ops[j]?).bind (·.dst) with
    | some t => match fr t with
      | .bool b => some (b == want)
      | .tup _ => some false
      | _ => none
    | none => none
theorem awanted_sound {g : Ghost} {ops : Array Oper} {o : Oper} {fr : Nat → AV} {tmps : Array Value} {r : Bool} (hf : ∀ s, Rep g (fr s) (tmps.getD s undef)) (e : awanted ops o fr = some r) : Region.wanted o (yielded ops tmps) = r := by
  unfold awanted at e
  unfold Region.wanted
  cases hg : o.guard with
  | none => rw [hg] at e; cases e; rfl
  | some p =>
    obtain ⟨j, want⟩ := p
    rw [hg] at e
    simp only at e ⊢
    split at e
    case h_2 => cases e
    rename_i t ht
    split at e
    case h_3 => cases e
    case h_2 =>
      rename_i cs hb
      cases e
      have h1 := hf t
      rw [hb] at h1
      unfold yielded
      rw [ht]
      simp only [Option.bind_some]
      cases hq : tmps[t]? with
      | none => cases want <;> rfl
      | some x =>
        have : tmps.getD t undef = x := by simp [Array.getD_eq_getD_getElem?, hq]
        rw [this] at h1
        cases h1
        cases want <;> rfl
    rename_i b hb
    cases e
    have h1 := hf t
    rw [hb] at h1
    have h2 : tmps[t]? = some (.bool b) := by
      cases hq : tmps[t]? with
      | none =>
        have : tmps.getD t undef = undef := by simp [Array.getD_eq_getD_getElem?, hq]
        rw [this] at h1
        cases h1
      | some x =>
        have : tmps.getD t undef = x := by simp [Array.getD_eq_getD_getElem?, hq]
        rw [this] at h1
        cases h1
        rfl
    unfold yielded
    rw [ht]
    simp only [Option.bind_some, h2]
    cases b <;> cases want <;> rfl

section
variable {P : Program} {b : Frame} {a : Act} {k : List Item} {cs : List Frame} {w w' : World} {ops : Array Oper} {i : Nat} {l : List Nat} {o : Oper}
theorem step_op_fin (ho : ops[i]? = some o) (hw : Region.wanted o (yielded ops a.tmps) = true) {n : Next} {x : Value} (hn : n = .value x ∨ (n = .skip ∧ x = undef)) (hr : (execOp a.eval o).run P w = .ok n w') :
    step P (lone (b.at a (.inRegion ops (i :: l) :: k)) cs w) = .next (lone (b.at (a.put o.dst x) (.inRegion ops l :: k)) cs w') := by
  have hg := stepG_op (P := P) (b := b) (k := k) (cs := cs) (w := w) (rest := l) ho hw
  have hfin : (b.at a (.inRegion ops (i :: l) :: k)).finish x = b.at (a.put o.dst x) (.inRegion ops l :: k) := by rw [Frame.finish_at, ho]; rfl
  refine step_lone_go ?_
  rcases hn with rfl | ⟨rfl, rfl⟩
  · rw [hg, ← hfin]; simp [stepG.apply, hr]
  · rw [hg, ← hfin]; simp [stepG.apply, hr]
theorem step_op_defer (ho : ops[i]? = some o) (hw : Region.wanted o (yielded ops a.tmps) = true) {d : Deferred} (hr : (execOp a.eval o).run P w = .ok (.defer d) w') :
    step P (lone (b.at a (.inRegion ops (i :: l) :: k)) cs w) = .next (lone (b.at ({ a with defers := d :: a.defers }.put o.dst undef) (.inRegion ops l :: k)) cs w') := by
  have hg := stepG_op (P := P) (b := b) (k := k) (cs := cs) (w := w) (rest := l) ho hw
  refine step_lone_go ?_
  have : ({ b.at a (.inRegion ops (i :: l) :: k) with defers := d :: a.defers } : Frame).finish undef = b.at ({ a with defers := d :: a.defers }.put o.dst undef) (.inRegion ops l :: k) := by
    have := Frame.finish_at b { a with defers := d :: a.defers } ops i l k undef
    rw [ho] at this; exact this
  rw [hg]; simp only [stepG.apply, Sem.runT_eq, hr, GStep.bare_after]
  exact congrArg (fun fr => GStep.go { frame := fr, callers := cs, status := .running, dying := none } w') this
theorem step_op_enter (ho : ops[i]? = some o) (hw : Region.wanted o (yielded ops a.tmps) = true) {f : FuncId} {args : Array Value} (hr : (execOp a.eval o).run P w = .ok (.enter f args) w') :
    step P (lone (b.at a (.inRegion ops (i :: l) :: k)) cs w) = .next (lone (Frame.enter P f args .normal) (b.at a (.inRegion ops (i :: l) :: k) :: cs) w') := by
  have hg := stepG_op (P := P) (b := b) (k := k) (cs := cs) (w := w) (rest := l) ho hw
  exact step_lone_go (by rw [hg]; simp [stepG.apply, hr, Frame.at])
theorem step_op_panic (ho : ops[i]? = some o) (hw : Region.wanted o (yielded ops a.tmps) = true) {v : Value} (hr : (execOp a.eval o).run P w = .halt (.panic v) w') :
    step P (lone (b.at a (.inRegion ops (i :: l) :: k)) cs w) = .next (lone { b.at a (.inRegion ops (i :: l) :: k) with mode := .panicking [{ v, recovered := false }] } cs w') := by
  have hg := stepG_op (P := P) (b := b) (k := k) (cs := cs) (w := w) (rest := l) ho hw
  exact step_lone_go (by rw [hg, ← Frame.raise_at]; simp [stepG.apply, hr])
end

def Enters (S : Seat) (f : FuncId) : Prop := ∀ args w, (callFunc f args).run S.P w = .ok (.enter f args) w
theorem Enters.of {S : Seat} {f : FuncId} {fn : Func} (hf : S.P.funcs[f]? = some fn) (hn : (fn.name == "runtime.NumGoroutine") = false) (hb : fn.body.isNone = false) : Enters S f := by
  intro args w
  unfold callFunc
  simp only [Sem.run_bind, run_program, Result.andThen_ok, hf, hn, hb, Bool.false_eq_true, if_false, Sem.run_pure]

section
variable {S : Seat} {fn : Func} {k : List Item} {ds : List ADef} {fr : Fr} {h : AHeap} {R : Post} {ops : Array Oper} {i : Nat} {l : List Nat} {o : Oper}
theorem put_dst_defers (a : Act) (d : Option Nat) (x : Value) : (a.put d x).defers = a.defers := by cases d <;> rfl
theorem Run.opQ (ho : ops[i]? = some o) (hw : awanted ops o fr.get = some true) (hd : dstOk fn.ntmps o.dst = true) {v : AV} (ha : aq S o.op (rho S fr.get) h = some v) (hr : Run S fn (.inRegion ops l :: k) ds (fr.put o.dst v) h R) :
    Run S fn (.inRegion ops (i :: l) :: k) ds fr h R := by
  intro w0 g w a b cs inv hf hds hfn hk
  obtain ⟨y, w', g', h1, h2, h3, h4⟩ := aq_sound inv (o := o) (fun x _ => rho_rep inv hf.2 x) ha
  exact ((hr w0 g' w' (a.put o.dst y) b cs h3 ((hf.mono h2).put hd h4) (by rw [put_dst_defers]; exact hds.mono h2) hfn hk).mono h2).of_step (step_op_fin ho (awanted_sound hf.2 hw) (.inl rfl) h1)
theorem Run.opE (ho : ops[i]? = some o) (hw : awanted ops o fr.get = some true) (hd : dstOk fn.ntmps o.dst = true) {v : AV} {h' : AHeap} (ha : ae S o.op (rho S fr.get) h = some (v, h')) (hr : Run S fn (.inRegion ops l :: k) ds (fr.put o.dst v) h' R) :
    Run S fn (.inRegion ops (i :: l) :: k) ds fr h R := by
  intro w0 g w a b cs inv hf hds hfn hk
  obtain ⟨n, w', g', h1, h2, h3, h4⟩ := ae_sound inv (o := o) (fun x _ => rho_rep inv hf.2 x) ha
  rcases h4 with ⟨y, rfl, h4⟩ | ⟨rfl, rfl⟩
  · exact ((hr w0 g' w' (a.put o.dst y) b cs h3 ((hf.mono h2).put hd h4) (by rw [put_dst_defers]; exact hds.mono h2) hfn hk).mono h2).of_step (step_op_fin ho (awanted_sound hf.2 hw) (.inl rfl) h1)
  · exact ((hr w0 g' w' (a.put o.dst undef) b cs h3 ((hf.mono h2).put hd (.top _)) (by rw [put_dst_defers]; exact hds.mono h2) hfn hk).mono h2).of_step (step_op_fin ho (awanted_sound hf.2 hw) (.inr ⟨rfl, rfl⟩) h1)
theorem Run.opSkip (ho : ops[i]? = some o) (hw : awanted ops o fr.get = some false) (hd : dstOk fn.ntmps o.dst = true) (hr : Run S fn (.inRegion ops l :: k) ds (fr.put o.dst (.tup [])) h R) :
    Run S fn (.inRegion ops (i :: l) :: k) ds fr h R := by
  intro w0 g w a b cs inv hf hds hfn hk
  have hs := step_op_skip (P := S.P) (b := b) (a := a) (k := k) (cs := cs) (w := w) (ops := ops) (i := i) (rest := l) (by simp [ho, awanted_sound hf.2 hw])
  simp only [ho, Option.bind_some] at hs
  exact (hr w0 g w (a.put o.dst undef) b cs inv (hf.put hd (.tup rfl (fun i v e => by simp at e))) (by rw [put_dst_defers]; exact hds) hfn hk).of_step hs
theorem Run.opCall (ho : ops[i]? = some o) (hw : awanted ops o fr.get = some true) (hd : dstOk fn.ntmps o.dst = true) {f : Operand} {args : Array Operand} {ts : Array TypeId} (hop : o.op = .call { callee := .value f, args := args, argTypes := ts }) {fid : FuncId} {caps : List AV}
    (hfn' : rho S fr.get f = .func fid caps) (he : Enters S fid) {Rc : Post} (hc : AC S fid (args.toList.map (rho S fr.get) ++ caps) h Rc)
    (hr : ∀ v h', Rc (.ret v) h' → Run S fn (.inRegion ops l :: k) ds (fr.put o.dst v) h' R) (hp : ∀ v h', Rc (.pan v) h' → Leave S fn (.panicking v) ds fr h' R) :
    Run S fn (.inRegion ops (i :: l) :: k) ds fr h R := by
  intro w0 g w a b cs inv hf hds hfn hk
  have hrep := rho_rep inv hf.2 f
  rw [hfn'] at hrep
  have hargs := list_rep (g := g) (ρ := rho S fr.get) (e := a.eval) (xs := args) (fun x _ => rho_rep inv hf.2 x)
  obtain ⟨xs, hfv, hxs⟩ : ∃ xs : Array Value, a.eval f = .func (.func fid) #[] xs ∧ RepL g caps xs := by
    generalize a.eval f = z at hrep
    cases hrep
    exact ⟨_, rfl, ‹_›, ‹_›⟩
  have hall : RepL g (args.toList.map (rho S fr.get) ++ caps) (args.map a.eval ++ xs) := by
    refine ⟨by simp [hxs.1], fun j v hv => ?_⟩
    by_cases q : j < args.size
    · rw [List.getElem?_append_left (by simpa using q)] at hv
      have := hargs.2 j v hv
      have e1 : (args.map a.eval ++ xs).getD j undef = (args.map a.eval).getD j undef := by
        simp only [Array.getD_eq_getD_getElem?, Array.getElem?_append, Array.size_map, if_pos q]
      rw [e1]
      exact this
    · rw [List.getElem?_append_right (by simp; omega)] at hv
      have := hxs.2 _ v hv
      have e1 : (args.map a.eval ++ xs).getD j undef = xs.getD (j - (List.map (rho S fr.get) args.toList).length) undef := by
        simp only [Array.getD_eq_getD_getElem?, Array.getElem?_append, Array.size_map, if_neg q, List.length_map, Array.length_toList]
      rw [e1]
      exact this
  have hrun : (execOp a.eval o).run S.P w = .ok (.enter fid (args.map a.eval ++ xs)) w := by
    unfold execOp
    simp only [hop, resolve, Sem.run_bind, Sem.run_pure, Result.andThen_ok, Deferred.ofValue, hfv, Array.empty_append, invoke]
    exact he _ _
  obtain ⟨e, w', fr', ⟨r, h', g', l1, inv', hend, hR⟩, hcomes, hffn, hleave⟩ := hc w0 g w _ inv hall (b.at a (.inRegion ops (i :: l) :: k) :: cs)
  have s1 := step_op_enter (b := b) (k := k) (cs := cs) (l := l) ho (awanted_sound hf.2 hw) hrun
  cases r with
  | ret v =>
    cases e with
    | returned x =>
      have s2 := step_leave_returned (c := b.at a (.inRegion ops (i :: l) :: k)) (cs := cs) hleave
      have hfin : (b.at a (.inRegion ops (i :: l) :: k)).finish x = b.at (a.put o.dst x) (.inRegion ops l :: k) := by rw [Frame.finish_at, ho]; rfl
      rw [hfin] at s2
      refine Done.of_steps (.head s1 (Steps.trans hcomes (.one s2))) ((hr v h' hR w0 g' w' (a.put o.dst x) b cs inv' ((hf.mono l1).put hd hend) (by rw [put_dst_defers]; exact hds.mono l1) hfn hk).mono l1)
    | panicked ch => exact hend.elim
    | outgrown => exact hend.elim
  | pan v =>
    cases e with
    | returned x => exact hend.elim
    | panicked ch =>
      cases ch with
      | nil => exact hend.elim
      | cons pe rest =>
        cases rest with
        | cons _ _ => exact hend.elim
        | nil =>
          have s2 := step_leave_panicked (c := b.at a (.inRegion ops (i :: l) :: k)) (cs := cs) hleave
          rw [Frame.raise_at] at s2
          exact Done.of_steps (.head s1 (Steps.trans hcomes (.one s2))) ((hp v h' hR w0 g' w' { b.at a (.inRegion ops (i :: l) :: k) with mode := .panicking [pe] } cs inv' (hf.mono l1) (hds.mono l1) hfn hk hend).mono l1)
    | outgrown => exact hend.elim
theorem DefsRep.cons {g : Ghost} {a : ADef} {d : Deferred} {ds : List ADef} {dl : List Deferred} (h : DefRep g a d) (hs : DefsRep g ds dl) : DefsRep g (a :: ds) (d :: dl) :=
  ⟨by simp [hs.1], fun i a' d' h1 h2 => by
    cases i with
    | zero => cases h1; cases h2; exact h
    | succ i => exact hs.2 i a' d' h1 h2⟩
theorem Run.opDeferDel (ho : ops[i]? = some o) (hw : awanted ops o fr.get = some true) (hd : dstOk fn.ntmps o.dst = true) {args : Array Operand} {ts : Array TypeId} (hop : o.op = .defer { callee := .builtin .delete, args := args, argTypes := ts })
    (hr : Run S fn (.inRegion ops l :: k) (.del ts (args.toList.map (rho S fr.get)) :: ds) (fr.put o.dst .top) h R) : Run S fn (.inRegion ops (i :: l) :: k) ds fr h R := by
  intro w0 g w a b cs inv hf hds hfn hk
  have hargs := list_rep (g := g) (ρ := rho S fr.get) (e := a.eval) (xs := args) (fun x _ => rho_rep inv hf.2 x)
  obtain ⟨cst, hrun⟩ : ∃ cst, (execOp a.eval o).run S.P w = .ok (.defer { target := .builtin .delete ts o.type cst, args := args.map a.eval }) w := by
    unfold execOp
    simp only [hop, resolve, Sem.run_bind, Sem.run_pure, Result.andThen_ok]
    exact ⟨_, rfl⟩
  refine (hr w0 g w _ b cs inv (FrRep.put (a := { a with defers := _ :: a.defers }) hf hd (.top _)) ?_ hfn hk).of_step (step_op_defer ho (awanted_sound hf.2 hw) hrun)
  rw [put_dst_defers]
  exact DefsRep.cons ⟨_, _, _, rfl, hargs⟩ hds
theorem Run.opDeferFn (ho : ops[i]? = some o) (hw : awanted ops o fr.get = some true) (hd : dstOk fn.ntmps o.dst = true) {f : Operand} {args : Array Operand} {ts : Array TypeId} (hop : o.op = .defer { callee := .value f, args := args, argTypes := ts }) {fid : FuncId} {caps : List AV}
    (hfn' : rho S fr.get f = .func fid caps) (hr : Run S fn (.inRegion ops l :: k) (.func fid (args.toList.map (rho S fr.get) ++ caps) :: ds) (fr.put o.dst .top) h R) : Run S fn (.inRegion ops (i :: l) :: k) ds fr h R := by
  intro w0 g w a b cs inv hf hds hfn hk
  have hrep := rho_rep inv hf.2 f
  rw [hfn'] at hrep
  have hargs := list_rep (g := g) (ρ := rho S fr.get) (e := a.eval) (xs := args) (fun x _ => rho_rep inv hf.2 x)
  obtain ⟨xs, hfv, hxs⟩ : ∃ xs : Array Value, a.eval f = .func (.func fid) #[] xs ∧ RepL g caps xs := by
    generalize a.eval f = z at hrep
    cases hrep
    exact ⟨_, rfl, ‹_›, ‹_›⟩
  have hall : RepL g (args.toList.map (rho S fr.get) ++ caps) (args.map a.eval ++ xs) := by
    refine ⟨by simp [hxs.1], fun j v hv => ?_⟩
    by_cases q : j < args.size
    · rw [List.getElem?_append_left (by simpa using q)] at hv
      have := hargs.2 j v hv
      have e1 : (args.map a.eval ++ xs).getD j undef = (args.map a.eval).getD j undef := by
        simp only [Array.getD_eq_getD_getElem?, Array.getElem?_append, Array.size_map, if_pos q]
      rw [e1]
      exact this
    · rw [List.getElem?_append_right (by simp; omega)] at hv
      have := hxs.2 _ v hv
      have e1 : (args.map a.eval ++ xs).getD j undef = xs.getD (j - (List.map (rho S fr.get) args.toList).length) undef := by
        simp only [Array.getD_eq_getD_getElem?, Array.getElem?_append, Array.size_map, if_neg q, List.length_map, Array.length_toList]
      rw [e1]
      exact this
  have hrun : (execOp a.eval o).run S.P w = .ok (.defer { target := .fn (.func fid) xs, args := args.map a.eval }) w := by
    unfold execOp
    simp only [hop, resolve, Sem.run_bind, Sem.run_pure, Result.andThen_ok, Deferred.ofValue, hfv, Array.empty_append]
  refine (hr w0 g w _ b cs inv (FrRep.put (a := { a with defers := _ :: a.defers }) hf hd (.top _)) ?_ hfn hk).of_step (step_op_defer ho (awanted_sound hf.2 hw) hrun)
  rw [put_dst_defers]
  exact DefsRep.cons ⟨_, _, rfl, hall⟩ hds
theorem Run.opPanic (ho : ops[i]? = some o) (hw : awanted ops o fr.get = some true) {x : Operand} (hop : o.op = .panic x) {t : TypeId} {v : AV} (hx : rho S fr.get x = .iface t v) (hr : Leave S fn (.panicking (.iface t v)) ds fr h R) :
    Run S fn (.inRegion ops (i :: l) :: k) ds fr h R := by
  intro w0 g w a b cs inv hf hds hfn hk
  have hrep := rho_rep inv hf.2 x
  rw [hx] at hrep
  obtain ⟨y, hy⟩ : ∃ y, a.eval x = .iface t y := by
    generalize a.eval x = z at hrep
    cases hrep
    exact ⟨_, rfl⟩
  have hrun : (execOp a.eval o).run S.P w = .halt (.panic (a.eval x)) w := by
    unfold execOp
    simp only [hop, hy, Instr.panic, Sem.run_bind, run_goPanic, Result.andThen_halt]
  exact (hr w0 g w { b.at a (.inRegion ops (i :: l) :: k) with mode := .panicking [{ v := a.eval x, recovered := false }] } cs inv hf hds hfn hk ⟨hrep, rfl, rfl⟩).of_step (step_op_panic ho (awanted_sound hf.2 hw) hrun)

/-! Leaving -/
def aresults (S : Seat) (fn : Func) (fr : Fr) (h : AHeap) : List ResultVar → Option (List AV)
  | [] => some []
  | .tmp t :: rs => (aresults S fn fr h rs).map (fr.get t :: ·)
  | .cell t ty :: rs => match aload S ty (fr.get t) h with
    | some v => (aresults S fn fr h rs).map (v :: ·)
    | none => none
def oneOf : List AV → AV
  | [v] => v
  | vs => .tup vs
def resOne (tmps : Array Value) : ResultVar → Sem Value
  | .tmp t => pure (tmps.getD t undef)
  | .cell a t => do loadVar t (← asAddr (tmps.getD a undef))
theorem results_eq (fn : Func) (tmps : Array Value) : results fn tmps = (do let vs ← fn.results.mapM (resOne tmps); pure (if h : vs.size = 1 then vs[0] else .tuple vs)) := by
  unfold results
  congr 1
theorem aresults_sound {w0 : World} {g : Ghost} {w : World} (inv : Inv S w0 h g w) {tmps : Array Value} (hf : ∀ s, Rep g (fr.get s) (tmps.getD s undef)) : ∀ (rs : List ResultVar) (vs : List AV), aresults S fn fr h rs = some vs →
    ∃ xs, (rs.mapM (resOne tmps)).run S.P w = .ok xs w ∧ xs.length = vs.length ∧ ∀ (i : Nat) v x, vs[i]? = some v → xs[i]? = some x → Rep g v x
  | [], vs, e => by cases e; exact ⟨[], rfl, rfl, fun i v x h => by simp at h⟩
  | .tmp t :: rs, vs, e => by
    simp only [aresults] at e
    cases hq : aresults S fn fr h rs with
    | none => rw [hq] at e; cases e
    | some vs' =>
      rw [hq] at e
      cases e
      obtain ⟨xs, h1, h2, h3⟩ := aresults_sound inv hf rs vs' hq
      refine ⟨tmps.getD t undef :: xs, ?_, by simp [h2], fun i v x hv hx => ?_⟩
      · simp only [List.mapM_cons, resOne, Sem.run_bind, Sem.run_pure, Result.andThen_ok, h1]
      · cases i with
        | zero => cases hv; cases hx; exact hf t
        | succ i => exact h3 i v x hv hx
  | .cell t ty :: rs, vs, e => by
    simp only [aresults] at e
    split at e
    case h_2 => cases e
    rename_i v hl
    cases hq : aresults S fn fr h rs with
    | none => rw [hq] at e; cases e
    | some vs' =>
      rw [hq] at e
      cases e
      obtain ⟨xs, h1, h2, h3⟩ := aresults_sound inv hf rs vs' hq
      obtain ⟨y, hy, hyr⟩ := aload_sound inv (hf t) hl
      unfold aload at hl
      obtain ⟨cs, hcs, hv⟩ := Option.bind_eq_some_iff.1 hl
      obtain ⟨b, o, hx, hc⟩ := acells_sound inv (hf t) hcs
      refine ⟨y :: xs, ?_, by simp [h2], fun i v x hv hx => ?_⟩
      · rw [hx] at hy
        simp only [Instr.loadAt, Instr.sureAddr, Sem.run_bind, Sem.run_pure, Result.andThen_ok] at hy
        simp only [List.mapM_cons, resOne, hx, Sem.run_bind, asAddr, Sem.run_pure, Result.andThen_ok, hy, h1]
      · cases i with
        | zero => cases hv; cases hx; exact hyr
        | succ i => exact h3 i v x hv hx
theorem results_sound {w0 : World} {g : Ghost} {w : World} (inv : Inv S w0 h g w) {tmps : Array Value} (hf : ∀ s, Rep g (fr.get s) (tmps.getD s undef)) {vs : List AV} (e : aresults S fn fr h fn.results.toList = some vs) :
    ∃ x, (results fn tmps).run S.P w = .ok x w ∧ Rep g (oneOf vs) x := by
  obtain ⟨xs, h1, h2, h3⟩ := aresults_sound inv hf _ vs e
  have hr : (results fn tmps).run S.P w = .ok (if h : xs.toArray.size = 1 then xs.toArray[0] else .tuple xs.toArray) w := by
    rw [results_eq, Array.mapM_eq_mapM_toList]
    simp only [Sem.run_bind, Sem.run_map, h1, Result.andThen_ok, Sem.run_pure]
  refine ⟨_, hr, ?_⟩
  match vs, xs, h2, h3 with
  | [v], [x], _, h3 => exact h3 0 v x rfl rfl
  | [], [], _, _ => exact .tup rfl (fun i v hv => by simp at hv)
  | v1 :: v2 :: vs, x1 :: x2 :: xs, h2, h3 =>
    have : ¬ (x1 :: x2 :: xs).toArray.size = 1 := by simp
    rw [dif_neg this]
    have hrl := RepL.of h2 h3
    exact .tup hrl.1 hrl.2
theorem Leave.ret {vs : List AV} (e : aresults S fn fr h fn.results.toList = some vs) (hR : R (.ret (oneOf vs)) h) : Leave S fn .returning [] fr h R := by
  intro w0 g w frm cs inv hf hds hfn hk hm
  obtain ⟨x, hx, hxr⟩ := results_sound inv hf.2 e
  have hd : frm.defers = [] := List.eq_nil_of_length_eq_zero hds.1
  have hmode : frm.mode = .returning := by
    revert hm
    cases frm.mode <;> intro hm <;> first | rfl | exact hm.elim
  exact ⟨.returned x, w, frm, Steps.refl _ _, rfl, ⟨hmode, hd, hk, fn, hfn, hx⟩, .ret (oneOf vs), h, g, Ghost.le.refl g, inv, hxr, hR⟩
theorem Leave.pan {v : AV} (hR : R (.pan v) h) : Leave S fn (.panicking v) [] fr h R := by
  intro w0 g w frm cs inv hf hds hfn hk hm
  have hd : frm.defers = [] := List.eq_nil_of_length_eq_zero hds.1
  cases hmode : frm.mode with
  | run => rw [hmode] at hm; exact hm.elim
  | returning => rw [hmode] at hm; exact hm.elim
  | panicking ch =>
    rw [hmode] at hm
    match ch, hm with
    | [pe], hm => exact ⟨.panicked [pe], w, frm, Steps.refl _ _, rfl, ⟨hmode, hd, fn, hfn⟩, .pan v, h, g, Ghost.le.refl g, inv, hm, hR⟩
theorem ModeRep.notRun {g : Ghost} {m : AMode} {f : FrameMode} (h : ModeRep g m f) : f ≠ .run := by rintro rfl; cases m <;> exact h
theorem ModeRep.mono {g g' : Ghost} (l : g.le g') {m : AMode} {f : FrameMode} (h : ModeRep g m f) : ModeRep g' m f := by
  cases m with
  | returning => cases f <;> exact h
  | panicking v =>
    cases f with
    | run => exact h
    | returning => exact h
    | panicking ch =>
      match ch, h with
      | [pe], h => exact ⟨h.1.mono l, h.2⟩
theorem Leave.del {m : AMode} {ts : Array TypeId} {mv kv : AV} {h' : AHeap} (e : adelete S ts[0]? mv kv h = some h') (hr : Leave S fn m ds fr h' R) : Leave S fn m (.del ts [mv, kv] :: ds) fr h R := by
  intro w0 g w frm cs inv hf hds hfn hk hm
  obtain ⟨d, dl, hdl⟩ : ∃ d dl, frm.defers = d :: dl := by
    cases hq : frm.defers with
    | nil => rw [hq] at hds; simp [DefsRep] at hds
    | cons d dl => exact ⟨d, dl, rfl⟩
  rw [hdl] at hds
  obtain ⟨ty, cst, xs, rfl, hxs⟩ := hds.2 0 _ _ rfl rfl
  obtain ⟨w', h1, h2⟩ := adelete_sound (ty := ty) inv hxs e
  have hinv : (invoke (.builtin .delete ts ty cst) xs).run S.P w = .ok (.value (.tuple #[])) w' := by
    simp only [invoke, builtin, Sem.run_bind, h1, Result.andThen_ok, Sem.run_pure]
  have hstep : step S.P (lone frm cs w) = .next (lone { frm with defers := dl } cs w') := by
    refine step_lone_go ?_
    have hnr := hm.notRun
    cases hmode : frm.mode with
    | run => exact absurd hmode hnr
    | returning => simp [stepG, unwind, callDeferred, hmode, hdl, hinv]
    | panicking chain => simp [stepG, unwind, callDeferred, hmode, hdl, hinv]
  exact (hr w0 g w' { frm with defers := dl } cs h2 hf ⟨by have := hds.1; simpa using this, fun i a d h1 h2 => hds.2 (i + 1) a d h1 h2⟩ hfn hk hm).of_step hstep
end
end Go.Proofs.YtajknofacjiddaaDoor.Abs
