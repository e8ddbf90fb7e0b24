/- An abstract machine: values by content, objects by number; how a world of the model bears them. -/
import Derived.Below
import Derived.Orders
import Derived.KernelRfl
import Derived.Laws.Cells
import Derived.Laws.Rows
import Derived.Laws.AppendOwn
namespace Go.Proofs.YtajknofacjiddaaDoor.Abs
open Go Go.RowKit
set_option linter.unusedVariables false
set_option linter.unusedSimpArgs false

/-- May a slice be appended to? 'tip t': it is the newest of the row t; 'fixed': it has no room; 'unk': unknown. -/
inductive Tok where
  | tip (t : Nat)
  | fixed
  | unk
  deriving DecidableEq

inductive AV where
  | top
  | bool (b : Bool)
  | int (k : IntKind) (n : Int)
  | str (s : ByteArray)
  | ptr (id off : Nat)
  | nilptr
  | cptr (cs : List AV)
  | slice (sz : Nat) (els : List (List AV)) (tok : Tok)
  | row (id off len cap sz : Nat)
  | map (id : Nat)
  | nilmap
  | func (f : FuncId) (caps : List AV)
  | nilfunc
  | iface (t : TypeId) (v : AV)
  | niliface
  | agg (cs : List AV)
  | tup (cs : List AV)

structure AEnt where
  born : Nat
  key : AV
  val : AV

inductive AObj where
  | cells (cs : List AV)
  | map (clk : Nat) (es : List AEnt)
  | iter (m : Option Nat) (since : Nat) (seen : List Nat) (last : Nat)

structure AHeap where
  objs : List (Option AObj)
  toks : List Nat

/-- Which block an object is; which cells never change, and what they hold; where the slices of a row lie. -/
structure Ghost where
  G : Nat → Option Nat
  I : Nat → Nat → Option Value
  T : Nat → Nat → Option (Option Addr × Nat × Nat)

structure Ghost.le (g g' : Ghost) : Prop where
  G : ∀ i b, g.G i = some b → g'.G i = some b
  I : ∀ b o x, g.I b o = some x → g'.I b o = some x
  T : ∀ t n d, g.T t n = some d → g'.T t n = some d
theorem Ghost.le.refl (g : Ghost) : g.le g := ⟨fun _ _ h => h, fun _ _ _ h => h, fun _ _ _ h => h⟩
theorem Ghost.le.trans {a b c : Ghost} (h : a.le b) (k : b.le c) : a.le c := ⟨fun i x e => k.G _ _ (h.G _ _ e), fun i x y e => k.I _ _ _ (h.I _ _ _ e), fun i x y e => k.T _ _ _ (h.T _ _ _ e)⟩

def TokRep (g : Ghost) (sz n : Nat) (a : Option Addr) (cap : Nat) : Tok → Prop
  | .unk => True
  | .fixed => cap = n
  | .tip t => g.T t n = some (a, cap, sz)

inductive Rep (g : Ghost) : AV → Value → Prop
  | top (x : Value) : Rep g .top x
  | bool (b : Bool) : Rep g (.bool b) (.bool b)
  | int (k : IntKind) (n : Int) : Rep g (.int k n) (.int k n)
  | str (s : ByteArray) : Rep g (.str s) (.string s)
  | ptr {id off b : Nat} (h : g.G id = some b) : Rep g (.ptr id off) (.pointer (some ⟨b, off, none⟩))
  | nilptr : Rep g .nilptr (.pointer none)
  | cptr {cs : List AV} {b o : Nat} (f : Nat → Value) (hI : ∀ i, i < cs.length → g.I b (o + i) = some (f i)) (hR : ∀ i v, cs[i]? = some v → Rep g v (f i)) :
      Rep g (.cptr cs) (.pointer (some ⟨b, o, none⟩))
  | sliceNil {sz : Nat} {tok : Tok} {a : Option Addr} {cap : Nat} (h : TokRep g sz 0 a cap tok) (hn : a = none → cap = 0) : Rep g (.slice sz [] tok) (.slice a 0 cap)
  | slice {sz : Nat} {els : List (List AV)} {tok : Tok} {b o cap : Nat} (f : Nat → Value) (hI : ∀ i, i < els.length * sz → g.I b (o + i) = some (f i))
      (hsz : ∀ (i : Nat) (e : List AV), els[i]? = some e → e.length ≤ sz) (hR : ∀ (i j : Nat) (e : List AV) (v : AV), els[i]? = some e → e[j]? = some v → Rep g v (f (i * sz + j))) (hc : els.length ≤ cap)
      (ht : TokRep g sz els.length (some ⟨b, o, none⟩) cap tok) : Rep g (.slice sz els tok) (.slice (some ⟨b, o, none⟩) els.length cap)
  | row {id off len cap sz b : Nat} (h : g.G id = some b) : Rep g (.row id off len cap sz) (.slice (some ⟨b, off, none⟩) len cap)
  | map {id b : Nat} (h : g.G id = some b) : Rep g (.map id) (.map (some b))
  | nilmap : Rep g .nilmap (.map none)
  | func {f : FuncId} {caps : List AV} {xs : Array Value} (hs : xs.size = caps.length) (hR : ∀ i v, caps[i]? = some v → Rep g v (xs.getD i undef)) :
      Rep g (.func f caps) (.func (.func f) #[] xs)
  | nilfunc : Rep g .nilfunc .nilFunc
  | iface {t : TypeId} {v : AV} {x : Value} (h : Rep g v x) : Rep g (.iface t v) (.iface t x)
  | niliface : Rep g .niliface .nilIface
  | agg {cs : List AV} {xs : Array Value} (hs : xs.size = cs.length) (hR : ∀ i v, cs[i]? = some v → Rep g v (xs.getD i undef)) : Rep g (.agg cs) (.agg xs)
  | tup {cs : List AV} {xs : Array Value} (hs : xs.size = cs.length) (hR : ∀ i v, cs[i]? = some v → Rep g v (xs.getD i undef)) : Rep g (.tup cs) (.tuple xs)

theorem TokRep.mono {g g' : Ghost} (l : g.le g') {sz n cap : Nat} {a : Option Addr} : ∀ {tok : Tok}, TokRep g sz n a cap tok → TokRep g' sz n a cap tok
  | .unk, _ => trivial
  | .fixed, h => h
  | .tip _, h => l.T _ _ _ h

theorem Rep.mono {g g' : Ghost} (l : g.le g') {v : AV} {x : Value} (h : Rep g v x) : Rep g' v x := by
  induction h with
  | top x => exact .top x
  | bool b => exact .bool b
  | int k n => exact .int k n
  | str s => exact .str s
  | ptr h => exact .ptr (l.G _ _ h)
  | nilptr => exact .nilptr
  | cptr f hI _ ih => exact .cptr f (fun i hi => l.I _ _ _ (hI i hi)) ih
  | sliceNil h hn => exact .sliceNil (h.mono l) hn
  | slice f hI hsz _ hc ht ih => exact .slice f (fun i hi => l.I _ _ _ (hI i hi)) hsz ih hc (ht.mono l)
  | row h => exact .row (l.G _ _ h)
  | map h => exact .map (l.G _ _ h)
  | nilmap => exact .nilmap
  | func hs _ ih => exact .func hs ih
  | nilfunc => exact .nilfunc
  | iface _ ih => exact .iface ih
  | niliface => exact .niliface
  | agg hs _ ih => exact .agg hs ih
  | tup hs _ ih => exact .tup hs ih

/-- A list of values, an array. -/
def RepL (g : Ghost) (vs : List AV) (xs : Array Value) : Prop := xs.size = vs.length ∧ ∀ i v, vs[i]? = some v → Rep g v (xs.getD i undef)
theorem RepL.mono {g g' : Ghost} (l : g.le g') {vs : List AV} {xs : Array Value} (h : RepL g vs xs) : RepL g' vs xs := ⟨h.1, fun i v e => (h.2 i v e).mono l⟩
theorem RepL.get {g : Ghost} {vs : List AV} {xs : Array Value} (h : RepL g vs xs) {i : Nat} {v : AV} (e : vs[i]? = some v) : ∃ x, xs[i]? = some x ∧ Rep g v x := by
  have hi : i < xs.size := by rw [h.1]; exact (List.getElem?_eq_some_iff.1 e).1
  refine ⟨xs[i], by simp [hi], ?_⟩
  have := h.2 i v e
  simpa [Array.getD, hi] using this
theorem RepL.of {g : Ghost} {vs : List AV} {xs : List Value} (hl : xs.length = vs.length) (h : ∀ (i : Nat) (v : AV) (x : Value), vs[i]? = some v → xs[i]? = some x → Rep g v x) : RepL g vs xs.toArray := by
  refine ⟨by simpa using hl, fun i v e => ?_⟩
  have hi : i < xs.length := by rw [hl]; exact (List.getElem?_eq_some_iff.1 e).1
  have := h i v xs[i] e (by simp [hi])
  simpa [Array.getD, hi] using this

def AHeap.get (h : AHeap) (id : Nat) : Option AObj := (h.objs[id]?).join
def AHeap.next (h : AHeap) : Nat := h.objs.length
def AHeap.alloc (h : AHeap) (o : AObj) : AHeap := { h with objs := h.objs ++ [some o] }
def AHeap.set (h : AHeap) (id : Nat) (o : AObj) : AHeap := { h with objs := h.objs.set id (some o) }
def AHeap.tok (h : AHeap) (t : Nat) : Nat := (h.toks[t]?).getD 0
def AHeap.ntok (h : AHeap) : Nat := h.toks.length
def AHeap.newTok (h : AHeap) (n : Nat) : AHeap := { h with toks := h.toks ++ [n] }
def AHeap.setTok (h : AHeap) (t n : Nat) : AHeap := { h with toks := h.toks.set t n }

def ObjRep (g : Ghost) (w : World) (b : Nat) : AObj → Prop
  | .cells cs => ∃ vs e, w.heap[b]? = some (.cells vs e (0, 0)) ∧ RepL g cs vs
  | .map clk es => ∃ ms : Array MapEntry, w.heap[b]? = some (.map ms clk) ∧ ms.size = es.length ∧ ∀ (i : Nat) (e : AEnt), es[i]? = some e → ∃ m : MapEntry, ms[i]? = some m ∧ m.born = e.born ∧ Rep g e.key m.key ∧ Rep g e.val m.val
  | .iter m since seen last => ∃ mb, (match m with | none => mb = none | some id => ∃ k, g.G id = some k ∧ mb = some k) ∧ w.heap[b]? = some (.mapIter mb since seen.toArray last)

theorem ObjRep.mono {g g' : Ghost} (l : g.le g') {w w' : World} {b : Nat} (hw : w'.heap[b]? = w.heap[b]?) : ∀ {o : AObj}, ObjRep g w b o → ObjRep g' w' b o
  | .cells _, ⟨vs, e, h1, h2⟩ => ⟨vs, e, hw.trans h1, h2.mono l⟩
  | .map _ _, ⟨ms, h1, h2, h3⟩ => ⟨ms, hw.trans h1, h2, fun i e he => let ⟨m, a, b, c, d⟩ := h3 i e he; ⟨m, a, b, c.mono l, d.mono l⟩⟩
  | .iter m _ _ _, ⟨mb, h1, h2⟩ => ⟨mb, by cases m with | none => exact h1 | some id => exact (let ⟨k, a, b⟩ := h1; ⟨k, l.G _ _ a, b⟩), hw.trans h2⟩

structure Seat where
  P : Program
  gl : Nat → Option (List AV)
  base : World → Prop
  mixed : P.follows .mixedOrders = true

structure Spare (w0 : World) (g : Ghost) (w : World) (a : Addr) (n cap sz : Nat) : Prop where
  spot : a.spot = none
  base : w0.heap.size ≤ a.block
  noG : ∀ id, g.G id ≠ some a.block
  cells : ∃ vs e, w.heap[a.block]? = some (.cells vs e (0, 0)) ∧ a.off + cap * sz ≤ vs.size
  free : ∀ k, n * sz ≤ k → k < cap * sz → g.I a.block (a.off + k) = none

structure Inv (S : Seat) (w0 : World) (h : AHeap) (g : Ghost) (w : World) : Prop where
  below : Below w0.heap.size w0 w
  gdom : ∀ id b, g.G id = some b → id < h.next ∧ w0.heap.size ≤ b ∧ b < w.heap.size
  ginj : ∀ id id' b, g.G id = some b → g.G id' = some b → id = id'
  obj : ∀ id o, h.get id = some o → ∃ b, g.G id = some b ∧ ObjRep g w b o
  imm : ∀ b o x, g.I b o = some x → w.cell? ⟨b, o, none⟩ = some x ∧ (∀ id, g.G id ≠ some b) ∧ x.oneCell' = true
  tdom : ∀ t n d, g.T t n = some d → t < h.ntok ∧ n ≤ h.tok t
  tok : ∀ t a cap sz, g.T t (h.tok t) = some (some a, cap, sz) → h.tok t < cap → Spare w0 g w a (h.tok t) cap sz
  tdisj : ∀ t t' a cap sz a' cap' sz', g.T t (h.tok t) = some (some a, cap, sz) → h.tok t < cap → g.T t' (h.tok t') = some (some a', cap', sz') → h.tok t' < cap' → a.block = a'.block → t = t'
  glob : ∀ k cs, S.gl k = some cs → Rep g (.cptr cs) (.pointer (some ⟨k, 0, none⟩))
  base : S.base w0

theorem Inv.imm_lt {S : Seat} {w0 : World} {h : AHeap} {g : Ghost} {w : World} (i : Inv S w0 h g w) {b o : Nat} {x : Value} (e : g.I b o = some x) : b < w.heap.size :=
  World.block_lt_of_cell? w _ (i.imm b o x e).1

/-! The heap's laws -/
section
variable (h : AHeap) (o o' : AObj) (i j : Nat)
theorem get_alloc : (h.alloc o).get i = if i = h.next then some o else h.get i := by
  unfold AHeap.get AHeap.alloc AHeap.next
  by_cases e : i = h.objs.length
  · subst e; simp
  · simp only [e, if_false]
    rcases Nat.lt_or_ge i h.objs.length with k | k
    · rw [List.getElem?_append_left k]
    · rw [List.getElem?_append_right k, List.getElem?_eq_none k]
      have : i - h.objs.length ≠ 0 := by omega
      cases hq : i - h.objs.length with
      | zero => omega
      | succ n => simp
theorem next_alloc : (h.alloc o).next = h.next + 1 := by simp [AHeap.alloc, AHeap.next]
theorem next_set : (h.set i o).next = h.next := by simp [AHeap.set, AHeap.next]
theorem get_lt {o : AObj} (e : h.get i = some o) : i < h.next := by
  unfold AHeap.get at e
  unfold AHeap.next
  rcases Nat.lt_or_ge i h.objs.length with k | k
  · exact k
  · rw [List.getElem?_eq_none k] at e; simp at e
theorem get_set : (h.set i o).get j = if j = i ∧ i < h.next then some o else h.get j := by
  unfold AHeap.get AHeap.set AHeap.next
  simp only [List.getElem?_set]
  by_cases e : i = j
  · subst e
    by_cases k : i < h.objs.length
    · simp [k]
    · simp [k]
  · have : ¬ j = i := fun q => e q.symm
    simp [e, this]
theorem tok_alloc : (h.alloc o).tok i = h.tok i := rfl
theorem tok_set : (h.set j o).tok i = h.tok i := rfl
theorem ntok_alloc : (h.alloc o).ntok = h.ntok := rfl
theorem ntok_set : (h.set j o).ntok = h.ntok := rfl
theorem get_newTok (n : Nat) : (h.newTok n).get i = h.get i := rfl
theorem get_setTok (n : Nat) : (h.setTok j n).get i = h.get i := rfl
theorem next_newTok (n : Nat) : (h.newTok n).next = h.next := rfl
theorem next_setTok (n : Nat) : (h.setTok j n).next = h.next := rfl
theorem ntok_newTok (n : Nat) : (h.newTok n).ntok = h.ntok + 1 := by simp [AHeap.newTok, AHeap.ntok]
theorem ntok_setTok (n : Nat) : (h.setTok j n).ntok = h.ntok := by simp [AHeap.setTok, AHeap.ntok]
theorem tok_newTok (n : Nat) : (h.newTok n).tok i = if i = h.ntok then n else h.tok i := by
  unfold AHeap.tok AHeap.newTok AHeap.ntok
  by_cases e : i = h.toks.length
  · subst e; simp
  · simp only [e, if_false]
    rcases Nat.lt_or_ge i h.toks.length with k | k
    · rw [List.getElem?_append_left k]
    · rw [List.getElem?_append_right k, List.getElem?_eq_none k]
      cases hq : i - h.toks.length with
      | zero => omega
      | succ n => simp
theorem tok_setTok (n : Nat) : (h.setTok j n).tok i = if i = j ∧ j < h.ntok then n else h.tok i := by
  unfold AHeap.tok AHeap.setTok AHeap.ntok
  simp only [List.getElem?_set]
  by_cases e : j = i
  · subst e
    by_cases k : j < h.toks.length
    · simp [k]
    · simp [k]
  · have : ¬ i = j := fun q => e q.symm
    simp [e, this]
end
end Go.Proofs.YtajknofacjiddaaDoor.Abs
