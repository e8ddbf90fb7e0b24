/- Operations that turn no memory: what they give on abstract values, and that the model's operation gives the same. -/
import Derived.Test.YtajknofacjiddaaDoorAbs1
import Derived.Laws.Entries
import Derived.Laws.Slices
import Derived.Laws.Strings
import Derived.Laws.Small
import Derived.Laws.Pointers
import Derived.ChangeKeysEq
import Derived.MapKept
namespace Go.Proofs.YtajknofacjiddaaDoor.Abs
open Go Go.RowKit
set_option linter.unusedVariables false
set_option linter.unusedSimpArgs false

theorem addr_add (b o j : Nat) : (⟨b, o, none⟩ : Addr).add j = ⟨b, o + j, none⟩ := by
  unfold Addr.add
  split
  · simp [*]
  · rfl
theorem addr_add' (a : Addr) (h : a.spot = none) (j : Nat) : a.add j = ⟨a.block, a.off + j, none⟩ := by
  obtain ⟨b, o, s⟩ := a
  cases h
  exact addr_add b o j
theorem str_toList (s : ByteArray) : s.toList = s.data.toList := by rw [ByteArray.toList_eq]
theorem str_beq (a b : ByteArray) : (a.toList == b.toList) = decide (a = b) := by
  rw [Bool.eq_iff_iff]
  simp only [beq_iff_eq, decide_eq_true_eq, str_toList]
  constructor
  · intro h
    cases a; cases b
    simp only [ByteArray.mk.injEq]
    exact Array.ext' h
  · intro h; rw [h]

/-! Constants -/
def ofScalar : Value → AV
  | .bool b => .bool b
  | .int k n => .int k n
  | .string s => .str s
  | .pointer none => .nilptr
  | .slice none 0 0 => .slice 0 [] .fixed
  | .map none => .nilmap
  | .nilFunc => .nilfunc
  | .nilIface => .niliface
  | .func (.func f) ⟨[]⟩ ⟨[]⟩ => .func f []
  | _ => .top
def ofValue : Value → AV
  | .agg cs => .agg (cs.toList.map ofScalar)
  | .tuple ⟨[]⟩ => .tup []
  | .iface t v => .iface t (ofScalar v)
  | v => ofScalar v
theorem ofScalar_rep (g : Ghost) (v : Value) : Rep g (ofScalar v) v := by
  unfold ofScalar
  split
  · exact .bool _
  · exact .int _ _
  · exact .str _
  · exact .nilptr
  · exact .sliceNil rfl (fun _ => rfl)
  · exact .nilmap
  · exact .nilfunc
  · exact .niliface
  · exact .func (by simp) (by simp)
  · exact .top _
theorem ofValue_rep (g : Ghost) (v : Value) : Rep g (ofValue v) v := by
  unfold ofValue
  split
  · rename_i cs
    refine .agg (by simp) (fun i v e => ?_)
    rw [List.getElem?_map] at e
    cases hq : cs.toList[i]? with
    | none => simp [hq] at e
    | some x =>
      rw [hq] at e
      cases e
      have : cs.getD i undef = x := by
        have hi : i < cs.size := by have := (List.getElem?_eq_some_iff.1 hq).1; simpa using this
        have := (List.getElem?_eq_some_iff.1 hq).2
        simp at this
        simp [Array.getD, hi, this]
      rw [this]
      exact ofScalar_rep g x
  · exact .tup (by simp) (by simp)
  · exact .iface (ofScalar_rep g _)
  · exact ofScalar_rep g _

/-- What an operand is, over what the slots hold. -/
def rho (S : Seat) (fr : Nat → AV) : Operand → AV
  | .tmp t => fr t
  | .const v => ofValue v
  | .global k => match S.gl k with | some cs => .cptr cs | none => .top
  | .func f => .func f []
theorem rho_rep {S : Seat} {w0 : World} {h : AHeap} {g : Ghost} {w : World} (i : Inv S w0 h g w) {fr : Nat → AV} {a : Act} (hf : ∀ s, Rep g (fr s) (a.tmps.getD s undef)) (x : Operand) : Rep g (rho S fr x) (a.eval x) := by
  cases x with
  | tmp t => exact hf t
  | const v => exact ofValue_rep g v
  | global k =>
    simp only [rho, Act.eval]
    cases hk : S.gl k with
    | none => exact .top _
    | some cs => exact i.glob k cs hk
  | func f => exact .func (by simp) (by simp)

/-! Numbers, strings, bools -/
def aint (op : BinOp) (k : IntKind) (a b : Int) : Option AV :=
  match op with
  | .add => some (.int k (k.wrap (a + b)))
  | .sub => some (.int k (k.wrap (a - b)))
  | .mul => some (.int k (k.wrap (a * b)))
  | .quo => if b = 0 then none else some (.int k (k.wrap (a.tdiv b)))
  | .rem => if b = 0 then none else some (.int k (a.tmod b))
  | .and => some (.int k (k.wrap (BitVec.ofInt k.bits a &&& BitVec.ofInt k.bits b).toNat))
  | .or => some (.int k (k.wrap (BitVec.ofInt k.bits a ||| BitVec.ofInt k.bits b).toNat))
  | .xor => some (.int k (k.wrap (BitVec.ofInt k.bits a ^^^ BitVec.ofInt k.bits b).toNat))
  | .andNot => some (.int k (k.wrap (BitVec.ofInt k.bits a &&& ~~~BitVec.ofInt k.bits b).toNat))
  | .eql => some (.bool (decide (a = b)))
  | .neq => some (.bool (!decide (a = b)))
  | .lss => some (.bool (decide (a < b)))
  | .leq => some (.bool (decide (a ≤ b)))
  | .gtr => some (.bool (decide (b < a)))
  | .geq => some (.bool (decide (b ≤ a)))
  | .shl | .shr => none
def ashift (op : BinOp) (k : IntKind) (a b : Int) : Option AV :=
  if b < 0 then none else
  match op with
  | .shl => some (.int k (k.wrap (a * 2 ^ (min b.toNat k.bits))))
  | .shr => some (.int k (a.fdiv (2 ^ (min b.toNat k.bits))))
  | _ => none
def astr (op : BinOp) (a b : ByteArray) : Option AV :=
  match op with
  | .add => if ((a.size + b.size : Nat) : Int) > 9223372036854775807 then none else some (.str (a ++ b))
  | .eql => some (.bool (decide (a = b)))
  | .neq => some (.bool (!decide (a = b)))
  | .lss => some (.bool (Op.bytesLess a.toList b.toList))
  | .leq => some (.bool (Op.bytesLess a.toList b.toList || decide (a = b)))
  | .gtr => some (.bool (!(Op.bytesLess a.toList b.toList || decide (a = b))))
  | .geq => some (.bool (!Op.bytesLess a.toList b.toList))
  | _ => none
/-- Is a value the nil of its type? -/
def anil : AV → Option Bool
  | .nilptr | .nilmap | .nilfunc => some true
  | .ptr .. | .cptr _ | .map _ | .func .. => some false
  | _ => none
def abin (S : Seat) (op : BinOp) (t : TypeId) (x y : AV) : Option AV :=
  match x, y with
  | .int k a, .int k' b => match op with
    | .shl | .shr => ashift op k a b
    | op => if k = k' then aint op k a b else none
  | .str a, .str b => astr op a b
  | .bool a, .bool b => match S.P.underlying t, op with
    | some .bool, .eql => some (.bool (a == b))
    | some .bool, .neq => some (.bool (!(a == b)))
    | _, _ => none
  | x, .nilptr => match S.P.underlying t, op, anil x with
    | some (.pointer _), .eql, some b => match x with | .nilptr | .ptr .. | .cptr _ => some (.bool b) | _ => none
    | some (.pointer _), .neq, some b => match x with | .nilptr | .ptr .. | .cptr _ => some (.bool (!b)) | _ => none
    | _, _, _ => none
  | _, _ => none

theorem eqGuard_plain {S : Seat} (op : BinOp) (t : TypeId) (a b : Operand) (x y : Value) (w : World) (h : (match x, y with | .nilIface, .nilIface => false | .agg _, .agg _ => false | _, _ => true) = true) :
    ((eqGuard op t a b x y) : Sem Unit).run S.P w = .ok () w := by
  unfold eqGuard
  cases op <;> simp <;> (split <;> simp_all)

theorem eql_nil {P : Program} {t e : TypeId} (hu : P.underlying t = some (.pointer e)) (p : Option Addr) (w : World) : (binOp .eql t (.pointer p) (.pointer none)).run P w = .ok (.bool p.isNone) w :=
  run_eql_pointer_nil w t p (by rw [hu]; simp [Program.pointee, hu])
theorem neq_nil {P : Program} {t e : TypeId} (hu : P.underlying t = some (.pointer e)) (p : Option Addr) (w : World) : (binOp .neq t (.pointer p) (.pointer none)).run P w = .ok (.bool (!p.isNone)) w := by
  have h := run_neq_pointer_nil w t p (by rw [hu]; simp [Program.pointee, hu])
  simpa using h

theorem abin_sound {S : Seat} {g : Ghost} {op : BinOp} {t : TypeId} {x y v : AV} {x' y' : Value} (a b : Operand) (w : World) (hx : Rep g x x') (hy : Rep g y y') (e : abin S op t x y = some v) :
    ∃ z, ((do eqGuard op t a b x' y'; binOp op t x' y') : Sem Value).run S.P w = .ok z w ∧ Rep g v z := by
  unfold abin at e
  split at e
  · cases hx; cases hy
    rename_i k m k' n
    simp only [Sem.run_bind, eqGuard_plain (S := S) op t a b (.int k m) (.int k' n) w rfl, Result.andThen_ok]
    cases op <;> simp only [aint, ashift] at e <;> (try (split at e)) <;> (try (split at e)) <;> (try (cases e; done)) <;> (try cases e) <;> (try subst_vars) <;>
      simp [binOp, Op.intArith, Op.intDiv, Op.intBits, Op.intCmp, Op.shift, *] <;> (first | exact Rep.int _ _ | exact Rep.bool _ | exact (by simpa [eq_comm] using Rep.bool _))
  · cases hx; cases hy
    rename_i m n
    simp only [Sem.run_bind, eqGuard_plain (S := S) op t a b (.string m) (.string n) w rfl, Result.andThen_ok]
    cases op <;> simp only [astr] at e <;> (try (split at e)) <;> (try (cases e; done)) <;> (try cases e) <;> simp [binOp, Op.stringOp, str_beq, IntKind.max, IntKind.signed, IntKind.bits, *] <;>
      (first | exact Rep.bool _ | exact Rep.str _ | (rw [if_neg (by omega)]; exact ⟨_, rfl, Rep.str _⟩) | skip)
  · cases hx; cases hy
    rename_i m n
    simp only [Sem.run_bind, eqGuard_plain (S := S) op t a b (.bool m) (.bool n) w rfl, Result.andThen_ok]
    split at e
    · rename_i hu
      cases e
      exact ⟨_, by rw [run_eql_bool w t m n hu], Rep.bool _⟩
    · rename_i hu
      cases e
      exact ⟨_, by rw [run_neq_bool w t m n hu], Rep.bool _⟩
    · cases e
  · cases hy
    split at e
    · rename_i e' hu hn
      have hg : (eqGuard .eql t a b x' (.pointer none) : Sem Unit).run S.P w = .ok () w := eqGuard_plain (S := S) _ t a b _ _ w (by cases x' <;> rfl)
      simp only [Sem.run_bind, hg, Result.andThen_ok]
      split at e <;> cases e <;> cases hx <;> cases hn <;> (refine ⟨_, eql_nil hu _ w, Rep.bool _⟩)
    · rename_i e' hu hn
      have hg : (eqGuard .neq t a b x' (.pointer none) : Sem Unit).run S.P w = .ok () w := eqGuard_plain (S := S) _ t a b _ _ w (by cases x' <;> rfl)
      simp only [Sem.run_bind, hg, Result.andThen_ok]
      split at e <;> cases e <;> cases hx <;> cases hn <;> (refine ⟨_, neq_nil hu _ w, Rep.bool _⟩)
    · cases e
  · cases e

/-! Memory that is read -/
/-- The cells from a pointer on. -/
def acells (h : AHeap) : AV → Option (List AV)
  | .cptr cs => some cs
  | .ptr id off => match h.get id with
    | some (.cells cs) => some (cs.drop off)
    | _ => none
  | _ => none
def isAggT : Option TypeDesc → Bool
  | some (.struct _) | some (.array _ _) => true
  | _ => false
def areadT (S : Seat) (t : TypeId) (cs : List AV) : Option AV :=
  match S.P.underlying t with
  | none => none
  | d => if isAggT d then (if S.P.cellsOf t ≤ cs.length then some (.agg (cs.take (S.P.cellsOf t))) else none) else cs.head?
def aload (S : Seat) (t : TypeId) (p : AV) (h : AHeap) : Option AV := (acells h p).bind (areadT S t)

theorem acells_sound {S : Seat} {w0 : World} {h : AHeap} {g : Ghost} {w : World} (i : Inv S w0 h g w) {p : AV} {x : Value} (hp : Rep g p x) {cs : List AV} (e : acells h p = some cs) :
    ∃ b o, x = .pointer (some ⟨b, o, none⟩) ∧ ∀ j v, cs[j]? = some v → ∃ y, w.cell? ⟨b, o + j, none⟩ = some y ∧ Rep g v y := by
  cases hp <;> simp only [acells] at e <;> (try (cases e; done))
  · rename_i id off b hb
    split at e
    · rename_i cs' ho
      cases e
      obtain ⟨b', hb', vs, ty, h1, h2⟩ := i.obj _ _ ho
      cases hb.symm.trans hb'
      refine ⟨b, off, rfl, fun j v hj => ?_⟩
      rw [List.getElem?_drop] at hj
      obtain ⟨y, hy, hr⟩ := h2.get hj
      exact ⟨y, by rw [cell_of_row w b _ vs _ _ h1]; exact hy, hr⟩
    · cases e
  · rename_i cs' b o f hI hR
    cases e
    refine ⟨b, o, rfl, fun j v hj => ⟨f j, (i.imm _ _ _ (hI j (List.getElem?_eq_some_iff.1 hj).1)).1, hR j v hj⟩⟩

theorem info_of_underlying {P : Program} {t : TypeId} {d : TypeDesc} (h : P.underlying t = some d) : ∃ i, P.info? t = some i := by
  unfold Program.underlying at h
  cases hi : P.info? t with
  | none => simp [hi] at h
  | some i => exact ⟨i, rfl⟩
theorem run_sizeOf' {P : Program} {t : TypeId} {d : TypeDesc} (h : P.underlying t = some d) (w : World) : (sizeOf t).run P w = .ok (P.cellsOf t) w := by
  obtain ⟨i, hi⟩ := info_of_underlying h
  simp [sizeOf, typeInfo, hi, Program.cellsOf]
theorem run_isAgg' {P : Program} {t : TypeId} {d : TypeDesc} (h : P.underlying t = some d) (w : World) : (isAgg t).run P w = .ok (isAggT (some d)) w := by
  unfold isAgg
  simp only [Sem.run_bind, run_underlying h, Result.andThen_ok]
  cases d <;> rfl

theorem aread_sound {S : Seat} {g : Ghost} {w : World} {t : TypeId} {b o : Nat} {cs : List AV} {v : AV} (hc : ∀ j v, cs[j]? = some v → ∃ y, w.cell? ⟨b, o + j, none⟩ = some y ∧ Rep g v y) (e : areadT S t cs = some v) :
    ∃ y, (loadVar t ⟨b, o, none⟩).run S.P w = .ok y w ∧ Rep g v y := by
  unfold areadT at e
  cases hu : S.P.underlying t with
  | none => rw [hu] at e; cases e
  | some d =>
    rw [hu] at e
    unfold loadVar
    simp only [Sem.run_bind, run_isAgg' hu, Result.andThen_ok]
    cases hd : isAggT (some d) with
    | false =>
      simp only [hd, Bool.false_eq_true, if_false] at e ⊢
      cases cs with
      | nil => cases e
      | cons v' cs =>
        cases e
        obtain ⟨y, hy, hr⟩ := hc 0 v rfl
        exact ⟨y, by simp only [run_load]; rw [show w.cell? ⟨b, o, none⟩ = some y from hy], hr⟩
    | true =>
      simp only [hd, if_true] at e ⊢
      split at e
      case isFalse => cases e
      rename_i hl
      cases e
      have hf : ∀ j, j < S.P.cellsOf t → w.cell? ((⟨b, o, none⟩ : Addr).add j) = some ((w.cell? ⟨b, o + j, none⟩).getD undef) := by
        intro j hj
        obtain ⟨y, hy, _⟩ := hc j _ (List.getElem?_eq_getElem (by omega : j < cs.length))
        rw [addr_add, hy]; rfl
      simp only [Sem.run_bind, run_sizeOf' hu, Result.andThen_ok, run_loadCells w _ _ _ hf, Sem.run_pure]
      refine ⟨_, rfl, .agg (by simp; omega) (fun i v hv => ?_)⟩
      rw [List.getElem?_take] at hv
      split at hv
      case isFalse => cases hv
      rename_i hi
      obtain ⟨y, hy, hr⟩ := hc i v hv
      have : ((List.range (S.P.cellsOf t)).map fun j => (w.cell? ⟨b, o + j, none⟩).getD undef).toArray.getD i undef = y := by
        simp [Array.getD, hi, hy]
      rw [this]
      exact hr

theorem aload_sound {S : Seat} {w0 : World} {h : AHeap} {g : Ghost} {w : World} (i : Inv S w0 h g w) {t : TypeId} {p v : AV} {x : Value} (hp : Rep g p x) (e : aload S t p h = some v) :
    ∃ y, (Instr.loadAt t x).run S.P w = .ok y w ∧ Rep g v y := by
  unfold aload at e
  obtain ⟨cs, hcs, hv⟩ := Option.bind_eq_some_iff.1 e
  obtain ⟨b, o, rfl, hc⟩ := acells_sound i hp hcs
  obtain ⟨y, hy, hr⟩ := aread_sound hc hv
  refine ⟨y, ?_, hr⟩
  unfold Instr.loadAt
  simp only [Sem.run_bind, Instr.sureAddr, Sem.run_pure, Result.andThen_ok]
  exact hy

/-! Addresses of parts -/
def afieldAddr (S : Seat) (s : TypeId) (p : AV) (f : Nat) : Option AV :=
  match S.P.underlying s with
  | some (.struct fields) => match fields[f]? with
    | some fd => if S.P.cellsOf fd.type = 0 ∨ S.P.underlying fd.type = none then none else match p with
      | .ptr id off => some (.ptr id (off + fd.offset))
      | .cptr cs => some (.cptr (cs.drop fd.offset))
      | _ => none
    | none => none
  | _ => none
theorem rep_cptr_drop {g : Ghost} {cs : List AV} {b o n : Nat} (h : Rep g (.cptr cs) (.pointer (some ⟨b, o, none⟩))) : Rep g (.cptr (cs.drop n)) (.pointer (some ⟨b, o + n, none⟩)) := by
  cases h with
  | cptr f hI hR =>
    refine .cptr (fun i => f (n + i)) (fun i hi => ?_) (fun i v hv => ?_)
    · rw [Nat.add_assoc]; exact hI (n + i) (by simp at hi; omega)
    · rw [List.getElem?_drop] at hv; exact hR _ _ hv
theorem afieldAddr_sound {S : Seat} {g : Ghost} {w : World} {s : TypeId} {p v : AV} {x : Value} {f : Nat} (hp : Rep g p x) (e : afieldAddr S s p f = some v) :
    ∃ y, (Instr.fieldAt s x f).run S.P w = .ok y w ∧ Rep g v y := by
  unfold afieldAddr at e
  split at e
  case h_2 => cases e
  rename_i fields hu
  split at e
  case h_2 => cases e
  rename_i fd hf
  split at e
  case isTrue => cases e
  rename_i hz
  obtain ⟨hz, hud⟩ := not_or.1 hz
  obtain ⟨d, hd⟩ := Option.ne_none_iff_exists'.1 hud
  have hplace : ∀ a : Addr, (fieldPlace a fd).run S.P w = .ok (a.add fd.offset) w := by
    intro a
    unfold fieldPlace
    simp only [Sem.run_bind, run_sizeOf' hd, Result.andThen_ok, hz, if_false, Sem.run_pure]
  split at e <;> cases e
  · cases hp
    rename_i b hb
    refine ⟨_, ?_, .ptr (id := _) (off := _) hb⟩
    unfold Instr.fieldAt
    simp only [Sem.run_bind, run_underlying hu, Result.andThen_ok, hf, Instr.sureAddr, Sem.run_pure, hplace, addr_add]
  · cases hp
    rename_i b o ff hI hR
    refine ⟨_, ?_, rep_cptr_drop (.cptr ff hI hR)⟩
    unfold Instr.fieldAt
    simp only [Sem.run_bind, run_underlying hu, Result.andThen_ok, hf, Instr.sureAddr, Sem.run_pure, hplace, addr_add]

/-- The part of a row of cells that is a value of type t. -/
def apart (S : Seat) (t : TypeId) (cs : List AV) (off : Nat) : Option AV :=
  match S.P.underlying t with
  | none => none
  | d => if isAggT d then (if off + S.P.cellsOf t ≤ cs.length then some (.agg ((cs.drop off).take (S.P.cellsOf t))) else none) else cs[off]?
theorem apart_sound {S : Seat} {g : Ghost} {w : World} {t : TypeId} {cs : List AV} {xs : Array Value} {off : Nat} {v : AV} (hs : RepL g cs xs) (e : apart S t cs off = some v) :
    ∃ y, (part t xs off).run S.P w = .ok y w ∧ Rep g v y := by
  unfold apart at e
  cases hu : S.P.underlying t with
  | none => rw [hu] at e; cases e
  | some d =>
    rw [hu] at e
    unfold part
    simp only [Sem.run_bind, run_isAgg' hu, Result.andThen_ok]
    cases hd : isAggT (some d) with
    | false =>
      simp only [hd, Bool.false_eq_true, if_false] at e ⊢
      obtain ⟨y, hy, hr⟩ := hs.get e
      exact ⟨y, by rw [hy]; rfl, hr⟩
    | true =>
      simp only [hd, if_true] at e ⊢
      split at e
      case isFalse => cases e
      rename_i hl
      cases e
      simp only [Sem.run_bind, run_sizeOf' hu, Result.andThen_ok, Sem.run_pure]
      have h1 := hs.1
      refine ⟨_, rfl, .agg (by simp; omega) (fun i v hv => ?_)⟩
      rw [List.getElem?_take] at hv
      split at hv
      case isFalse => cases hv
      rename_i hi
      rw [List.getElem?_drop] at hv
      obtain ⟨y, hy, hr⟩ := hs.get hv
      have : (xs.extract off (off + S.P.cellsOf t)).getD i undef = y := by
        have : (xs.extract off (off + S.P.cellsOf t))[i]? = some y := by
          rw [Array.getElem?_extract]
          rw [if_pos (by omega)]
          exact hy
        simp [this]
      rw [this]
      exact hr
def afield (S : Seat) (s : TypeId) (x : AV) (f : Nat) : Option AV :=
  match S.P.underlying s, x with
  | some (.struct fields), .agg cs => match fields[f]? with
    | some fd => apart S fd.type cs fd.offset
    | none => none
  | _, _ => none
theorem afield_sound {S : Seat} {g : Ghost} {w : World} {s : TypeId} {p v : AV} {x : Value} {f : Nat} (hp : Rep g p x) (e : afield S s p f = some v) :
    ∃ y, (Instr.field s x f).run S.P w = .ok y w ∧ Rep g v y := by
  unfold afield at e
  split at e
  case h_2 => cases e
  rename_i fields cs hu
  split at e
  case h_2 => cases e
  rename_i fd hf
  cases hp
  rename_i xs hs hR
  obtain ⟨y, hy, hr⟩ := apart_sound (w := w) ⟨hs, hR⟩ e
  refine ⟨y, ?_, hr⟩
  unfold Instr.field
  simp only [Sem.run_bind, run_underlying hu, Result.andThen_ok, hf, asAgg, Sem.run_pure]
  exact hy

/-- The element with a number, if there is one. -/
def aindexAddr (S : Seat) (t : TypeId) (x ix : AV) : Option AV :=
  match ix with
  | .int k i => match S.P.underlying t, x with
    | some (.slice e), .slice sz els _ => if S.P.underlying e = none ∨ sz ≠ S.P.cellsOf e then none else if 0 ≤ i ∧ i < els.length then some (.cptr (els.getD i.toNat [])) else none
    | some (.slice e), .row id off len cap sz => if S.P.underlying e = none ∨ sz ≠ S.P.cellsOf e then none else if 0 ≤ i ∧ i < len then some (.ptr id (off + i.toNat * sz)) else none
    | some (.array n e), .ptr id off => if S.P.underlying e = none then none else if 0 ≤ i ∧ i < n then some (.ptr id (off + i.toNat * S.P.cellsOf e)) else none
    | some (.array n e), .cptr cs => if S.P.underlying e = none then none else if 0 ≤ i ∧ i < n then some (.cptr (cs.drop (i.toNat * S.P.cellsOf e))) else none
    | _, _ => none
  | _ => none
theorem rep_slice_at {g : Ghost} {sz : Nat} {els : List (List AV)} {tok : Tok} {a : Option Addr} {n c : Nat} (h : Rep g (.slice sz els tok) (.slice a n c)) {i : Nat} (hi : i < els.length) :
    ∃ b o, a = some ⟨b, o, none⟩ ∧ Rep g (.cptr (els.getD i [])) (.pointer (some ⟨b, o + i * sz, none⟩)) := by
  cases h with
  | sliceNil => simp at hi
  | slice f hI hsz hR hc ht =>
    rename_i b o
    have hg : els[i]? = some (els.getD i []) := by simp [List.getD, List.getElem?_eq_getElem hi]
    have hl := hsz i _ hg
    refine ⟨b, o, rfl, .cptr (fun j => f (i * sz + j)) (fun j hj => ?_) (fun j v hv => hR i j _ v hg hv)⟩
    rw [Nat.add_assoc]
    refine hI _ ?_
    have : (i + 1) * sz ≤ els.length * sz := Nat.mul_le_mul_right sz hi
    rw [Nat.add_mul] at this
    omega
theorem aindexAddr_sound {S : Seat} {g : Ghost} {w : World} {t : TypeId} {p q v : AV} {x y : Value} (hp : Rep g p x) (hq : Rep g q y) (e : aindexAddr S t p q = some v) :
    ∃ z, (Instr.indexAt t x y).run S.P w = .ok z w ∧ Rep g v z := by
  unfold aindexAddr at e
  split at e
  case h_2 => cases e
  rename_i k i
  cases hq
  split at e
  case h_5 => cases e
  · rename_i e' sz els tok hu
    split at e
    case isTrue => cases e
    rename_i hz
    obtain ⟨hud, hz⟩ := not_or.1 hz
    obtain ⟨d, hd⟩ := Option.ne_none_iff_exists'.1 hud
    have hz : sz = S.P.cellsOf e' := Decidable.not_not.1 hz
    split at e
    case isFalse => cases e
    rename_i hi
    cases e
    have hi' : i.toNat < els.length := by omega
    obtain ⟨a, n, c, hx⟩ : ∃ a n c, x = .slice a n c := by cases hp <;> exact ⟨_, _, _, rfl⟩
    subst hx
    have hn : n = els.length := by cases hp <;> simp
    obtain ⟨b, o, rfl, hr⟩ := rep_slice_at hp hi'
    refine ⟨_, ?_, hr⟩
    unfold Instr.indexAt
    simp only [Sem.run_bind, asIntOf, Sem.run_pure, Result.andThen_ok, run_underlying hu]
    rw [Sem.run_ite, if_pos (by omega)]
    simp only [Sem.run_bind, run_sizeOf' hd, Result.andThen_ok, Sem.run_pure, addr_add, hz]
  · rename_i e' id off len cap sz hu
    split at e
    case isTrue => cases e
    rename_i hz
    obtain ⟨hud, hz⟩ := not_or.1 hz
    obtain ⟨d, hd⟩ := Option.ne_none_iff_exists'.1 hud
    have hz : sz = S.P.cellsOf e' := Decidable.not_not.1 hz
    split at e
    case isFalse => cases e
    rename_i hi
    cases e
    cases hp
    rename_i b hb
    refine ⟨_, ?_, .ptr hb⟩
    unfold Instr.indexAt
    simp only [Sem.run_bind, asIntOf, Sem.run_pure, Result.andThen_ok, run_underlying hu]
    rw [Sem.run_ite, if_pos (by omega)]
    simp only [Sem.run_bind, run_sizeOf' hd, Result.andThen_ok, Sem.run_pure, addr_add, hz]
  · rename_i n e' id off hu
    split at e
    case isTrue => cases e
    rename_i hud
    obtain ⟨d, hd⟩ := Option.ne_none_iff_exists'.1 hud
    split at e
    case isFalse => cases e
    rename_i hi
    cases e
    cases hp
    rename_i b hb
    refine ⟨_, ?_, .ptr hb⟩
    unfold Instr.indexAt
    simp only [Sem.run_bind, asIntOf, Sem.run_pure, Result.andThen_ok, run_underlying hu, Instr.sureAddr]
    rw [Sem.run_ite, if_pos (by omega)]
    simp only [Sem.run_bind, run_sizeOf' hd, Result.andThen_ok, Sem.run_pure, addr_add]
  · rename_i n e' cs hu
    split at e
    case isTrue => cases e
    rename_i hud
    obtain ⟨d, hd⟩ := Option.ne_none_iff_exists'.1 hud
    split at e
    case isFalse => cases e
    rename_i hi
    cases e
    cases hp
    rename_i b o f hI hR
    refine ⟨_, ?_, rep_cptr_drop (.cptr f hI hR)⟩
    unfold Instr.indexAt
    simp only [Sem.run_bind, asIntOf, Sem.run_pure, Result.andThen_ok, run_underlying hu, Instr.sureAddr]
    rw [Sem.run_ite, if_pos (by omega)]
    simp only [Sem.run_bind, run_sizeOf' hd, Result.andThen_ok, Sem.run_pure, addr_add]

def aindex (S : Seat) (t : TypeId) (x ix : AV) : Option AV :=
  match ix with
  | .int k i => match S.P.underlying t, x with
    | some .string, .str s => if 0 ≤ i ∧ i < s.size then some (.int .u8 ((s.data.toList.getD i.toNat 0).toNat)) else none
    | some (.array n e), .agg cs => if 0 ≤ i ∧ i < n then apart S e cs (i.toNat * S.P.cellsOf e) else none
    | _, _ => none
  | _ => none
theorem aindex_sound {S : Seat} {g : Ghost} {w : World} {t : TypeId} {p q v : AV} {x y : Value} (hp : Rep g p x) (hq : Rep g q y) (e : aindex S t p q = some v) :
    ∃ z, (Instr.index t x y).run S.P w = .ok z w ∧ Rep g v z := by
  unfold aindex at e
  split at e
  case h_2 => cases e
  rename_i k i
  cases hq
  split at e
  case h_3 => cases e
  · rename_i s hu
    split at e
    case isFalse => cases e
    rename_i hi
    cases e
    cases hp
    have hlt : i.toNat < s.size := by omega
    have hb : s[i.toNat]? = some (s.data.toList.getD i.toNat 0) := by
      rw [getElem?_pos s i.toNat hlt]
      have : i.toNat < s.data.toList.length := by simpa using hlt
      simp only [List.getD, List.getElem?_eq_getElem this, Option.getD_some, Array.getElem_toList]
      rfl
    refine ⟨_, ?_, .int _ _⟩
    unfold Instr.index
    simp only [Sem.run_bind, asIntOf, Sem.run_pure, Result.andThen_ok, run_underlying hu, hi.1, if_true, hb]
  · rename_i n e' cs hu
    split at e
    case isFalse => cases e
    rename_i hi
    cases hp
    rename_i xs hs hR
    obtain ⟨y, hy, hr⟩ := apart_sound (w := w) ⟨hs, hR⟩ e
    refine ⟨y, ?_, hr⟩
    unfold Instr.index
    have hud : ∃ d, S.P.underlying e' = some d := by
      unfold apart at e
      cases hd : S.P.underlying e' with
      | none => rw [hd] at e; cases e
      | some d => exact ⟨d, rfl⟩
    obtain ⟨d, hd⟩ := hud
    simp only [Sem.run_bind, asIntOf, Sem.run_pure, Result.andThen_ok, run_underlying hu]
    rw [Sem.run_ite, if_pos (by omega)]
    simp only [Sem.run_bind, run_sizeOf' hd, Result.andThen_ok]
    exact hy
end Go.Proofs.YtajknofacjiddaaDoor.Abs
