/- Operations that turn memory: objects that are made and written; slices that grow. -/
import Derived.Test.YtajknofacjiddaaDoorAbs6
import Derived.Laws.CopyRow
namespace Go.Proofs.YtajknofacjiddaaDoor.Abs
open Go Go.RowKit
set_option linter.unusedVariables false
set_option linter.unusedSimpArgs false

/-! New objects -/
def Ghost.addG (g : Ghost) (id nb : Nat) : Ghost := { g with G := fun i => if i = id then some nb else g.G i }
theorem Inv.newObj {S : Seat} {w0 : World} {h : AHeap} {g : Ghost} {w w' : World} (i : Inv S w0 h g w) {ob : Obj} (n : NewBlk w w' ob) {o : AObj} (ho : ∀ g', g.le g' → g'.G h.next = some w.heap.size → ObjRep g' w' w.heap.size o) :
    g.le (g.addG h.next w.heap.size) ∧ Inv S w0 (h.alloc o) (g.addG h.next w.heap.size) w' := by
  have fresh : ∀ {id b}, g.G id = some b → id ≠ h.next := fun hb q => by have := (i.gdom _ _ hb).1; omega
  have le : g.le (g.addG h.next w.heap.size) := ⟨fun id b hb => by show (if id = h.next then some w.heap.size else g.G id) = _; rw [if_neg (fresh hb)]; exact hb, fun _ _ _ h => h, fun _ _ _ h => h⟩
  have hG : ∀ id b, (g.addG h.next w.heap.size).G id = some b → (id = h.next ∧ b = w.heap.size) ∨ (id ≠ h.next ∧ g.G id = some b) := by
    intro id b hb
    change (if id = h.next then some w.heap.size else g.G id) = some b at hb
    by_cases q : id = h.next
    · rw [if_pos q] at hb; cases hb; exact .inl ⟨q, rfl⟩
    · rw [if_neg q] at hb; exact .inr ⟨q, hb⟩
  have notnew : ∀ {b}, b < w.heap.size → (∀ id, g.G id ≠ some b) → ∀ id, (g.addG h.next w.heap.size).G id ≠ some b := by
    intro b hb hn id hid
    rcases hG id b hid with ⟨_, rfl⟩ | ⟨_, q⟩
    · omega
    · exact hn id q
  refine ⟨le, n.below i.below, fun id b hb => ?_, fun id id' b h1 h2 => ?_, fun id o' ho' => ?_, fun b o x hx => ?_, fun t n d hd => i.tdom t n d hd, fun t a cap sz ht hl => ?_, i.tdisj, fun k cs hk => (i.glob k cs hk).mono le, i.base⟩
  · rw [next_alloc, n.size]
    rcases hG id b hb with ⟨rfl, rfl⟩ | ⟨_, q⟩
    · exact ⟨by omega, i.below.size, by omega⟩
    · have := i.gdom id b q; omega
  · rcases hG id b h1 with ⟨rfl, rfl⟩ | ⟨q1, r1⟩ <;> rcases hG id' _ h2 with ⟨rfl, e⟩ | ⟨q2, r2⟩
    · rfl
    · have := (i.gdom _ _ r2).2.2; omega
    · have := (i.gdom _ _ r1).2.2; omega
    · exact i.ginj _ _ _ r1 r2
  · rw [get_alloc] at ho'
    by_cases q : id = h.next
    · rw [if_pos q] at ho'
      cases ho'
      have hn : (g.addG h.next w.heap.size).G h.next = some w.heap.size := by show (if h.next = h.next then some w.heap.size else _) = _; rw [if_pos rfl]
      exact ⟨w.heap.size, by rw [q]; exact hn, ho _ le hn⟩
    · rw [if_neg q] at ho'
      obtain ⟨b, h1, h2⟩ := i.obj id o' ho'
      exact ⟨b, le.G _ _ h1, h2.mono le (n.old (i.gdom id b h1).2.2)⟩
  · obtain ⟨h1, h2, h3⟩ := i.imm b o x hx
    exact ⟨n.cell h1, notnew (i.imm_lt hx) h2, h3⟩
  · have s := i.tok t a cap sz ht hl
    exact s.kept (n.old s.lt) (notnew s.lt s.noG) s.free

/-! Objects that are written -/
structure OneBlk (w w' : World) (b : Nat) : Prop where
  os : w'.os = w.os
  tape : w'.tape = w.tape
  output : w'.output = w.output
  size : w'.heap.size = w.heap.size
  other : ∀ k, k ≠ b → w'.heap[k]? = w.heap[k]?
theorem OneBlk.cell {w w' : World} {b : Nat} (n : OneBlk w w' b) {a : Addr} (ha : a.block ≠ b) : w'.cell? a = w.cell? a := World.cell?_of_block (n.other _ ha)
theorem OneBlk.below {w0 w w' : World} {b : Nat} (n : OneBlk w w' b) (h : Below w0.heap.size w0 w) (hb : w0.heap.size ≤ b) : Below w0.heap.size w0 w' :=
  ⟨n.os.trans h.os, n.tape.trans h.tape, n.output.trans h.output, by rw [n.size]; exact h.size, fun k hk => (n.other k (by omega)).trans (h.block k hk)⟩
theorem Inv.setObj {S : Seat} {w0 : World} {h : AHeap} {g : Ghost} {w w' : World} (i : Inv S w0 h g w) {id b : Nat} (hb : g.G id = some b) (n : OneBlk w w' b) {o : AObj} (hold : (h.get id).isSome = true) (ho : ObjRep g w' b o) : Inv S w0 (h.set id o) g w' := by
  have dom := i.gdom id b hb
  refine ⟨n.below i.below dom.2.1, fun id b hb => ?_, i.ginj, fun id' o' ho' => ?_, fun b' o x hx => ?_, i.tdom, fun t a cap sz ht hl => ?_, i.tdisj, i.glob, i.base⟩
  · rw [next_set, n.size]; exact i.gdom id b hb
  · rw [get_set] at ho'
    by_cases q : id' = id ∧ id < h.next
    · rw [if_pos q] at ho'
      cases ho'
      exact ⟨b, by rw [q.1]; exact hb, ho⟩
    · rw [if_neg q] at ho'
      obtain ⟨b', h1, h2⟩ := i.obj id' o' ho'
      have hne : b' ≠ b := fun e => by
        subst e
        exact q ⟨i.ginj _ _ _ h1 hb, dom.1⟩
      exact ⟨b', h1, h2.mono (Ghost.le.refl g) (n.other _ hne)⟩
  · obtain ⟨h1, h2, h3⟩ := i.imm b' o x hx
    exact ⟨by rw [n.cell (a := ⟨b', o, none⟩) (fun e => h2 id (by rw [hb]; exact congrArg some e.symm))]; exact h1, h2, h3⟩
  · have s := i.tok t a cap sz ht hl
    exact s.kept (n.other _ (fun e => s.noG id (by rw [hb, e]))) s.noG s.free
theorem setRow_one {w : World} {b : Nat} {vs vs' : Array Value} {e : TypeId} {fz : Nat × Nat} (hb : w.heap[b]? = some (.cells vs e fz)) : OneBlk w (w.setRow b vs') b ∧ (w.setRow b vs').heap[b]? = some (.cells vs' e fz) := by
  refine ⟨⟨rfl, rfl, rfl, size_setRow w b vs', fun k hk => ?_⟩, setRow_heap w b vs vs' e fz hb⟩
  have hk2 : ¬ b = k := fun q => hk q.symm
  simp [World.setRow, Array.getElem?_modify, hk2]
theorem setMap_one {w : World} {b : Nat} {ob : Obj} (o' : Obj) (hb : w.heap[b]? = some ob) : OneBlk w { w with heap := w.heap.setIfInBounds b o' } b ∧ ({ w with heap := w.heap.setIfInBounds b o' } : World).heap[b]? = some o' := by
  have := MapKept.heap_set (o' := o') hb
  exact ⟨⟨rfl, rfl, rfl, by simp, fun k hk => this.2 k hk⟩, this.1⟩

/-! What each of them gives -/
def aalloc (S : Seat) (t : TypeId) (h : AHeap) : Option (AV × AHeap) :=
  match (azero S t).bind acs with
  | some zs => some (.ptr h.next 0, h.alloc (.cells zs))
  | none => none
def abox (x : AV) (h : AHeap) : Option (AV × AHeap) :=
  match acs x with
  | some cs => some (.ptr h.next 0, h.alloc (.cells cs))
  | none => none
def amakeMap (S : Seat) (t : TypeId) (r : Option AV) (h : AHeap) : Option (AV × AHeap) :=
  match r with
  | none => some (.map h.next, h.alloc (.map 0 []))
  | some (.int _ _) => match S.P.underlying t with
    | some (.map _ _) => some (.map h.next, h.alloc (.map 0 []))
    | _ => none
  | _ => none
def astore (S : Seat) (t : TypeId) (p x : AV) (h : AHeap) : Option AHeap :=
  match p, acs x with
  | .ptr id off, some vs => match h.get id with
    | some (.cells cs) => if (S.P.info? t).isSome ∧ vs.length = S.P.cellsOf t ∧ off + vs.length ≤ cs.length ∧ vs.all acell then some (h.set id (.cells (asplice cs off vs))) else none
    | _ => none
  | _, _ => none
def amapPut (clk : Nat) (es : List AEnt) (k x : AV) : Option AObj :=
  match afind k es 0 with
  | some (some (i, _)) => some (.map clk (es.set i { born := ((es[i]?).map AEnt.born).getD 0, key := k, val := x }))
  | some none => some (.map (clk + 1) (es ++ [{ born := clk, key := k, val := x }]))
  | none => none
def amapUpdate (S : Seat) (t : TypeId) (m k x : AV) (h : AHeap) : Option AHeap :=
  match S.P.underlying t, m with
  | some (.map kt _), .map id => if keyOk (S.P.underlying kt) k then
      (match h.get id with
      | some (.map clk es) => (amapPut clk es k x).map (h.set id)
      | _ => none)
    else none
  | _, _ => none
def adelete (S : Seat) (t : Option TypeId) (m k : AV) (h : AHeap) : Option AHeap :=
  match t.bind S.P.underlying, m with
  | some (.map kt _), .nilmap => if keyOk (S.P.underlying kt) k then some h else none
  | some (.map kt _), .map id => if keyOk (S.P.underlying kt) k then
      (match h.get id with
      | some (.map clk es) => match afind k es 0 with
        | some (some (i, _)) => some (h.set id (.map clk (es.eraseIdx i)))
        | some none => some h
        | none => none
      | _ => none)
    else none
  | _, _ => none

theorem aalloc_sound {S : Seat} {w0 : World} {h : AHeap} {g : Ghost} {w : World} (i : Inv S w0 h g w) {t : TypeId} {v : AV} {h' : AHeap} (e : aalloc S t h = some (v, h')) :
    ∃ y w' g', (Instr.alloc t true (.tuple #[])).run S.P w = .ok y w' ∧ g.le g' ∧ Inv S w0 h' g' w' ∧ Rep g' v y := by
  unfold aalloc at e
  split at e
  case h_2 => cases e
  rename_i zs hz
  cases e
  obtain ⟨zv, hzv, hza⟩ := Option.bind_eq_some_iff.1 hz
  obtain ⟨ie, z, hie, hzz, rfl⟩ := azero_parts hzv
  have hzr : RepL g zs z.cells := acs_rep (ofValue_rep g z) hza
  obtain ⟨le, inv⟩ := i.newObj (o := .cells zs) (NewBlk.alloc w (.cells z.cells t)) (fun g' l _ => ⟨z.cells, t, (NewBlk.alloc w _).new, hzr.mono l⟩)
  refine ⟨.pointer (some ⟨w.heap.size, 0, none⟩), _, _, ?_, le, inv, .ptr (by show (if h.next = h.next then some w.heap.size else _) = _; rw [if_pos rfl])⟩
  simp [Instr.alloc, zeroValue, typeInfo, hie, hzz, newVar, newRow]
theorem abox_sound {S : Seat} {w0 : World} {h : AHeap} {g : Ghost} {w : World} (i : Inv S w0 h g w) {t : TypeId} {x v : AV} {z : Value} {h' : AHeap} (hx : Rep g x z) (e : abox x h = some (v, h')) :
    ∃ y w' g', (Instr.box t z).run S.P w = .ok y w' ∧ g.le g' ∧ Inv S w0 h' g' w' ∧ Rep g' v y := by
  unfold abox at e
  split at e
  case h_2 => cases e
  rename_i cs hc
  cases e
  have hzr : RepL g cs z.cells := acs_rep hx hc
  obtain ⟨le, inv⟩ := i.newObj (o := .cells cs) (NewBlk.alloc w (.cells z.cells t)) (fun g' l _ => ⟨z.cells, t, (NewBlk.alloc w _).new, hzr.mono l⟩)
  refine ⟨.pointer (some ⟨w.heap.size, 0, none⟩), _, _, ?_, le, inv, .ptr (by show (if h.next = h.next then some w.heap.size else _) = _; rw [if_pos rfl])⟩
  simp [Instr.box, newVar, newRow]
theorem amakeMap_sound {S : Seat} {w0 : World} {h : AHeap} {g : Ghost} {w : World} (i : Inv S w0 h g w) {t : TypeId} {r : Option AV} {r' : Option Value} {v : AV} {h' : AHeap} (hr : match r, r' with | none, none => True | some v, some x => Rep g v x | _, _ => False) (e : amakeMap S t r h = some (v, h')) :
    ∃ y w' g', (Instr.makeMap t r').run S.P w = .ok y w' ∧ g.le g' ∧ Inv S w0 h' g' w' ∧ Rep g' v y := by
  obtain ⟨le, inv⟩ := i.newObj (o := .map 0 []) (NewBlk.alloc w (.map #[] 0)) (fun g' l _ => ⟨#[], (NewBlk.alloc w _).new, rfl, fun i e he => by simp at he⟩)
  have hrep : Rep (g.addG h.next w.heap.size) (.map h.next) (.map (some w.heap.size)) := .map (by show (if h.next = h.next then some w.heap.size else _) = _; rw [if_pos rfl])
  unfold amakeMap at e
  split at e
  · cases e
    cases r' with
    | some _ => exact hr.elim
    | none => exact ⟨_, _, _, rfl, le, inv, hrep⟩
  · split at e
    case h_2 => cases e
    rename_i kt et hu
    cases e
    cases r' with
    | none => exact hr.elim
    | some x =>
      cases hr
      refine ⟨_, _, _, ?_, le, inv, hrep⟩
      simp [Instr.makeMap, run_underlying hu, asInt, asIntOf]
  · cases e

theorem repL_splice {g : Ghost} {cs vs : List AV} {xs ys : Array Value} {off : Nat} (h : RepL g cs xs) (k : RepL g vs ys) (hl : off + vs.length ≤ cs.length) :
    RepL g (asplice cs off vs) (xs.toList.take off ++ ys.toList ++ xs.toList.drop (off + ys.toList.length)).toArray := by
  have h1 := h.1
  have h2 := k.1
  refine RepL.of (by simp [asplice]; omega) (fun j u y hu hy => ?_)
  unfold asplice at hu
  by_cases c1 : j < off
  · rw [List.getElem?_append_left (by simp; omega), List.getElem?_append_left (by simp; omega), List.getElem?_take, if_pos c1] at hu
    rw [List.getElem?_append_left (by simp; omega), List.getElem?_append_left (by simp; omega), List.getElem?_take, if_pos c1] at hy
    have := h.2 j u hu
    have hy' : xs[j]? = some y := by simpa using hy
    simpa [hy'] using this
  · by_cases c2 : j < off + vs.length
    · rw [List.getElem?_append_left (by simp; omega), List.getElem?_append_right (by simp; omega)] at hu
      rw [List.getElem?_append_left (by simp; omega), List.getElem?_append_right (by simp; omega)] at hy
      have e1 : (cs.take off).length = off := by simp; omega
      have e2 : (xs.toList.take off).length = off := by simp; omega
      rw [e1] at hu
      rw [e2] at hy
      have := k.2 _ u hu
      have hy' : ys[j - off]? = some y := by simpa using hy
      simpa [hy'] using this
    · rw [List.getElem?_append_right (by simp; omega), List.getElem?_drop] at hu
      rw [List.getElem?_append_right (by simp; omega), List.getElem?_drop] at hy
      have e1 : off + vs.length + (j - (List.take off cs ++ vs).length) = j := by simp; omega
      have e2 : off + ys.toList.length + (j - (List.take off xs.toList ++ ys.toList).length) = j := by simp; omega
      rw [e1] at hu
      rw [e2] at hy
      have := h.2 j u hu
      have hy' : xs[j]? = some y := by simpa using hy
      simpa [hy'] using this
theorem astore_sound {S : Seat} {w0 : World} {h : AHeap} {g : Ghost} {w : World} (i : Inv S w0 h g w) {t : TypeId} {p x : AV} {p' x' : Value} {h' : AHeap} (hp : Rep g p p') (hx : Rep g x x') (e : astore S t p x h = some h') :
    ∃ w', (Instr.storeAt t p' x').run S.P w = .ok () w' ∧ Inv S w0 h' g w' := by
  unfold astore at e
  split at e
  case h_2 => cases e
  rename_i id off vs hvs
  split at e
  case h_2 => cases e
  rename_i cs ho
  split at e
  case isFalse => cases e
  rename_i hc
  obtain ⟨hi, hl, hoff, hall⟩ := hc
  cases e
  cases hp
  rename_i b hb
  obtain ⟨b', hb', xs, ty, h1, h2⟩ := i.obj _ _ ho
  cases hb.symm.trans hb'
  have hv := acs_rep hx hvs
  obtain ⟨ie, hie⟩ := Option.isSome_iff_exists.1 hi
  have hone : ∀ v ∈ x'.cells.toList, v.oneCell' = true := by
    intro v hm
    obtain ⟨k, hk⟩ := List.mem_iff_getElem?.1 hm
    have hk' : k < vs.length := by rw [← hv.1]; have := (List.getElem?_eq_some_iff.1 hk).1; simpa using this
    have h3 := hv.2 k vs[k] (List.getElem?_eq_getElem hk')
    have h4 : x'.cells[k]? = some v := by simpa using hk
    have h5 : x'.cells.getD k undef = v := by simp [h4]
    rw [h5] at h3
    exact acell_one h3 (List.all_eq_true.1 hall _ (List.getElem_mem hk'))
  have hsz : x'.cells.size = vs.length := hv.1
  have hxs : xs.size = cs.length := h2.1
  have hst := run_storeCells_at (P := S.P) b off ty x'.cells.toList 0 xs w h1 (by simp; omega) hone
  simp only [Nat.add_zero] at hst
  obtain ⟨s1, s2⟩ := setRow_one (vs' := (xs.toList.take off ++ x'.cells.toList ++ xs.toList.drop (off + x'.cells.toList.length)).toArray) h1
  refine ⟨_, ?_, i.setObj hb s1 (by rw [ho]; rfl) ⟨_, ty, s2, repL_splice h2 hv (by omega)⟩⟩
  have hsize : (sizeOf t).run S.P w = .ok (S.P.cellsOf t) w := by simp [sizeOf, typeInfo, hie, Program.cellsOf]
  unfold Instr.storeAt storeVar
  simp only [Sem.run_bind, Instr.sureAddr, Sem.run_pure, Result.andThen_ok, hsize]
  rw [Sem.run_ite, if_neg (by omega)]
  exact hst

theorem afind_le {k : AV} : ∀ (es : List AEnt) (i j : Nat) (v : AV), afind k es i = some (some (j, v)) → i ≤ j
  | [], _, _, _, e => by simp [afind] at e
  | e0 :: es, i, j, v, e => by
    simp only [afind] at e
    split at e
    · cases e; exact Nat.le_refl _
    · have := afind_le es (i + 1) j v e; omega
    · cases e
theorem keyEq_value {g : Ghost} {a b : AV} {x y : Value} (ha : Rep g a x) (hb : Rep g b y) (e : akeyEq a b = some true) : x = y := by
  cases ha <;> simp only [akeyEq] at e <;> (try (cases e; done)) <;> cases hb <;> simp only [akeyEq] at e <;> (try (cases e; done))
  · simp at e; rw [e]
  · split at e
    · rename_i hk
      subst hk
      simp at e
      rw [e]
    · cases e
  · simp at e; rw [e]
theorem afind_key {g : Ghost} {k : AV} {x : Value} (hk : Rep g k x) : ∀ (es : List AEnt) (ms : List MapEntry) (i j : Nat) (v : AV), MapRep g es ms → afind k es i = some (some (j, v)) → ∃ m, ms[j - i]? = some m ∧ m.key = x
  | [], ms, i, j, v, hm, e => by simp [afind] at e
  | e0 :: es, ms, i, j, v, hm, e => by
    obtain ⟨m, hm0, hb, hkey, hval⟩ := hm.2 0 e0 rfl
    simp only [afind] at e
    cases hq : akeyEq k e0.key with
    | none => rw [hq] at e; cases e
    | some b =>
      rw [hq] at e
      cases b with
      | true =>
        cases e
        exact ⟨m, by simpa using hm0, (keyEq_value hk hkey hq).symm⟩
      | false =>
        cases ms with
        | nil => simp at hm0
        | cons m' ms =>
          have hrest : MapRep g es ms := ⟨by simpa using hm.1, fun i e he => by simpa using hm.2 (i + 1) e (by simpa using he)⟩
          obtain ⟨m1, q1, q2⟩ := afind_key hk es ms (i + 1) j v hrest e
          have hle : i + 1 ≤ j := afind_le es (i + 1) j v e
          refine ⟨m1, ?_, q2⟩
          have : j - i = (j - (i + 1)) + 1 := by omega
          rw [this, List.getElem?_cons_succ]
          exact q1
theorem mapRep_toList {g : Ghost} {es : List AEnt} {ms : Array MapEntry} (h2 : ms.size = es.length) (h3 : ∀ (i : Nat) (e : AEnt), es[i]? = some e → ∃ m : MapEntry, ms[i]? = some m ∧ m.born = e.born ∧ Rep g e.key m.key ∧ Rep g e.val m.val) : MapRep g es ms.toList :=
  ⟨by simpa using h2, fun i e he => by simpa using h3 i e he⟩
theorem amapUpdate_sound {S : Seat} {w0 : World} {h : AHeap} {g : Ghost} {w : World} (i : Inv S w0 h g w) {t : TypeId} {m k x : AV} {m' k' x' : Value} {h' : AHeap} (hm : Rep g m m') (hk : Rep g k k') (hx : Rep g x x') (e : amapUpdate S t m k x h = some h') :
    ∃ w', (Instr.mapUpdate t m' k' x').run S.P w = .ok () w' ∧ Inv S w0 h' g w' := by
  unfold amapUpdate at e
  split at e
  case h_2 => cases e
  rename_i kt et id hu
  split at e
  case isFalse => cases e
  rename_i hko
  split at e
  case h_2 => cases e
  rename_i clk es ho
  cases hm
  rename_i b hb
  obtain ⟨b', hb', ms, h1, h2, h3⟩ := i.obj _ _ ho
  cases hb.symm.trans hb'
  cases hkt : S.P.underlying kt with
  | none => rw [hkt] at hko; simp [keyOk] at hko
  | some d =>
    rw [hkt] at hko
    have hck := fun (b : Bool) => MapKept.run_checkKey (P := S.P) (w := w) hkt (isKey_of hk hko) b 9999
    have hmr := mapRep_toList h2 h3
    unfold amapPut at e
    cases hf : afind k es 0 with
    | none => rw [hf] at e; cases e
    | some r =>
      rw [hf] at e
      obtain ⟨r', hr', hh⟩ := afind_sound hk hko es ms.toList 0 _ hmr hf
      cases r with
      | none =>
        cases e
        cases r' with
        | some q => exact hh.elim
        | none =>
          obtain ⟨s1, s2⟩ := setMap_one (.map (ms.push { key := k', val := x', born := clk }) (clk + 1)) h1
          refine ⟨_, ?_, i.setObj hb s1 (by rw [ho]; rfl) ⟨_, s2, by simp [h2], fun j e' he => ?_⟩⟩
          · unfold Instr.mapUpdate
            simp only [Sem.run_bind, run_underlying hu, Result.andThen_ok, MapKept.run_getObj_map (P := S.P) h1, hck, MapKept.run_findKey (P := S.P) (w := w) hkt hr', MapKept.run_setObj_map (P := S.P) _ h1]
          · by_cases q : j < es.length
            · rw [List.getElem?_append_left q] at he
              obtain ⟨m, a1, a2⟩ := h3 j e' he
              exact ⟨m, by rw [Array.getElem?_push, if_neg (by omega)]; exact a1, a2⟩
            · rw [List.getElem?_append_right (by omega)] at he
              have : j = es.length := by
                cases hq : j - es.length with
                | zero => omega
                | succ n => rw [hq] at he; simp at he
              subst this
              simp at he
              subst he
              exact ⟨{ key := k', val := x', born := clk }, by rw [← h2]; simp, rfl, hk, hx⟩
      | some p =>
        obtain ⟨j, v⟩ := p
        cases e
        cases r' with
        | none => exact hh.elim
        | some q =>
          obtain ⟨j', y⟩ := q
          obtain ⟨rfl, hv, _, hlt⟩ := hh
          simp only [Nat.sub_zero] at hlt
          obtain ⟨m0, a1, a2, a3, a4⟩ := h3 j es[j] (List.getElem?_eq_getElem hlt)
          have hkey : m0.key = k' := by
            obtain ⟨m1, q1, q2⟩ := afind_key hk es ms.toList 0 j v hmr hf
            have : ms[j]? = some m1 := by simpa using q1
            rw [a1] at this
            cases this
            exact q2
          obtain ⟨s1, s2⟩ := setMap_one (.map (ms.modify j fun e => { e with key := k', val := x' }) clk) h1
          refine ⟨_, ?_, i.setObj hb s1 (by rw [ho]; rfl) ⟨_, s2, by simp [h2], fun l e' he => ?_⟩⟩
          · unfold Instr.mapUpdate
            have hkk : (((ms[j]?).map (·.key)).getD k') = k' := by rw [a1]; exact hkey
            simp only [Sem.run_bind, run_underlying hu, Result.andThen_ok, MapKept.run_getObj_map (P := S.P) h1, hck, MapKept.run_findKey (P := S.P) (w := w) hkt hr', hkk, MapKept.run_keyThatStays (isKey_of hk hko), MapKept.run_setObj_map (P := S.P) _ h1]
          · rw [List.getElem?_set] at he
            by_cases q : j = l
            · subst q
              rw [if_pos rfl, if_pos hlt] at he
              cases he
              refine ⟨{ m0 with key := k', val := x' }, by rw [Array.getElem?_modify, if_pos rfl, a1]; rfl, ?_, hk, hx⟩
              show m0.born = _
              rw [List.getElem?_eq_getElem hlt]
              exact a2
            · rw [if_neg q] at he
              obtain ⟨m, b1, b2⟩ := h3 l e' he
              exact ⟨m, by rw [Array.getElem?_modify, if_neg q]; exact b1, b2⟩

theorem adelete_sound {S : Seat} {w0 : World} {h : AHeap} {g : Ghost} {w : World} (i : Inv S w0 h g w) {ts : Array TypeId} {ty : TypeId} {m k : AV} {xs : Array Value} {h' : AHeap} (hm : RepL g [m, k] xs) (e : adelete S ts[0]? m k h = some h') :
    ∃ w', (Builtin.delete_ ts ty xs).run S.P w = .ok (.tuple #[]) w' ∧ Inv S w0 h' g w' := by
  obtain ⟨x0, hx0, hr0⟩ := hm.get (i := 0) (v := m) rfl
  obtain ⟨x1, hx1, hr1⟩ := hm.get (i := 1) (v := k) rfl
  unfold adelete at e
  cases ht : ts[0]? with
  | none => rw [ht] at e; simp at e
  | some t =>
    rw [ht] at e
    simp only [Option.bind_some] at e
    unfold Builtin.delete_
    simp only [ht, hx0, hx1]
    split at e
    case h_3 => cases e
    · rename_i kt et hu
      split at e
      case isFalse => cases e
      rename_i hko
      cases e
      cases hr0
      cases hkt : S.P.underlying kt with
      | none => rw [hkt] at hko; simp [keyOk] at hko
      | some d =>
        rw [hkt] at hko
        exact ⟨w, by simp only [Sem.run_bind, run_underlying hu, Result.andThen_ok, MapKept.run_checkKey (P := S.P) (w := w) hkt (isKey_of hr1 hko) true 9999, Sem.run_pure], i⟩
    · rename_i kt et id hu
      split at e
      case isFalse => cases e
      rename_i hko
      split at e
      case h_2 => cases e
      rename_i clk es ho
      cases hr0
      rename_i b hb
      obtain ⟨b', hb', ms, h1, h2, h3⟩ := i.obj _ _ ho
      cases hb.symm.trans hb'
      cases hkt : S.P.underlying kt with
      | none => rw [hkt] at hko; simp [keyOk] at hko
      | some d =>
        rw [hkt] at hko
        have hck := fun (b : Bool) => MapKept.run_checkKey (P := S.P) (w := w) hkt (isKey_of hr1 hko) b 9999
        have hmr := mapRep_toList h2 h3
        cases hf : afind k es 0 with
        | none => rw [hf] at e; cases e
        | some r =>
          rw [hf] at e
          obtain ⟨r', hr', hh⟩ := afind_sound hr1 hko es ms.toList 0 _ hmr hf
          cases r with
          | none =>
            cases e
            cases r' with
            | some q => exact hh.elim
            | none =>
              obtain ⟨s1, s2⟩ := setMap_one (.map ms clk) h1
              have hsame : ({ w with heap := w.heap.setIfInBounds b (.map ms clk) } : World).heap = w.heap := by
                apply Array.ext_getElem?
                intro l
                by_cases q : l = b
                · subst q; rw [h1]; exact s2
                · exact s1.other l q
              refine ⟨_, ?_, i.same hsame rfl rfl rfl⟩
              simp only [Sem.run_bind, run_underlying hu, Result.andThen_ok, MapKept.run_getObj_map (P := S.P) h1, hck, MapKept.run_findKey (P := S.P) (w := w) hkt hr', MapKept.run_setObj_map (P := S.P) _ h1, Sem.run_pure]
          | some p =>
            obtain ⟨j, v⟩ := p
            cases e
            cases r' with
            | none => exact hh.elim
            | some q =>
              obtain ⟨j', y⟩ := q
              obtain ⟨rfl, hv, _, hlt⟩ := hh
              simp only [Nat.sub_zero] at hlt
              obtain ⟨s1, s2⟩ := setMap_one (.map (ms.eraseIdxIfInBounds j) clk) h1
              have hjm : j < ms.size := by omega
              refine ⟨_, ?_, i.setObj hb s1 (by rw [ho]; rfl) ⟨_, s2, by simp [Array.eraseIdxIfInBounds, hjm, h2, List.length_eraseIdx, hlt], fun l e' he => ?_⟩⟩
              · simp only [Sem.run_bind, run_underlying hu, Result.andThen_ok, MapKept.run_getObj_map (P := S.P) h1, hck, MapKept.run_findKey (P := S.P) (w := w) hkt hr', MapKept.run_setObj_map (P := S.P) _ h1, Sem.run_pure]
              · rw [List.getElem?_eraseIdx] at he
                have hge : ∀ l, (ms.eraseIdxIfInBounds j)[l]? = if l < j then ms[l]? else ms[l + 1]? := by
                  intro l
                  simp only [Array.eraseIdxIfInBounds, hjm, dif_pos]
                  rw [Array.getElem?_eraseIdx]
                rw [hge]
                by_cases q : l < j
                · rw [if_pos q] at he ⊢
                  exact h3 l e' he
                · rw [if_neg q] at he ⊢
                  exact h3 (l + 1) e' he
end Go.Proofs.YtajknofacjiddaaDoor.Abs
