/- Values that are put together; lengths; conversions; all operations that turn no memory, in one function. -/
import Derived.Test.YtajknofacjiddaaDoorAbs3
import Derived.Laws.Tables
import Derived.Great.BuildSlice
namespace Go.Proofs.YtajknofacjiddaaDoor.Abs
open Go Go.RowKit
set_option linter.unusedVariables false
set_option linter.unusedSimpArgs false

/-! Structs and rows from their parts -/
/-- The cells of a value. -/
def acs : AV → Option (List AV)
  | .agg cs => some cs
  | .top | .tup _ => none
  | v => some [v]
def asplice (cells : List AV) (off : Nat) (cs : List AV) : List AV := cells.take off ++ cs ++ cells.drop (off + cs.length)
def afill (place : Nat → Option (Nat × Nat)) : List AV → List (Nat × AV) → Option (List AV)
  | cells, [] => some cells
  | cells, (i, v) :: rest =>
    match place i with
    | none => none
    | some (off, size) => match acs v with
      | none => none
      | some cs => if cs.length = size ∧ off + cs.length ≤ cells.length then afill place (asplice cells off cs) rest else none

theorem acs_rep {g : Ghost} {v : AV} {x : Value} (h : Rep g v x) {cs : List AV} (e : acs v = some cs) : RepL g cs x.cells := by
  have one : x.cells = #[x] → RepL g [v] x.cells := by
    intro hx
    rw [hx]
    refine ⟨rfl, fun i u hu => ?_⟩
    match i, hu with
    | 0, hu => cases hu; exact h
    | n + 1, hu => simp at hu
  cases h <;> simp only [acs] at e <;> (try (cases e; done)) <;> cases e <;> (first | exact one rfl | skip)
  rename_i xs hs hR
  exact ⟨hs, hR⟩

theorem fold_set (off : Nat) : ∀ (l : List Value) (k : Nat) (cs : Array Value), off + k + l.length ≤ cs.size →
    ((l.zipIdx k).foldl (fun (cs : Array Value) (p : Value × Nat) => cs.setIfInBounds (off + p.2) p.1) cs).size = cs.size ∧
    ∀ i, ((l.zipIdx k).foldl (fun (cs : Array Value) (p : Value × Nat) => cs.setIfInBounds (off + p.2) p.1) cs)[i]? = if off + k ≤ i ∧ i < off + k + l.length then l[i - (off + k)]? else cs[i]?
  | [], k, cs, _ => ⟨rfl, fun i => by rw [if_neg (by simp)]; rfl⟩
  | x :: l, k, cs, h => by
    simp only [List.zipIdx_cons, List.foldl_cons]
    obtain ⟨h1, h2⟩ := fold_set off l (k + 1) (cs.setIfInBounds (off + k) x) (by simp at h ⊢; omega)
    refine ⟨by rw [h1]; simp, fun i => ?_⟩
    rw [h2 i]
    simp only [List.length_cons] at h ⊢
    by_cases c1 : off + (k + 1) ≤ i ∧ i < off + (k + 1) + l.length
    · rw [if_pos c1, if_pos (by omega)]
      have : i - (off + k) = (i - (off + (k + 1))) + 1 := by omega
      rw [this, List.getElem?_cons_succ]
    · rw [if_neg c1]
      by_cases c2 : i = off + k
      · subst c2
        rw [if_pos (by omega)]
        have : off + k < cs.size := by omega
        simp [this]
      · rw [if_neg (by omega)]
        rw [Array.getElem?_setIfInBounds]
        rw [if_neg (fun q => c2 q.symm)]

theorem afill_sound {g : Ghost} {place : Nat → Option (Nat × Nat)} : ∀ (parts : List (Nat × AV)) (ps : List (Nat × Value)) (cells : List AV) (xs : Array Value) (r : List AV), RepL g cells xs →
    ps.length = parts.length → (∀ (i : Nat) p q, parts[i]? = some p → ps[i]? = some q → p.1 = q.1 ∧ Rep g p.2 q.2) → afill place cells parts = some r → ∃ ys, Instr.fill place xs ps = some ys ∧ RepL g r ys
  | [], ps, cells, xs, r, hr, hl, _, e => by
    have : ps = [] := by simpa using hl
    subst this
    cases e
    exact ⟨xs, rfl, hr⟩
  | (i, v) :: parts, ps, cells, xs, r, hr, hl, hp, e => by
    cases ps with
    | nil => simp at hl
    | cons q ps =>
      obtain ⟨i', y⟩ := q
      obtain ⟨hi, hv⟩ := hp 0 _ _ rfl rfl
      simp only at hi hv
      subst hi
      unfold afill at e
      unfold Instr.fill
      cases hpl : place i with
      | none => rw [hpl] at e; cases e
      | some o =>
        obtain ⟨off, size⟩ := o
        rw [hpl] at e
        simp only at e ⊢
        cases hc : acs v with
        | none => rw [hc] at e; cases e
        | some cs =>
          rw [hc] at e
          simp only at e
          split at e
          case isFalse => cases e
          rename_i hcond
          have hy := acs_rep hv hc
          have hsz : y.cells.size = cs.length := hy.1
          have hxs : xs.size = cells.length := hr.1
          have c1 : (y.cells.size ≠ size || off + y.cells.size > xs.size) = false := by
            rw [hsz, hxs]; simp; omega
          simp only [ne_eq, decide_not] at c1
          rw [if_neg (by simp [hsz, hxs]; omega)]
          obtain ⟨f1, f2⟩ := fold_set off y.cells.toList 0 xs (by simp [hsz, hxs]; omega)
          have hzip : (y.cells.zipIdx.foldl (fun (cs : Array Value) (x : Value × Nat) => match x with | (c, j) => cs.setIfInBounds (off + j) c) xs) = (y.cells.toList.zipIdx 0).foldl (fun (cs : Array Value) (p : Value × Nat) => cs.setIfInBounds (off + p.2) p.1) xs := by
            rw [← Array.foldl_toList, Array.toList_zipIdx]
          refine afill_sound parts ps (asplice cells off cs) _ r ?_ (by simpa using hl) (fun j p q h1 h2 => hp (j + 1) p q (by simpa using h1) (by simpa using h2)) e
          rw [hzip]
          refine ⟨by rw [f1, hxs]; simp [asplice]; omega, fun j u hu => ?_⟩
          have hj := f2 j
          simp only [Array.length_toList, Nat.add_zero, Array.getElem?_toList] at hj
          unfold asplice at hu
          by_cases c2 : off ≤ j ∧ j < off + cs.length
          · rw [List.getElem?_append_left (by simp; omega), List.getElem?_append_right (by simp; omega)] at hu
            rw [if_pos (by omega)] at hj
            have hto : (cells.take off).length = off := by simp; omega
            rw [hto] at hu
            obtain ⟨z, hz, hzr⟩ := hy.get hu
            rw [hz] at hj
            simpa [hj] using hzr
          · rw [if_neg (by omega)] at hj
            have hu' : cells[j]? = some u := by
              by_cases c3 : j < off
              · rw [List.getElem?_append_left (by simp; omega), List.getElem?_append_left (by simp; omega), List.getElem?_take, if_pos c3] at hu
                exact hu
              · rw [List.getElem?_append_right (by simp; omega), List.getElem?_drop] at hu
                have : off + cs.length + (j - (List.take off cells ++ cs).length) = j := by simp; omega
                rwa [this] at hu
            obtain ⟨z, hz, hzr⟩ := hr.get hu'
            rw [hz] at hj
            simpa [hj] using hzr

/-! New blocks that never change -/
structure NewBlk (w w' : World) (o : Obj) : Prop where
  os : w'.os = w.os
  tape : w'.tape = w.tape
  output : w'.output = w.output
  heap : w'.heap = w.heap.push o
theorem NewBlk.size {w w' : World} {o : Obj} (n : NewBlk w w' o) : w'.heap.size = w.heap.size + 1 := by rw [n.heap]; simp
theorem NewBlk.old {w w' : World} {o : Obj} (n : NewBlk w w' o) {b : Nat} (hb : b < w.heap.size) : w'.heap[b]? = w.heap[b]? := by
  rw [n.heap, Array.getElem?_push, if_neg (by omega)]
theorem NewBlk.new {w w' : World} {o : Obj} (n : NewBlk w w' o) : w'.heap[w.heap.size]? = some o := by
  rw [n.heap]; simp
theorem NewBlk.cell {w w' : World} {o : Obj} (n : NewBlk w w' o) {a : Addr} {x : Value} (h : w.cell? a = some x) : w'.cell? a = some x :=
  (World.cell?_of_block (n.old (World.block_lt_of_cell? w a h))).trans h
theorem NewBlk.below {w0 w w' : World} {o : Obj} (n : NewBlk w w' o) (h : Below w0.heap.size w0 w) : Below w0.heap.size w0 w' :=
  ⟨n.os.trans h.os, n.tape.trans h.tape, n.output.trans h.output, by have := h.size; have := n.size; omega, fun k hk => (n.old (by have := h.size; omega)).trans (h.block k hk)⟩
theorem NewBlk.alloc (w : World) (o : Obj) : NewBlk w (w.alloc o) o := ⟨rfl, rfl, rfl, rfl⟩

theorem Spare.kept {w0 : World} {g g' : Ghost} {w w' : World} {a : Addr} {n cap sz : Nat} (h : Spare w0 g w a n cap sz) (hb : w'.heap[a.block]? = w.heap[a.block]?) (hG : ∀ id, g'.G id ≠ some a.block) (hI : ∀ k, n * sz ≤ k → k < cap * sz → g'.I a.block (a.off + k) = none) :
    Spare w0 g' w' a n cap sz :=
  ⟨h.spot, h.base, hG, let ⟨vs, e, h1, h2⟩ := h.cells; ⟨vs, e, hb.trans h1, h2⟩, hI⟩
theorem Spare.lt {w0 : World} {g : Ghost} {w : World} {a : Addr} {n cap sz : Nat} (h : Spare w0 g w a n cap sz) : a.block < w.heap.size := by
  obtain ⟨vs, e, h1, _⟩ := h.cells
  exact (Array.getElem?_eq_some_iff.1 h1).1

theorem Inv.same {S : Seat} {w0 : World} {h : AHeap} {g : Ghost} {w w' : World} (i : Inv S w0 h g w) (hh : w'.heap = w.heap) (ho : w'.os = w.os) (ht : w'.tape = w.tape) (hp : w'.output = w.output) : Inv S w0 h g w' := by
  have hc : ∀ a, w'.cell? a = w.cell? a := fun a => by simp [World.cell?, hh]
  exact ⟨⟨ho.trans i.below.os, ht.trans i.below.tape, hp.trans i.below.output, by rw [hh]; exact i.below.size, fun k hk => by rw [hh]; exact i.below.block k hk⟩,
    fun id b e => by rw [hh]; exact i.gdom id b e, i.ginj,
    fun id o e => let ⟨b, h1, h2⟩ := i.obj id o e; ⟨b, h1, h2.mono (Ghost.le.refl g) (by rw [hh])⟩,
    fun b o x e => by rw [hc]; exact i.imm b o x e, i.tdom,
    fun t a cap sz e l => (i.tok t a cap sz e l).kept (by rw [hh]) (i.tok t a cap sz e l).noG (i.tok t a cap sz e l).free, i.tdisj, i.glob, i.base⟩

def Ghost.addI (g : Ghost) (nb : Nat) (ys : Array Value) : Ghost := { g with I := fun b o => if b = nb then ys[o]? else g.I b o }
def acell : AV → Bool
  | .top | .agg _ | .tup _ => false
  | _ => true
theorem acell_one {g : Ghost} {v : AV} {x : Value} (h : Rep g v x) (e : acell v = true) : x.oneCell' = true := by
  cases h <;> first | rfl | (cases e; done)
theorem Inv.newImm {S : Seat} {w0 : World} {h : AHeap} {g : Ghost} {w w' : World} (i : Inv S w0 h g w) {ys : Array Value} {e : TypeId} {fz : Nat × Nat} (n : NewBlk w w' (.cells ys e fz)) (h1 : ∀ (k : Nat) y, ys[k]? = some y → y.oneCell' = true) :
    g.le (g.addI w.heap.size ys) ∧ Inv S w0 h (g.addI w.heap.size ys) w' := by
  have hne : ∀ {b o x}, g.I b o = some x → b ≠ w.heap.size := fun hx q => by have := i.imm_lt hx; omega
  have le : g.le (g.addI w.heap.size ys) := ⟨fun _ _ h => h, fun b o x hx => by show (if b = w.heap.size then ys[o]? else g.I b o) = _; rw [if_neg (hne hx)]; exact hx, fun _ _ _ h => h⟩
  refine ⟨le, n.below i.below, fun id b hb => let ⟨a, c, d⟩ := i.gdom id b hb; ⟨a, c, by have := n.size; omega⟩, i.ginj, fun id o ho => ?_, fun b o x hx => ?_, i.tdom, fun t a cap sz ht hl => ?_, i.tdisj, fun k cs hk => (i.glob k cs hk).mono le, i.base⟩
  · obtain ⟨b, h1, h2⟩ := i.obj id o ho
    exact ⟨b, h1, h2.mono le (n.old (i.gdom id b h1).2.2)⟩
  · change (if b = w.heap.size then ys[o]? else g.I b o) = some x at hx
    by_cases q : b = w.heap.size
    · rw [if_pos q] at hx
      subst q
      refine ⟨by rw [cell_of_row w' _ o ys e fz n.new]; exact hx, fun id hid => ?_, h1 _ _ hx⟩
      have := (i.gdom id _ hid).2.2
      omega
    · rw [if_neg q] at hx
      obtain ⟨h1, h2⟩ := i.imm b o x hx
      exact ⟨n.cell h1, h2⟩
  · have s := i.tok t a cap sz ht hl
    exact s.kept (n.old s.lt) s.noG (fun k h1 h2 => by
      show (if a.block = w.heap.size then ys[a.off + k]? else g.I a.block (a.off + k)) = none
      rw [if_neg (by have := s.lt; omega)]
      exact s.free k h1 h2)

/-! Struct and slice literals -/
def aplaces (S : Seat) (fields : Array Field) (i : Nat) : Option (Nat × Nat) := (fields[i]?).map fun f => (f.offset, S.P.cellsOf f.type)
def fieldsKnown (S : Seat) (fields : Array Field) : Bool := fields.toList.all fun f => (S.P.info? f.type).isSome
def abuild (S : Seat) (t : TypeId) (parts : List (Nat × AV)) : Option AV :=
  match azero S t with
  | some (.agg zs) => match S.P.underlying t with
    | some (.struct fields) => if fieldsKnown S fields then (afill (aplaces S fields) zs parts).map .agg else none
    | some (.array _ e) => if (S.P.info? e).isSome then (afill (fun i => some (i * S.P.cellsOf e, S.P.cellsOf e)) zs parts).map .agg else none
    | _ => none
  | _ => none
theorem cellsOf_info {P : Program} {t : TypeId} {i : TypeInfo} (h : P.info? t = some i) : P.cellsOf t = i.size := by simp [Program.cellsOf, h]
theorem azero_parts {S : Seat} {t : TypeId} {v : AV} (e : azero S t = some v) : ∃ i z, S.P.info? t = some i ∧ i.zero = some z ∧ v = ofValue z := by
  unfold azero at e
  obtain ⟨i, hi, hz⟩ := Option.bind_eq_some_iff.1 e
  cases hzz : i.zero with
  | none => simp [hzz] at hz
  | some z =>
    rw [hzz] at hz
    cases hz
    exact ⟨i, z, hi, hzz, rfl⟩
theorem places_eq {S : Seat} : ∀ (fs : List Field), (fs.all fun f => (S.P.info? f.type).isSome) = true → ∃ places, fs.mapM (fun f => (S.P.info? f.type).map fun i => (f.offset, i.size)) = some places ∧ ∀ i : Nat, places[i]? = (fs[i]?).map fun f => (f.offset, S.P.cellsOf f.type)
  | [], _ => ⟨[], rfl, fun i => rfl⟩
  | f :: fs, h => by
    simp only [List.all_cons, Bool.and_eq_true] at h
    obtain ⟨i, hi⟩ := Option.isSome_iff_exists.1 h.1
    obtain ⟨places, h1, h2⟩ := places_eq fs h.2
    refine ⟨(f.offset, i.size) :: places, by simp [List.mapM_cons, hi, h1], fun k => ?_⟩
    cases k with
    | zero => simp [cellsOf_info hi]
    | succ k => simpa using h2 k
theorem fill_congr {p q : Nat → Option (Nat × Nat)} (h : ∀ i, p i = q i) : ∀ (ps : List (Nat × Value)) (xs : Array Value), Instr.fill p xs ps = Instr.fill q xs ps := by
  have : p = q := funext h
  subst this
  intros; rfl

def PartsRep (g : Ghost) (parts : List (Nat × AV)) (ps : List (Nat × Value)) : Prop := ps.length = parts.length ∧ ∀ (i : Nat) p q, parts[i]? = some p → ps[i]? = some q → p.1 = q.1 ∧ Rep g p.2 q.2
theorem abuild_sound {S : Seat} {g : Ghost} {w : World} {t : TypeId} {parts : List (Nat × AV)} {ps : Array (Nat × Value)} {v : AV} (hp : PartsRep g parts ps.toList) (e : abuild S t parts = some v) :
    ∃ y, (Instr.build t ps).run S.P w = .ok y w ∧ Rep g v y := by
  unfold abuild at e
  split at e
  case h_2 => cases e
  rename_i zs hz
  obtain ⟨it, z, hit, hzz, hzv⟩ := azero_parts hz
  have hzr : RepL g zs z.cells := acs_rep (v := .agg zs) (hzv ▸ ofValue_rep g z) rfl
  split at e
  case h_3 => cases e
  · rename_i fields hu
    split at e
    case isFalse => cases e
    rename_i hk
    obtain ⟨places, h1, h2⟩ := places_eq fields.toList hk
    cases hf : afill (aplaces S fields) zs parts with
    | none => rw [hf] at e; cases e
    | some r =>
      rw [hf] at e
      cases e
      obtain ⟨ys, hy1, hy2⟩ := afill_sound parts ps.toList zs z.cells r hzr hp.1 hp.2 hf
      refine ⟨_, run_build w t ps ys ?_, .agg hy2.1 hy2.2⟩
      unfold Program.built
      simp only [hit, hu, hzz, h1]
      rw [← hy1]
      refine fill_congr (fun i => ?_) _ _
      have := h2 i
      simp only [Array.getElem?_toList] at this
      unfold aplaces
      rw [← this]
      simp
  · rename_i n e' hu
    split at e
    case isFalse => cases e
    rename_i hk
    obtain ⟨ie, hie⟩ := Option.isSome_iff_exists.1 hk
    cases hf : afill (fun i => some (i * S.P.cellsOf e', S.P.cellsOf e')) zs parts with
    | none => rw [hf] at e; cases e
    | some r =>
      rw [hf] at e
      cases e
      obtain ⟨ys, hy1, hy2⟩ := afill_sound parts ps.toList zs z.cells r hzr hp.1 hp.2 hf
      refine ⟨_, run_build w t ps ys ?_, .agg hy2.1 hy2.2⟩
      unfold Program.built
      simp only [hit, hu, hzz, hie]
      rw [← hy1]
      exact fill_congr (fun i => by rw [cellsOf_info hie]) _ _

def chunk (sz : Nat) : Nat → List AV → List (List AV)
  | 0, _ => []
  | n + 1, cs => cs.take sz :: chunk sz n (cs.drop sz)
theorem length_chunk (sz : Nat) : ∀ (n : Nat) (cs : List AV), (chunk sz n cs).length = n
  | 0, _ => rfl
  | n + 1, cs => by simp [chunk, length_chunk sz n]
theorem get_chunk (sz : Nat) : ∀ (n : Nat) (cs : List AV) (i : Nat) (e : List AV), (chunk sz n cs)[i]? = some e → e = (cs.drop (i * sz)).take sz
  | 0, _, _, _, h => by simp [chunk] at h
  | n + 1, cs, 0, e, h => by simp [chunk] at h; simp [h]
  | n + 1, cs, i + 1, e, h => by
    simp only [chunk, List.getElem?_cons_succ] at h
    rw [get_chunk sz n _ i e h, List.drop_drop, Nat.add_mul, Nat.one_mul, Nat.add_comm]
def azeros (zs : List AV) : Nat → List AV
  | 0 => []
  | n + 1 => zs ++ azeros zs n
theorem length_azeros (zs : List AV) : ∀ n, (azeros zs n).length = n * zs.length
  | 0 => by simp [azeros]
  | n + 1 => by simp [azeros, length_azeros zs n, Nat.add_mul, Nat.add_comm]
theorem get_azeros (zs : List AV) : ∀ (n i : Nat), i < n * zs.length → (azeros zs n)[i]? = zs[i % zs.length]?
  | 0, i, h => by simp at h
  | n + 1, i, h => by
    by_cases q : i < zs.length
    · rw [azeros, List.getElem?_append_left q, Nat.mod_eq_of_lt q]
    · rw [azeros, List.getElem?_append_right (by omega), get_azeros zs n _ (by rw [Nat.add_mul] at h; omega)]
      congr 1
      rw [← Nat.mod_eq_sub_mod (by omega)]
def abuildSlice (S : Seat) (t : TypeId) (len : Nat) (parts : List (Nat × AV)) : Option AV :=
  match S.P.underlying t with
  | some (.slice e) => match (azero S e).bind acs with
    | some zs => if zs.length = S.P.cellsOf e ∧ 0 < zs.length ∧ len * zs.length ≤ 16777216 then
        (afill (fun i => some (i * S.P.cellsOf e, S.P.cellsOf e)) (azeros zs len) parts).bind fun r => if r.all acell then some (.slice (S.P.cellsOf e) (chunk (S.P.cellsOf e) len r) .fixed) else none
      else none
    | none => none
  | _ => none
theorem afill_length {place : Nat → Option (Nat × Nat)} : ∀ (parts : List (Nat × AV)) (cells r : List AV), afill place cells parts = some r → r.length = cells.length
  | [], _, _, e => by cases e; rfl
  | (i, v) :: parts, cells, r, e => by
    unfold afill at e
    split at e
    · cases e
    · split at e
      · cases e
      · split at e
        · rw [afill_length parts _ r e]
          simp [asplice]; omega
        · cases e
theorem abuildSlice_sound {S : Seat} {w0 : World} {h : AHeap} {g : Ghost} {w : World} (i : Inv S w0 h g w) {t : TypeId} {len : Nat} {parts : List (Nat × AV)} {ps : Array (Nat × Value)} {v : AV} (hp : PartsRep g parts ps.toList) (e : abuildSlice S t len parts = some v) :
    ∃ y w' g', (Instr.buildSlice t len ps).run S.P w = .ok y w' ∧ g.le g' ∧ Inv S w0 h g' w' ∧ Rep g' v y := by
  unfold abuildSlice at e
  split at e
  case h_2 => cases e
  rename_i e' hu
  split at e
  case h_2 => cases e
  rename_i zs hzs
  obtain ⟨zv, hzv, hza⟩ := Option.bind_eq_some_iff.1 hzs
  obtain ⟨ie, z, hie, hzz, rfl⟩ := azero_parts hzv
  have hzr : RepL g zs z.cells := acs_rep (ofValue_rep g z) hza
  split at e
  case isFalse => cases e
  rename_i hc
  obtain ⟨hc1, hc2, hc3⟩ := hc
  have hsz : S.P.cellsOf e' = ie.size := cellsOf_info hie
  cases hf : afill (fun i => some (i * S.P.cellsOf e', S.P.cellsOf e')) (azeros zs len) parts with
  | none => rw [hf] at e; cases e
  | some r =>
    rw [hf] at e
    simp only [Option.bind_some] at e
    split at e
    case isFalse => cases e
    rename_i hall
    cases e
    have hz0 : RepL g (azeros zs len) ((Array.range (len * ie.size)).map (z.cells[· % z.cells.size]!)) := by
      refine ⟨by simp [length_azeros, ← hsz, hc1], fun j v hv => ?_⟩
      have hj : j < len * zs.length := by have := (List.getElem?_eq_some_iff.1 hv).1; rwa [length_azeros] at this
      rw [get_azeros zs len j hj] at hv
      obtain ⟨y, hy, hr⟩ := hzr.get hv
      have hzsz : z.cells.size = zs.length := hzr.1
      have hj' : j < len * ie.size := by rw [← hsz, ← hc1]; exact hj
      have : ((Array.range (len * ie.size)).map (z.cells[· % z.cells.size]!)).getD j undef = y := by
        have : ((Array.range (len * ie.size)).map (z.cells[· % z.cells.size]!))[j]? = some y := by
          simp [hj', hzsz]
          rw [getElem!_def, hy]
        simp [this]
      rw [this]
      exact hr
    obtain ⟨ys, hy1, hy2⟩ := afill_sound parts ps.toList _ _ r hz0 hp.1 hp.2 hf
    have hrl := afill_length _ _ _ hf
    rw [length_azeros] at hrl
    rw [hsz] at hy1
    have hone : ∀ (k : Nat) y, ys[k]? = some y → y.oneCell' = true := by
      intro k y hk
      have hk' : k < r.length := by rw [← hy2.1]; exact (Array.getElem?_eq_some_iff.1 hk).1
      have h3 := hy2.2 k r[k] (List.getElem?_eq_getElem hk')
      have h4 : ys.getD k undef = y := by simp [hk]
      rw [h4] at h3
      exact acell_one h3 (List.all_eq_true.1 hall _ (List.getElem_mem hk'))
    by_cases hlen : len = 0
    · subst hlen
      have hys : ys = #[] := by
        have := hy2.1
        rw [hrl] at this
        exact Array.eq_empty_of_size_eq_zero (by simpa using this)
      subst hys
      obtain ⟨le, inv⟩ := i.newImm (NewBlk.alloc w (.cells #[] e')) (fun k y hk => by simp at hk)
      refine ⟨.slice (some ⟨w.heap.size, 0, none⟩) 0 0, w.alloc (.cells #[] e'), _, ?_, le, inv, ?_⟩
      · have hr0 : Array.range 0 = #[] := rfl
        simp only [Nat.zero_mul, hr0, List.map_toArray, List.map_nil, Array.map_empty] at hy1
        simp [Instr.buildSlice, run_underlying hu, sizeOf, typeInfo, hie, hr0, hy1, newRow]
      · exact .slice (fun _ => undef) (by simp [chunk]) (by simp [chunk]) (by simp [chunk]) (by simp [chunk]) rfl
    · obtain ⟨le, inv⟩ := i.newImm (NewBlk.alloc w (.cells ys e')) hone
      refine ⟨_, _, _, run_buildSlice w t e' len ps ys ie z hu hie hzz (by rw [← hsz, ← hc1]; omega) (by rw [← hsz, ← hc1]; have := Nat.mul_pos (Nat.pos_of_ne_zero hlen) hc2; omega) hy1, le, inv, ?_⟩
      have hl : (chunk (S.P.cellsOf e') len r).length = len := length_chunk _ _ _
      have hI : ∀ k, k < r.length → (g.addI w.heap.size ys).I w.heap.size (0 + k) = some (ys.getD k undef) := by
        intro k hk
        show (if w.heap.size = w.heap.size then ys[0 + k]? else _) = _
        rw [if_pos rfl, Nat.zero_add]
        have : k < ys.size := by rw [hy2.1]; exact hk
        simp [this]
      have := Rep.slice (g := g.addI w.heap.size ys) (sz := S.P.cellsOf e') (els := chunk (S.P.cellsOf e') len r) (tok := .fixed) (b := w.heap.size) (o := 0) (cap := len) (fun k => ys.getD k undef)
        (fun k hk => hI k (by rw [hl] at hk; rw [hrl, hc1]; exact hk))
        (fun k e0 he => by rw [get_chunk _ _ _ _ _ he]; simp; omega)
        (fun k j e0 v he hv => by
          rw [get_chunk _ _ _ _ _ he, List.getElem?_take] at hv
          split at hv
          case isFalse => cases hv
          rw [List.getElem?_drop] at hv
          exact (hy2.2 _ v hv).mono le)
        (by rw [hl]; omega) (by rw [hl]; exact rfl)
      rw [hl] at this
      exact this
end Go.Proofs.YtajknofacjiddaaDoor.Abs
