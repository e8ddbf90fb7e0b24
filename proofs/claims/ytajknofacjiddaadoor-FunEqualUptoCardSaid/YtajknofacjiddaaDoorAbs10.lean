/- All operations that turn memory, in one function. -/
import Derived.Test.YtajknofacjiddaaDoorAbs9
namespace Go.Proofs.YtajknofacjiddaaDoor.Abs
open Go Go.RowKit
set_option linter.unusedVariables false
set_option linter.unusedSimpArgs false

theorem i64_id {x : Int} (h0 : 0 ≤ x) (h1 : x < 9223372036854775808) : IntKind.i64.wrap x = x := by
  have : x % 18446744073709551616 = x := Int.emod_eq_of_lt h0 (by omega)
  simp [IntKind.wrap, IntKind.signed, IntKind.bits, this]
  omega
def amakeSlice (S : Seat) (t : TypeId) (l c : AV) (h : AHeap) : Option (AV × AHeap) :=
  match S.P.underlying t, l, c with
  | some (.slice e), .int _ l, .int _ c =>
    match (azero S e).bind acs with
    | some zs => if zs.length = S.P.cellsOf e ∧ 0 < S.P.cellsOf e ∧ 0 < S.P.bytesOf e ∧ 0 ≤ l ∧ l ≤ c ∧ c.toNat * S.P.bytesOf e ≤ 140737488355328 then
        (if l = 0 then some (.slice (S.P.cellsOf e) [] (.tip h.ntok), h.newTok 0)
        else some (.row h.next 0 l.toNat c.toNat (S.P.cellsOf e), h.alloc (.cells (azeros zs c.toNat))))
      else none
    | none => none
  | _, _, _ => none
theorem amakeSlice_sound {S : Seat} {w0 : World} {h : AHeap} {g : Ghost} {w : World} (i : Inv S w0 h g w) {t : TypeId} {l c v : AV} {l' c' : Value} {h' : AHeap} (hl : Rep g l l') (hc : Rep g c c') (e : amakeSlice S t l c h = some (v, h')) :
    ∃ y w' g', (Instr.makeSlice t l' c').run S.P w = .ok y w' ∧ g.le g' ∧ Inv S w0 h' g' w' ∧ Rep g' v y := by
  unfold amakeSlice at e
  split at e
  case h_2 => cases e
  rename_i el _ l _ c hu
  cases hl; cases hc
  split at e
  case h_2 => cases e
  rename_i zs hzs
  split at e
  case isFalse => cases e
  rename_i hcond
  obtain ⟨hc1, hc2, hc3, hc4, hc5, hc6⟩ := hcond
  obtain ⟨zv, hzv, hza⟩ := Option.bind_eq_some_iff.1 hzs
  obtain ⟨ie, z, hie, hzz, rfl⟩ := azero_parts hzv
  have hzr : RepL g zs z.cells := acs_rep (ofValue_rep g z) hza
  have hcs : S.P.cellsOf el = ie.size := cellsOf_info hie
  have hbs : S.P.bytesOf el = ie.bytes := by simp [Program.bytesOf, hie]
  have hcb : c.toNat ≤ c.toNat * S.P.bytesOf el := Nat.le_mul_of_pos_right _ hc3
  have w1 : IntKind.i64.wrap l = l := i64_id hc4 (by omega)
  have w2 : IntKind.i64.wrap c = c := i64_id (by omega) (by omega)
  let ys : Array Value := (Array.range (c.toNat * ie.size)).map ((if c.toNat * ie.size = 0 then #[] else z.cells)[· % (if c.toNat * ie.size = 0 then #[] else z.cells).size]!)
  have hrun : ∀ k k', (Instr.makeSlice t (.int k l) (.int k' c)).run S.P w = .ok (.slice (some ⟨w.heap.size, 0, none⟩) l.toNat c.toNat) (w.alloc (.cells ys el)) := by
    intro k k'
    have hbi : ((ie.bytes : Nat) : Int) * c ≤ 140737488355328 := by
      have : c = (c.toNat : Int) := by omega
      rw [this]
      rw [hbs] at hc6
      have := Int.ofNat_le.2 hc6
      rw [Int.natCast_mul] at this
      rw [Int.mul_comm]
      exact this
    unfold Instr.makeSlice
    simp only [Sem.run_bind, run_underlying hu, Result.andThen_ok, asInt, asIntOf, Sem.run_pure, typeInfo, run_program, hie, w1, w2]
    rw [Sem.run_ite, if_neg (by simp; omega)]
    simp only [Sem.run_bind, run_askRoom, Result.andThen_ok, sizeOf, typeInfo, run_program, hie, Sem.run_pure]
    by_cases h0 : c.toNat * ie.size = 0
    · simp only [h0, if_true, Sem.run_pure, Result.andThen_ok, newRow, Sem.run_bind, run_newObj]
      simp only [ys, h0, if_true]
      rfl
    · simp only [h0, if_false, zeroValue, typeInfo, Sem.run_bind, run_program, hie, hzz, Sem.run_pure, Result.andThen_ok, newRow, run_newObj]
      simp only [ys, h0, if_false]
      rfl
  have hzsz : z.cells.size = ie.size := by rw [hzr.1, hc1, hcs]
  have hys : ys.size = c.toNat * ie.size := by simp [ys]
  have nb : NewBlk w (w.alloc (.cells ys el)) (.cells ys el) := NewBlk.alloc w _
  split at e
  · rename_i hl0
    cases e
    subst hl0
    obtain ⟨le, inv⟩ := i.tokGrow (h' := h.newTok 0) (t := h.ntok) (n := 0) TokTo.new (b := w.heap.size) (o := 0) (cap := c.toNat) (sz := S.P.cellsOf el) (F := fun _ => none) (ys := ys) (e := el) (w' := w.alloc (.cells ys el))
      rfl rfl rfl (by rw [nb.size]; omega) (fun j _ hj => nb.old hj) nb.new i.below.size (fun id hid => by have := (i.gdom id _ hid).2.2; omega)
      (fun j x hx => by cases hx) (fun j x hx => by have := i.imm_lt hx; omega) (fun d hd => absurd (i.tdom _ _ _ hd).1 (Nat.lt_irrefl _)) (by rw [hys, hcs]; omega)
      (fun j h1 h2 => ⟨rfl, by
        cases hq : g.I w.heap.size (0 + j) with
        | none => rfl
        | some x => have := i.imm_lt hq; omega⟩)
      (fun t' a' cap' sz' hne hT' hl' heq => by have := (i.tok t' a' cap' sz' hT' hl').lt; omega)
    refine ⟨_, _, _, hrun _ _, le, inv, ?_⟩
    exact .slice (els := []) (fun _ => undef) (fun k hk => by simp at hk) (fun i e he => by simp at he) (fun i j e v he => by simp at he) (Nat.zero_le _) (by
      show (if h.ntok = h.ntok ∧ 0 = 0 then some _ else _) = some _
      rw [if_pos ⟨rfl, rfl⟩])
  · rename_i hl0
    cases e
    have hc0 : c.toNat * ie.size ≠ 0 := by
      rw [← hcs]
      have : 0 < c.toNat := by omega
      have := Nat.mul_pos this hc2
      omega
    have hrep : RepL g (azeros zs c.toNat) ys := by
      refine ⟨by rw [hys, length_azeros, hc1, hcs], fun j v hv => ?_⟩
      have hj : j < c.toNat * zs.length := by have := (List.getElem?_eq_some_iff.1 hv).1; rwa [length_azeros] at this
      rw [get_azeros zs _ j hj] at hv
      obtain ⟨y, hy, hr⟩ := hzr.get hv
      have hj' : j < c.toNat * ie.size := by rw [← hcs, ← hc1]; exact hj
      have hzl : z.cells.size = zs.length := hzr.1
      have : ys[j]? = some y := by
        simp only [ys, if_neg hc0]
        simp [hj', hzl]
        rw [getElem!_def, hy]
      simp [this]
      exact hr
    obtain ⟨le, inv⟩ := i.newObj (o := .cells (azeros zs c.toNat)) nb (fun g' l _ => ⟨ys, el, nb.new, hrep.mono l⟩)
    exact ⟨_, _, _, hrun _ _, le, inv, .row (by show (if h.next = h.next then some w.heap.size else _) = _; rw [if_pos rfl])⟩

def arange (S : Seat) (t : TypeId) (x : AV) (h : AHeap) : Option (AV × AHeap) :=
  match S.P.underlying t, x with
  | some (.map _ _), .nilmap => some (.ptr h.next 0, h.alloc (.iter none 0 [] 0))
  | some (.map _ _), .map id => match h.get id with
    | some (.map clk _) => some (.ptr h.next 0, h.alloc (.iter (some id) clk [] clk))
    | _ => none
  | _, _ => none
theorem arange_sound {S : Seat} {w0 : World} {h : AHeap} {g : Ghost} {w : World} (i : Inv S w0 h g w) {t : TypeId} {x v : AV} {z : Value} {h' : AHeap} (hx : Rep g x z) (e : arange S t x h = some (v, h')) :
    ∃ y w' g', (Instr.range t z).run S.P w = .ok y w' ∧ g.le g' ∧ Inv S w0 h' g' w' ∧ Rep g' v y := by
  unfold arange at e
  split at e
  case h_3 => cases e
  · rename_i hu
    cases e
    cases hx
    obtain ⟨le, inv⟩ := i.newObj (o := .iter none 0 [] 0) (NewBlk.alloc w (.mapIter none 0 #[] 0)) (fun g' l _ => ⟨none, rfl, (NewBlk.alloc w _).new⟩)
    refine ⟨.pointer (some ⟨w.heap.size, 0, none⟩), _, _, ?_, le, inv, .ptr (by show (if h.next = h.next then some w.heap.size else _) = _; rw [if_pos rfl])⟩
    simp [Instr.range, run_underlying hu]
  · rename_i kt et id hu
    split at e
    case h_2 => cases e
    rename_i clk es ho
    cases e
    cases hx
    rename_i b hb
    obtain ⟨b', hb', ms, h1, h2, h3⟩ := i.obj _ _ ho
    cases hb.symm.trans hb'
    obtain ⟨le, inv⟩ := i.newObj (o := .iter (some id) clk [] clk) (NewBlk.alloc w (.mapIter (some b) clk #[] clk)) (fun g' l _ => ⟨some b, ⟨b, l.G _ _ hb, rfl⟩, (NewBlk.alloc w _).new⟩)
    refine ⟨.pointer (some ⟨w.heap.size, 0, none⟩), _, _, ?_, le, inv, .ptr (by show (if h.next = h.next then some w.heap.size else _) = _; rw [if_pos rfl])⟩
    simp [Instr.range, run_underlying hu, MapKept.run_getObj_map (P := S.P) h1]

def ae (S : Seat) (op : Op) (ρ : Operand → AV) (h : AHeap) : Option (AV × AHeap) :=
  match op with
  | .alloc t => aalloc S t h
  | .box _ x => abox (ρ x) h
  | .makeMap t r => amakeMap S t (r.map ρ) h
  | .makeSlice t l c => amakeSlice S t (ρ l) (ρ c) h
  | .store t a x => (astore S t (ρ a) (ρ x) h).map fun h' => (.top, h')
  | .mapUpdate t m k x | .insert t m k x => (amapUpdate S t (ρ m) (ρ k) (ρ x) h).map fun h' => (.top, h')
  | .range t x => arange S t (ρ x) h
  | .call { callee := .builtin b, args, argTypes } => match b, args.toList with
    | .append, [s, x] => aappend S argTypes (ρ s) (ρ x) h
    | .delete, [m, k] => (adelete S argTypes[0]? (ρ m) (ρ k) h).map fun h' => (.tup [], h')
    | _, _ => none
  | _ => none

theorem list2_rep {g : Ghost} {ρ : Operand → AV} {e : Operand → Value} {xs : Array Operand} {a b : Operand} (hxs : xs.toList = [a, b]) (hr : ∀ x ∈ xs.toList, Rep g (ρ x) (e x)) : RepL g [ρ a, ρ b] (xs.map e) := by
  have := list_rep hr
  rwa [hxs] at this

theorem ae_sound {S : Seat} {w0 : World} {h : AHeap} {g : Ghost} {w : World} (i : Inv S w0 h g w) {o : Oper} {ρ : Operand → AV} {e : Operand → Value} (hr : ∀ x ∈ o.op.operands.toList, Rep g (ρ x) (e x)) {v : AV} {h' : AHeap} (ha : ae S o.op ρ h = some (v, h')) :
    ∃ n w' g', (execOp e o).run S.P w = .ok n w' ∧ g.le g' ∧ Inv S w0 h' g' w' ∧ ((∃ y, n = .value y ∧ Rep g' v y) ∨ (n = .skip ∧ v = .top)) := by
  have moved : ∀ {s : Sem Value} {v : AV} {h' : AHeap}, (∃ y w' g', s.run S.P w = .ok y w' ∧ g.le g' ∧ Inv S w0 h' g' w' ∧ Rep g' v y) →
      ∃ n w' g', ((do pure (Next.value (← s)) : Sem Next)).run S.P w = .ok n w' ∧ g.le g' ∧ Inv S w0 h' g' w' ∧ ((∃ y, n = .value y ∧ Rep g' v y) ∨ (n = .skip ∧ v = .top)) := by
    intro s v h' ⟨y, w', g', h1, h2, h3, h4⟩
    exact ⟨.value y, w', g', by simp only [Sem.run_bind, h1, Result.andThen_ok, Sem.run_pure], h2, h3, .inl ⟨y, rfl, h4⟩⟩
  have skipped : ∀ {s : Sem Unit} {h' : AHeap}, (∃ w', s.run S.P w = .ok () w' ∧ Inv S w0 h' g w') →
      ∃ n w' g', ((do s; pure Next.skip : Sem Next)).run S.P w = .ok n w' ∧ g.le g' ∧ Inv S w0 h' g' w' ∧ ((∃ y, n = .value y ∧ Rep g' .top y) ∨ (n = .skip ∧ AV.top = .top)) := by
    intro s h' ⟨w', h1, h2⟩
    exact ⟨.skip, w', g, by simp only [Sem.run_bind, h1, Result.andThen_ok, Sem.run_pure], Ghost.le.refl g, h2, .inr ⟨rfl, rfl⟩⟩
  unfold execOp
  unfold ae at ha
  cases hop : o.op <;> rw [hop] at ha hr <;> simp only [Op.operands, List.mem_cons, List.not_mem_nil, or_false, forall_eq_or_imp, forall_eq, Array.toList_append, List.mem_append] at hr <;> simp only at ha ⊢ <;> (try (cases ha; done))
  case alloc t => exact moved (aalloc_sound i ha)
  case box t x => exact moved (abox_sound i hr ha)
  case insert t m k x =>
    cases hq : amapUpdate S t (ρ m) (ρ k) (ρ x) h with
    | none => rw [hq] at ha; cases ha
    | some h1 => rw [hq] at ha; cases ha; exact skipped (amapUpdate_sound i hr.1 hr.2.1 hr.2.2 hq)
  case store t a x =>
    cases hq : astore S t (ρ a) (ρ x) h with
    | none => rw [hq] at ha; cases ha
    | some h1 => rw [hq] at ha; cases ha; exact skipped (astore_sound i hr.1 hr.2 hq)
  case makeMap t r => exact moved (amakeMap_sound i (opt_rep r (fun y hy => hr y hy)) ha)
  case makeSlice t l c => exact moved (amakeSlice_sound i hr.1 hr.2 ha)
  case mapUpdate t m k x =>
    cases hq : amapUpdate S t (ρ m) (ρ k) (ρ x) h with
    | none => rw [hq] at ha; cases ha
    | some h1 => rw [hq] at ha; cases ha; exact skipped (amapUpdate_sound i hr.1 hr.2.1 hr.2.2 hq)
  case range t x => exact moved (arange_sound i hr ha)
  case call c =>
    obtain ⟨cal, args, ts⟩ := c
    cases cal <;> simp only at ha <;> (try (cases ha; done))
    rename_i b
    have hl : ∀ x ∈ args.toList, Rep g (ρ x) (e x) := fun x hx => hr x (by simp [Call.operands]; simpa using hx)
    have him : ∀ (s : Sem Value) (f : Array TypeId → TypeId → Array Value → Sem Value), True := fun _ _ => trivial
    cases b <;> (try simp only at ha) <;> (try (cases ha; done))
    · split at ha
      case h_3 => cases ha
      · rename_i s x _ hargs
        obtain ⟨y, w', g', h1, h2, h3, h4⟩ := aappend_sound (ty := o.type) i (list2_rep hargs hl) ha
        exact ⟨.value y, w', g', by simp only [resolve, Sem.run_bind, Sem.run_pure, Result.andThen_ok, invoke, builtin, h1], h2, h3, .inl ⟨y, rfl, h4⟩⟩
      · rename_i hb _
        cases hb
    · split at ha
      case h_3 => cases ha
      · rename_i hb _
        cases hb
      · rename_i m k _ hargs
        cases hq : adelete S ts[0]? (ρ m) (ρ k) h with
        | none => rw [hq] at ha; cases ha
        | some h1 =>
          rw [hq] at ha
          cases ha
          obtain ⟨w', h1, h2⟩ := adelete_sound (ty := o.type) i (list2_rep hargs hl) hq
          exact ⟨.value (.tuple #[]), w', g, by simp only [resolve, Sem.run_bind, Sem.run_pure, Result.andThen_ok, invoke, builtin, h1], Ghost.le.refl g, h2, .inl ⟨_, rfl, .tup rfl (fun i v hv => by simp at hv)⟩⟩
end Go.Proofs.YtajknofacjiddaaDoor.Abs
