/- Slices that grow. -/
import Derived.Test.YtajknofacjiddaaDoorAbs7
import Derived.Laws.Append
namespace Go.Proofs.YtajknofacjiddaaDoor.Abs
open Go Go.RowKit
set_option linter.unusedVariables false
set_option linter.unusedSimpArgs false

def notInt : TypeDesc → Bool
  | .int _ => false
  | _ => true
section
variable {P : Program} {w w' : World} {ts : Array TypeId} {ty t e t1 : TypeId} {d1 : TypeDesc} {args : Array Value} {base : Option Addr} {sLen sCap n : Nat} {x : Value} {ie : TypeInfo} {new old : Array Value} {z : Value}
theorem run_append_room (ht0 : ts[0]? = some t) (hu : P.underlying t = some (.slice e)) (ht1 : ts[1]? = some t1) (hu1 : P.underlying t1 = some d1) (hd : notInt d1 = true) (h0 : args[0]? = some (.slice base sLen sCap)) (h1 : args[1]? = some x)
    (hi : P.info? e = some ie) (hn : (Builtin.lenOf x).run P w = .ok n w) (hf : (Builtin.firstCells ie.size n x).run P w = .ok new w) (hc : sLen + n ≤ sCap)
    (hst : match base with | some a => (storeCells (a.add (sLen * ie.size)) new.toList).run P w = .ok () w' | none => w' = w) :
    (Builtin.append_ ts ty args).run P w = .ok (.slice base (sLen + n) sCap) w' := by
  have hsz : (sizeOf e).run P w = .ok ie.size w := by simp [sizeOf, typeInfo, hi]
  unfold Builtin.append_
  simp only [ht0, h0, h1, ht1, Sem.run_bind, run_underlying hu, Result.andThen_ok, hsz]
  rw [run_underlying hu1]
  simp only [Result.andThen_ok, Sem.run_pure]
  cases d1 <;> simp only [notInt, Bool.false_eq_true] at hd
  all_goals
    simp only [Result.andThen_ok, Sem.run_bind, Bool.false_eq_true, if_false, hn, Bool.not_false, if_true]
    rw [Sem.run_ite, if_pos hc]
    simp only [Sem.run_bind, hf, Result.andThen_ok]
    cases base with
    | none => subst hst; rfl
    | some a => simp only [Sem.run_bind, hst, Result.andThen_ok, Sem.run_pure]
theorem run_append_more (ht0 : ts[0]? = some t) (hu : P.underlying t = some (.slice e)) (ht1 : ts[1]? = some t1) (hu1 : P.underlying t1 = some d1) (hd : notInt d1 = true) (h0 : args[0]? = some (.slice base sLen sCap)) (h1 : args[1]? = some x)
    (hi : P.info? e = some ie) (hz : ie.zero = some z) (hn : (Builtin.lenOf x).run P w = .ok n w) (hf : (Builtin.firstCells ie.size n x).run P w.drew = .ok new w.drew) (ho : (Builtin.firstCells ie.size sLen (.slice base sLen sCap)).run P w.drew = .ok old w.drew)
    (hc : ¬ sLen + n ≤ sCap) (hb : 0 < ie.bytes) (hbound : (sLen + n) * ie.bytes ≤ 140737488355328) :
    (Builtin.append_ ts ty args).run P w = .ok (.slice (some ⟨w.heap.size, 0, none⟩) (sLen + n) (grownCap w (sLen + n) sCap e))
      ((w.drew).alloc (.cells (old ++ new ++ Builtin.zeroCells z.cells (grownCap w (sLen + n) sCap e - (sLen + n))) e)) := by
  have hsz : (sizeOf e).run P w = .ok ie.size w := by simp [sizeOf, typeInfo, hi]
  have hti : ∀ w, (typeInfo e).run P w = .ok ie w := fun w => by simp [typeInfo, hi]
  have hzv : ∀ w, (zeroValue e).run P w = .ok z w := fun w => by simp [zeroValue, typeInfo, hi, hz]
  have hfit := growslice_fits (need := sLen + n) (old := sCap) (bytes := ie.bytes) (by omega) hbound
  have hle : sLen + n ≤ (sLen + n) * ie.bytes := Nat.le_mul_of_pos_right _ hb
  unfold Builtin.append_
  simp only [ht0, h0, h1, ht1, Sem.run_bind, run_underlying hu, Result.andThen_ok, hsz]
  rw [run_underlying hu1]
  simp only [Result.andThen_ok, Sem.run_pure]
  cases d1 <;> simp only [notInt, Bool.false_eq_true] at hd
  all_goals
    simp only [Result.andThen_ok, Sem.run_bind, Bool.false_eq_true, if_false, hn, Bool.not_false, if_true]
    rw [Sem.run_ite, if_neg hc]
    simp only [Sem.run_bind, hti, Result.andThen_ok, false_or]
    rw [Sem.run_ite, if_neg (by omega)]
    simp only [Sem.run_bind, hti, Result.andThen_ok, Sem.run_pure]
    rw [Sem.run_ite, if_neg (by omega)]
    simp only [Sem.run_bind, run_choose, Question.forced, Bool.false_eq_true, if_false, Result.andThen_ok, hti, run_askRoom]
    simp only [World.drew_eq, ho, hf, Result.andThen_ok, hzv, newRow, Sem.run_bind, run_newObj, Sem.run_pure, World.size_drew]
    rfl
end

/-! The abstract operation -/
/-- The elements that are appended. -/
def aels (S : Seat) (e : TypeId) (t1 : Option TypeId) (x : AV) (h : AHeap) : Option (List (List AV)) :=
  match t1.bind S.P.underlying, x with
  | some (.slice _), .slice sz els _ => if sz = S.P.cellsOf e ∨ els.length = 0 then some els else none
  | some .string, .str s => if S.P.cellsOf e = 1 then some (s.data.toList.map fun b => [.int .u8 b.toNat]) else none
  | _, _ => none
def aappend (S : Seat) (ts : Array TypeId) (s x : AV) (h : AHeap) : Option (AV × AHeap) :=
  match ts[0]?.bind S.P.underlying, s with
  | some (.slice e), .slice sz els tok =>
    match aels S e ts[1]? x h, (azero S e).bind acs with
    | some els', some zs =>
      if zs.length = S.P.cellsOf e ∧ 0 < S.P.cellsOf e ∧ 0 < S.P.bytesOf e ∧ (els.length + els'.length) * S.P.bytesOf e ≤ 140737488355328 ∧ (sz = S.P.cellsOf e ∨ els.length = 0) then
        (match tok with
        | .tip t => if h.tok t = els.length ∧ t < h.ntok ∧ sz = S.P.cellsOf e then some (.slice (S.P.cellsOf e) (els ++ els') (.tip t), h.setTok t (els.length + els'.length)) else none
        | .fixed => some (.slice (S.P.cellsOf e) (els ++ els') (.tip h.ntok), h.newTok (els.length + els'.length))
        | .unk => none)
      else none
    | _, _ => none
  | _, _ => none

/-- The cells of a slice, read from memory. -/
theorem slice_cells {S : Seat} {w0 : World} {h : AHeap} {g : Ghost} {w : World} (i : Inv S w0 h g w) {sz : Nat} {els : List (List AV)} {tok : Tok} {a : Option Addr} {n c : Nat} (hx : Rep g (.slice sz els tok) (.slice a n c)) :
    ∃ f : Nat → Value, (∀ w', w'.heap = w.heap → (Builtin.firstCells sz els.length (.slice a n c)).run S.P w' = .ok ((List.range (els.length * sz)).map f).toArray w') ∧ (∀ k, k < els.length * sz → (f k).oneCell' = true) ∧
      (∀ (i : Nat) e, els[i]? = some e → e.length ≤ sz) ∧ (∀ (i j : Nat) e v, els[i]? = some e → e[j]? = some v → Rep g v (f (i * sz + j))) := by
  cases hx with
  | sliceNil => exact ⟨fun _ => undef, fun w' _ => by cases a <;> simp [Builtin.firstCells, loadCells, loadCellsFrom], fun k hk => by simp at hk, fun i e he => by simp at he, fun i j e v he => by simp at he⟩
  | slice f hI hsz hR hc ht =>
    rename_i b o
    refine ⟨f, fun w' hw => ?_, fun k hk => (i.imm _ _ _ (hI k hk)).2.2, hsz, hR⟩
    unfold Builtin.firstCells
    refine run_loadCells w' _ _ f (fun j hj => ?_)
    have hc' : ∀ a, w'.cell? a = w.cell? a := fun a => by simp [World.cell?, hw]
    rw [addr_add, hc']
    exact (i.imm _ _ _ (hI j hj)).1

/-- The new elements, as cells. -/
theorem aels_sound {S : Seat} {w0 : World} {h : AHeap} {g : Ghost} {w : World} (i : Inv S w0 h g w) {e : TypeId} {t1 : Option TypeId} {x : AV} {y : Value} {els : List (List AV)} (hx : Rep g x y) (he : aels S e t1 x h = some els) :
    ∃ (t : TypeId) (d : TypeDesc) (f : Nat → Value), t1 = some t ∧ S.P.underlying t = some d ∧ notInt d = true ∧ (∀ w', (Builtin.lenOf y).run S.P w' = .ok els.length w') ∧
      (∀ w', w'.heap = w.heap → (Builtin.firstCells (S.P.cellsOf e) els.length y).run S.P w' = .ok ((List.range (els.length * S.P.cellsOf e)).map f).toArray w') ∧ (∀ k, k < els.length * S.P.cellsOf e → (f k).oneCell' = true) ∧
      (∀ (i : Nat) e', els[i]? = some e' → e'.length ≤ S.P.cellsOf e) ∧ (∀ (i j : Nat) e' v, els[i]? = some e' → e'[j]? = some v → Rep g v (f (i * S.P.cellsOf e + j))) := by
  unfold aels at he
  cases t1 with
  | none => simp at he
  | some t =>
    simp only [Option.bind_some] at he
    split at he
    case h_3 => cases he
    · rename_i e1 sz els0 tok hu
      split at he
      case isFalse => cases he
      rename_i hz
      cases he
      obtain ⟨a, c, rfl⟩ := rep_slice_shape hx
      obtain ⟨f, f1, f2, f3, f4⟩ := slice_cells i hx
      by_cases hz' : sz = S.P.cellsOf e
      · subst hz'
        exact ⟨t, _, f, rfl, hu, rfl, fun w' => rfl, f1, f2, f3, f4⟩
      · have h0 : els.length = 0 := hz.resolve_left hz'
        have h0' : els = [] := List.eq_nil_of_length_eq_zero h0
        subst h0'
        refine ⟨t, _, f, rfl, hu, rfl, fun w' => rfl, fun w' hw => ?_, fun k hk => by simp at hk, fun i e he => by simp at he, fun i j e v he => by simp at he⟩
        cases a with
        | none => simp [Builtin.firstCells]
        | some ad => simp [Builtin.firstCells, loadCells, loadCellsFrom]
    · rename_i s hu
      split at he
      case isFalse => cases he
      rename_i hz
      cases he
      cases hx
      rw [hz]
      refine ⟨t, _, fun k => .int .u8 (s.data.toList.getD k 0).toNat, rfl, hu, rfl, fun w' => by simp [Builtin.lenOf], fun w' hw => ?_, fun k hk => rfl, fun i e he => ?_, fun i j e v he hv => ?_⟩
      · simp only [Builtin.firstCells, Sem.run_pure]
        congr 1
        apply Array.ext_getElem?
        intro k
        simp only [List.length_map, Array.length_toList, Nat.mul_one, List.getElem?_toArray, List.getElem?_map]
        by_cases hk : k < s.size
        · have hk2 : k < s.data.size := hk
          have : (s.extract 0 s.data.size).data = s.data := by
            have : s.extract 0 s.data.size = s := by
              apply ByteArray.ext
              simp
            rw [this]
          rw [this]
          have h3 : s.data[k]? = some (s.data[k]'hk2) := Array.getElem?_eq_getElem hk2
          have h4 : (List.range s.size)[k]? = some k := List.getElem?_range hk
          simp [h3, h4]
        · have hk2 : ¬ k < s.data.size := hk
          have : (s.extract 0 s.data.size).data = s.data := by
            have : s.extract 0 s.data.size = s := by
              apply ByteArray.ext
              simp
            rw [this]
          rw [this]
          have h3 : s.data[k]? = none := by simp; exact Nat.le_of_not_lt hk2
          have h4 : (List.range s.size)[k]? = none := by simp; exact Nat.le_of_not_lt hk
          simp [h3, h4]
      · rw [List.getElem?_map] at he
        cases hq : s.data.toList[i]? with
        | none => simp [hq] at he
        | some b => rw [hq] at he; cases he; simp
      · rw [List.getElem?_map] at he
        cases hq : s.data.toList[i]? with
        | none => simp [hq] at he
        | some b =>
          rw [hq] at he
          cases he
          cases j with
          | succ j => simp at hv
          | zero =>
            cases hv
            have : s.data.toList.getD (i * 1 + 0) 0 = b := by simp [List.getD, hq]
            show Rep g (.int .u8 b.toNat) (.int .u8 (s.data.toList.getD (i * 1 + 0) 0).toNat)
            rw [this]
            exact .int _ _
end Go.Proofs.YtajknofacjiddaaDoor.Abs
