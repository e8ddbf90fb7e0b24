/- All operations that turn no memory of the call's own, in one function. -/
import Derived.Test.YtajknofacjiddaaDoorAbs4
namespace Go.Proofs.YtajknofacjiddaaDoor.Abs
open Go Go.RowKit
set_option linter.unusedVariables false
set_option linter.unusedSimpArgs false

def alen (S : Seat) (t : Option TypeId) (x : AV) (h : AHeap) : Option AV :=
  match t.bind S.P.underlying, x with
  | some (.slice _), .slice _ els _ => some (.int .i64 els.length)
  | some (.slice _), .row _ _ len _ _ => some (.int .i64 len)
  | some .string, .str s => some (.int .i64 s.size)
  | some (.map _ _), .nilmap => some (.int .i64 0)
  | some (.map _ _), .map id => match h.get id with
    | some (.map _ es) => some (.int .i64 es.length)
    | _ => none
  | some (.array n _), _ => some (.int .i64 n)
  | _, _ => none
theorem alen_sound {S : Seat} {w0 : World} {h : AHeap} {g : Ghost} {w : World} (i : Inv S w0 h g w) {ts : Array TypeId} {ty : TypeId} {x v : AV} {xs : Array Value} (hx : Rep g x (xs.getD 0 undef)) (hn : xs.size ≠ 0) (e : alen S ts[0]? x h = some v) :
    ∃ y, (Builtin.len_ ts ty xs).run S.P w = .ok y w ∧ Rep g v y := by
  unfold alen at e
  have h0 : xs[0]? = some (xs.getD 0 undef) := by
    have : 0 < xs.size := by omega
    simp [Array.getD, this]
  generalize xs.getD 0 undef = y at hx h0
  cases ht : ts[0]? with
  | none => rw [ht] at e; simp at e
  | some t =>
    rw [ht] at e
    simp only [Option.bind_some] at e
    unfold Builtin.len_
    simp only [ht, h0]
    split at e
    case h_7 => cases e
    all_goals (rename_i hu)
    · cases e
      obtain ⟨a, c, rfl⟩ := rep_slice_shape hx
      exact ⟨_, by simp only [Sem.run_bind, run_underlying hu, Result.andThen_ok, Sem.run_pure, goInt], .int _ _⟩
    · cases e
      cases hx
      exact ⟨_, by simp only [Sem.run_bind, run_underlying hu, Result.andThen_ok, Sem.run_pure, goInt], .int _ _⟩
    · cases e
      cases hx
      exact ⟨_, by simp only [Sem.run_bind, run_underlying hu, Result.andThen_ok, Sem.run_pure, goInt], .int _ _⟩
    · cases e
      cases hx
      exact ⟨_, by simp only [Sem.run_bind, run_underlying hu, Result.andThen_ok, Sem.run_pure, goInt], .int _ _⟩
    · split at e
      case h_2 => cases e
      rename_i clk es ho
      cases e
      cases hx
      rename_i b hb
      obtain ⟨b', hb', ms, h1, h2, h3⟩ := i.obj _ _ ho
      cases hb.symm.trans hb'
      refine ⟨_, by simp only [Sem.run_bind, run_underlying hu, Result.andThen_ok, MapKept.run_getObj_map (P := S.P) h1, Sem.run_pure, goInt]; rfl, ?_⟩
      rw [h2]
      exact .int _ _
    · cases e
      exact ⟨_, by simp only [Sem.run_bind, run_underlying hu, Result.andThen_ok, Sem.run_pure, goInt], .int _ _⟩

/-- The greater, the smaller of integers. -/
def amm (mx : Bool) : List AV → Option AV
  | [] => none
  | [x] => match x with | .int k a => some (.int k a) | _ => none
  | x :: y :: rest => match x, y with
    | .int k a, .int _ b => amm mx (.int k (if mx then (if b > a then b else a) else (if b < a then b else a)) :: rest)
    | _, _ => none
  termination_by l => l.length
theorem repl_getD {g : Ghost} {vs : List AV} {xs : List Value} (hl : xs.length = vs.length) (h : ∀ (i : Nat) v x, vs[i]? = some v → xs[i]? = some x → Rep g v x) (v : AV) (vs' : List AV) (e : vs = v :: vs') : ∃ x xs', xs = x :: xs' ∧ Rep g v x ∧ xs'.length = vs'.length ∧ ∀ (i : Nat) v x, vs'[i]? = some v → xs'[i]? = some x → Rep g v x := by
  subst e
  cases xs with
  | nil => simp at hl
  | cons x xs' => exact ⟨x, xs', rfl, h 0 _ _ rfl rfl, by simpa using hl, fun i v x h1 h2 => h (i + 1) v x (by simpa using h1) (by simpa using h2)⟩
theorem amm_max {S : Seat} {g : Ghost} {w : World} : ∀ (n : Nat) (vs : List AV) (x : Value) (xs : List Value) (v0 v : AV), vs.length = n → Rep g v0 x → xs.length = vs.length → (∀ (i : Nat) v x, vs[i]? = some v → xs[i]? = some x → Rep g v x) → amm true (v0 :: vs) = some v →
    ∃ y, (xs.foldlM Builtin.max2 x).run S.P w = .ok y w ∧ Rep g v y := by
  intro n
  induction n with
  | zero =>
    intro vs x xs v0 v hn h0 hl _ e
    have : vs = [] := List.eq_nil_of_length_eq_zero hn
    subst this
    have : xs = [] := by simpa using hl
    subst this
    unfold amm at e
    split at e
    · cases e; exact ⟨x, rfl, h0⟩
    · cases e
  | succ n ih =>
    intro vs x xs v0 v hn h0 hl hr e
    cases vs with
    | nil => simp at hn
    | cons v1 vs =>
      obtain ⟨x1, xs', rfl, h1, hl', hr'⟩ := repl_getD hl hr v1 vs rfl
      unfold amm at e
      split at e
      case h_2 => cases e
      cases h0; cases h1
      simp only [List.foldlM_cons, Sem.run_bind, Builtin.max2, Sem.run_pure, Result.andThen_ok]
      exact ih vs _ xs' _ v (by simpa using hn) (by simpa using Rep.int _ _) hl' hr' e
theorem amm_min {S : Seat} {g : Ghost} {w : World} : ∀ (n : Nat) (vs : List AV) (x : Value) (xs : List Value) (v0 v : AV), vs.length = n → Rep g v0 x → xs.length = vs.length → (∀ (i : Nat) v x, vs[i]? = some v → xs[i]? = some x → Rep g v x) → amm false (v0 :: vs) = some v →
    ∃ y, (xs.foldlM Builtin.min2 x).run S.P w = .ok y w ∧ Rep g v y := by
  intro n
  induction n with
  | zero =>
    intro vs x xs v0 v hn h0 hl _ e
    have : vs = [] := List.eq_nil_of_length_eq_zero hn
    subst this
    have : xs = [] := by simpa using hl
    subst this
    unfold amm at e
    split at e
    · cases e; exact ⟨x, rfl, h0⟩
    · cases e
  | succ n ih =>
    intro vs x xs v0 v hn h0 hl hr e
    cases vs with
    | nil => simp at hn
    | cons v1 vs =>
      obtain ⟨x1, xs', rfl, h1, hl', hr'⟩ := repl_getD hl hr v1 vs rfl
      unfold amm at e
      split at e
      case h_2 => cases e
      cases h0; cases h1
      simp only [List.foldlM_cons, Sem.run_bind, Builtin.min2, Sem.run_pure, Result.andThen_ok]
      exact ih vs _ xs' _ v (by simpa using hn) (by simpa using Rep.int _ _) hl' hr' e

/-! Conversions -/
def bytesAV (s : ByteArray) : AV := .slice 1 (s.data.toList.map fun b => [.int .u8 b.toNat]) .unk
def aconvert (S : Seat) (src dst : TypeId) (x : AV) : Option AV :=
  match S.P.underlying src, S.P.underlying dst, x with
  | some _, some (.int k), .int _ n => some (.int k (k.wrap n))
  | some _, some .string, .str s => some (.str s)
  | some _, some (.slice e), .str s => match S.P.underlying e with
    | some (.int .u8) => if s.size ≤ 140737488355328 then some (bytesAV s) else none
    | _ => none
  | _, _, _ => none
theorem aconvert_sound {S : Seat} {w0 : World} {h : AHeap} {g : Ghost} {w : World} (i : Inv S w0 h g w) {src dst : TypeId} {x v : AV} {y : Value} (hx : Rep g x y) (e : aconvert S src dst x = some v) :
    ∃ z w' g', (convert src dst y).run S.P w = .ok z w' ∧ g.le g' ∧ Inv S w0 h g' w' ∧ Rep g' v z := by
  unfold aconvert at e
  split at e
  case h_4 => cases e
  · rename_i d k _ n hs hd
    cases e
    cases hx
    refine ⟨_, w, g, ?_, Ghost.le.refl g, i, .int _ _⟩
    unfold convert
    simp only [Sem.run_bind, run_underlying hs, run_underlying hd, Result.andThen_ok, Conv.intToInt, Sem.run_pure]
  · rename_i d s hs hd
    cases e
    cases hx
    refine ⟨_, w, g, ?_, Ghost.le.refl g, i, .str _⟩
    unfold convert
    simp only [Sem.run_bind, run_underlying hs, run_underlying hd, Result.andThen_ok, Sem.run_pure]
  · rename_i d el s hs hd
    split at e
    case h_2 => cases e
    rename_i hel
    split at e
    case isFalse => cases e
    rename_i hsz
    cases e
    cases hx
    let cap := (Question.appendCap s.size 0 el).cut (w.tape w.drawn (.appendCap s.size 0 el))
    have hcap : s.size ≤ cap := by simp only [cap, Question.cut]; omega
    let arr : Array Value := (s.data.map fun b => Value.int .u8 b.toNat) ++ Array.replicate (cap - s.size) (.int .u8 0)
    have hrun : (convert src dst (.string s)).run S.P w = .ok (.slice (some ⟨w.heap.size, 0, none⟩) s.size cap) (((w.drew).alloc (.cells arr el)).freeze ⟨w.heap.size, arr.size, none⟩ 1) := by
      unfold convert
      simp only [Sem.run_bind, run_underlying hs, run_underlying hd, Result.andThen_ok, run_underlying hel, Conv.stringToBytes, run_choose, Question.forced, Bool.false_eq_true, if_false, newRow, run_newObj, Sem.run_pure, markStringish, run_shape]
      have hsh : ({ { w with drawn := w.drawn + 1 } with heap := w.heap.push (.cells ((s.data.map fun b => Value.int .u8 b.toNat) ++ Array.replicate ((Question.appendCap s.size 0 el).cut (w.tape w.drawn (.appendCap s.size 0 el)) - s.size) (.int .u8 0)) el) } : World).shape? w.heap.size = some (el, arr.size) := by
        simp [World.shape?, arr, cap]
      simp only [hsh, run_freeze]
      rfl
    have hnb : NewBlk w (((w.drew).alloc (.cells arr el)).freeze ⟨w.heap.size, arr.size, none⟩ 1) (.cells arr el (arr.size, arr.size + 1)) := by
      refine ⟨rfl, rfl, rfl, ?_⟩
      simp only [World.freeze, Nat.one_ne_zero, if_false, World.alloc, World.drew]
      apply Array.ext_getElem?
      intro k
      rw [Array.getElem?_modify]
      by_cases hk : w.heap.size = k
      · subst hk; simp
      · rw [if_neg hk]
        have hk2 : ¬ k = w.heap.size := fun q => hk q.symm
        simp [Array.getElem?_push, hk2]
    obtain ⟨le, inv⟩ := i.newImm hnb (fun k y hk => by
      have hm : y ∈ arr := Array.mem_of_getElem? hk
      simp only [arr, Array.mem_append, Array.mem_map, Array.mem_replicate] at hm
      rcases hm with ⟨b, _, rfl⟩ | ⟨_, rfl⟩ <;> rfl)
    refine ⟨_, _, _, hrun, le, inv, ?_⟩
    have hl : (s.data.toList.map fun b => [AV.int .u8 b.toNat]).length = s.size := by simp
    have hget : ∀ k, k < s.size → arr[k]? = some (.int .u8 (s.data.toList.getD k 0).toNat) := by
      intro k hk
      have hk' : k < s.data.size := hk
      have hk2 : s.data[k]? = some (s.data[k]'hk') := Array.getElem?_eq_getElem hk'
      simp [arr, Array.getElem?_append, hk, hk2]
    have := Rep.slice (g := g.addI w.heap.size arr) (sz := 1) (els := s.data.toList.map fun b => [AV.int .u8 b.toNat]) (tok := .unk) (b := w.heap.size) (o := 0) (cap := cap) (fun k => .int .u8 (s.data.toList.getD k 0).toNat)
      (fun k hk => by
        rw [hl] at hk
        show (if w.heap.size = w.heap.size then arr[0 + k]? else _) = _
        rw [if_pos rfl, Nat.zero_add]
        exact hget k (by omega))
      (fun k e0 he => by
        rw [List.getElem?_map] at he
        cases hq : s.data.toList[k]? with
        | none => simp [hq] at he
        | some b => rw [hq] at he; cases he; simp)
      (fun k j e0 v he hv => by
        rw [List.getElem?_map] at he
        cases hq : s.data.toList[k]? with
        | none => simp [hq] at he
        | some b =>
          rw [hq] at he
          cases he
          cases j with
          | succ j => simp at hv
          | zero =>
            cases hv
            have : s.data.toList.getD (k * 1 + 0) 0 = b := by simp [List.getD, hq]
            rw [this]
            exact .int _ _)
      (by rw [hl]; exact hcap) trivial
    rw [hl] at this
    exact this
end Go.Proofs.YtajknofacjiddaaDoor.Abs
