/- Slices that grow: the abstract operation holds. -/
import Derived.Test.YtajknofacjiddaaDoorAbs8
namespace Go.Proofs.YtajknofacjiddaaDoor.Abs
open Go Go.RowKit
set_option linter.unusedVariables false
set_option linter.unusedSimpArgs false

def Ghost.addT (g : Ghost) (t n : Nat) (hd : Option Addr × Nat × Nat) : Ghost := { g with T := fun t' n' => if t' = t ∧ n' = n then some hd else g.T t' n' }
def Ghost.putI (g : Ghost) (b : Nat) (F : Nat → Option Value) : Ghost := { g with I := fun b' o => if b' = b then (match F o with | some x => some x | none => g.I b' o) else g.I b' o }
theorem Ghost.le_addT {g : Ghost} {t n : Nat} {hd : Option Addr × Nat × Nat} (h : ∀ d, g.T t n = some d → d = hd) : g.le (g.addT t n hd) :=
  ⟨fun _ _ h => h, fun _ _ _ h => h, fun t' n' d hd' => by
    show (if t' = t ∧ n' = n then some hd else g.T t' n') = some d
    by_cases q : t' = t ∧ n' = n
    · rw [if_pos q]; rw [q.1, q.2] at hd'; rw [h d hd']
    · rw [if_neg q]; exact hd'⟩
theorem Ghost.le_putI {g : Ghost} {b : Nat} {F : Nat → Option Value} (h : ∀ o x y, g.I b o = some x → F o = some y → y = x) : g.le (g.putI b F) :=
  ⟨fun _ _ h => h, fun b' o x hx => by
    show (if b' = b then (match F o with | some x => some x | none => g.I b' o) else g.I b' o) = some x
    by_cases q : b' = b
    · rw [if_pos q]
      subst q
      cases hF : F o with
      | none => exact hx
      | some y => rw [h o x y hx hF]
    · rw [if_neg q]; exact hx, fun _ _ _ h => h⟩

/-- A heap whose row t has got longer (or is new). -/
structure TokTo (h h' : AHeap) (t n : Nat) : Prop where
  next : h'.next = h.next
  get : ∀ id, h'.get id = h.get id
  ntok : h.ntok ≤ h'.ntok
  lt : t < h'.ntok
  tok : h'.tok t = n
  other : ∀ t', t' ≠ t → h'.tok t' = h.tok t'
  up : t < h.ntok → h.tok t ≤ n
theorem TokTo.set {h : AHeap} {t n : Nat} (ht : t < h.ntok) (hn : h.tok t ≤ n) : TokTo h (h.setTok t n) t n :=
  ⟨rfl, fun _ => rfl, by rw [ntok_setTok]; exact Nat.le_refl _, by rw [ntok_setTok]; exact ht, by rw [tok_setTok, if_pos ⟨rfl, ht⟩], fun t' hne => by rw [tok_setTok, if_neg (fun q => hne q.1)], fun _ => hn⟩
theorem TokTo.new {h : AHeap} {n : Nat} : TokTo h (h.newTok n) h.ntok n :=
  ⟨rfl, fun _ => rfl, by rw [ntok_newTok]; omega, by rw [ntok_newTok]; omega, by rw [tok_newTok, if_pos rfl], fun t' hne => by rw [tok_newTok, if_neg hne], fun q => absurd q (Nat.lt_irrefl _)⟩

/-- No memory is turned; a row gets a header without room. -/
theorem Inv.tokStill {S : Seat} {w0 : World} {h h' : AHeap} {g : Ghost} {w : World} (i : Inv S w0 h g w) {t n : Nat} (k : TokTo h h' t n) {a : Option Addr} {sz : Nat} (hT : ∀ d, g.T t n = some d → d = (a, n, sz)) :
    g.le (g.addT t n (a, n, sz)) ∧ Inv S w0 h' (g.addT t n (a, n, sz)) w := by
  have le := Ghost.le_addT (g := g) (t := t) (n := n) hT
  have hTT : ∀ t' d, (g.addT t n (a, n, sz)).T t' (h'.tok t') = some d → (t' = t ∧ d = (a, n, sz)) ∨ (t' ≠ t ∧ g.T t' (h.tok t') = some d ∧ h'.tok t' = h.tok t') := by
    intro t' d hd
    change (if t' = t ∧ h'.tok t' = n then some (a, n, sz) else g.T t' (h'.tok t')) = some d at hd
    by_cases q : t' = t
    · rw [if_pos ⟨q, by rw [q]; exact k.tok⟩] at hd
      cases hd
      exact .inl ⟨q, rfl⟩
    · rw [if_neg (fun r => q r.1), k.other t' q] at hd
      exact .inr ⟨q, hd, k.other t' q⟩
  refine ⟨le, i.below, fun id b hb => by rw [k.next]; exact i.gdom id b hb, i.ginj, fun id o ho => ?_, i.imm, fun t' n' d hd => ?_, fun t' a' cap sz' ht hl => ?_, fun t1 t2 a1 c1 s1 a2 c2 s2 h1 l1 h2 l2 e => ?_, fun k' cs hk => (i.glob k' cs hk).mono le, i.base⟩
  · rw [k.get] at ho
    obtain ⟨b, h1, h2⟩ := i.obj id o ho
    exact ⟨b, h1, h2.mono le rfl⟩
  · change (if t' = t ∧ n' = n then some (a, n, sz) else g.T t' n') = some d at hd
    by_cases q : t' = t ∧ n' = n
    · rw [q.1, q.2]
      exact ⟨k.lt, by rw [k.tok]; exact Nat.le_refl _⟩
    · rw [if_neg q] at hd
      obtain ⟨h1, h2⟩ := i.tdom t' n' d hd
      refine ⟨Nat.lt_of_lt_of_le h1 k.ntok, ?_⟩
      by_cases r : t' = t
      · rw [r, k.tok]; rw [r] at h1 h2; exact Nat.le_trans h2 (k.up h1)
      · rw [k.other t' r]; exact h2
  · rcases hTT t' _ ht with ⟨q, e⟩ | ⟨q, e, r⟩
    · cases e
      rw [q, k.tok] at hl
      exact absurd hl (Nat.lt_irrefl _)
    · rw [r] at hl ⊢
      have s := i.tok t' a' cap sz' e hl
      exact s.kept rfl s.noG s.free
  · rcases hTT t1 _ h1 with ⟨q, e1⟩ | ⟨q, e1, r⟩
    · cases e1; rw [q, k.tok] at l1; exact absurd l1 (Nat.lt_irrefl _)
    · rcases hTT t2 _ h2 with ⟨q2, e2⟩ | ⟨q2, e2, r2⟩
      · cases e2; rw [q2, k.tok] at l2; exact absurd l2 (Nat.lt_irrefl _)
      · rw [r] at l1; rw [r2] at l2
        exact i.tdisj t1 t2 a1 c1 s1 a2 c2 s2 e1 l1 e2 l2 e

/-- A row's cells are written, in its own room or in a new block. -/
theorem Inv.tokGrow {S : Seat} {w0 : World} {h h' : AHeap} {g : Ghost} {w w' : World} (i : Inv S w0 h g w) {t n : Nat} (k : TokTo h h' t n) {b o cap sz : Nat} {F : Nat → Option Value} {ys : Array Value} {e : TypeId}
    (os : w'.os = w.os) (tape : w'.tape = w.tape) (output : w'.output = w.output) (size : w.heap.size ≤ w'.heap.size) (other : ∀ j, j ≠ b → j < w.heap.size → w'.heap[j]? = w.heap[j]?) (hb : w'.heap[b]? = some (.cells ys e (0, 0)))
    (hbase : w0.heap.size ≤ b) (hG : ∀ id, g.G id ≠ some b) (hF : ∀ j x, F j = some x → ys[j]? = some x ∧ x.oneCell' = true) (hI : ∀ j x, g.I b j = some x → F j = none ∧ ys[j]? = some x)
    (hT : ∀ d, g.T t n ≠ some d) (hfit : o + cap * sz ≤ ys.size) (hfree : ∀ j, n * sz ≤ j → j < cap * sz → F (o + j) = none ∧ g.I b (o + j) = none)
    (hdis : ∀ t' a' cap' sz', t' ≠ t → g.T t' (h.tok t') = some (some a', cap', sz') → h.tok t' < cap' → a'.block ≠ b) :
    g.le ((g.putI b F).addT t n (some ⟨b, o, none⟩, cap, sz)) ∧ Inv S w0 h' ((g.putI b F).addT t n (some ⟨b, o, none⟩, cap, sz)) w' := by
  have le1 : g.le (g.putI b F) := Ghost.le_putI (fun j x y hx hy => by rw [(hI j x hx).1] at hy; cases hy)
  have le : g.le ((g.putI b F).addT t n (some ⟨b, o, none⟩, cap, sz)) := le1.trans (Ghost.le_addT (fun d hd => absurd hd (hT d)))
  have hIeq : ∀ b' j, ((g.putI b F).addT t n (some ⟨b, o, none⟩, cap, sz)).I b' j = if b' = b then (match F j with | some x => some x | none => g.I b' j) else g.I b' j := fun _ _ => rfl
  have hTT : ∀ t' d, ((g.putI b F).addT t n (some ⟨b, o, none⟩, cap, sz)).T t' (h'.tok t') = some d → (t' = t ∧ d = (some ⟨b, o, none⟩, cap, sz)) ∨ (t' ≠ t ∧ g.T t' (h.tok t') = some d ∧ h'.tok t' = h.tok t') := by
    intro t' d hd
    change (if t' = t ∧ h'.tok t' = n then some _ else g.T t' (h'.tok t')) = some d at hd
    by_cases q : t' = t
    · rw [if_pos ⟨q, by rw [q]; exact k.tok⟩] at hd
      cases hd
      exact .inl ⟨q, rfl⟩
    · rw [if_neg (fun r => q r.1), k.other t' q] at hd
      exact .inr ⟨q, hd, k.other t' q⟩
  refine ⟨le, ⟨os.trans i.below.os, tape.trans i.below.tape, output.trans i.below.output, Nat.le_trans i.below.size size, fun j hj => (other j (by omega) (by have := i.below.size; omega)).trans (i.below.block j hj)⟩,
    fun id b' hb' => by rw [k.next]; have := i.gdom id b' hb'; omega, i.ginj, fun id o' ho' => ?_, fun b' j x hx => ?_, fun t' n' d hd => ?_, fun t' a' cap' sz' ht hl => ?_, fun t1 t2 a1 c1 s1 a2 c2 s2 h1 l1 h2 l2 e => ?_, fun k' cs hk => (i.glob k' cs hk).mono le, i.base⟩
  · rw [k.get] at ho'
    obtain ⟨b', h1, h2⟩ := i.obj id o' ho'
    exact ⟨b', h1, h2.mono le (other b' (fun q => hG id (by rw [h1, q])) (i.gdom id b' h1).2.2)⟩
  · rw [hIeq] at hx
    by_cases q : b' = b
    · rw [if_pos q] at hx
      subst q
      have hcell : ∀ j, w'.cell? ⟨b', j, none⟩ = ys[j]? := fun j => cell_of_row w' b' j ys e _ hb
      cases hFj : F j with
      | some y =>
        rw [hFj] at hx
        cases hx
        obtain ⟨h1, h2⟩ := hF j x hFj
        exact ⟨by rw [hcell]; exact h1, hG, h2⟩
      | none =>
        rw [hFj] at hx
        exact ⟨by rw [hcell]; exact (hI j x hx).2, hG, (i.imm b' j x hx).2.2⟩
    · rw [if_neg q] at hx
      obtain ⟨h1, h2, h3⟩ := i.imm b' j x hx
      exact ⟨(World.cell?_of_block (a := ⟨b', j, none⟩) (other b' q (i.imm_lt hx))).trans h1, h2, h3⟩
  · change (if t' = t ∧ n' = n then some _ else g.T t' n') = some d at hd
    by_cases q : t' = t ∧ n' = n
    · rw [q.1, q.2]
      exact ⟨k.lt, by rw [k.tok]; exact Nat.le_refl _⟩
    · rw [if_neg q] at hd
      obtain ⟨h1, h2⟩ := i.tdom t' n' d hd
      refine ⟨Nat.lt_of_lt_of_le h1 k.ntok, ?_⟩
      by_cases r : t' = t
      · rw [r, k.tok]; rw [r] at h1 h2; exact Nat.le_trans h2 (k.up h1)
      · rw [k.other t' r]; exact h2
  · rcases hTT t' _ ht with ⟨q, e'⟩ | ⟨q, e', r⟩
    · cases e'
      rw [q, k.tok]
      refine ⟨rfl, hbase, hG, ⟨ys, e, hb, hfit⟩, fun j h1 h2 => ?_⟩
      rw [hIeq, if_pos rfl, (hfree j h1 h2).1]
      exact (hfree j h1 h2).2
    · rw [r] at hl ⊢
      have s := i.tok t' a' cap' sz' e' hl
      have hne := hdis t' a' cap' sz' q e' hl
      refine s.kept (other _ hne s.lt) s.noG (fun j h1 h2 => ?_)
      rw [hIeq, if_neg hne]
      exact s.free j h1 h2
  · rcases hTT t1 _ h1 with ⟨q, e1⟩ | ⟨q, e1, r⟩
    · rcases hTT t2 _ h2 with ⟨q2, e2⟩ | ⟨q2, e2, r2⟩
      · rw [q, q2]
      · cases e1
        rw [r2] at l2
        exact absurd e.symm (hdis t2 a2 c2 s2 q2 e2 l2)
    · rcases hTT t2 _ h2 with ⟨q2, e2⟩ | ⟨q2, e2, r2⟩
      · cases e2
        rw [r] at l1
        exact absurd e (hdis t1 a1 c1 s1 q e1 l1)
      · rw [r] at l1; rw [r2] at l2
        exact i.tdisj t1 t2 a1 c1 s1 a2 c2 s2 e1 l1 e2 l2 e

theorem rep_concat {g : Ghost} {sz : Nat} {els els' : List (List AV)} {tok : Tok} {b o cap : Nat} {f f' : Nat → Value}
    (hI : ∀ k, k < (els.length + els'.length) * sz → g.I b (o + k) = some (if k < els.length * sz then f k else f' (k - els.length * sz)))
    (h1 : ∀ (i : Nat) e, els[i]? = some e → e.length ≤ sz) (h2 : ∀ (i j : Nat) e v, els[i]? = some e → e[j]? = some v → Rep g v (f (i * sz + j)))
    (h1' : ∀ (i : Nat) e, els'[i]? = some e → e.length ≤ sz) (h2' : ∀ (i j : Nat) e v, els'[i]? = some e → e[j]? = some v → Rep g v (f' (i * sz + j)))
    (hc : els.length + els'.length ≤ cap) (ht : TokRep g sz (els.length + els'.length) (some ⟨b, o, none⟩) cap tok) :
    Rep g (.slice sz (els ++ els') tok) (.slice (some ⟨b, o, none⟩) (els.length + els'.length) cap) := by
  have hl : (els ++ els').length = els.length + els'.length := List.length_append
  have := Rep.slice (g := g) (sz := sz) (els := els ++ els') (tok := tok) (b := b) (o := o) (cap := cap) (fun k => if k < els.length * sz then f k else f' (k - els.length * sz))
    (fun k hk => hI k (by rw [hl] at hk; exact hk))
    (fun i e he => by
      by_cases q : i < els.length
      · rw [List.getElem?_append_left q] at he; exact h1 i e he
      · rw [List.getElem?_append_right (by omega)] at he; exact h1' _ e he)
    (fun i j e v he hv => by
      by_cases q : i < els.length
      · rw [List.getElem?_append_left q] at he
        have hj : j < sz := Nat.lt_of_lt_of_le (List.getElem?_eq_some_iff.1 hv).1 (h1 i e he)
        have : i * sz + j < els.length * sz := by
          have : (i + 1) * sz ≤ els.length * sz := Nat.mul_le_mul_right sz q
          rw [Nat.add_mul] at this
          omega
        show Rep g v (if i * sz + j < els.length * sz then _ else _)
        rw [if_pos this]
        exact h2 i j e v he hv
      · rw [List.getElem?_append_right (by omega)] at he
        have hle : els.length * sz ≤ i * sz := Nat.mul_le_mul_right sz (by omega)
        show Rep g v (if i * sz + j < els.length * sz then _ else _)
        rw [if_neg (by omega)]
        have := h2' _ j e v he hv
        have e1 : (i - els.length) * sz + j = i * sz + j - els.length * sz := by rw [Nat.sub_mul]; omega
        rw [← e1]
        exact this)
    (by rw [hl]; exact hc) (by rw [hl]; exact ht)
  rw [hl] at this
  exact this

theorem setTok_same {h : AHeap} {t : Nat} (ht : t < h.ntok) : h.setTok t (h.tok t) = h := by
  unfold AHeap.setTok AHeap.tok
  unfold AHeap.ntok at ht
  cases h with
  | mk objs toks =>
    simp only [AHeap.mk.injEq, true_and]
    apply List.ext_getElem?
    intro k
    rw [List.getElem?_set]
    by_cases q : t = k
    · subst q
      simp only at ht
      rw [if_pos rfl, if_pos ht, List.getElem?_eq_getElem ht]
      rfl
    · rw [if_neg q]

theorem aappend_sound {S : Seat} {w0 : World} {h : AHeap} {g : Ghost} {w : World} (i : Inv S w0 h g w) {ts : Array TypeId} {ty : TypeId} {s x v : AV} {args : Array Value} {h' : AHeap} (hargs : RepL g [s, x] args) (e : aappend S ts s x h = some (v, h')) :
    ∃ y w' g', (Builtin.append_ ts ty args).run S.P w = .ok y w' ∧ g.le g' ∧ Inv S w0 h' g' w' ∧ Rep g' v y := by
  obtain ⟨xs, hxs, hs⟩ := hargs.get (i := 0) (v := s) rfl
  obtain ⟨xx, hxx, hx⟩ := hargs.get (i := 1) (v := x) rfl
  unfold aappend at e
  cases ht0 : ts[0]? with
  | none => rw [ht0] at e; simp at e
  | some t0 =>
    rw [ht0] at e
    simp only [Option.bind_some] at e
    split at e
    case h_2 => cases e
    rename_i el sz els tok hu
    split at e
    case h_2 => cases e
    rename_i els' zs hels hzs
    split at e
    case isFalse => cases e
    rename_i hc
    obtain ⟨hc1, hc2, hc3, hc4, hc5⟩ := hc
    obtain ⟨zv, hzv, hza⟩ := Option.bind_eq_some_iff.1 hzs
    obtain ⟨ie, z, hie, hzz, rfl⟩ := azero_parts hzv
    have hzr : RepL g zs z.cells := acs_rep (ofValue_rep g z) hza
    have hcs : S.P.cellsOf el = ie.size := cellsOf_info hie
    have hbs : S.P.bytesOf el = ie.bytes := by simp [Program.bytesOf, hie]
    obtain ⟨a, c, rfl⟩ := rep_slice_shape hs
    obtain ⟨_, hcap, htok⟩ := tokRep_of_slice hs
    obtain ⟨t1, d1, f', ht1, hu1, hd1, hlen, hfirst, hone', hsz', hR'⟩ := aels_sound i hx hels
    -- the old elements, at the type's own size
    have hold : ∃ f : Nat → Value, (∀ w', w'.heap = w.heap → (Builtin.firstCells (S.P.cellsOf el) els.length (.slice a els.length c)).run S.P w' = .ok ((List.range (els.length * S.P.cellsOf el)).map f).toArray w') ∧ (∀ k, k < els.length * S.P.cellsOf el → (f k).oneCell' = true) ∧
        (∀ (i : Nat) e, els[i]? = some e → e.length ≤ S.P.cellsOf el) ∧ (∀ (i j : Nat) e v, els[i]? = some e → e[j]? = some v → Rep g v (f (i * S.P.cellsOf el + j))) ∧
        (∀ b o, a = some ⟨b, o, none⟩ → ∀ k, k < els.length * S.P.cellsOf el → g.I b (o + k) = some (f k)) := by
      by_cases hz : sz = S.P.cellsOf el
      · subst hz
        cases hs with
        | sliceNil => exact ⟨fun _ => undef, fun w' _ => by cases a <;> simp [Builtin.firstCells, loadCells, loadCellsFrom], fun k hk => by simp at hk, fun i e he => by simp at he, fun i j e v he => by simp at he, fun b o q k hk => by simp at hk⟩
        | slice f hI hsz hR hcc htt =>
          rename_i b o
          refine ⟨f, fun w' hw => ?_, fun k hk => (i.imm _ _ _ (hI k hk)).2.2, hsz, hR, fun b' o' q k hk => by cases q; exact hI k hk⟩
          unfold Builtin.firstCells
          refine run_loadCells w' _ _ f (fun j hj => ?_)
          have hc' : ∀ a, w'.cell? a = w.cell? a := fun a => by simp [World.cell?, hw]
          rw [addr_add, hc']
          exact (i.imm _ _ _ (hI j hj)).1
      · have h0 : els = [] := List.eq_nil_of_length_eq_zero (hc5.resolve_left hz)
        subst h0
        refine ⟨fun _ => undef, fun w' hw => ?_, fun k hk => by simp at hk, fun i e he => by simp at he, fun i j e v he => by simp at he, fun b o q k hk => by simp at hk⟩
        cases a with
          | none => simp [Builtin.firstCells]
          | some ad => simp [Builtin.firstCells, loadCells, loadCellsFrom]
    obtain ⟨f, hf1, hf2, hf3, hf4, hf5⟩ := hold
    have hnew0 := hfirst w rfl
    rw [hcs] at hnew0
    by_cases hroom : els.length + els'.length ≤ c
    · -- there is room
      by_cases hm : els'.length = 0
      · -- nothing is appended
        have hm' : els' = [] := List.eq_nil_of_length_eq_zero hm
        subst hm'
        have hrun := run_append_room (ty := ty) (w' := w) ht0 hu ht1 hu1 hd1 hxs hxx hie (hlen w) hnew0 hroom (by cases a <;> simp [storeCells])
        simp only [List.length_nil, Nat.add_zero, List.append_nil] at hrun e
        cases tok with
        | unk => cases e
        | tip t =>
          simp only at e
          split at e
          case isFalse => cases e
          rename_i hq
          cases e
          refine ⟨_, w, g, hrun, Ghost.le.refl g, ?_, by rw [← hq.2.2]; exact hs⟩
          rw [← hq.1, setTok_same hq.2.1]
          exact i
        | fixed =>
          cases e
          have hcl : c = els.length := htok
          have hTn : ∀ d, g.T h.ntok els.length ≠ some d := fun d hd => absurd (i.tdom _ _ _ hd).1 (Nat.lt_irrefl _)
          obtain ⟨le, inv⟩ := i.tokStill (h' := h.newTok els.length) (t := h.ntok) (n := els.length) TokTo.new (a := a) (sz := S.P.cellsOf el) (fun d hd => absurd hd (hTn d))
          refine ⟨_, w, _, hrun, le, inv, ?_⟩
          have hTT : TokRep (g.addT h.ntok els.length (a, els.length, S.P.cellsOf el)) (S.P.cellsOf el) els.length a c (.tip h.ntok) := by
            show (if h.ntok = h.ntok ∧ els.length = els.length then some _ else _) = some (a, c, S.P.cellsOf el)
            rw [if_pos ⟨rfl, rfl⟩, hcl]
          by_cases hz : sz = S.P.cellsOf el
          · subst hz
            have hs' := hs.mono le
            cases hs' with
            | sliceNil _ hn => exact .sliceNil hTT hn
            | slice f hI hsz hR hcc htt => exact .slice f hI hsz hR hcc hTT
          · have h0 : els = [] := List.eq_nil_of_length_eq_zero (hc5.resolve_left hz)
            subst h0
            exact .sliceNil hTT (fun _ => hcl)
      · -- into the room
        cases tok with
        | unk => cases e
        | fixed => have hcl : c = els.length := htok; omega
        | tip t =>
          simp only at e
          split at e
          case isFalse => cases e
          rename_i hq
          obtain ⟨hq1, hq2, hq3⟩ := hq
          cases e
          subst hq3
          cases a with
          | none =>
            cases hs with
            | sliceNil _ hn =>
              have := hn rfl
              rw [List.length_nil, Nat.zero_add] at hroom
              omega
          | some ad =>
            have hT : g.T t els.length = some (some ad, c, S.P.cellsOf el) := htok
            have sp := i.tok t ad c (S.P.cellsOf el) (by rw [hq1]; exact hT) (by omega)
            rw [hq1] at sp
            obtain ⟨vs, ety, hvs1, hvs2⟩ := sp.cells
            have hspot := sp.spot
            obtain ⟨ab, ao, as⟩ := ad
            simp only at hspot
            subst hspot
            simp only at hvs1 hvs2
            let newL : List Value := (List.range (els'.length * S.P.cellsOf el)).map f'
            have hnl : newL.length = els'.length * S.P.cellsOf el := by simp [newL]
            have hsum : els.length * S.P.cellsOf el + els'.length * S.P.cellsOf el ≤ c * S.P.cellsOf el := by rw [← Nat.add_mul]; exact Nat.mul_le_mul_right _ hroom
            have hst := run_storeCells_at (P := S.P) ab (ao + els.length * S.P.cellsOf el) ety newL 0 vs w hvs1 (by rw [hnl]; omega) (fun v hv => by
              simp only [newL, List.mem_map, List.mem_range] at hv
              obtain ⟨k, hk, rfl⟩ := hv
              exact hone' k hk)
            simp only [Nat.add_zero] at hst
            let ys : Array Value := (vs.toList.take (ao + els.length * S.P.cellsOf el) ++ newL ++ vs.toList.drop (ao + els.length * S.P.cellsOf el + newL.length)).toArray
            obtain ⟨s1, s2⟩ := setRow_one (vs' := ys) hvs1
            have hys : ys.size = vs.size := by simp [ys, hnl]; omega
            have hyget : ∀ j, ys[j]? = if ao + els.length * S.P.cellsOf el ≤ j ∧ j < ao + els.length * S.P.cellsOf el + els'.length * S.P.cellsOf el then some (f' (j - (ao + els.length * S.P.cellsOf el))) else vs[j]? := by
              intro j
              simp only [ys, List.getElem?_toArray]
              by_cases c1 : j < ao + els.length * S.P.cellsOf el
              · rw [List.getElem?_append_left (by simp; omega), List.getElem?_append_left (by simp; omega), List.getElem?_take, if_pos c1, if_neg (by omega)]
                simp
              · by_cases c2 : j < ao + els.length * S.P.cellsOf el + els'.length * S.P.cellsOf el
                · rw [List.getElem?_append_left (by simp [hnl]; omega), List.getElem?_append_right (by simp; omega), if_pos (by omega)]
                  have e1 : (vs.toList.take (ao + els.length * S.P.cellsOf el)).length = ao + els.length * S.P.cellsOf el := by simp; omega
                  rw [e1]
                  simp only [newL]
                  rw [List.getElem?_map, List.getElem?_range (by omega)]
                  rfl
                · rw [List.getElem?_append_right (by simp [hnl]; omega), List.getElem?_drop, if_neg (by omega)]
                  have e1 : ao + els.length * S.P.cellsOf el + newL.length + (j - (vs.toList.take (ao + els.length * S.P.cellsOf el) ++ newL).length) = j := by simp [hnl]; omega
                  rw [e1]
                  simp
            have hrun := run_append_room (ty := ty) (w' := w.setRow ab ys) ht0 hu ht1 hu1 hd1 hxs hxx hie (hlen w) hnew0 hroom (by
              simp only [addr_add]
              rw [← hcs]
              exact hst)
            have hTn : ∀ d, g.T t (els.length + els'.length) ≠ some d := fun d hd => by
              have := (i.tdom _ _ _ hd).2
              omega
            obtain ⟨le, inv⟩ := i.tokGrow (h' := h.setTok t (els.length + els'.length)) (t := t) (n := els.length + els'.length) (TokTo.set hq2 (by omega)) (b := ab) (o := ao) (cap := c) (sz := S.P.cellsOf el)
              (F := fun j => if ao + els.length * S.P.cellsOf el ≤ j ∧ j < ao + els.length * S.P.cellsOf el + els'.length * S.P.cellsOf el then some (f' (j - (ao + els.length * S.P.cellsOf el))) else none) (ys := ys) (e := ety)
              s1.os s1.tape s1.output (by rw [s1.size]; exact Nat.le_refl _) (fun j hj _ => s1.other j hj) s2 sp.base sp.noG
              (fun j x hx => by
                split at hx
                case isFalse => cases hx
                rename_i hj
                cases hx
                exact ⟨by rw [hyget, if_pos hj], hone' _ (by omega)⟩)
              (fun j x hx => by
                have hnj : ¬ (ao + els.length * S.P.cellsOf el ≤ j ∧ j < ao + els.length * S.P.cellsOf el + els'.length * S.P.cellsOf el) := fun hj => by
                  have := sp.free (j - ao) (by omega) (by omega)
                  rw [show ao + (j - ao) = j by omega, hx] at this
                  cases this
                refine ⟨by rw [if_neg hnj], ?_⟩
                rw [hyget, if_neg hnj]
                have := (i.imm ab j x hx).1
                rwa [cell_of_row w ab j vs ety _ hvs1] at this)
              hTn (by rw [hys]; exact hvs2)
              (fun j h1 h2 => by
                rw [Nat.add_mul] at h1
                exact ⟨by rw [if_neg (by omega)], sp.free j (by omega) h2⟩)
              (fun t' a' cap' sz' hne hT' hl' heq => hne (i.tdisj t' t a' cap' sz' ⟨ab, ao, none⟩ c (S.P.cellsOf el) hT' hl' (by rw [hq1]; exact hT) (by omega) heq))
            refine ⟨_, _, _, hrun, le, inv, rep_concat (f := f) (f' := f') (fun k hk => ?_) hf3 (fun i j e v he hv => (hf4 i j e v he hv).mono le) hsz' (fun i j e v he hv => (hR' i j e v he hv).mono le) hroom ?_⟩
            · rw [Nat.add_mul] at hk
              show (if ab = ab then (match (if ao + els.length * S.P.cellsOf el ≤ ao + k ∧ ao + k < ao + els.length * S.P.cellsOf el + els'.length * S.P.cellsOf el then some (f' (ao + k - (ao + els.length * S.P.cellsOf el))) else none) with | some x => some x | none => g.I ab (ao + k)) else _) = _
              rw [if_pos rfl]
              by_cases q : k < els.length * S.P.cellsOf el
              · rw [if_neg (by omega), if_pos q]
                exact hf5 ab ao rfl k q
              · rw [if_pos (by omega), if_neg q]
                simp only [Option.some.injEq]
                congr 1
                omega
            · show (if t = t ∧ els.length + els'.length = els.length + els'.length then some _ else _) = some _
              rw [if_pos ⟨rfl, rfl⟩]
    · -- a new block
      have hnew1 := hfirst w.drew rfl
      rw [hcs] at hnew1
      have hold1 := hf1 w.drew rfl
      rw [hcs] at hold1
      have hrun := run_append_more (ty := ty) ht0 hu ht1 hu1 hd1 hxs hxx hie hzz (hlen w) hnew1 hold1 hroom (by rw [← hbs]; exact hc3) (by rw [← hbs]; exact hc4)
      let newCap := grownCap w (els.length + els'.length) c el
      have hnc : els.length + els'.length ≤ newCap := grownCap_ge w _ c el
      let ys : Array Value := ((List.range (els.length * ie.size)).map f).toArray ++ ((List.range (els'.length * ie.size)).map f').toArray ++ Builtin.zeroCells z.cells (newCap - (els.length + els'.length))
      have hzsz : z.cells.size = ie.size := by rw [hzr.1, hc1, hcs]
      have hys : ys.size = newCap * ie.size := by
        simp only [ys, Array.size_append, List.size_toArray, List.length_map, List.length_range, size_zeroCells, hzsz]
        rw [← Nat.add_mul, ← Nat.add_mul]
        congr 1
        omega
      have hyget : ∀ k, k < (els.length + els'.length) * ie.size → ys[k]? = some (if k < els.length * ie.size then f k else f' (k - els.length * ie.size)) := by
        intro k hk
        rw [Nat.add_mul] at hk
        simp only [ys, Array.getElem?_append, Array.size_append, List.size_toArray, List.length_map, List.length_range, List.getElem?_toArray]
        rw [if_pos hk]
        by_cases q : k < els.length * ie.size
        · rw [if_pos q, if_pos q, List.getElem?_map, List.getElem?_range q]; rfl
        · rw [if_neg q, if_neg q, List.getElem?_map, List.getElem?_range (by omega)]; rfl
      have hgen : ∀ (h' : AHeap) (t : Nat), TokTo h h' t (els.length + els'.length) → (∀ d, g.T t (els.length + els'.length) ≠ some d) →
          ∃ y w' g', (Builtin.append_ ts ty args).run S.P w = .ok y w' ∧ g.le g' ∧ Inv S w0 h' g' w' ∧ Rep g' (.slice (S.P.cellsOf el) (els ++ els') (.tip t)) y := by
        intro h' t kt hTn
        have nb : NewBlk w ((w.drew).alloc (.cells ys el)) (.cells ys el) := ⟨rfl, rfl, rfl, rfl⟩
        obtain ⟨le, inv⟩ := i.tokGrow kt (b := w.heap.size) (o := 0) (cap := newCap) (sz := S.P.cellsOf el)
          (F := fun j => if j < (els.length + els'.length) * ie.size then ys[j]? else none) (ys := ys) (e := el) (w' := (w.drew).alloc (.cells ys el))
          rfl rfl rfl (by rw [nb.size]; omega) (fun j _ hj => nb.old hj) nb.new i.below.size (fun id hid => by have := (i.gdom id _ hid).2.2; omega)
          (fun j x hx => by
            split at hx
            case isFalse => cases hx
            rename_i hj
            refine ⟨hx, ?_⟩
            rw [hyget j hj] at hx
            cases hx
            rw [Nat.add_mul] at hj
            by_cases q : j < els.length * ie.size
            · rw [if_pos q]; exact hf2 j (by rw [hcs]; exact q)
            · rw [if_neg q]; exact hone' _ (by rw [hcs]; omega))
          (fun j x hx => by have := i.imm_lt hx; omega)
          hTn (by rw [hys, hcs]; omega)
          (fun j h1 h2 => by
            refine ⟨by rw [if_neg (by rw [← hcs]; omega)], ?_⟩
            cases hq : g.I w.heap.size (0 + j) with
            | none => rfl
            | some x => have := i.imm_lt hq; omega)
          (fun t' a' cap' sz' hne hT' hl' heq => by have := (i.tok t' a' cap' sz' hT' hl').lt; omega)
        refine ⟨_, _, _, hrun, le, inv, rep_concat (f := f) (f' := f') (fun k hk => ?_) hf3 (fun i j e v he hv => (hf4 i j e v he hv).mono le) hsz' (fun i j e v he hv => (hR' i j e v he hv).mono le) hnc ?_⟩
        · show (if w.heap.size = w.heap.size then (match (if 0 + k < (els.length + els'.length) * ie.size then ys[0 + k]? else none) with | some x => some x | none => g.I w.heap.size (0 + k)) else _) = _
          rw [if_pos rfl, Nat.zero_add, if_pos (by rw [← hcs]; exact hk), hyget k (by rw [← hcs]; exact hk), hcs]
        · show (if t = t ∧ els.length + els'.length = els.length + els'.length then some _ else _) = some _
          rw [if_pos ⟨rfl, rfl⟩]
      cases tok with
      | unk => cases e
      | tip t =>
        simp only at e
        split at e
        case isFalse => cases e
        rename_i hq
        cases e
        exact hgen _ t (TokTo.set hq.2.1 (by omega)) (fun d hd => by have := (i.tdom _ _ _ hd).2; omega)
      | fixed =>
        cases e
        exact hgen _ h.ntok TokTo.new (fun d hd => absurd (i.tdom _ _ _ hd).1 (Nat.lt_irrefl _))
end Go.Proofs.YtajknofacjiddaaDoor.Abs
