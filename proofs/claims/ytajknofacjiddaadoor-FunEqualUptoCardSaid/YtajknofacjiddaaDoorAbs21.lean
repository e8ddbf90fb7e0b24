/- From what a call is given to the abstract machine, and from its answer to a row's statement. -/
import Derived.Test.YtajknofacjiddaaDoorRows
import Derived.Test.YtajknofacjiddaaDoorAbs20
import Derived.Carry
import Derived.ChangeArms
import Derived.RowKit
import Derived.OpenShut
namespace Go.Proofs.YtajknofacjiddaaDoor.Abs
open Go Go.RowKit Go.ChangeShapes Go.WideShapes
set_option linter.unusedVariables false

/-- At the start: all that is there is only read. -/
def ghost0 (W : World) : Ghost := ⟨fun _ => none, fun b o => (W.cell? ⟨b, o, none⟩).bind fun x => if x.oneCell' then some x else none, fun _ _ => none⟩
def heap0 : AHeap := ⟨[], []⟩
theorem ghost0_I {W : World} {b o : Nat} {x : Value} (h : W.cell? ⟨b, o, none⟩ = some x) (h1 : x.oneCell' = true) : (ghost0 W).I b o = some x := by
  simp [ghost0, h, h1]
theorem start {S : Seat} {W : World} (hb : S.base W) (hg : ∀ k, S.gl k = none) : Inv S W heap0 (ghost0 W) W where
  below := Below.refl _ _
  gdom := fun id b e => by cases e
  ginj := fun id id' b e => by cases e
  obj := fun id o e => by simp [AHeap.get, heap0] at e
  imm := fun b o x e => by
    obtain ⟨y, h1, h2⟩ := Option.bind_eq_some_iff.1 e
    split at h2
    case isFalse => cases h2
    rename_i h3
    cases h2
    exact ⟨h1, (fun id h => by cases h), h3⟩
  tdom := fun t n d e => by cases e
  tok := fun t a cap sz e => by cases e
  tdisj := fun t t' a cap sz a' cap' sz' e => by cases e
  glob := fun k cs e => by rw [hg] at e; cases e
  base := hb

/-- Cells, and what they bear. -/
def Flat (W : World) (vs : List AV) (cs : List Value) : Prop := cs.length = vs.length ∧ ∀ (i : Nat) v x, vs[i]? = some v → cs[i]? = some x → Rep (ghost0 W) v x ∧ x.oneCell' = true
theorem Flat.one {W : World} {v : AV} {x : Value} (h : Rep (ghost0 W) v x) (h1 : x.oneCell' = true) : Flat W [v] [x] :=
  ⟨rfl, fun i u y e1 e2 => by
    cases i with
    | zero => cases e1; cases e2; exact ⟨h, h1⟩
    | succ n => simp at e1⟩
theorem Flat.app {W : World} {us vs : List AV} {cs ds : List Value} (h : Flat W us cs) (k : Flat W vs ds) : Flat W (us ++ vs) (cs ++ ds) := by
  refine ⟨by rw [List.length_append, List.length_append, h.1, k.1], fun i v x e1 e2 => ?_⟩
  by_cases q : i < us.length
  · rw [List.getElem?_append_left q] at e1
    rw [List.getElem?_append_left (by rw [h.1]; exact q)] at e2
    exact h.2 i v x e1 e2
  · rw [List.getElem?_append_right (by omega)] at e1
    rw [List.getElem?_append_right (by rw [h.1]; omega), h.1] at e2
    exact k.2 _ v x e1 e2

/-- Whatever is read as that type, with so much fuel, is borne by a value of the Lean type. -/
def Reads (P : Program) (N : Nat) (t : TypeId) {α : Type} (enc : α → List AV) (wt : α → Nat) (ok : α → Prop) : Prop :=
  ∀ (H : Type) (e : TypeId × Value → H) (W : World) cs d ps, DataW.trod e P W 0 (fun _ => true) true N t cs = some (d, ps) → ∃ x : α, Flat W (enc x) cs ∧ wt x ≤ Rows.uptoBulk d ∧ ok x
theorem reads_bool {P : Program} {t : TypeId} (ht : P.underlying t = some .bool) (N : Nat) : Reads P N t (fun b : Bool => [.bool b]) (fun _ => 1) (fun _ => True) := by
  intro H e W cs d ps h
  obtain ⟨b, rfl, hx⟩ := DataW.trod_bool ht h
  cases hx
  exact ⟨b, .one (.bool b) rfl, by simp [Rows.uptoBulk], trivial⟩
theorem reads_int {P : Program} {t : TypeId} {k : IntKind} (ht : P.underlying t = some (.int k)) (N : Nat) : Reads P N t (fun n : Int => [.int k n]) (fun _ => 1) (fun n => k.min ≤ n ∧ n ≤ k.max) := by
  intro H e W cs d ps h
  obtain ⟨b, rfl, hx, hw⟩ := DataW.trod_int ht h
  cases hx
  exact ⟨b, .one (.int k b) rfl, by simp [Rows.uptoBulk], by simpa [Lit.wf] using hw⟩
theorem reads_str {P : Program} {t : TypeId} (ht : P.underlying t = some .string) (N : Nat) : Reads P N t (fun s : ByteArray => [.str s]) (fun s => s.size + 1) (fun _ => True) := by
  intro H e W cs d ps h
  obtain ⟨b, rfl, hx, hw⟩ := DataW.trod_string ht h
  cases hx
  exact ⟨b, .one (.str b) rfl, by simp [Rows.uptoBulk, Array.length_toList], trivial⟩
theorem bulk_one {H : Type} (d : DataW H) : 1 ≤ Rows.uptoBulk d := by
  cases d with
  | lit l => cases l <;> simp [Rows.uptoBulk]
  | nil => simp [Rows.uptoBulk]
  | ptr d => simp [Rows.uptoBulk]
  | slice elems spare => simp [Rows.uptoBulk]
  | agg parts => simp [Rows.uptoBulk]
  | iface t d => simp [Rows.uptoBulk]
  | map entries => simp [Rows.uptoBulk]
  | held h => simp [Rows.uptoBulk]
theorem bulk_app {H : Type} (l r : List (DataW H)) : Rows.uptoBulkAll (l ++ r) = Rows.uptoBulkAll l + Rows.uptoBulkAll r := by
  induction l with
  | nil => simp [Rows.uptoBulkAll]
  | cons x l ih => simp only [List.cons_append, Rows.uptoBulkAll, ih]; omega
theorem cells_at {W : World} {a : Addr} {n : Nat} {cs : List Value} (h : W.cells? 0 a n = some cs) : cs.length = n ∧ ∀ i x, cs[i]? = some x → W.cell? (a.add i) = some x := by
  obtain ⟨_, h2, h3⟩ := World.cells?_some h
  refine ⟨h2, fun i x hx => ?_⟩
  have hi : i < n := by rw [← h2]; exact (List.getElem?_eq_some_iff.1 hx).1
  have := h3 i hi
  rw [hx] at this
  exact this
theorem reads_slice {P : Program} {t e : TypeId} {α : Type} {enc : α → List AV} {wt : α → Nat} {ok : α → Prop} {sz : Nat} (ht : P.underlying t = some (.slice e)) (hc : P.cellsOf e = sz) (h0 : 0 < sz) (N : Nat)
    (h : ∀ n, n < N → Reads P n e enc wt ok) : Reads P N t (fun xs : List α => [kslice sz (xs.map enc)]) (fun xs => (xs.map wt).sum + 1) (fun xs => ∀ x ∈ xs, ok x) := by
  intro H en W cs d ps hd
  rcases DataW.trod_slice ht hd with ⟨rfl, hx⟩ | ⟨a, len, cap, elems, rest, n, rfl, rfl, hx, _, hl, _, hlen, hel, _⟩
  · cases hx
    exact ⟨[], .one (.sliceNil trivial fun _ => rfl) rfl, by simp [Rows.uptoBulk], fun x hx => by cases hx⟩
  cases hx
  rw [hc] at hel
  have key : ∀ k, k ≤ len → ∃ xs : List α, xs.length = k ∧ (∀ (i : Nat) x, xs[i]? = some x → ok x ∧ ∃ ci, W.cells? 0 (a.add (i * sz)) sz = some ci ∧ Flat W (enc x) ci) ∧ (xs.map wt).sum ≤ Rows.uptoBulkAll ((elems.take k).map (·.1)) := by
    intro k
    induction k with
    | zero => intro _; exact ⟨[], rfl, fun i x hx => by simp at hx, by simp⟩
    | succ k ih =>
      intro hk
      obtain ⟨xs, h1, h2, h3⟩ := ih (by omega)
      have hk' : k < elems.length := by omega
      have he := hel k (by omega)
      rw [List.getElem?_eq_getElem hk'] at he
      obtain ⟨ci, hci, hdd⟩ := Option.bind_eq_some_iff.1 he
      obtain ⟨x, x1, x2, x3⟩ := h n (by omega) H en W ci elems[k].1 elems[k].2 hdd
      refine ⟨xs ++ [x], by simp [h1], fun i y hy => ?_, ?_⟩
      · by_cases q : i < xs.length
        · rw [List.getElem?_append_left q] at hy
          exact h2 i y hy
        · rw [List.getElem?_append_right (by omega)] at hy
          have : i = k := by
            have := (List.getElem?_eq_some_iff.1 hy).1
            simp at this
            omega
          subst this
          simp [h1] at hy
          subst hy
          exact ⟨x3, ci, hci, x1⟩
      · rw [List.take_add_one, List.getElem?_eq_getElem hk', List.map_append, List.map_append, bulk_app, List.sum_append]
        simp only [Option.toList_some, List.map_cons, List.map_nil, List.sum_cons, List.sum_nil, Rows.uptoBulkAll]
        omega
  obtain ⟨xs, h1, h2, h3⟩ := key len (Nat.le_refl _)
  have htake : elems.take len = elems := List.take_of_length_le (by omega)
  rw [htake] at h3
  refine ⟨xs, .one ?_ rfl, by simp only [Rows.uptoBulk]; omega, fun x hx => ?_⟩
  · refine rep_k ?_
    have hlm : (xs.map enc).length = len := by simp [h1]
    cases hxs : xs with
    | nil =>
      rw [hxs] at h1
      subst h1
      exact .sliceNil trivial fun e => by cases e
    | cons x0 xr =>
      rw [← hxs]
      have hx0 : xs[0]? = some x0 := by rw [hxs]; rfl
      have hspot : a.spot = none := by
        obtain ⟨_, ci, hci, _⟩ := h2 0 x0 hx0
        obtain ⟨c1, c2⟩ := cells_at hci
        have hx : ci[0]? = some (ci[0]'(by omega)) := by rw [List.getElem?_eq_getElem]
        have := c2 0 _ hx
        rw [Nat.zero_mul] at this
        unfold Addr.add at this
        rw [if_pos rfl, if_pos rfl] at this
        unfold World.cell? at this
        cases hs : a.spot with
        | none => rfl
        | some s =>
          rw [hs] at this
          split at this
          · simp at this
          · cases this
      obtain ⟨b, o, s⟩ := a
      simp only at hspot
      subst hspot
      have hcell : ∀ (i j : Nat) x v, xs[i]? = some x → (enc x)[j]? = some v → ∃ y, W.cell? ⟨b, o + (i * sz + j), none⟩ = some y ∧ y.oneCell' = true ∧ Rep (ghost0 W) v y := by
        intro i j x v hx hv
        obtain ⟨_, ci, hci, hf⟩ := h2 i x hx
        obtain ⟨c1, c2⟩ := cells_at hci
        have hj : j < ci.length := by rw [hf.1]; exact (List.getElem?_eq_some_iff.1 hv).1
        have hy := List.getElem?_eq_getElem hj
        obtain ⟨r1, r2⟩ := hf.2 j v _ hv hy
        have := c2 j _ hy
        rw [addr_add, addr_add, Nat.add_assoc] at this
        exact ⟨_, this, r2, r1⟩
      have hsz : ∀ (i : Nat) x, xs[i]? = some x → (enc x).length = sz := by
        intro i x hx
        obtain ⟨_, ci, hci, hf⟩ := h2 i x hx
        rw [← hf.1, (cells_at hci).1]
      have hrep := Rep.slice (g := ghost0 W) (sz := sz) (els := xs.map enc) (tok := .unk) (b := b) (o := o) (cap := cap) (fun k => (W.cell? ⟨b, o + k, none⟩).getD undef) (fun k hk => by
          rw [hlm] at hk
          have hi : k / sz < xs.length := by rw [h1]; exact Nat.div_lt_of_lt_mul (by rw [Nat.mul_comm]; exact hk)
          have hj : k % sz < (enc xs[k / sz]).length := by rw [hsz _ _ (List.getElem?_eq_getElem hi)]; exact Nat.mod_lt _ h0
          obtain ⟨y, y1, y2, _⟩ := hcell (k / sz) (k % sz) _ _ (List.getElem?_eq_getElem hi) (List.getElem?_eq_getElem hj)
          rw [Nat.div_add_mod' k sz] at y1
          rw [ghost0_I y1 y2, y1]
          rfl) (fun i e he => by
          rw [List.getElem?_map] at he
          obtain ⟨x, hx, rfl⟩ := Option.map_eq_some_iff.1 he
          exact Nat.le_of_eq (hsz i x hx)) (fun i j e v he hv => by
          rw [List.getElem?_map] at he
          obtain ⟨x, hx, rfl⟩ := Option.map_eq_some_iff.1 he
          obtain ⟨y, y1, y2, y3⟩ := hcell i j x v hx hv
          rw [y1]
          exact y3) (by rw [hlm]; exact hl) trivial
      rw [hlm] at hrep
      exact hrep
  · obtain ⟨i, hi⟩ := List.getElem?_of_mem hx
    exact (h2 i x hi).1

/-! From an answer to the row's word -/
theorem below_trodAll {H : Type} {enc : TypeId × Value → H} {P : Program} (hl : laidOutB P = true) {W W' : World} (hb : Below W.heap.size W W') :
    ∀ {ts : List TypeId} {vs : List Value} {ds : List (DataW H)} {ps : List MemPlace}, (ts.all fun t => P.readableRec t && decide (t < P.types.size)) = true → (∀ p ∈ ps, p.block < W.heap.size) →
      DataW.TrodAll enc P W 0 (fun _ => true) true ts vs ds ps → DataW.TrodAll enc P W' 0 (fun b => decide (b < W.heap.size)) true ts vs ds ps
  | [], _, _, _, _, _, h => by
    obtain ⟨rfl, rfl, rfl⟩ := trodAll_nil h
    exact rfl
  | t :: ts, _, _, _, hr, hlt, h => by
    obtain ⟨v, vs1, d, ds1, a, b, rfl, rfl, rfl, h1, h2⟩ := trodAll_cons h
    simp only [List.all_cons, Bool.and_eq_true, decide_eq_true_eq] at hr
    exact ⟨a, b, Below.trod hl hr.1.1 hr.1.2 h1 hb (fun x hx => hlt x (by simp [hx])), below_trodAll hl hb hr.2 (fun x hx => hlt x (by simp [hx])) h2, rfl⟩
/-- A law's specification: true, and the arguments as they were. -/
structure SaysTrue (s : ChangeSpec) (n : Nat) : Prop where
  vars : s.vars = []
  fn : ∀ (H : Type) (ds : List (DataW H)), ds.length = n → (s.fn H ds).results = [.lit (.bool true)] ∧ (s.fn H ds).args = ds ∧ (s.fn H ds).vars = []
theorem trodAll_length {H : Type} {enc : TypeId × Value → H} {P : Program} {W : World} {b : Nat} {sp : Nat → Bool} {held : Bool} : ∀ {ts : List TypeId} {vs : List Value} {ds : List (DataW H)} {ps : List MemPlace}, DataW.TrodAll enc P W b sp held ts vs ds ps → ds.length = ts.length
  | [], _, _, _, h => by obtain ⟨_, rfl, _⟩ := trodAll_nil h; rfl
  | _ :: _, _, _, _, h => by
    obtain ⟨_, _, _, _, _, _, _, rfl, _, _, h2⟩ := trodAll_cons h
    simp [trodAll_length h2]
theorem post_true {H : Type} {enc : TypeId × Value → H} {P : Program} {f : Func} {s : ChangeSpec} {W W' : World} {args : Array Value} {ds gs : List (DataW H)} {before : List MemPlace} {t : TypeId} (hl : laidOutB P = true)
    (hW : DataW.Whole enc P f.params.toList s.vars false W args.toList ds gs before) (hs : SaysTrue s f.params.toList.length) (hr : (f.params.toList.all fun t => P.readableRec t && decide (t < P.types.size)) = true) (hb : Below W.heap.size W W')
    (hres : f.resultTypes = #[t]) (ht : P.underlying t = some .bool) : s.post enc P f false true false false W args (.bool true) W' := by
  have hlt := hW.lt
  have hW' := hW
  obtain ⟨p, q, hA, hV, rfl, _, _⟩ := hW
  rw [hs.vars] at hV
  obtain ⟨rfl, rfl⟩ := trodVars_none hV
  obtain ⟨s1, s2, s3⟩ := hs.fn H ds (trodAll_length hA)
  refine ⟨ds, [], p ++ [], [], p, [], hW', ?_, ?_, ?_, Below.frame hb _, fun h => by cases h⟩
  · rw [List.append_nil, s1, hres]
    exact trodAll_cons_mk (shut_bool ht _) trodAll_mk0
  · rw [List.append_nil, s2]
    exact below_trodAll hl hb hr (fun x hx => hlt x (by simp [hx])) hA
  · rw [List.append_nil, s3, hs.vars]
    rfl
theorem contract_of {H : Type} {enc : TypeId × Value → H} {S : Seat} {fid : FuncId} {f : Func} {s : ChangeSpec} {W : World} {args : Array Value} {ds gs : List (DataW H)} {before : List MemPlace} {t : TypeId} {vs : List AV} {h' : AHeap} (hl : laidOutB S.P = true)
    (hW : DataW.Whole enc S.P f.params.toList s.vars false W args.toList ds gs before) (hs : SaysTrue s f.params.toList.length) (hr : (f.params.toList.all fun t => S.P.readableRec t && decide (t < S.P.types.size)) = true)
    (hres : f.resultTypes = #[t]) (ht : S.P.underlying t = some .bool) (hb : S.base W) (hg : ∀ k, S.gl k = none) (hR : RepL (ghost0 W) vs args) (ac : AC S fid vs heap0 (Pure1 (.bool true) h')) :
    Calls S.P fid args W fun e W' => ∃ v, e = .returned v ∧ s.post enc S.P f false true false false W args v W' := by
  refine (ac W (ghost0 W) W args (start hb hg) hR).mono fun e W' ⟨r, h', g', hle, inv, hend, hr'⟩ => ?_
  obtain ⟨rfl, _⟩ := hr'
  cases e with
  | returned x =>
    have hx : Rep g' (.bool true) x := hend
    cases hx
    exact ⟨_, rfl, post_true hl hW hs hr inv.below hres ht⟩
  | panicked ps => exact hend.elim
  | _ => exact hend.elim
end Go.Proofs.YtajknofacjiddaaDoor.Abs
