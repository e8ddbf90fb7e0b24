/- What a call leaves behind may be dropped; what is known of a value may be forgotten. -/
import Derived.Test.YtajknofacjiddaaDoorAbs12
namespace Go.Proofs.YtajknofacjiddaaDoor.Abs
open Go Go.RowKit
set_option linter.unusedVariables false
set_option linter.unusedSimpArgs false

mutual
/-- No object from n on, no row from m on is spoken of. -/
def AV.ok (n m : Nat) : AV → Bool
  | .ptr id _ | .map id | .row id _ _ _ _ => decide (id < n)
  | .cptr cs | .agg cs | .tup cs | .func _ cs => okL n m cs
  | .slice _ els (.tip t) => decide (t < m) && okLL n m els
  | .slice _ els _ => okLL n m els
  | .iface _ v => v.ok n m
  | _ => true
def okL (n m : Nat) : List AV → Bool
  | [] => true
  | v :: vs => v.ok n m && okL n m vs
def okLL (n m : Nat) : List (List AV) → Bool
  | [] => true
  | v :: vs => okL n m v && okLL n m vs
end
theorem okL_get {n m : Nat} : ∀ {vs : List AV} {i : Nat} {v : AV}, okL n m vs = true → vs[i]? = some v → v.ok n m = true
  | [], _, _, _, h => by simp at h
  | v :: vs, 0, _, h, e => by cases e; unfold okL at h; exact (Bool.and_eq_true_iff.1 h).1
  | v :: vs, i + 1, _, h, e => by unfold okL at h; exact okL_get (Bool.and_eq_true_iff.1 h).2 (by simpa using e)
theorem okLL_get {n m : Nat} : ∀ {vs : List (List AV)} {i : Nat} {v : List AV}, okLL n m vs = true → vs[i]? = some v → okL n m v = true
  | [], _, _, _, h => by simp at h
  | v :: vs, 0, _, h, e => by cases e; unfold okLL at h; exact (Bool.and_eq_true_iff.1 h).1
  | v :: vs, i + 1, _, h, e => by unfold okLL at h; exact okLL_get (Bool.and_eq_true_iff.1 h).2 (by simpa using e)
theorem okL_of {n m : Nat} : ∀ {vs : List AV}, (∀ (i : Nat) v, vs[i]? = some v → v.ok n m = true) → okL n m vs = true
  | [], _ => by unfold okL; rfl
  | v :: vs, h => by unfold okL; rw [h 0 v rfl, okL_of fun i v e => h (i + 1) v (by simpa using e)]; rfl
theorem okLL_of {n m : Nat} : ∀ {vs : List (List AV)}, (∀ (i : Nat) v, vs[i]? = some v → okL n m v = true) → okLL n m vs = true
  | [], _ => by unfold okLL; rfl
  | v :: vs, h => by unfold okLL; rw [h 0 v rfl, okLL_of fun i v e => h (i + 1) v (by simpa using e)]; rfl
def Ghost.upto (g : Ghost) (n m : Nat) : Ghost := { g with G := fun id => if id < n then g.G id else none, T := fun t k => if t < m then g.T t k else none }
theorem rep_upto {g : Ghost} {n m : Nat} {v : AV} {x : Value} (h : Rep g v x) : v.ok n m = true → Rep (g.upto n m) v x := by
  have hG : ∀ {id b}, g.G id = some b → decide (id < n) = true → (g.upto n m).G id = some b := fun h1 h2 => by
    show (if _ < n then g.G _ else none) = some _
    rw [if_pos (of_decide_eq_true h2)]; exact h1
  have hTok : ∀ {sz k a cap tok}, TokRep g sz k a cap tok → (∀ t, tok = .tip t → decide (t < m) = true) → TokRep (g.upto n m) sz k a cap tok := by
    intro sz k a cap tok ht h2
    cases tok with
    | unk => trivial
    | fixed => exact ht
    | tip t =>
      show (if t < m then g.T t k else none) = _
      rw [if_pos (of_decide_eq_true (h2 t rfl))]
      exact ht
  have hslice : ∀ {sz els tok}, (AV.slice sz els tok).ok n m = true → okLL n m els = true ∧ ∀ t, tok = .tip t → decide (t < m) = true := by
    intro sz els tok h
    cases tok with
    | tip t => unfold AV.ok at h; have := Bool.and_eq_true_iff.1 h; exact ⟨this.2, fun t' e => by cases e; exact this.1⟩
    | fixed => unfold AV.ok at h; exact ⟨h, fun t e => by cases e⟩
    | unk => unfold AV.ok at h; exact ⟨h, fun t e => by cases e⟩
  induction h with
  | top x => intro _; exact .top x
  | bool b => intro _; exact .bool b
  | int k n => intro _; exact .int k n
  | str s => intro _; exact .str s
  | ptr h => intro hok; unfold AV.ok at hok; exact .ptr (hG h hok)
  | nilptr => intro _; exact .nilptr
  | cptr f hI _ ih => intro hok; unfold AV.ok at hok; exact .cptr f hI (fun i v e => ih i v e (okL_get hok e))
  | sliceNil h hn => intro hok; exact .sliceNil (hTok h (hslice hok).2) hn
  | slice f hI hsz _ hc ht ih => intro hok; exact .slice f hI hsz (fun i j e v he hv => ih i j e v he hv (okL_get (okLL_get (hslice hok).1 he) hv)) hc (hTok ht (hslice hok).2)
  | row h => intro hok; unfold AV.ok at hok; exact .row (hG h hok)
  | map h => intro hok; unfold AV.ok at hok; exact .map (hG h hok)
  | nilmap => intro _; exact .nilmap
  | func hs _ ih => intro hok; unfold AV.ok at hok; exact .func hs (fun i v e => ih i v e (okL_get hok e))
  | nilfunc => intro _; exact .nilfunc
  | iface _ ih => intro hok; unfold AV.ok at hok; exact .iface (ih hok)
  | niliface => intro _; exact .niliface
  | agg hs _ ih => intro hok; unfold AV.ok at hok; exact .agg hs (fun i v e => ih i v e (okL_get hok e))
  | tup hs _ ih => intro hok; unfold AV.ok at hok; exact .tup hs (fun i v e => ih i v e (okL_get hok e))
/-- What a world bears speaks of what is there. -/
theorem rep_ok {S : Seat} {w0 : World} {h : AHeap} {g : Ghost} {w : World} (i : Inv S w0 h g w) {v : AV} {x : Value} (hr : Rep g v x) : v.ok h.next h.ntok = true := by
  have hG : ∀ {id b}, g.G id = some b → decide (id < h.next) = true := fun e => decide_eq_true (i.gdom _ _ e).1
  have hslice : ∀ {sz els tok k a cap}, okLL h.next h.ntok els = true → TokRep g sz k a cap tok → (AV.slice sz els tok).ok h.next h.ntok = true := by
    intro sz els tok k a cap h1 h2
    cases tok with
    | tip t => unfold AV.ok; rw [h1, decide_eq_true (i.tdom _ _ _ h2).1]; rfl
    | fixed => unfold AV.ok; exact h1
    | unk => unfold AV.ok; exact h1
  induction hr with
  | ptr e => unfold AV.ok; exact hG e
  | cptr f hI _ ih => unfold AV.ok; exact okL_of ih
  | sliceNil e => exact hslice (by unfold okLL; rfl) e
  | slice f hI hsz _ hc ht ih => exact hslice (okLL_of fun k e he => okL_of fun j v hv => ih k j e v he hv) ht
  | row e => unfold AV.ok; exact hG e
  | map e => unfold AV.ok; exact hG e
  | func hs _ ih => unfold AV.ok; exact okL_of ih
  | iface _ ih => unfold AV.ok; exact ih
  | agg hs _ ih => unfold AV.ok; exact okL_of ih
  | tup hs _ ih => unfold AV.ok; exact okL_of ih
  | _ => unfold AV.ok; rfl
def AObj.ok (n m : Nat) : AObj → Prop
  | .cells cs => okL n m cs = true
  | .map _ es => ∀ e ∈ es, e.key.ok n m = true ∧ e.val.ok n m = true
  | .iter mo _ _ _ => ∀ id, mo = some id → id < n
theorem objRep_ok {S : Seat} {w0 : World} {h : AHeap} {g : Ghost} {w : World} (i : Inv S w0 h g w) {b : Nat} {o : AObj} (hr : ObjRep g w b o) : o.ok h.next h.ntok := by
  cases o with
  | cells cs => obtain ⟨vs, e, h1, h2⟩ := hr; exact okL_of fun j v hv => rep_ok i (h2.2 j v hv)
  | map clk es =>
    obtain ⟨ms, h1, h2, h3⟩ := hr
    intro e he
    obtain ⟨j, hj⟩ := List.mem_iff_getElem?.1 he
    obtain ⟨m, _, _, h4, h5⟩ := h3 j e hj
    exact ⟨rep_ok i h4, rep_ok i h5⟩
  | iter mo a b c =>
    obtain ⟨mb, h1, h2⟩ := hr
    intro id e
    subst e
    obtain ⟨k, h3, _⟩ := h1
    exact (i.gdom _ _ h3).1
theorem objRep_upto {g : Ghost} {n m : Nat} {w : World} {b : Nat} {o : AObj} (hr : ObjRep g w b o) (hok : o.ok n m) : ObjRep (g.upto n m) w b o := by
  cases o with
  | cells cs => obtain ⟨vs, e, h1, h2⟩ := hr; exact ⟨vs, e, h1, h2.1, fun j v hv => rep_upto (h2.2 j v hv) (okL_get hok hv)⟩
  | map clk es =>
    obtain ⟨ms, h1, h2, h3⟩ := hr
    refine ⟨ms, h1, h2, fun j e he => ?_⟩
    obtain ⟨m, a, b, c, d⟩ := h3 j e he
    have := hok e (List.mem_of_getElem? he)
    exact ⟨m, a, b, rep_upto c this.1, rep_upto d this.2⟩
  | iter mo a b c =>
    obtain ⟨mb, h1, h2⟩ := hr
    refine ⟨mb, ?_, h2⟩
    cases mo with
    | none => exact h1
    | some id =>
      obtain ⟨k, h3, h4⟩ := h1
      refine ⟨k, ?_, h4⟩
      show (if id < n then g.G id else none) = some k
      rw [if_pos (hok id rfl)]; exact h3

theorem AV.ok_mono {n m n' m' : Nat} (hn : n ≤ n') (hm : m ≤ m') {g : Ghost} {v : AV} {x : Value} (h : Rep g v x) : v.ok n m = true → v.ok n' m' = true := by
  have hd : ∀ {a b c : Nat}, b ≤ c → decide (a < b) = true → decide (a < c) = true := fun h1 h2 => decide_eq_true (Nat.lt_of_lt_of_le (of_decide_eq_true h2) h1)
  have hslice : ∀ {sz els tok}, (AV.slice sz els tok).ok n m = true → okLL n m els = true ∧ (okLL n' m' els = true → (AV.slice sz els tok).ok n' m' = true) := by
    intro sz els tok h
    cases tok with
    | tip t =>
      unfold AV.ok at h
      have := Bool.and_eq_true_iff.1 h
      exact ⟨this.2, fun h' => by unfold AV.ok; rw [h', hd hm this.1]; rfl⟩
    | fixed => unfold AV.ok at h; exact ⟨h, fun h' => by unfold AV.ok; exact h'⟩
    | unk => unfold AV.ok at h; exact ⟨h, fun h' => by unfold AV.ok; exact h'⟩
  induction h with
  | ptr e => intro h; unfold AV.ok at h ⊢; exact hd hn h
  | cptr f hI _ ih => intro h; unfold AV.ok at h ⊢; exact okL_of fun i v e => ih i v e (okL_get h e)
  | sliceNil e => intro h; exact (hslice h).2 (by unfold okLL; rfl)
  | slice f hI hsz _ hc ht ih => intro h; exact (hslice h).2 (okLL_of fun k e he => okL_of fun j v hv => ih k j e v he hv (okL_get (okLL_get (hslice h).1 he) hv))
  | row e => intro h; unfold AV.ok at h ⊢; exact hd hn h
  | map e => intro h; unfold AV.ok at h ⊢; exact hd hn h
  | func hs _ ih => intro h; unfold AV.ok at h ⊢; exact okL_of fun i v e => ih i v e (okL_get h e)
  | iface _ ih => intro h; unfold AV.ok at h ⊢; exact ih h
  | agg hs _ ih => intro h; unfold AV.ok at h ⊢; exact okL_of fun i v e => ih i v e (okL_get h e)
  | tup hs _ ih => intro h; unfold AV.ok at h ⊢; exact okL_of fun i v e => ih i v e (okL_get h e)
  | _ => intro _; unfold AV.ok; rfl

/-- h2 is h1 without some of what has been made since h0. -/
structure Trim (h0 h1 h2 : AHeap) : Prop where
  lo : h0.next ≤ h2.next
  tlo : h0.ntok ≤ h2.ntok
  thi : h2.ntok ≤ h1.ntok
  tok : ∀ t, t < h2.ntok → h2.tok t = h1.tok t
  obj : ∀ id o, h2.get id = some o → h1.get id = some o ∧ (h0.get id = some o ∨ o.ok h2.next h2.ntok)
theorem AObj.ok_up {S : Seat} {w0 : World} {h : AHeap} {g : Ghost} {w : World} (i : Inv S w0 h g w) {b : Nat} {o : AObj} (hr : ObjRep g w b o) {n m : Nat} (hn : h.next ≤ n) (hm : h.ntok ≤ m) : o.ok n m := by
  have hok := objRep_ok i hr
  cases o with
  | cells cs => obtain ⟨vs, e, h1, h2⟩ := hr; exact okL_of fun j v hv => AV.ok_mono hn hm (h2.2 j v hv) (okL_get hok hv)
  | map clk es =>
    obtain ⟨ms, h1, h2, h3⟩ := hr
    intro e he
    obtain ⟨j, hj⟩ := List.mem_iff_getElem?.1 he
    obtain ⟨mm, _, _, h4, h5⟩ := h3 j e hj
    exact ⟨AV.ok_mono hn hm h4 (hok e he).1, AV.ok_mono hn hm h5 (hok e he).2⟩
  | iter mo a b c => intro id e; exact Nat.lt_of_lt_of_le (hok id e) hn

theorem Inv.trim {S : Seat} {w0 : World} {h0 h1 h2 : AHeap} {g g' : Ghost} {w w' : World} (i0 : Inv S w0 h0 g w) (l : g.le g') (i : Inv S w0 h1 g' w') (t : Trim h0 h1 h2) :
    g.le (g'.upto h2.next h2.ntok) ∧ Inv S w0 h2 (g'.upto h2.next h2.ntok) w' := by
  have hG : ∀ id b, (g'.upto h2.next h2.ntok).G id = some b → id < h2.next ∧ g'.G id = some b := by
    intro id b hb
    change (if id < h2.next then g'.G id else none) = some b at hb
    split at hb
    · exact ⟨‹_›, hb⟩
    · cases hb
  have hT : ∀ tt k d, (g'.upto h2.next h2.ntok).T tt k = some d → tt < h2.ntok ∧ g'.T tt k = some d := by
    intro tt k d hd
    change (if tt < h2.ntok then g'.T tt k else none) = some d at hd
    split at hd
    · exact ⟨‹_›, hd⟩
    · cases hd
  have le : g.le (g'.upto h2.next h2.ntok) := by
    refine ⟨fun id b hb => ?_, l.I, fun tt k d hd => ?_⟩
    · show (if id < h2.next then g'.G id else none) = some b
      rw [if_pos (Nat.lt_of_lt_of_le (i0.gdom id b hb).1 t.lo)]
      exact l.G _ _ hb
    · show (if tt < h2.ntok then g'.T tt k else none) = some d
      rw [if_pos (Nat.lt_of_lt_of_le (i0.tdom _ _ _ hd).1 t.tlo)]
      exact l.T _ _ _ hd
  refine ⟨le, i.below, fun id b hb => ⟨(hG id b hb).1, (i.gdom id b (hG id b hb).2).2⟩, fun a b c h1 h2 => i.ginj a b c (hG _ _ h1).2 (hG _ _ h2).2, fun id o ho => ?_, fun b o x hx => ?_, fun tt k d hd => ?_, fun tt a cap sz ht hl => ?_, fun t1 t2 a1 c1 s1 a2 c2 s2 e1 l1 e2 l2 e => ?_, fun k cs hk => (i0.glob k cs hk).mono le, i0.base⟩
  · obtain ⟨h3, h4⟩ := t.obj id o ho
    obtain ⟨b, h5, h6⟩ := i.obj id o h3
    refine ⟨b, ?_, objRep_upto h6 ?_⟩
    · show (if id < h2.next then g'.G id else none) = some b
      rw [if_pos (get_lt h2 id ho)]
      exact h5
    · rcases h4 with h4 | h4
      · obtain ⟨b0, h7, h8⟩ := i0.obj id o h4
        exact AObj.ok_up i0 h8 t.lo t.tlo
      · exact h4
  · obtain ⟨h3, h4, h5⟩ := i.imm b o x hx
    exact ⟨h3, fun id hid => h4 id (hG _ _ hid).2, h5⟩
  · obtain ⟨h3, h4⟩ := hT tt k d hd
    refine ⟨h3, ?_⟩
    rw [t.tok tt h3]
    exact (i.tdom _ _ _ h4).2
  · obtain ⟨h3, h4⟩ := hT tt _ _ ht
    rw [t.tok tt h3] at h4 hl ⊢
    have s := i.tok tt a cap sz h4 hl
    exact s.kept rfl (fun id hid => s.noG id (hG _ _ hid).2) s.free
  · obtain ⟨h3, h4⟩ := hT t1 _ _ e1
    obtain ⟨h5, h6⟩ := hT t2 _ _ e2
    rw [t.tok t1 h3] at h4 l1
    rw [t.tok t2 h5] at h6 l2
    exact i.tdisj t1 t2 a1 c1 s1 a2 c2 s2 h4 l1 h6 l2 e

/-- A slice of whose room nothing is known; the empty ones are all alike. -/
def kslice (sz : Nat) : List (List AV) → AV
  | [] => .slice 0 [] .unk
  | e :: es => .slice sz (e :: es) .unk
theorem rep_k {g : Ghost} {sz : Nat} {els : List (List AV)} {x : Value} (h : Rep g (.slice sz els .unk) x) : Rep g (kslice sz els) x := by
  cases els with
  | cons e es => exact h
  | nil =>
    cases h with
    | sliceNil _ hn => exact .sliceNil trivial hn
    | slice f hI hsz hR hc ht =>
      exact .slice (els := []) f (fun i hi => by simp at hi) (fun i e he => by simp at he) (fun i j e v he => by simp at he) (Nat.zero_le _) trivial
mutual
/-- The value, without what is known of the room of slices. -/
def AV.fgt : AV → AV
  | .slice sz els _ => kslice sz (fgtLL els)
  | .cptr cs => .cptr (fgtL cs)
  | .agg cs => .agg (fgtL cs)
  | .tup cs => .tup (fgtL cs)
  | .func f cs => .func f (fgtL cs)
  | .iface t v => .iface t v.fgt
  | v => v
def fgtL : List AV → List AV
  | [] => []
  | v :: vs => v.fgt :: fgtL vs
def fgtLL : List (List AV) → List (List AV)
  | [] => []
  | v :: vs => fgtL v :: fgtLL vs
end
theorem fgtL_eq : ∀ vs : List AV, fgtL vs = vs.map AV.fgt
  | [] => by unfold fgtL; rfl
  | v :: vs => by unfold fgtL; rw [fgtL_eq vs]; rfl
theorem fgtLL_eq : ∀ vs : List (List AV), fgtLL vs = vs.map fgtL
  | [] => by unfold fgtLL; rfl
  | v :: vs => by unfold fgtLL; rw [fgtLL_eq vs]; rfl
theorem map_get {α β : Type} {f : α → β} {l : List α} {i : Nat} {b : β} (h : (l.map f)[i]? = some b) : ∃ a, l[i]? = some a ∧ b = f a := by
  rw [List.getElem?_map] at h
  cases hl : l[i]? with
  | none => rw [hl] at h; cases h
  | some a => rw [hl] at h; cases h; exact ⟨a, rfl, rfl⟩
theorem rep_fgt {g : Ghost} {v : AV} {x : Value} (h : Rep g v x) : Rep g v.fgt x := by
  induction h with
  | top x => unfold AV.fgt; exact .top x
  | bool b => unfold AV.fgt; exact .bool b
  | int k n => unfold AV.fgt; exact .int k n
  | str s => unfold AV.fgt; exact .str s
  | ptr h => unfold AV.fgt; exact .ptr h
  | nilptr => unfold AV.fgt; exact .nilptr
  | cptr f hI _ ih =>
    unfold AV.fgt; rw [fgtL_eq]
    exact .cptr f (fun i hi => hI i (by simpa using hi)) (fun i v e => by obtain ⟨a, h1, rfl⟩ := map_get e; exact ih i a h1)
  | sliceNil h hn => unfold AV.fgt fgtLL; exact .sliceNil trivial hn
  | slice f hI hsz _ hc ht ih =>
    rename_i sz els tok b o cap _
    unfold AV.fgt; rw [fgtLL_eq]
    have hl : (els.map fgtL).length = els.length := by simp
    have := Rep.slice (g := g) (sz := sz) (els := els.map fgtL) (tok := .unk) (b := b) (o := o) (cap := cap) f (fun i hi => hI i (by rwa [hl] at hi))
      (fun i e he => by obtain ⟨a, h1, rfl⟩ := map_get he; rw [fgtL_eq]; simpa using hsz i a h1)
      (fun i j e v he hv => by
        obtain ⟨a, h1, rfl⟩ := map_get he
        rw [fgtL_eq] at hv
        obtain ⟨c, h2, rfl⟩ := map_get hv
        exact ih i j a c h1 h2) (by rw [hl]; exact hc) trivial
    rw [hl] at this
    exact rep_k this
  | row h => unfold AV.fgt; exact .row h
  | map h => unfold AV.fgt; exact .map h
  | nilmap => unfold AV.fgt; exact .nilmap
  | func hs _ ih => unfold AV.fgt; rw [fgtL_eq]; exact .func (by simpa using hs) (fun i v e => by obtain ⟨a, h1, rfl⟩ := map_get e; exact ih i a h1)
  | nilfunc => unfold AV.fgt; exact .nilfunc
  | iface _ ih => unfold AV.fgt; exact .iface ih
  | niliface => unfold AV.fgt; exact .niliface
  | agg hs _ ih => unfold AV.fgt; rw [fgtL_eq]; exact .agg (by simpa using hs) (fun i v e => by obtain ⟨a, h1, rfl⟩ := map_get e; exact ih i a h1)
  | tup hs _ ih => unfold AV.fgt; rw [fgtL_eq]; exact .tup (by simpa using hs) (fun i v e => by obtain ⟨a, h1, rfl⟩ := map_get e; exact ih i a h1)

def AEnd.val : AEnd → AV
  | .ret v | .pan v => v
def AEnd.fgt : AEnd → AEnd
  | .ret v => .ret v.fgt
  | .pan v => .pan v.fgt
theorem EndRep.map {g g' : Ghost} {r r' : AEnd} {e : Ending} (h : EndRep g r e) (hk : ∀ x, Rep g r.val x → Rep g' r'.val x) (hs : match r, r' with | .ret _, .ret _ | .pan _, .pan _ => True | _, _ => False) : EndRep g' r' e := by
  cases r with
  | ret v =>
    cases r' with
    | pan _ => exact hs.elim
    | ret v' =>
      cases e with
      | returned x => exact hk x h
      | panicked ch => exact h.elim
      | outgrown => exact h.elim
  | pan v =>
    cases r' with
    | ret _ => exact hs.elim
    | pan v' =>
      cases e with
      | returned x => exact h.elim
      | panicked ch =>
        match ch, h with
        | [pe], h => exact ⟨hk _ h.1, h.2⟩
      | outgrown => exact h.elim
/-- A call ends in what is left when all that it left behind is dropped. -/
def Dropped (h0 : AHeap) (R : Post) : Post := fun r h1 => ∃ h2, Trim h0 h1 h2 ∧ r.val.ok h2.next h2.ntok = true ∧ R r h2
theorem AC.drop {S : Seat} {f : FuncId} {args : List AV} {h : AHeap} {R : Post} (hc : AC S f args h (Dropped h R)) : AC S f args h R := by
  intro w0 g w xs inv hargs
  refine (hc w0 g w xs inv hargs).mono fun e w' ⟨r, h1, g', l, inv', hend, h2, ht, hok, hR⟩ => ?_
  obtain ⟨le, inv2⟩ := inv.trim l inv' ht
  refine ⟨r, h2, _, le, inv2, hend.map (fun x hx => rep_upto hx hok) (by cases r <;> trivial), hR⟩
/-- What is known of the room of the slices handed back may be forgotten. -/
theorem AC.forget {S : Seat} {f : FuncId} {args : List AV} {h : AHeap} {R : Post} (hc : AC S f args h (fun r h' => R r.fgt h')) : AC S f args h R := by
  intro w0 g w xs inv hargs
  refine (hc w0 g w xs inv hargs).mono fun e w' ⟨r, h1, g', l, inv', hend, hR⟩ => ⟨r.fgt, h1, g', l, inv', hend.map (fun x hx => by cases r <;> exact rep_fgt hx) (by cases r <;> trivial), hR⟩
theorem Trim.refl (h : AHeap) : Trim h h h := ⟨Nat.le_refl _, Nat.le_refl _, Nat.le_refl _, fun _ _ => rfl, fun id o ho => ⟨ho, .inl ho⟩⟩
theorem Trim.alloc {h0 h1 h2 : AHeap} (t : Trim h0 h1 h2) (o : AObj) (hlt : h2.next ≤ h1.next) : Trim h0 (h1.alloc o) h2 :=
  ⟨t.lo, t.tlo, t.thi, t.tok, fun id o' ho' => by
    obtain ⟨h3, h4⟩ := t.obj id o' ho'
    refine ⟨?_, h4⟩
    rw [get_alloc, if_neg (by have := get_lt h2 id ho'; omega)]
    exact h3⟩
/-- In the course of a run: what has been made since h0 is dropped; the slots speak of what is left. -/
theorem Run.drop {S : Seat} {fn : Func} {k : List Item} {ds : List ADef} {fr : Fr} {h0 h1 h2 : AHeap} {R : Post} (hr : Run S fn k ds fr h2 R) : True := trivial
end Go.Proofs.YtajknofacjiddaaDoor.Abs
