/- Part 2 of the reckoning: the abstract machine, its soundness, and the contracts of the functions that the law reaches. -/
import Derived.Test.YtajknofacjiddaaDoorM1
import Derived.Test.YtajknofacjiddaaDoorProg
import Derived.Lib.LaidTab
import Derived.Lib.Space
/- What a call leaves behind may be dropped; what is known of a value may be forgotten. -/
namespace Go.Proofs.YtajknofacjiddaaDoor.Abs
open Go Go.RowKit
set_option linter.unusedVariables false
set_option linter.unusedSimpArgs false

mutual
/-- No object from n on, no row from m on is spoken of. -/
def AV.ok (n m : Nat) : AV → Bool
  | .ptr id _ | .map id | .row id _ _ _ _ => decide (id < n)
  | .cptr cs | .agg cs | .tup cs | .func _ cs => okL n m cs
  | .slice _ els (.tip t) => decide (t < m) && okLL n m els
  | .slice _ els _ => okLL n m els
  | .iface _ v => v.ok n m
  | _ => true
def okL (n m : Nat) : List AV → Bool
  | [] => true
  | v :: vs => v.ok n m && okL n m vs
def okLL (n m : Nat) : List (List AV) → Bool
  | [] => true
  | v :: vs => okL n m v && okLL n m vs
end
theorem okL_get {n m : Nat} : ∀ {vs : List AV} {i : Nat} {v : AV}, okL n m vs = true → vs[i]? = some v → v.ok n m = true
  | [], _, _, _, h => by simp at h
  | v :: vs, 0, _, h, e => by cases e; unfold okL at h; exact (Bool.and_eq_true_iff.1 h).1
  | v :: vs, i + 1, _, h, e => by unfold okL at h; exact okL_get (Bool.and_eq_true_iff.1 h).2 (by simpa using e)
theorem okLL_get {n m : Nat} : ∀ {vs : List (List AV)} {i : Nat} {v : List AV}, okLL n m vs = true → vs[i]? = some v → okL n m v = true
  | [], _, _, _, h => by simp at h
  | v :: vs, 0, _, h, e => by cases e; unfold okLL at h; exact (Bool.and_eq_true_iff.1 h).1
  | v :: vs, i + 1, _, h, e => by unfold okLL at h; exact okLL_get (Bool.and_eq_true_iff.1 h).2 (by simpa using e)
theorem okL_of {n m : Nat} : ∀ {vs : List AV}, (∀ (i : Nat) v, vs[i]? = some v → v.ok n m = true) → okL n m vs = true
  | [], _ => by unfold okL; rfl
  | v :: vs, h => by unfold okL; rw [h 0 v rfl, okL_of fun i v e => h (i + 1) v (by simpa using e)]; rfl
theorem okLL_of {n m : Nat} : ∀ {vs : List (List AV)}, (∀ (i : Nat) v, vs[i]? = some v → okL n m v = true) → okLL n m vs = true
  | [], _ => by unfold okLL; rfl
  | v :: vs, h => by unfold okLL; rw [h 0 v rfl, okLL_of fun i v e => h (i + 1) v (by simpa using e)]; rfl
def Ghost.upto (g : Ghost) (n m : Nat) : Ghost := { g with G := fun id => if id < n then g.G id else none, T := fun t k => if t < m then g.T t k else none }
theorem rep_upto {g : Ghost} {n m : Nat} {v : AV} {x : Value} (h : Rep g v x) : v.ok n m = true → Rep (g.upto n m) v x := by
  have hG : ∀ {id b}, g.G id = some b → decide (id < n) = true → (g.upto n m).G id = some b := fun h1 h2 => by
    show (if _ < n then g.G _ else none) = some _
    rw [if_pos (of_decide_eq_true h2)]; exact h1
  have hTok : ∀ {sz k a cap tok}, TokRep g sz k a cap tok → (∀ t, tok = .tip t → decide (t < m) = true) → TokRep (g.upto n m) sz k a cap tok := by
    intro sz k a cap tok ht h2
    cases tok with
    | unk => trivial
    | fixed => exact ht
    | tip t =>
      show (if t < m then g.T t k else none) = _
      rw [if_pos (of_decide_eq_true (h2 t rfl))]
      exact ht
  have hslice : ∀ {sz els tok}, (AV.slice sz els tok).ok n m = true → okLL n m els = true ∧ ∀ t, tok = .tip t → decide (t < m) = true := by
    intro sz els tok h
    cases tok with
    | tip t => unfold AV.ok at h; have := Bool.and_eq_true_iff.1 h; exact ⟨this.2, fun t' e => by cases e; exact this.1⟩
    | fixed => unfold AV.ok at h; exact ⟨h, fun t e => by cases e⟩
    | unk => unfold AV.ok at h; exact ⟨h, fun t e => by cases e⟩
  induction h with
  | top x => intro _; exact .top x
  | bool b => intro _; exact .bool b
  | int k n => intro _; exact .int k n
  | str s => intro _; exact .str s
  | ptr h => intro hok; unfold AV.ok at hok; exact .ptr (hG h hok)
  | nilptr => intro _; exact .nilptr
  | cptr f hI _ ih => intro hok; unfold AV.ok at hok; exact .cptr f hI (fun i v e => ih i v e (okL_get hok e))
  | sliceNil h hn => intro hok; exact .sliceNil (hTok h (hslice hok).2) hn
  | slice f hI hsz _ hc ht ih => intro hok; exact .slice f hI hsz (fun i j e v he hv => ih i j e v he hv (okL_get (okLL_get (hslice hok).1 he) hv)) hc (hTok ht (hslice hok).2)
  | row h => intro hok; unfold AV.ok at hok; exact .row (hG h hok)
  | map h => intro hok; unfold AV.ok at hok; exact .map (hG h hok)
  | nilmap => intro _; exact .nilmap
  | func hs _ ih => intro hok; unfold AV.ok at hok; exact .func hs (fun i v e => ih i v e (okL_get hok e))
  | nilfunc => intro _; exact .nilfunc
  | iface _ ih => intro hok; unfold AV.ok at hok; exact .iface (ih hok)
  | niliface => intro _; exact .niliface
  | agg hs _ ih => intro hok; unfold AV.ok at hok; exact .agg hs (fun i v e => ih i v e (okL_get hok e))
  | tup hs _ ih => intro hok; unfold AV.ok at hok; exact .tup hs (fun i v e => ih i v e (okL_get hok e))
/-- What a world bears speaks of what is there. -/
theorem rep_ok {S : Seat} {w0 : World} {h : AHeap} {g : Ghost} {w : World} (i : Inv S w0 h g w) {v : AV} {x : Value} (hr : Rep g v x) : v.ok h.next h.ntok = true := by
  have hG : ∀ {id b}, g.G id = some b → decide (id < h.next) = true := fun e => decide_eq_true (i.gdom _ _ e).1
  have hslice : ∀ {sz els tok k a cap}, okLL h.next h.ntok els = true → TokRep g sz k a cap tok → (AV.slice sz els tok).ok h.next h.ntok = true := by
    intro sz els tok k a cap h1 h2
    cases tok with
    | tip t => unfold AV.ok; rw [h1, decide_eq_true (i.tdom _ _ _ h2).1]; rfl
    | fixed => unfold AV.ok; exact h1
    | unk => unfold AV.ok; exact h1
  induction hr with
  | ptr e => unfold AV.ok; exact hG e
  | cptr f hI _ ih => unfold AV.ok; exact okL_of ih
  | sliceNil e => exact hslice (by unfold okLL; rfl) e
  | slice f hI hsz _ hc ht ih => exact hslice (okLL_of fun k e he => okL_of fun j v hv => ih k j e v he hv) ht
  | row e => unfold AV.ok; exact hG e
  | map e => unfold AV.ok; exact hG e
  | func hs _ ih => unfold AV.ok; exact okL_of ih
  | iface _ ih => unfold AV.ok; exact ih
  | agg hs _ ih => unfold AV.ok; exact okL_of ih
  | tup hs _ ih => unfold AV.ok; exact okL_of ih
  | _ => unfold AV.ok; rfl
def AObj.ok (n m : Nat) : AObj → Prop
  | .cells cs => okL n m cs = true
  | .map _ es => ∀ e ∈ es, e.key.ok n m = true ∧ e.val.ok n m = true
  | .iter mo _ _ _ => ∀ id, mo = some id → id < n
theorem objRep_ok {S : Seat} {w0 : World} {h : AHeap} {g : Ghost} {w : World} (i : Inv S w0 h g w) {b : Nat} {o : AObj} (hr : ObjRep g w b o) : o.ok h.next h.ntok := by
  cases o with
  | cells cs => obtain ⟨vs, e, h1, h2⟩ := hr; exact okL_of fun j v hv => rep_ok i (h2.2 j v hv)
  | map clk es =>
    obtain ⟨ms, h1, h2, h3⟩ := hr
    intro e he
    obtain ⟨j, hj⟩ := List.mem_iff_getElem?.1 he
    obtain ⟨m, _, _, h4, h5⟩ := h3 j e hj
    exact ⟨rep_ok i h4, rep_ok i h5⟩
  | iter mo a b c =>
    obtain ⟨mb, h1, h2⟩ := hr
    intro id e
    subst e
    obtain ⟨k, h3, _⟩ := h1
    exact (i.gdom _ _ h3).1
theorem objRep_upto {g : Ghost} {n m : Nat} {w : World} {b : Nat} {o : AObj} (hr : ObjRep g w b o) (hok : o.ok n m) : ObjRep (g.upto n m) w b o := by
  cases o with
  | cells cs => obtain ⟨vs, e, h1, h2⟩ := hr; exact ⟨vs, e, h1, h2.1, fun j v hv => rep_upto (h2.2 j v hv) (okL_get hok hv)⟩
  | map clk es =>
    obtain ⟨ms, h1, h2, h3⟩ := hr
    refine ⟨ms, h1, h2, fun j e he => ?_⟩
    obtain ⟨m, a, b, c, d⟩ := h3 j e he
    have := hok e (List.mem_of_getElem? he)
    exact ⟨m, a, b, rep_upto c this.1, rep_upto d this.2⟩
  | iter mo a b c =>
    obtain ⟨mb, h1, h2⟩ := hr
    refine ⟨mb, ?_, h2⟩
    cases mo with
    | none => exact h1
    | some id =>
      obtain ⟨k, h3, h4⟩ := h1
      refine ⟨k, ?_, h4⟩
      show (if id < n then g.G id else none) = some k
      rw [if_pos (hok id rfl)]; exact h3

theorem AV.ok_mono {n m n' m' : Nat} (hn : n ≤ n') (hm : m ≤ m') {g : Ghost} {v : AV} {x : Value} (h : Rep g v x) : v.ok n m = true → v.ok n' m' = true := by
  have hd : ∀ {a b c : Nat}, b ≤ c → decide (a < b) = true → decide (a < c) = true := fun h1 h2 => decide_eq_true (Nat.lt_of_lt_of_le (of_decide_eq_true h2) h1)
  have hslice : ∀ {sz els tok}, (AV.slice sz els tok).ok n m = true → okLL n m els = true ∧ (okLL n' m' els = true → (AV.slice sz els tok).ok n' m' = true) := by
    intro sz els tok h
    cases tok with
    | tip t =>
      unfold AV.ok at h
      have := Bool.and_eq_true_iff.1 h
      exact ⟨this.2, fun h' => by unfold AV.ok; rw [h', hd hm this.1]; rfl⟩
    | fixed => unfold AV.ok at h; exact ⟨h, fun h' => by unfold AV.ok; exact h'⟩
    | unk => unfold AV.ok at h; exact ⟨h, fun h' => by unfold AV.ok; exact h'⟩
  induction h with
  | ptr e => intro h; unfold AV.ok at h ⊢; exact hd hn h
  | cptr f hI _ ih => intro h; unfold AV.ok at h ⊢; exact okL_of fun i v e => ih i v e (okL_get h e)
  | sliceNil e => intro h; exact (hslice h).2 (by unfold okLL; rfl)
  | slice f hI hsz _ hc ht ih => intro h; exact (hslice h).2 (okLL_of fun k e he => okL_of fun j v hv => ih k j e v he hv (okL_get (okLL_get (hslice h).1 he) hv))
  | row e => intro h; unfold AV.ok at h ⊢; exact hd hn h
  | map e => intro h; unfold AV.ok at h ⊢; exact hd hn h
  | func hs _ ih => intro h; unfold AV.ok at h ⊢; exact okL_of fun i v e => ih i v e (okL_get h e)
  | iface _ ih => intro h; unfold AV.ok at h ⊢; exact ih h
  | agg hs _ ih => intro h; unfold AV.ok at h ⊢; exact okL_of fun i v e => ih i v e (okL_get h e)
  | tup hs _ ih => intro h; unfold AV.ok at h ⊢; exact okL_of fun i v e => ih i v e (okL_get h e)
  | _ => intro _; unfold AV.ok; rfl

/-- h2 is h1 without some of what has been made since h0. -/
structure Trim (h0 h1 h2 : AHeap) : Prop where
  lo : h0.next ≤ h2.next
  tlo : h0.ntok ≤ h2.ntok
  thi : h2.ntok ≤ h1.ntok
  tok : ∀ t, t < h2.ntok → h2.tok t = h1.tok t
  obj : ∀ id o, h2.get id = some o → h1.get id = some o ∧ (h0.get id = some o ∨ o.ok h2.next h2.ntok)
theorem AObj.ok_up {S : Seat} {w0 : World} {h : AHeap} {g : Ghost} {w : World} (i : Inv S w0 h g w) {b : Nat} {o : AObj} (hr : ObjRep g w b o) {n m : Nat} (hn : h.next ≤ n) (hm : h.ntok ≤ m) : o.ok n m := by
  have hok := objRep_ok i hr
  cases o with
  | cells cs => obtain ⟨vs, e, h1, h2⟩ := hr; exact okL_of fun j v hv => AV.ok_mono hn hm (h2.2 j v hv) (okL_get hok hv)
  | map clk es =>
    obtain ⟨ms, h1, h2, h3⟩ := hr
    intro e he
    obtain ⟨j, hj⟩ := List.mem_iff_getElem?.1 he
    obtain ⟨mm, _, _, h4, h5⟩ := h3 j e hj
    exact ⟨AV.ok_mono hn hm h4 (hok e he).1, AV.ok_mono hn hm h5 (hok e he).2⟩
  | iter mo a b c => intro id e; exact Nat.lt_of_lt_of_le (hok id e) hn

theorem Inv.trim {S : Seat} {w0 : World} {h0 h1 h2 : AHeap} {g g' : Ghost} {w w' : World} (i0 : Inv S w0 h0 g w) (l : g.le g') (i : Inv S w0 h1 g' w') (t : Trim h0 h1 h2) :
    g.le (g'.upto h2.next h2.ntok) ∧ Inv S w0 h2 (g'.upto h2.next h2.ntok) w' := by
  have hG : ∀ id b, (g'.upto h2.next h2.ntok).G id = some b → id < h2.next ∧ g'.G id = some b := by
    intro id b hb
    change (if id < h2.next then g'.G id else none) = some b at hb
    split at hb
    · exact ⟨‹_›, hb⟩
    · cases hb
  have hT : ∀ tt k d, (g'.upto h2.next h2.ntok).T tt k = some d → tt < h2.ntok ∧ g'.T tt k = some d := by
    intro tt k d hd
    change (if tt < h2.ntok then g'.T tt k else none) = some d at hd
    split at hd
    · exact ⟨‹_›, hd⟩
    · cases hd
  have le : g.le (g'.upto h2.next h2.ntok) := by
    refine ⟨fun id b hb => ?_, l.I, fun tt k d hd => ?_⟩
    · show (if id < h2.next then g'.G id else none) = some b
      rw [if_pos (Nat.lt_of_lt_of_le (i0.gdom id b hb).1 t.lo)]
      exact l.G _ _ hb
    · show (if tt < h2.ntok then g'.T tt k else none) = some d
      rw [if_pos (Nat.lt_of_lt_of_le (i0.tdom _ _ _ hd).1 t.tlo)]
      exact l.T _ _ _ hd
  refine ⟨le, i.below, fun id b hb => ⟨(hG id b hb).1, (i.gdom id b (hG id b hb).2).2⟩, fun a b c h1 h2 => i.ginj a b c (hG _ _ h1).2 (hG _ _ h2).2, fun id o ho => ?_, fun b o x hx => ?_, fun tt k d hd => ?_, fun tt a cap sz ht hl => ?_, fun t1 t2 a1 c1 s1 a2 c2 s2 e1 l1 e2 l2 e => ?_, fun k cs hk => (i0.glob k cs hk).mono le, i0.base⟩
  · obtain ⟨h3, h4⟩ := t.obj id o ho
    obtain ⟨b, h5, h6⟩ := i.obj id o h3
    refine ⟨b, ?_, objRep_upto h6 ?_⟩
    · show (if id < h2.next then g'.G id else none) = some b
      rw [if_pos (get_lt h2 id ho)]
      exact h5
    · rcases h4 with h4 | h4
      · obtain ⟨b0, h7, h8⟩ := i0.obj id o h4
        exact AObj.ok_up i0 h8 t.lo t.tlo
      · exact h4
  · obtain ⟨h3, h4, h5⟩ := i.imm b o x hx
    exact ⟨h3, fun id hid => h4 id (hG _ _ hid).2, h5⟩
  · obtain ⟨h3, h4⟩ := hT tt k d hd
    refine ⟨h3, ?_⟩
    rw [t.tok tt h3]
    exact (i.tdom _ _ _ h4).2
  · obtain ⟨h3, h4⟩ := hT tt _ _ ht
    rw [t.tok tt h3] at h4 hl ⊢
    have s := i.tok tt a cap sz h4 hl
    exact s.kept rfl (fun id hid => s.noG id (hG _ _ hid).2) s.free
  · obtain ⟨h3, h4⟩ := hT t1 _ _ e1
    obtain ⟨h5, h6⟩ := hT t2 _ _ e2
    rw [t.tok t1 h3] at h4 l1
    rw [t.tok t2 h5] at h6 l2
    exact i.tdisj t1 t2 a1 c1 s1 a2 c2 s2 h4 l1 h6 l2 e

/-- A slice of whose room nothing is known; the empty ones are all alike. -/
def kslice (sz : Nat) : List (List AV) → AV
  | [] => .slice 0 [] .unk
  | e :: es => .slice sz (e :: es) .unk
theorem rep_k {g : Ghost} {sz : Nat} {els : List (List AV)} {x : Value} (h : Rep g (.slice sz els .unk) x) : Rep g (kslice sz els) x := by
  cases els with
  | cons e es => exact h
  | nil =>
    cases h with
    | sliceNil _ hn => exact .sliceNil trivial hn
    | slice f hI hsz hR hc ht =>
      exact .slice (els := []) f (fun i hi => by simp at hi) (fun i e he => by simp at he) (fun i j e v he => by simp at he) (Nat.zero_le _) trivial
mutual
/-- The value, without what is known of the room of slices. -/
def AV.fgt : AV → AV
  | .slice sz els _ => kslice sz (fgtLL els)
  | .cptr cs => .cptr (fgtL cs)
  | .agg cs => .agg (fgtL cs)
  | .tup cs => .tup (fgtL cs)
  | .func f cs => .func f (fgtL cs)
  | .iface t v => .iface t v.fgt
  | v => v
def fgtL : List AV → List AV
  | [] => []
  | v :: vs => v.fgt :: fgtL vs
def fgtLL : List (List AV) → List (List AV)
  | [] => []
  | v :: vs => fgtL v :: fgtLL vs
end
theorem fgtL_eq : ∀ vs : List AV, fgtL vs = vs.map AV.fgt
  | [] => by unfold fgtL; rfl
  | v :: vs => by unfold fgtL; rw [fgtL_eq vs]; rfl
theorem fgtLL_eq : ∀ vs : List (List AV), fgtLL vs = vs.map fgtL
  | [] => by unfold fgtLL; rfl
  | v :: vs => by unfold fgtLL; rw [fgtLL_eq vs]; rfl
theorem map_get {α β : Type} {f : α → β} {l : List α} {i : Nat} {b : β} (h : (l.map f)[i]? = some b) : ∃ a, l[i]? = some a ∧ b = f a := by
  rw [List.getElem?_map] at h
  cases hl : l[i]? with
  | none => rw [hl] at h; cases h
  | some a => rw [hl] at h; cases h; exact ⟨a, rfl, rfl⟩
theorem rep_fgt {g : Ghost} {v : AV} {x : Value} (h : Rep g v x) : Rep g v.fgt x := by
  induction h with
  | top x => unfold AV.fgt; exact .top x
  | bool b => unfold AV.fgt; exact .bool b
  | int k n => unfold AV.fgt; exact .int k n
  | str s => unfold AV.fgt; exact .str s
  | ptr h => unfold AV.fgt; exact .ptr h
  | nilptr => unfold AV.fgt; exact .nilptr
  | cptr f hI _ ih =>
    unfold AV.fgt; rw [fgtL_eq]
    exact .cptr f (fun i hi => hI i (by simpa using hi)) (fun i v e => by obtain ⟨a, h1, rfl⟩ := map_get e; exact ih i a h1)
  | sliceNil h hn => unfold AV.fgt fgtLL; exact .sliceNil trivial hn
  | slice f hI hsz _ hc ht ih =>
    rename_i sz els tok b o cap _
    unfold AV.fgt; rw [fgtLL_eq]
    have hl : (els.map fgtL).length = els.length := by simp
    have := Rep.slice (g := g) (sz := sz) (els := els.map fgtL) (tok := .unk) (b := b) (o := o) (cap := cap) f (fun i hi => hI i (by rwa [hl] at hi))
      (fun i e he => by obtain ⟨a, h1, rfl⟩ := map_get he; rw [fgtL_eq]; simpa using hsz i a h1)
      (fun i j e v he hv => by
        obtain ⟨a, h1, rfl⟩ := map_get he
        rw [fgtL_eq] at hv
        obtain ⟨c, h2, rfl⟩ := map_get hv
        exact ih i j a c h1 h2) (by rw [hl]; exact hc) trivial
    rw [hl] at this
    exact rep_k this
  | row h => unfold AV.fgt; exact .row h
  | map h => unfold AV.fgt; exact .map h
  | nilmap => unfold AV.fgt; exact .nilmap
  | func hs _ ih => unfold AV.fgt; rw [fgtL_eq]; exact .func (by simpa using hs) (fun i v e => by obtain ⟨a, h1, rfl⟩ := map_get e; exact ih i a h1)
  | nilfunc => unfold AV.fgt; exact .nilfunc
  | iface _ ih => unfold AV.fgt; exact .iface ih
  | niliface => unfold AV.fgt; exact .niliface
  | agg hs _ ih => unfold AV.fgt; rw [fgtL_eq]; exact .agg (by simpa using hs) (fun i v e => by obtain ⟨a, h1, rfl⟩ := map_get e; exact ih i a h1)
  | tup hs _ ih => unfold AV.fgt; rw [fgtL_eq]; exact .tup (by simpa using hs) (fun i v e => by obtain ⟨a, h1, rfl⟩ := map_get e; exact ih i a h1)

def AEnd.val : AEnd → AV
  | .ret v | .pan v => v
def AEnd.fgt : AEnd → AEnd
  | .ret v => .ret v.fgt
  | .pan v => .pan v.fgt
theorem EndRep.map {g g' : Ghost} {r r' : AEnd} {e : Ending} (h : EndRep g r e) (hk : ∀ x, Rep g r.val x → Rep g' r'.val x) (hs : match r, r' with | .ret _, .ret _ | .pan _, .pan _ => True | _, _ => False) : EndRep g' r' e := by
  cases r with
  | ret v =>
    cases r' with
    | pan _ => exact hs.elim
    | ret v' =>
      cases e with
      | returned x => exact hk x h
      | panicked ch => exact h.elim
      | outgrown => exact h.elim
  | pan v =>
    cases r' with
    | ret _ => exact hs.elim
    | pan v' =>
      cases e with
      | returned x => exact h.elim
      | panicked ch =>
        match ch, h with
        | [pe], h => exact ⟨hk _ h.1, h.2⟩
      | outgrown => exact h.elim
/-- A call ends in what is left when all that it left behind is dropped. -/
def Dropped (h0 : AHeap) (R : Post) : Post := fun r h1 => ∃ h2, Trim h0 h1 h2 ∧ r.val.ok h2.next h2.ntok = true ∧ R r h2
theorem AC.drop {S : Seat} {f : FuncId} {args : List AV} {h : AHeap} {R : Post} (hc : AC S f args h (Dropped h R)) : AC S f args h R := by
  intro w0 g w xs inv hargs
  refine (hc w0 g w xs inv hargs).mono fun e w' ⟨r, h1, g', l, inv', hend, h2, ht, hok, hR⟩ => ?_
  obtain ⟨le, inv2⟩ := inv.trim l inv' ht
  refine ⟨r, h2, _, le, inv2, hend.map (fun x hx => rep_upto hx hok) (by cases r <;> trivial), hR⟩
/-- What is known of the room of the slices handed back may be forgotten. -/
theorem AC.forget {S : Seat} {f : FuncId} {args : List AV} {h : AHeap} {R : Post} (hc : AC S f args h (fun r h' => R r.fgt h')) : AC S f args h R := by
  intro w0 g w xs inv hargs
  refine (hc w0 g w xs inv hargs).mono fun e w' ⟨r, h1, g', l, inv', hend, hR⟩ => ⟨r.fgt, h1, g', l, inv', hend.map (fun x hx => by cases r <;> exact rep_fgt hx) (by cases r <;> trivial), hR⟩
theorem Trim.refl (h : AHeap) : Trim h h h := ⟨Nat.le_refl _, Nat.le_refl _, Nat.le_refl _, fun _ _ => rfl, fun id o ho => ⟨ho, .inl ho⟩⟩
theorem Trim.alloc {h0 h1 h2 : AHeap} (t : Trim h0 h1 h2) (o : AObj) (hlt : h2.next ≤ h1.next) : Trim h0 (h1.alloc o) h2 :=
  ⟨t.lo, t.tlo, t.thi, t.tok, fun id o' ho' => by
    obtain ⟨h3, h4⟩ := t.obj id o' ho'
    refine ⟨?_, h4⟩
    rw [get_alloc, if_neg (by have := get_lt h2 id ho'; omega)]
    exact h3⟩
/-- In the course of a run: what has been made since h0 is dropped; the slots speak of what is left. -/
theorem Run.drop {S : Seat} {fn : Func} {k : List Item} {ds : List ADef} {fr : Fr} {h0 h1 h2 : AHeap} {R : Post} (hr : Run S fn k ds fr h2 R) : True := trivial
end Go.Proofs.YtajknofacjiddaaDoor.Abs

/- A region whose operations come in any order that its edges allow: one order is enough, if what is read is not written meanwhile. -/
namespace Go.Proofs.YtajknofacjiddaaDoor.Abs
open Go Go.RowKit
set_option linter.unusedVariables false
set_option linter.unusedSimpArgs false

def quietOp : Op → Bool
  | .move _ | .assign _ | .pick .. | .load .. | .nilCheck _ | .binOp .. | .unOp .. | .convert .. | .makeFunc .. | .makeInterface .. | .fieldAddr .. | .field .. | .indexAddr .. | .index .. | .lookup .. | .extract .. | .slice .. | .build .. | .buildSlice .. => true
  | .call { callee := .builtin b, .. } => match b with
    | .len | .max | .min => true
    | _ => false
  | _ => false
def aqg (S : Seat) (ops : Array Oper) (o : Oper) (fr : Nat → AV) (h : AHeap) : Option AV :=
  match awanted ops o fr with
  | some true => aq S o.op (rho S fr) h
  | some false => some (.tup [])
  | none => none

/-- What an effect gives. -/
def Eff (S : Seat) (o : Oper) (ρ : Operand → AV) (ds : List ADef) (h : AHeap) (K : AV → List ADef → AHeap → Prop) (KP : AV → AHeap → Prop) : Prop :=
  (∃ v h', ae S o.op ρ h = some (v, h') ∧ K v ds h') ∨
  (∃ f args ts fid caps Rc, o.op = .call { callee := .value f, args := args, argTypes := ts } ∧ ρ f = .func fid caps ∧ Enters S fid ∧ AC S fid (args.toList.map ρ ++ caps) h Rc ∧ (∀ v h', Rc (.ret v) h' → K v ds h') ∧ (∀ v h', Rc (.pan v) h' → KP v h')) ∨
  (∃ args ts, o.op = .defer { callee := .builtin .delete, args := args, argTypes := ts } ∧ K .top (.del ts (args.toList.map ρ) :: ds) h)
theorem Eff.ae {S : Seat} {o : Oper} {ρ : Operand → AV} {ds : List ADef} {h : AHeap} {K : AV → List ADef → AHeap → Prop} {KP : AV → AHeap → Prop} {v : AV} {h' : AHeap} (e : ae S o.op ρ h = some (v, h')) (k : K v ds h') : Eff S o ρ ds h K KP := .inl ⟨v, h', e, k⟩
theorem Eff.call {S : Seat} {o : Oper} {ρ : Operand → AV} {ds : List ADef} {h : AHeap} {K : AV → List ADef → AHeap → Prop} {KP : AV → AHeap → Prop} {f : Operand} {args : Array Operand} {ts : Array TypeId} {fid : FuncId} {caps : List AV} {Rc : Post}
    (hop : o.op = .call { callee := .value f, args := args, argTypes := ts }) (hf : ρ f = .func fid caps) (he : Enters S fid) (hc : AC S fid (args.toList.map ρ ++ caps) h Rc) (hk : ∀ v h', Rc (.ret v) h' → K v ds h') (hp : ∀ v h', Rc (.pan v) h' → KP v h') : Eff S o ρ ds h K KP :=
  .inr (.inl ⟨f, args, ts, fid, caps, Rc, hop, hf, he, hc, hk, hp⟩)
theorem Eff.deferDel {S : Seat} {o : Oper} {ρ : Operand → AV} {ds : List ADef} {h : AHeap} {K : AV → List ADef → AHeap → Prop} {KP : AV → AHeap → Prop} {args : Array Operand} {ts : Array TypeId}
    (hop : o.op = .defer { callee := .builtin .delete, args := args, argTypes := ts }) (hk : K .top (.del ts (args.toList.map ρ) :: ds) h) : Eff S o ρ ds h K KP := .inr (.inr ⟨args, ts, hop, hk⟩)

theorem repL_append {g : Ghost} {us vs : List AV} {xs ys : Array Value} (h1 : RepL g us xs) (h2 : RepL g vs ys) : RepL g (us ++ vs) (xs ++ ys) := by
  refine ⟨by simp [h1.1, h2.1], fun j v hv => ?_⟩
  by_cases q : j < xs.size
  · rw [List.getElem?_append_left (by rw [← h1.1]; exact q)] at hv
    have := h1.2 j v hv
    have e1 : (xs ++ ys).getD j undef = xs.getD j undef := by simp only [Array.getD_eq_getD_getElem?, Array.getElem?_append, if_pos q]
    rw [e1]; exact this
  · rw [List.getElem?_append_right (by rw [← h1.1]; omega)] at hv
    have := h2.2 _ v hv
    have e1 : (xs ++ ys).getD j undef = ys.getD (j - us.length) undef := by
      simp only [Array.getD_eq_getD_getElem?, Array.getElem?_append, if_neg q]
      rw [h1.1]
    rw [e1]; exact this

theorem eff_sound {S : Seat} {w0 : World} {h : AHeap} {g : Ghost} {w : World} {o : Oper} {ρ : Operand → AV} {ds : List ADef} {K : AV → List ADef → AHeap → Prop} {KP : AV → AHeap → Prop} {a : Act} {b : Frame} {cs : List Frame} {ops : Array Oper} {i : Nat} {l : List Nat} {k : List Item}
    (inv : Inv S w0 h g w) (hr : ∀ x ∈ o.op.operands.toList, Rep g (ρ x) (a.eval x)) (hds : DefsRep g ds a.defers) (ho : ops[i]? = some o) (hw : Region.wanted o (yielded ops a.tmps) = true) (he : Eff S o ρ ds h K KP) :
    (∃ v x h' g' w' ds' dl, K v ds' h' ∧ g.le g' ∧ Inv S w0 h' g' w' ∧ Rep g' v x ∧ DefsRep g' ds' dl ∧
      Steps S.P (lone (b.at a (.inRegion ops (i :: l) :: k)) cs w) (lone (b.at ({ a with defers := dl }.put o.dst x) (.inRegion ops l :: k)) cs w')) ∨
    (∃ v pe h' g' w', KP v h' ∧ g.le g' ∧ Inv S w0 h' g' w' ∧ (Rep g' v pe.v ∧ pe.recovered = false ∧ pe.goexit = false) ∧
      Steps S.P (lone (b.at a (.inRegion ops (i :: l) :: k)) cs w) (lone { b.at a (.inRegion ops (i :: l) :: k) with mode := .panicking [pe] } cs w')) := by
  rcases he with ⟨v, h', hae, hk⟩ | ⟨f, args, ts, fid, caps, Rc, hop, hfn', hent, hc, hk, hp⟩ | ⟨args, ts, hop, hk⟩
  · obtain ⟨n, w', g', h1, h2, h3, h4⟩ := ae_sound inv hr hae
    left
    rcases h4 with ⟨y, rfl, h4⟩ | ⟨rfl, rfl⟩
    · exact ⟨v, y, h', g', w', ds, a.defers, hk, h2, h3, h4, hds.mono h2, .one (step_op_fin ho hw (.inl rfl) h1)⟩
    · exact ⟨.top, undef, h', g', w', ds, a.defers, hk, h2, h3, .top _, hds.mono h2, .one (step_op_fin ho hw (.inr ⟨rfl, rfl⟩) h1)⟩
  · have hops : o.op.operands.toList = f :: args.toList := by simp [hop, Op.operands, Call.operands]
    rw [hops] at hr
    have hrep := hr f (by simp)
    rw [hfn'] at hrep
    have hargs := list_rep (g := g) (ρ := ρ) (e := a.eval) (xs := args) (fun x hx => hr x (by simp at hx ⊢; exact .inr hx))
    obtain ⟨xs, hfv, hxs⟩ : ∃ xs : Array Value, a.eval f = .func (.func fid) #[] xs ∧ RepL g caps xs := by
      generalize a.eval f = z at hrep
      cases hrep
      exact ⟨_, rfl, ‹_›, ‹_›⟩
    have hrun : (execOp a.eval o).run S.P w = .ok (.enter fid (args.map a.eval ++ xs)) w := by
      unfold execOp
      simp only [hop, resolve, Sem.run_bind, Sem.run_pure, Result.andThen_ok, Deferred.ofValue, hfv, Array.empty_append, invoke]
      exact hent _ _
    obtain ⟨e, w', fr', ⟨r, h', g', l1, inv', hend, hR⟩, hcomes, hffn, hleave⟩ := hc w0 g w _ inv (repL_append hargs hxs) (b.at a (.inRegion ops (i :: l) :: k) :: cs)
    have s1 := step_op_enter (b := b) (k := k) (cs := cs) (l := l) ho hw hrun
    cases r with
    | ret v =>
      cases e with
      | returned x =>
        have s2 := step_leave_returned (c := b.at a (.inRegion ops (i :: l) :: k)) (cs := cs) hleave
        have hfin : (b.at a (.inRegion ops (i :: l) :: k)).finish x = b.at (a.put o.dst x) (.inRegion ops l :: k) := by rw [Frame.finish_at, ho]; rfl
        rw [hfin] at s2
        exact .inl ⟨v, x, h', g', w', ds, a.defers, hk v h' hR, l1, inv', hend, hds.mono l1, .head s1 (Steps.trans hcomes (.one s2))⟩
      | panicked ch => exact hend.elim
      | outgrown => exact hend.elim
    | pan v =>
      cases e with
      | returned x => exact hend.elim
      | panicked ch =>
        match ch, hend, hleave, hcomes with
        | [pe], hend, hleave, hcomes =>
          have s2 := step_leave_panicked (c := b.at a (.inRegion ops (i :: l) :: k)) (cs := cs) hleave
          rw [Frame.raise_at] at s2
          exact .inr ⟨v, pe, h', g', w', hp v h' hR, l1, inv', hend, .head s1 (Steps.trans hcomes (.one s2))⟩
      | outgrown => exact hend.elim
  · have hops : o.op.operands.toList = args.toList := by simp [hop, Op.operands, Call.operands]
    rw [hops] at hr
    have hargs := list_rep (g := g) (ρ := ρ) (e := a.eval) (xs := args) hr
    obtain ⟨cst, hrun⟩ : ∃ cst, (execOp a.eval o).run S.P w = .ok (.defer { target := .builtin .delete ts o.type cst, args := args.map a.eval }) w := by
      unfold execOp
      simp only [hop, resolve, Sem.run_bind, Sem.run_pure, Result.andThen_ok]
      exact ⟨_, rfl⟩
    exact .inl ⟨.top, undef, h, g, w, _, _, hk, Ghost.le.refl g, inv, .top _, DefsRep.cons ⟨_, _, _, rfl, hargs⟩ hds, .one (step_op_defer ho hw hrun)⟩

/-! The order in which the abstract run takes the operations, and what must hold of it -/
abbrev Pend := List (Nat × (Nat → AV) × AV)
def Stable (S : Seat) (ops : Array Oper) (tab : List (List Nat)) (e : Nat) (pend : Pend) (h : AHeap) : Prop :=
  ∀ x ∈ pend, x.1 ∈ tab.getD e [] ∨ ∀ o, ops[x.1]? = some o → aqg S ops o x.2.1 h = some x.2.2
def DRun (S : Seat) (fn : Func) (ops : Array Oper) (tab : List (List Nat)) (k : List Item) (R : Post) : List Nat → Pend → List ADef → Fr → AHeap → Prop
  | [], _, ds, fr, h => Run S fn k ds fr h R
  | i :: rest, pend, ds, fr, h => ∃ o, ops[i]? = some o ∧ dstOk fn.ntmps o.dst = true ∧
      if quietOp o.op then ∃ v, aqg S ops o fr.get h = some v ∧ DRun S fn ops tab k R rest ((i, fr.get, v) :: pend) ds (fr.put o.dst v) h
      else (awanted ops o fr.get = some false ∧ DRun S fn ops tab k R rest pend ds (fr.put o.dst (.tup [])) h) ∨ (awanted ops o fr.get = some true ∧ Eff S o (rho S fr.get) ds h (fun v ds' h' => Stable S ops tab i pend h' ∧ DRun S fn ops tab k R rest pend ds' (fr.put o.dst v) h') (fun v h' => Leave S fn (.panicking v) ds [] h' R))

def slotsOf (ops : Array Oper) (o : Oper) : List Nat :=
  (o.op.operands.toList.filterMap fun | .tmp t => some t | _ => none) ++
  (match o.guard with | some (j, _) => (match (ops[j]?).bind (·.dst) with | some t => [t] | none => []) | none => [])
/-- The certificate: 'ord' an order, 'tab' what comes before each. -/
structure DrawOk (ops : Array Oper) (ord : List Nat) (tab : List (List Nat)) : Prop where
  perm : ∀ i, i < ops.size → i ∈ ord
  lt : ∀ i ∈ ord, i < ops.size
  nodup : ord.Nodup
  edge : ∀ (i : Nat) o, ops[i]? = some o → ∀ e ∈ o.after, Region.binds .any e = true → e.on < i
  cert : ∀ i j, j ∈ tab.getD i [] → ∃ o, ops[i]? = some o ∧ ∃ e ∈ o.after, Region.binds .any e = true ∧ (e.on = j ∨ j ∈ tab.getD e.on [])
  dst : ∀ (i j : Nat) oi oj d, ops[i]? = some oi → ops[j]? = some oj → oi.dst = some d → oj.dst = some d → i = j
  slots : ∀ (i : Nat) o, ops[i]? = some o → ∀ s ∈ slotsOf ops o, ∀ (j : Nat) oj, ops[j]? = some oj → oj.dst = some s → j = i ∨ j ∈ tab.getD i [] ∨ i ∈ tab.getD j []
  before : ∀ i j, j ∈ tab.getD i [] → ord.idxOf j < ord.idxOf i
  eff : ∀ (i e : Nat) oe, i < ops.size → ops[e]? = some oe → quietOp oe.op = false → ord.idxOf e < ord.idxOf i → e ∈ tab.getD i []
def drawCheck (ops : Array Oper) (ord : List Nat) (tab : List (List Nat)) : Bool :=
  let n := ops.size
  let r := List.range n
  (r.all fun i => ord.contains i) && (ord.all fun i => decide (i < n)) && decide (ord.Nodup) &&
  (r.all fun i => (ops.getD i default).after.all fun e => !Region.binds .any e || decide (e.on < i)) &&
  decide (tab.length ≤ n) && (r.all fun i => (tab.getD i []).all fun j => (ops.getD i default).after.any fun e => Region.binds .any e && (decide (e.on = j) || (tab.getD e.on []).contains j)) &&
  (r.all fun i => r.all fun j => decide (i = j) || (ops.getD i default).dst.isNone || (ops.getD i default).dst != (ops.getD j default).dst) &&
  (r.all fun i => (slotsOf ops (ops.getD i default)).all fun s => r.all fun j => (ops.getD j default).dst != some s || decide (j = i) || (tab.getD i []).contains j || (tab.getD j []).contains i) &&
  (r.all fun i => (tab.getD i []).all fun j => decide (ord.idxOf j < ord.idxOf i)) &&
  (r.all fun i => r.all fun e => quietOp (ops.getD e default).op || !decide (ord.idxOf e < ord.idxOf i) || (tab.getD i []).contains e)
theorem drawCheck_ok {ops : Array Oper} {ord : List Nat} {tab : List (List Nat)} (h : drawCheck ops ord tab = true) : DrawOk ops ord tab := by
  unfold drawCheck at h
  simp only [Bool.and_eq_true, List.all_eq_true, List.mem_range, decide_eq_true_eq, Bool.or_eq_true, Bool.not_eq_true', bne_iff_ne, ne_eq, List.contains_iff_mem, Array.all_eq_true', Array.any_eq_true', decide_eq_false_iff_not] at h
  obtain ⟨⟨⟨⟨⟨⟨⟨⟨⟨h1, h2⟩, h3⟩, h4⟩, h5⟩, h6⟩, h7⟩, h8⟩, h9⟩, h10⟩ := h
  have hget : ∀ {i : Nat} {o : Oper}, ops[i]? = some o → i < ops.size ∧ ops.getD i default = o := by
    intro i o e
    exact ⟨(Array.getElem?_eq_some_iff.1 e).1, by simp [Array.getD_eq_getD_getElem?, e]⟩
  have htab : ∀ {i j : Nat}, j ∈ tab.getD i [] → i < ops.size := by
    intro i j hj
    rcases Nat.lt_or_ge i tab.length with q | q
    · omega
    · simp [List.getD, List.getElem?_eq_none q] at hj
  refine ⟨h1, h2, h3, fun i o ho e he hb => ?_, fun i j hj => ?_, fun i j oi oj d hi hj hdi hdj => ?_, fun i o ho s hs j oj hj hd => ?_, fun i j hj => h9 i (htab hj) j hj, fun i e oe hi he hq hlt => ?_⟩
  · obtain ⟨q1, q2⟩ := hget ho
    have := h4 i q1 e (by rw [q2]; exact he)
    rcases this with q | q
    · rw [hb] at q; cases q
    · exact q
  · have hi := htab hj
    obtain ⟨e, he, hb, q⟩ := h6 i hi j hj
    exact ⟨ops[i], by simp [hi], e, by simpa [Array.getD_eq_getD_getElem?, hi] using he, hb, q⟩
  · obtain ⟨a1, a2⟩ := hget hi
    obtain ⟨b1, b2⟩ := hget hj
    rcases h7 i a1 j b1 with (q | q) | q
    · exact q
    · rw [a2, hdi] at q; cases q
    · rw [a2, b2, hdi, hdj] at q; exact absurd rfl q
  · obtain ⟨a1, a2⟩ := hget ho
    obtain ⟨b1, b2⟩ := hget hj
    rcases h8 i a1 s (by rw [a2]; exact hs) j b1 with ((q | q) | q) | q
    · rw [b2, hd] at q; exact absurd rfl q
    · exact .inl q
    · exact .inr (.inl q)
    · exact .inr (.inr q)
  · obtain ⟨b1, b2⟩ := hget he
    rcases h10 i hi e b1 with (q | q) | q
    · rw [b2, hq] at q; cases q
    · exact absurd hlt q
    · exact q

section
open Classical
variable {S : Seat} {fn : Func} {ops : Array Oper} {ord : List Nat} {tab : List (List Nat)} {k : List Item} {R : Post} {w0 : World} {fr0 : Fr}
structure Sim (S : Seat) (fn : Func) (ops : Array Oper) (ord : List Nat) (tab : List (List Nat)) (k : List Item) (R : Post) (w0 : World) (fr0 : Fr) (listed : Array Bool) (p : Nat) (pend : Pend) (ds : List ADef) (fr : Fr) (h : AHeap) (g : Ghost) (w : World) (a : Act) : Prop where
  size : listed.size = ops.size
  run : DRun S fn ops tab k R (ord.drop p) pend ds fr h
  todo : ∀ (q i : Nat), p ≤ q → ord[q]? = some i → listed.getD i false = false
  effDone : ∀ (q i : Nat) o, q < p → ord[q]? = some i → ops[i]? = some o → quietOp o.op = false → listed.getD i false = true
  acc : ∀ (q i : Nat) o, q < p → ord[q]? = some i → ops[i]? = some o → quietOp o.op = true → ∃ fri v, (i, fri, v) ∈ pend ∧ dstOk fn.ntmps o.dst = true ∧ (∀ d, o.dst = some d → fr.get d = v) ∧
    (∀ s ∈ slotsOf ops o, fri s = if (∃ j oj, j ∈ tab.getD i [] ∧ ops[j]? = some oj ∧ oj.dst = some s) then fr.get s else fr0.get s)
  stable : ∀ x ∈ pend, listed.getD x.1 false = false → ∀ o, ops[x.1]? = some o → aqg S ops o x.2.1 h = some x.2.2
  slots : ∀ s, Rep g (if (∃ j oj, listed.getD j false = true ∧ ops[j]? = some oj ∧ oj.dst = some s) then fr.get s else fr0.get s) (a.tmps.getD s undef)
  untouched : ∀ s, (∀ (q j : Nat) oj, q < p → ord[q]? = some j → ops[j]? = some oj → oj.dst ≠ some s) → fr.get s = fr0.get s
  closed : ∀ (i : Nat) o e, listed.getD i false = true → ops[i]? = some o → e ∈ o.after → Region.binds .any e = true → listed.getD e.on false = true
  inv : Inv S w0 h g w
  tmps : a.tmps.size = fn.ntmps
  defs : DefsRep g ds a.defers

theorem pos_of (c : DrawOk ops ord tab) {q i : Nat} (h : ord[q]? = some i) : ord.idxOf i = q := by
  obtain ⟨hq, e⟩ := List.getElem?_eq_some_iff.1 h
  rw [← e]
  exact c.nodup.idxOf_getElem q hq
theorem at_pos (c : DrawOk ops ord tab) {i : Nat} (h : i < ops.size) : ord[ord.idxOf i]? = some i := by
  have hm := c.perm i h
  rw [List.getElem?_eq_getElem (List.idxOf_lt_length_of_mem hm)]
  simp
theorem tab_lt (c : DrawOk ops ord tab) {i j : Nat} (h : j ∈ tab.getD i []) : j < ops.size ∧ i < ops.size := by
  have hb := c.before i j h
  obtain ⟨o, ho, _⟩ := c.cert i j h
  have hi := (Array.getElem?_eq_some_iff.1 ho).1
  refine ⟨?_, hi⟩
  have h1 : ord.idxOf j < ord.length := Nat.lt_of_lt_of_le hb (Nat.le_of_lt (List.idxOf_lt_length_of_mem (c.perm i hi)))
  exact c.lt j (List.idxOf_lt_length_iff.1 h1)
theorem anc_listed (c : DrawOk ops ord tab) {listed : Array Bool} (hc : ∀ (i : Nat) o e, listed.getD i false = true → ops[i]? = some o → e ∈ o.after → Region.binds .any e = true → listed.getD e.on false = true) :
    ∀ (n i j : Nat), i ≤ n → listed.getD i false = true → j ∈ tab.getD i [] → listed.getD j false = true := by
  intro n
  induction n with
  | zero =>
    intro i j hi hl hj
    obtain ⟨o, ho, e, he, hb, hq⟩ := c.cert i j hj
    have := c.edge i o ho e he hb
    omega
  | succ n ih =>
    intro i j hi hl hj
    obtain ⟨o, ho, e, he, hb, hq⟩ := c.cert i j hj
    have hlt := c.edge i o ho e he hb
    have hle := hc i o e hl ho he hb
    rcases hq with rfl | hq
    · exact hle
    · exact ih e.on j (by omega) hle hq
theorem anc_listed' (c : DrawOk ops ord tab) {listed : Array Bool} (hc : ∀ (i : Nat) o e, listed.getD i false = true → ops[i]? = some o → e ∈ o.after → Region.binds .any e = true → listed.getD e.on false = true) {i j : Nat} {o : Oper}
    (ho : ops[i]? = some o) (hr : ∀ e ∈ o.after, Region.binds .any e = true → listed.getD e.on false = true) (hj : j ∈ tab.getD i []) : listed.getD j false = true := by
  obtain ⟨o', ho', e, he, hb, hq⟩ := c.cert i j hj
  cases ho.symm.trans ho'
  have hle := hr e he hb
  rcases hq with rfl | hq
  · exact hle
  · exact anc_listed c hc e.on e.on j (Nat.le_refl _) hle hq

theorem get_put_ne {fr : Fr} {d : Option Nat} {v : AV} {s : Nat} (h : d ≠ some s) : (fr.put d v).get s = fr.get s := by
  cases d with
  | none => rfl
  | some d =>
    simp only [Fr.put, Fr.get]
    rw [if_neg (fun e => h (by rw [e]))]
theorem get_put_eq {fr : Fr} {v : AV} {s : Nat} : (fr.put (some s) v).get s = v := by
  simp only [Fr.put, Fr.get, if_true]

/-- The quiet operations that stand next are taken into the account. -/
theorem Sim.commit (c : DrawOk ops ord tab) {listed : Array Bool} {ds : List ADef} {h : AHeap} {g : Ghost} {w : World} {a : Act} : ∀ (m p : Nat) (pend : Pend) (fr : Fr), ord.length - p ≤ m → Sim S fn ops ord tab k R w0 fr0 listed p pend ds fr h g w a →
    ∃ p' pend' fr', Sim S fn ops ord tab k R w0 fr0 listed p' pend' ds fr' h g w a ∧ ∀ i, ord[p']? = some i → ∀ o, ops[i]? = some o → quietOp o.op = false := by
  intro m
  induction m with
  | zero =>
    intro p pend fr hm s
    exact ⟨p, pend, fr, s, fun i hi => by have := (List.getElem?_eq_some_iff.1 hi).1; omega⟩
  | succ m ih =>
    intro p pend fr hm s
    cases hp : ord[p]? with
    | none => exact ⟨p, pend, fr, s, fun i hi => by rw [hp] at hi; cases hi⟩
    | some i =>
      have hlt : p < ord.length := (List.getElem?_eq_some_iff.1 hp).1
      have hdrop : ord.drop p = i :: ord.drop (p + 1) := by
        rw [List.drop_eq_getElem_cons hlt]
        congr 1
        exact (List.getElem?_eq_some_iff.1 hp).2
      have hrun := s.run
      rw [hdrop] at hrun
      obtain ⟨o, ho, hdst, hrest⟩ := hrun
      cases hq : quietOp o.op with
      | false => exact ⟨p, pend, fr, s, fun i' hi' o' ho' => by rw [hp] at hi'; cases hi'; rw [ho] at ho'; cases ho'; exact hq⟩
      | true =>
        rw [hq, if_pos rfl] at hrest
        obtain ⟨v, hv, hnext⟩ := hrest
        have hi : i < ops.size := (Array.getElem?_eq_some_iff.1 ho).1
        have hposi : ord.idxOf i = p := pos_of c hp
        refine ih (p + 1) ((i, fr.get, v) :: pend) (fr.put o.dst v) (by omega) ?_
        have hneq : ∀ (j : Nat) oj s', ops[j]? = some oj → oj.dst = some s' → j ≠ i → o.dst ≠ some s' := fun j oj s' hj hd hne e => hne (c.dst j i oj o s' hj ho hd e)
        refine ⟨s.size, hnext, fun q i' hq' h' => s.todo q i' (by omega) h', fun q i' o' hq' h' ho' hqq => ?_, fun q i' o' hq' h' ho' hqq => ?_, fun x hx hl o' ho' => ?_, fun s' => ?_, fun s' hs' => ?_, s.closed, s.inv, s.tmps, s.defs⟩
        · by_cases e : q = p
          · subst e; rw [hp] at h'; cases h'; rw [ho] at ho'; cases ho'; rw [hq] at hqq; cases hqq
          · exact s.effDone q i' o' (by omega) h' ho' hqq
        · by_cases e : q = p
          · subst e
            rw [hp] at h'; cases h'
            rw [ho] at ho'; cases ho'
            refine ⟨fr.get, v, .head _, hdst, fun d hd => by rw [hd]; exact get_put_eq, fun s' hs' => ?_⟩
            by_cases hex : ∃ j oj, j ∈ tab.getD i [] ∧ ops[j]? = some oj ∧ oj.dst = some s'
            · rw [if_pos hex]
              obtain ⟨j, oj, hj, hoj, hdj⟩ := hex
              have hne : j ≠ i := fun e => by subst e; exact absurd (c.before j j hj) (Nat.lt_irrefl _)
              rw [get_put_ne (hneq j oj s' hoj hdj hne)]
            · rw [if_neg hex]
              refine s.untouched s' (fun q' j oj hq2 hj hoj hdj => ?_)
              rcases c.slots i o ho s' hs' j oj hoj hdj with e | e | e
              · subst e; have := pos_of c hj; omega
              · exact hex ⟨j, oj, e, hoj, hdj⟩
              · have h1 := c.before j i e
                rw [pos_of c hj, hposi] at h1
                omega
          · obtain ⟨fri, v', h1, h0, h2, h3⟩ := s.acc q i' o' (by omega) h' ho' hqq
            have hii : i' ≠ i := fun e' => by subst e'; have := pos_of c h'; omega
            refine ⟨fri, v', .tail _ h1, h0, fun d hd => by rw [get_put_ne (hneq i' o' d ho' hd hii)]; exact h2 d hd, fun s' hs' => ?_⟩
            rw [h3 s' hs']
            by_cases hex : ∃ j oj, j ∈ tab.getD i' [] ∧ ops[j]? = some oj ∧ oj.dst = some s'
            · rw [if_pos hex, if_pos hex]
              obtain ⟨j, oj, hj, hoj, hdj⟩ := hex
              have hne : j ≠ i := fun e' => by
                subst e'
                have h4 := c.before i' j hj
                rw [hposi, pos_of c h'] at h4
                omega
              rw [get_put_ne (hneq j oj s' hoj hdj hne)]
            · rw [if_neg hex, if_neg hex]
        · cases hx with
          | head => rw [ho] at ho'; cases ho'; exact hv
          | tail _ hx => exact s.stable x hx hl o' ho'
        · have h1 := s.slots s'
          by_cases hex : ∃ j oj, listed.getD j false = true ∧ ops[j]? = some oj ∧ oj.dst = some s'
          · rw [if_pos hex] at h1 ⊢
            obtain ⟨j, oj, hl, hoj, hdj⟩ := hex
            have hne : j ≠ i := fun e' => by
              subst e'
              have := s.todo p j (Nat.le_refl _) hp
              rw [hl] at this; cases this
            rw [get_put_ne (hneq j oj s' hoj hdj hne)]
            exact h1
          · rw [if_neg hex] at h1 ⊢
            exact h1
        · rw [get_put_ne (hs' p i o (by omega) hp ho)]
          exact s.untouched s' (fun q j oj hq2 hj hoj => hs' q j oj (by omega) hj hoj)

theorem mem_slots_of_operand {o : Oper} {t : Nat} (h : Operand.tmp t ∈ o.op.operands.toList) : t ∈ slotsOf ops o :=
  List.mem_append_left _ (List.mem_filterMap.2 ⟨_, h, rfl⟩)
theorem rho_rep_slots {h : AHeap} {g : Ghost} {w : World} (i : Inv S w0 h g w) {fr : Nat → AV} {a : Act} (x : Operand) (hf : ∀ t, x = .tmp t → Rep g (fr t) (a.tmps.getD t undef)) : Rep g (rho S fr x) (a.eval x) := by
  cases x with
  | tmp t => exact hf t rfl
  | const v => exact ofValue_rep g v
  | global k =>
    simp only [rho, Act.eval]
    cases hk : S.gl k with
    | none => exact .top _
    | some cs => exact i.glob k cs hk
  | func f => exact .func (by simp) (by simp)
theorem awanted_slots {g : Ghost} {o : Oper} {fr : Nat → AV} {tmps : Array Value} {r : Bool} (hf : ∀ s ∈ slotsOf ops o, Rep g (fr s) (tmps.getD s undef)) (e : awanted ops o fr = some r) : Region.wanted o (yielded ops tmps) = r := by
  have hf' : ∀ s, Rep g (if s ∈ slotsOf ops o then fr s else .top) (tmps.getD s undef) := fun s => by
    by_cases q : s ∈ slotsOf ops o
    · rw [if_pos q]; exact hf s q
    · rw [if_neg q]; exact .top _
  refine awanted_sound hf' ?_
  unfold awanted at e ⊢
  cases hg : o.guard with
  | none => rw [hg] at e; exact e
  | some p =>
    obtain ⟨j, want⟩ := p
    rw [hg] at e
    simp only at e ⊢
    cases ht : (ops[j]?).bind (·.dst) with
    | none => rw [ht] at e; cases e
    | some t =>
      rw [ht] at e
      simp only at e ⊢
      have hm : t ∈ slotsOf ops o := by
        unfold slotsOf
        refine List.mem_append_right _ ?_
        rw [hg]
        simp only
        rw [ht]
        exact .head _
      rw [if_pos hm]
      exact e
theorem getD_set {listed : Array Bool} {i : Nat} (hi : i < listed.size) (j : Nat) : (listed.setIfInBounds i true).getD j false = if j = i then true else listed.getD j false := by
  simp only [Array.getD_eq_getD_getElem?]
  by_cases e : j = i
  · subst e; simp [hi]
  · rw [if_neg e, Array.getElem?_setIfInBounds_ne (fun q => e q.symm)]
theorem all_listed (c : DrawOk ops ord tab) {listed : Array Bool} (hsz : listed.size = ops.size) (hr : Region.ready .any ops listed = []) : ∀ (n i : Nat), i ≤ n → i < ops.size → listed.getD i false = true := by
  intro n
  induction n using Nat.strongRecOn with
  | _ n ih =>
    intro i hi hlt
    cases hl : listed.getD i false with
    | true => rfl
    | false =>
      have hm : i ∈ Region.ready .any ops listed := by
        unfold Region.ready
        refine List.mem_filter.2 ⟨List.mem_range.2 hlt, ?_⟩
        have h1 : listed.getD i true = false := by
          have : i < listed.size := by omega
          simp only [Array.getD_eq_getD_getElem?, Array.getElem?_eq_getElem this, Option.getD_some] at hl ⊢
          exact hl
        simp only [h1, Bool.not_false, Bool.true_and, Array.getElem?_eq_getElem hlt, Option.map_some, Option.getD_some, Array.all_eq_true', Bool.or_eq_true, Bool.not_eq_true']
        intro e he
        cases hb : Region.binds .any e with
        | false => exact .inl rfl
        | true =>
          have := c.edge i ops[i] (by simp [hlt]) e he hb
          exact .inr (ih e.on (by omega) e.on (Nat.le_refl _) (by omega))
      rw [hr] at hm
      simp at hm

theorem slot_new' (c : DrawOk ops ord tab) {listed listed' : Array Bool} {p : Nat} {pend : Pend} {ds : List ADef} {fr : Fr} {h : AHeap} {g g' : Ghost} {w : World} {a : Act} {dl : List Deferred} (s : Sim S fn ops ord tab k R w0 fr0 listed p pend ds fr h g w a) {i : Nat} {o : Oper} (ho : ops[i]? = some o)
    (hset : ∀ j, listed'.getD j false = if j = i then true else listed.getD j false) (hdst : dstOk fn.ntmps o.dst = true) (l : g.le g') {v : AV} {x : Value} (hx : Rep g' v x) (s' : Nat) :
    Rep g' (if (∃ j oj, listed'.getD j false = true ∧ ops[j]? = some oj ∧ oj.dst = some s') then (fr.put o.dst v).get s' else fr0.get s') ((({ a with defers := dl } : Act).put o.dst x).tmps.getD s' undef) := by
  have h1 := s.slots s'
  by_cases hd : o.dst = some s'
  · rw [if_pos ⟨i, o, by rw [hset, if_pos rfl], ho, hd⟩, hd, get_put_eq]
    rw [hd] at hdst
    have hlt : s' < fn.ntmps := of_decide_eq_true hdst
    have : (({ a with defers := dl } : Act).put (some s') x).tmps.getD s' undef = x := by
      simp only [Act.put]
      simp [Array.getD, s.tmps, hlt]
    rw [this]
    exact hx
  · have hval : (({ a with defers := dl } : Act).put o.dst x).tmps.getD s' undef = a.tmps.getD s' undef := by
      cases hq : o.dst with
      | none => rfl
      | some d =>
        have hne : d ≠ s' := fun e => hd (by rw [hq, e])
        simp only [Act.put, Array.getD_eq_getD_getElem?]
        rw [Array.getElem?_setIfInBounds_ne hne]
    rw [hval, get_put_ne hd]
    have hiff : (∃ j oj, listed'.getD j false = true ∧ ops[j]? = some oj ∧ oj.dst = some s') ↔ (∃ j oj, listed.getD j false = true ∧ ops[j]? = some oj ∧ oj.dst = some s') := by
      constructor
      · rintro ⟨j, oj, hl, hoj, hdj⟩
        rw [hset] at hl
        by_cases e : j = i
        · subst e; rw [ho] at hoj; cases hoj; exact absurd hdj hd
        · rw [if_neg e] at hl; exact ⟨j, oj, hl, hoj, hdj⟩
      · rintro ⟨j, oj, hl, hoj, hdj⟩
        refine ⟨j, oj, ?_, hoj, hdj⟩
        rw [hset]
        by_cases e : j = i
        · rw [if_pos e]
        · rw [if_neg e]; exact hl
    by_cases hex : ∃ j oj, listed.getD j false = true ∧ ops[j]? = some oj ∧ oj.dst = some s'
    · rw [if_pos (hiff.2 hex)]; rw [if_pos hex] at h1; exact h1.mono l
    · rw [if_neg (fun q => hex (hiff.1 q))]; rw [if_neg hex] at h1; exact h1.mono l
theorem slot_new (c : DrawOk ops ord tab) {listed listed' : Array Bool} {p : Nat} {pend : Pend} {ds : List ADef} {fr : Fr} {h : AHeap} {g g' : Ghost} {w : World} {a : Act} (s : Sim S fn ops ord tab k R w0 fr0 listed p pend ds fr h g w a) {i : Nat} {o : Oper} (ho : ops[i]? = some o)
    (hset : ∀ j, listed'.getD j false = if j = i then true else listed.getD j false) (hdst : dstOk fn.ntmps o.dst = true) (l : g.le g') {v : AV} (hdv : ∀ d, o.dst = some d → fr.get d = v) {x : Value} (hx : Rep g' v x) (s' : Nat) :
    Rep g' (if (∃ j oj, listed'.getD j false = true ∧ ops[j]? = some oj ∧ oj.dst = some s') then fr.get s' else fr0.get s') ((a.put o.dst x).tmps.getD s' undef) := by
  have h1 := slot_new' (dl := a.defers) c s ho hset hdst l hx s'
  have h2 : (fr.put o.dst v).get s' = fr.get s' := by
    by_cases hd : o.dst = some s'
    · rw [hd, get_put_eq, hdv s' hd]
    · exact get_put_ne hd
  rw [h2] at h1
  exact h1
theorem Sim.finish (c : DrawOk ops ord tab) {listed : Array Bool} {p : Nat} {pend : Pend} {ds : List ADef} {fr : Fr} {h : AHeap} {g : Ghost} {w : World} {a : Act} (s : Sim S fn ops ord tab k R w0 fr0 listed p pend ds fr h g w a)
    (hall : ∀ i, i < ops.size → listed.getD i false = true) (b : Frame) (cs : List Frame) (hfn : S.P.funcs[b.fn]? = some fn) (hk : b.kind = .normal) : Done S w0 g R (lone (b.at a (.inRegion ops [] :: k)) cs w) cs b.fn := by
  have hp : ord[p]? = none := by
    cases hq : ord[p]? with
    | none => rfl
    | some i =>
      have h1 := s.todo p i (Nat.le_refl _) hq
      rw [hall i (c.lt i (List.mem_of_getElem? hq))] at h1
      cases h1
  have hdrop : ord.drop p = [] := List.drop_eq_nil_of_le (List.getElem?_eq_none_iff.1 hp)
  have hrun := s.run
  rw [hdrop] at hrun
  refine (hrun w0 g w a b cs s.inv ⟨s.tmps, fun s' => ?_⟩ s.defs hfn hk).of_step step_region_end
  have h1 := s.slots s'
  by_cases hex : ∃ j oj, listed.getD j false = true ∧ ops[j]? = some oj ∧ oj.dst = some s'
  · rwa [if_pos hex] at h1
  · rw [if_neg hex] at h1
    rw [s.untouched s' (fun q j oj hq hj hoj hd => hex ⟨j, oj, hall j (Array.getElem?_eq_some_iff.1 hoj).1, hoj, hd⟩)]
    exact h1

theorem Sim.go (c : DrawOk ops ord tab) : ∀ (fuel t : Nat) (listed : Array Bool) (p : Nat) (pend : Pend) (ds : List ADef) (fr : Fr) (h : AHeap) (g : Ghost) (w : World) (a : Act), ((List.range ops.size).filter fun i => !listed.getD i false).length ≤ fuel →
    Sim S fn ops ord tab k R w0 fr0 listed p pend ds fr h g w a → ∀ (b : Frame) (cs : List Frame), S.P.funcs[b.fn]? = some fn → b.kind = .normal →
      Done S w0 g R (lone (b.at a (.inRegion ops (Region.linearise.go .any ops fuel t listed []) :: k)) cs w) cs b.fn := by
  intro fuel
  induction fuel with
  | zero =>
    intro t listed p pend ds fr h g w a hcount s b cs hfn hk
    refine s.finish c (fun i hi => ?_) b cs hfn hk
    have : (List.range ops.size).filter (fun i => !listed.getD i false) = [] := List.eq_nil_of_length_eq_zero (by omega)
    have h2 := List.filter_eq_nil_iff.1 this i (List.mem_range.2 hi)
    simpa using h2
  | succ fuel ih =>
    intro t listed p0 pend0 ds fr00 h g w a hcount s0 b cs hfn hk
    obtain ⟨p, pend, fr, s, hhead⟩ := s0.commit c (ord.length - p0) p0 pend0 fr00 (Nat.le_refl _)
    clear s0
    simp only [Region.linearise.go]
    change Done S w0 g R (lone (b.at a (.inRegion ops (match (Region.ready .any ops listed)[t % (Region.ready .any ops listed).length]? with
      | some i => Region.linearise.go .any ops fuel (t / (Region.ready .any ops listed).length) (listed.setIfInBounds i true) [i]
      | none => [].reverse) :: k)) cs w) cs b.fn
    cases hi : (Region.ready .any ops listed)[t % (Region.ready .any ops listed).length]? with
    | none =>
      have hnil : Region.ready .any ops listed = [] := by
        cases hr : Region.ready .any ops listed with
        | nil => rfl
        | cons x xs =>
          rw [hr] at hi
          have hlt : t % (x :: xs).length < (x :: xs).length := Nat.mod_lt _ (by simp)
          have := List.getElem?_eq_none_iff.1 hi
          omega
      exact s.finish c (fun i hlt => all_listed c s.size hnil i i (Nat.le_refl _) hlt) b cs hfn hk
    | some i =>
      simp only []
      rw [linearise_go_acc, List.reverse_singleton, List.singleton_append]
      generalize t / (Region.ready .any ops listed).length = t'
      obtain ⟨hmr, hrdy⟩ := List.mem_filter.1 (List.mem_of_getElem? hi)
      have hilt : i < ops.size := List.mem_range.1 hmr
      obtain ⟨o, ho⟩ : ∃ o, ops[i]? = some o := ⟨ops[i], by simp [hilt]⟩
      rw [ho] at hrdy
      simp only [Option.map_some, Option.getD_some, Bool.and_eq_true, Bool.not_eq_true', Array.all_eq_true', Bool.or_eq_true] at hrdy
      obtain ⟨hnl0, hedges⟩ := hrdy
      have hsz : i < listed.size := by rw [s.size]; exact hilt
      have hnl : listed.getD i false = false := by
        simp only [Array.getD_eq_getD_getElem?, Array.getElem?_eq_getElem hsz, Option.getD_some] at hnl0 ⊢
        exact hnl0
      have hed : ∀ e ∈ o.after, Region.binds .any e = true → listed.getD e.on false = true := fun e he hb => by
        rcases hedges e he with q | q
        · rw [hb] at q; cases q
        · exact q
      have hanc : ∀ j, j ∈ tab.getD i [] → listed.getD j false = true := fun j hj => anc_listed' c s.closed ho hed hj
      have hset : ∀ j, (listed.setIfInBounds i true).getD j false = if j = i then true else listed.getD j false := getD_set hsz
      have hcount' : ((List.range ops.size).filter fun j => !(listed.setIfInBounds i true).getD j false).length ≤ fuel := by
        have h1 : ((List.range ops.size).filter fun j => !(listed.setIfInBounds i true).getD j false) = ((List.range ops.size).filter fun j => !listed.getD j false).filter (fun j => j ≠ i) := by
          rw [List.filter_filter]
          apply List.filter_congr
          intro j _
          rw [hset]
          by_cases e : j = i
          · subst e; simp
          · simp [e]
        have h2 : i ∈ (List.range ops.size).filter fun j => !listed.getD j false := List.mem_filter.2 ⟨List.mem_range.2 hilt, by simp [hnl]⟩
        rw [h1]
        have h3 : ((((List.range ops.size).filter fun j => !listed.getD j false)).filter (fun j => j ≠ i)).length < ((List.range ops.size).filter fun j => !listed.getD j false).length := by
          refine List.length_filter_lt_length_iff_exists.2 ⟨i, h2, by simp⟩
        omega
      have hclosed' : ∀ (i' : Nat) o' e, (listed.setIfInBounds i true).getD i' false = true → ops[i']? = some o' → e ∈ o'.after → Region.binds .any e = true → (listed.setIfInBounds i true).getD e.on false = true := by
        intro i' o' e hl ho' he hb
        rw [hset] at hl ⊢
        by_cases q : e.on = i
        · rw [if_pos q]
        · rw [if_neg q]
          by_cases q' : i' = i
          · subst q'; rw [ho] at ho'; cases ho'; exact hed e he hb
          · rw [if_neg q'] at hl; exact s.closed i' o' e hl ho' he hb
      -- where i stands in the order
      have hpos := at_pos c hilt
      by_cases hdone : ord.idxOf i < p
      · -- it has been taken into the account: it is quiet
        cases hq : quietOp o.op with
        | false => have := s.effDone _ i o hdone hpos ho hq; rw [hnl] at this; cases this
        | true =>
          obtain ⟨fri, v, hmem, hdst, hdv, hfri⟩ := s.acc _ i o hdone hpos ho hq
          have hval := s.stable _ hmem hnl o ho
          simp only at hval
          have hslot : ∀ s' ∈ slotsOf ops o, Rep g (fri s') (a.tmps.getD s' undef) := by
            intro s' hs'
            rw [hfri s' hs']
            have h1 := s.slots s'
            by_cases hex : ∃ j oj, j ∈ tab.getD i [] ∧ ops[j]? = some oj ∧ oj.dst = some s'
            · rw [if_pos hex]
              obtain ⟨j, oj, hj, hoj, hdj⟩ := hex
              rwa [if_pos ⟨j, oj, hanc j hj, hoj, hdj⟩] at h1
            · rw [if_neg hex]
              rw [if_neg] at h1
              · exact h1
              · rintro ⟨j, oj, hl, hoj, hdj⟩
                rcases c.slots i o ho s' hs' j oj hoj hdj with e | e | e
                · subst e; rw [hnl] at hl; cases hl
                · exact hex ⟨j, oj, e, hoj, hdj⟩
                · have := anc_listed c s.closed j j i (Nat.le_refl _) hl e
                  rw [hnl] at this; cases this
          have hnew : ∀ (g' : Ghost) (w' : World) (x : Value), g.le g' → Inv S w0 h g' w' → Rep g' v x → Sim S fn ops ord tab k R w0 fr0 (listed.setIfInBounds i true) p pend ds fr h g' w' (a.put o.dst x) := by
            intro g' w' x l inv' hx
            refine ⟨by simp [s.size], s.run, fun q j hq' hj => ?_, fun q j o' hq' hj ho' hqq => ?_, s.acc, fun e he hl => ?_, fun s' => ?_, s.untouched, hclosed', inv', ?_, by rw [put_dst_defers]; exact s.defs.mono l⟩
            · rw [hset, if_neg (fun e => by subst e; have := pos_of c hj; omega)]
              exact s.todo q j hq' hj
            · rw [hset]
              by_cases e : j = i
              · rw [if_pos e]
              · rw [if_neg e]; exact s.effDone q j o' hq' hj ho' hqq
            · rw [hset] at hl
              by_cases e' : e.1 = i
              · rw [if_pos e'] at hl; cases hl
              · rw [if_neg e'] at hl; exact s.stable e he hl
            · exact slot_new c s ho hset hdst l hdv hx s'
            · have := s.tmps
              cases hd : o.dst with
              | none => exact this
              | some d => simp [Act.put, this]
          cases haw : awanted ops o fri with
          | none => unfold aqg at hval; rw [haw] at hval; cases hval
          | some r =>
            cases r with
            | true =>
              unfold aqg at hval
              rw [haw] at hval
              obtain ⟨y, w', g', h1, h2, h3, h4⟩ := aq_sound s.inv (o := o) (e := a.eval) (fun x hx => rho_rep_slots s.inv x (fun t e => hslot t (mem_slots_of_operand (e ▸ hx)))) hval
              exact ((ih t' _ p pend ds fr h g' w' (a.put o.dst y) hcount' (hnew g' w' y h2 h3 h4) b cs hfn hk).mono h2).of_step (step_op_fin ho (awanted_slots hslot haw) (.inl rfl) h1)
            | false =>
              unfold aqg at hval
              rw [haw] at hval
              cases hval
              have hs := step_op_skip (P := S.P) (b := b) (a := a) (k := k) (cs := cs) (w := w) (ops := ops) (i := i) (rest := Region.linearise.go .any ops fuel t' (listed.setIfInBounds i true) []) (by simp [ho, awanted_slots hslot haw])
              simp only [ho, Option.bind_some] at hs
              exact (ih t' _ p pend ds fr h g w (a.put o.dst undef) hcount' (hnew g w undef (Ghost.le.refl g) s.inv (.tup rfl (fun i v e => by simp at e))) b cs hfn hk).of_step hs
      · -- it stands next: an effect
        have hpi : ord[p]? = some i := by
          by_cases e : ord.idxOf i = p
          · rw [← e]; exact hpos
          · have hlen : ord.idxOf i < ord.length := (List.getElem?_eq_some_iff.1 hpos).1
            have hpl : p < ord.length := by omega
            have hep := List.getElem?_eq_getElem hpl
            have helt := c.lt _ (List.getElem_mem hpl)
            have hoe : ops[ord[p]]? = some ops[ord[p]] := by simp [helt]
            have hq := hhead _ hep _ hoe
            have h1 := c.eff i ord[p] _ hilt hoe hq (by rw [pos_of c hep]; omega)
            have h2 := s.todo p _ (Nat.le_refl _) hep
            rw [hanc _ h1] at h2
            cases h2
        have hpip := pos_of c hpi
        have hlt : p < ord.length := (List.getElem?_eq_some_iff.1 hpi).1
        have hdrop : ord.drop p = i :: ord.drop (p + 1) := by
          rw [List.drop_eq_getElem_cons hlt]
          congr 1
          exact (List.getElem?_eq_some_iff.1 hpi).2
        have hrun := s.run
        rw [hdrop] at hrun
        obtain ⟨o', ho', hdst, hrest⟩ := hrun
        cases ho.symm.trans ho'
        have hq := hhead i hpi o ho
        rw [hq, if_neg (by simp)] at hrest
        have hslot : ∀ s' ∈ slotsOf ops o, Rep g (fr.get s') (a.tmps.getD s' undef) := by
          intro s' hs'
          have h1 := s.slots s'
          by_cases hex : ∃ j oj, listed.getD j false = true ∧ ops[j]? = some oj ∧ oj.dst = some s'
          · rwa [if_pos hex] at h1
          · rw [if_neg hex] at h1
            rw [s.untouched s' (fun q j oj hq2 hj hoj hdj => ?_)]
            · exact h1
            · rcases c.slots i o ho s' hs' j oj hoj hdj with e | e | e
              · subst e; have := pos_of c hj; omega
              · exact hex ⟨j, oj, hanc j e, hoj, hdj⟩
              · have h1 := c.before j i e
                rw [pos_of c hj, hpip] at h1
                omega
        have both : (∃ v x h' g' w' ds' dl, ((∀ e ∈ pend, (listed.setIfInBounds i true).getD e.1 false = false → ∀ o', ops[e.1]? = some o' → aqg S ops o' e.2.1 h' = some e.2.2) ∧ DRun S fn ops tab k R (ord.drop (p + 1)) pend ds' (fr.put o.dst v) h') ∧ g.le g' ∧ Inv S w0 h' g' w' ∧ Rep g' v x ∧ DefsRep g' ds' dl ∧
            Steps S.P (lone (b.at a (.inRegion ops (i :: Region.linearise.go .any ops fuel t' (listed.setIfInBounds i true) []) :: k)) cs w) (lone (b.at (({ a with defers := dl } : Act).put o.dst x) (.inRegion ops (Region.linearise.go .any ops fuel t' (listed.setIfInBounds i true) []) :: k)) cs w')) ∨
            (∃ v pe h' g' w', Leave S fn (.panicking v) ds [] h' R ∧ g.le g' ∧ Inv S w0 h' g' w' ∧ ModeRep g' (.panicking v) (.panicking [pe]) ∧ Steps S.P (lone (b.at a (.inRegion ops (i :: Region.linearise.go .any ops fuel t' (listed.setIfInBounds i true) []) :: k)) cs w)
              (lone { b.at a (.inRegion ops (i :: Region.linearise.go .any ops fuel t' (listed.setIfInBounds i true) []) :: k) with mode := .panicking [pe] } cs w')) := by
          rcases hrest with ⟨haw, hskip⟩ | ⟨haw, heff⟩
          · refine .inl ⟨.tup [], undef, h, g, w, ds, a.defers, ⟨fun e he hl => ?_, hskip⟩, Ghost.le.refl g, s.inv, .tup rfl (fun i v e => by simp at e), s.defs, ?_⟩
            · rw [hset] at hl
              by_cases e' : e.1 = i
              · rw [if_pos e'] at hl; cases hl
              · rw [if_neg e'] at hl; exact s.stable e he hl
            · have hs := step_op_skip (P := S.P) (b := b) (a := a) (k := k) (cs := cs) (w := w) (ops := ops) (i := i) (rest := Region.linearise.go .any ops fuel t' (listed.setIfInBounds i true) []) (by simp [ho, awanted_slots hslot haw])
              simp only [ho, Option.bind_some] at hs
              exact .one hs
          · rcases eff_sound (b := b) (cs := cs) (l := Region.linearise.go .any ops fuel t' (listed.setIfInBounds i true) []) (k := k) s.inv (fun x hx => rho_rep_slots s.inv x (fun t e => hslot t (mem_slots_of_operand (e ▸ hx)))) s.defs ho (awanted_slots hslot haw) heff with
              ⟨v, x, h', g', w', ds', dl, ⟨hst, hnext⟩, l, inv', hx, hds', hsteps⟩ | ⟨v, pe, h', g', w', hleave, l, inv', hpe, hsteps⟩
            · refine .inl ⟨v, x, h', g', w', ds', dl, ⟨fun e he hl => ?_, hnext⟩, l, inv', hx, hds', hsteps⟩
              rw [hset] at hl
              by_cases e' : e.1 = i
              · rw [if_pos e'] at hl; cases hl
              · rw [if_neg e'] at hl
                rcases hst e he with q | q
                · rw [hanc _ q] at hl; cases hl
                · exact q
            · exact .inr ⟨v, pe, h', g', w', hleave, l, inv', hpe, hsteps⟩
        rcases both with
          ⟨v, x, h', g', w', ds', dl, ⟨hst, hnext⟩, l, inv', hx, hds', hsteps⟩ | ⟨v, pe, h', g', w', hleave, l, inv', hpe, hsteps⟩
        · refine Done.of_steps hsteps ((ih t' _ (p + 1) pend ds' (fr.put o.dst v) h' g' w' _ hcount' ?_ b cs hfn hk).mono l)
          have hneq : ∀ (j : Nat) oj s', ops[j]? = some oj → oj.dst = some s' → j ≠ i → o.dst ≠ some s' := fun j oj s' hj hd hne e => hne (c.dst j i oj o s' hj ho hd e)
          refine ⟨by simp [s.size], hnext, fun q j hq' hj => ?_, fun q j o' hq' hj ho' hqq => ?_, fun q j o' hq' hj ho' hqq => ?_, fun e he hl o' ho' => ?_, fun s' => ?_, fun s' hs' => ?_, hclosed', inv', ?_, by rw [put_dst_defers]; exact hds'⟩
          · rw [hset, if_neg (fun e => by subst e; have := pos_of c hj; omega)]
            exact s.todo q j (by omega) hj
          · rw [hset]
            by_cases e : j = i
            · rw [if_pos e]
            · rw [if_neg e]
              refine s.effDone q j o' ?_ hj ho' hqq
              rcases Nat.lt_or_ge q p with r | r
              · exact r
              · have : q = p := by omega
                subst this
                rw [hpi] at hj; cases hj; exact absurd rfl e
          · have hqp : q < p := by
              rcases Nat.lt_or_ge q p with r | r
              · exact r
              · have : q = p := by omega
                subst this
                rw [hpi] at hj; cases hj
                rw [ho] at ho'; cases ho'
                rw [hq] at hqq; cases hqq
            obtain ⟨fri, v', h1, h0, h2, h3⟩ := s.acc q j o' hqp hj ho' hqq
            have hji : j ≠ i := fun e' => by subst e'; have := pos_of c hj; omega
            refine ⟨fri, v', h1, h0, fun d hd => by rw [get_put_ne (hneq j o' d ho' hd hji)]; exact h2 d hd, fun s' hs' => ?_⟩
            rw [h3 s' hs']
            by_cases hex : ∃ j' oj, j' ∈ tab.getD j [] ∧ ops[j']? = some oj ∧ oj.dst = some s'
            · rw [if_pos hex, if_pos hex]
              obtain ⟨j', oj, hj', hoj, hdj⟩ := hex
              have hne : j' ≠ i := fun e' => by
                subst e'
                have h4 := c.before j j' hj'
                rw [hpip, pos_of c hj] at h4
                omega
              rw [get_put_ne (hneq j' oj s' hoj hdj hne)]
            · rw [if_neg hex, if_neg hex]
          · exact hst e he hl o' ho'
          · have h1 := slot_new' (dl := dl) c s ho hset hdst l hx s'
            exact h1
          · rw [get_put_ne (hs' p i o (by omega) hpi ho)]
            exact s.untouched s' (fun q j oj hq2 hj hoj => hs' q j oj (by omega) hj hoj)
          · have := s.tmps
            cases hd : o.dst with
            | none => exact this
            | some d => simp [Act.put, this]
        · exact Done.of_steps hsteps ((hleave w0 g' w' { b.at a (.inRegion ops (i :: Region.linearise.go .any ops fuel t' (listed.setIfInBounds i true) []) :: k) with mode := .panicking [pe] } cs inv' ⟨s.tmps, fun _ => .top _⟩ (s.defs.mono l) hfn hk hpe).mono l)

/-- A region in drawn order. -/
theorem Run.draw {id : Nat} {ds : List ADef} {fr : Fr} {h : AHeap} (hc : drawCheck ops ord tab = true) (hr : DRun S fn ops tab k R ord [] ds fr h) : Run S fn (.code (.region id ops true) :: k) ds fr h R := by
  intro w0 g w a b cs inv hf hds hfn hk
  have c := drawCheck_ok hc
  refine Done.of_step step_region_draw ?_
  simp only [Region.schedule, S.mixed, Bool.true_or, if_true]
  unfold Region.linearise
  have hrep : ∀ j, (Array.replicate ops.size false).getD j false = false := fun j => by
    simp only [Array.getD_eq_getD_getElem?, Array.getElem?_replicate]
    split <;> rfl
  refine Sim.go (fr0 := fr) c ops.size _ _ 0 [] ds fr h g { w with drawn := w.drawn + 1 } a ?_ ⟨by simp, by simpa using hr, fun q i _ _ => hrep i, fun q i o hq => absurd hq (Nat.not_lt_zero _), fun q i o hq => absurd hq (Nat.not_lt_zero _), fun x hx => by simp at hx, fun s => ?_, fun s _ => rfl, fun i o e hl => ?_, inv.same (w' := { w with drawn := w.drawn + 1 }) rfl rfl rfl rfl, hf.1, hds⟩ b cs hfn hk
  · exact Nat.le_trans (List.length_filter_le _ _) (by simp)
  · have : (if (∃ j oj, (Array.replicate ops.size false).getD j false = true ∧ ops[j]? = some oj ∧ oj.dst = some s) then fr.get s else fr.get s) = fr.get s := by split <;> rfl
    rw [this]
    exact hf.2 s
  · rw [hrep] at hl; cases hl
end
end Go.Proofs.YtajknofacjiddaaDoor.Abs

/- A run reckoned as far as it goes without a loop, a call or a drawn region. -/
namespace Go.Proofs.YtajknofacjiddaaDoor.Abs
open Go Go.RowKit
set_option linter.unusedVariables false
set_option linter.unusedSimpArgs false

/-- What stands next wants a law of its own. -/
def Stop (S : Seat) (fn : Func) (R : Post) (k : List Item) (ds : List ADef) (fr : Fr) (h : AHeap) : Prop := Run S fn k ds fr h R
def isLeaf : Op → Bool
  | .call { callee := .value _, .. } | .defer _ | .panic _ | .next .. | .entry _ => true
  | _ => false

abbrev EvT := List Item → List ADef → Fr → AHeap → Prop
def EvC (E : EvT) : AV → Code → Code → List Item → List ADef → Fr → AHeap → Prop
  | .bool t, x, y, k, ds, fr, h => (t = true → E (.code x :: k) ds fr h) ∧ (t = false → E (.code y :: k) ds fr h)
  | _, _, _, _, _, _, _ => False
def EvX (E : EvT) : Option (List Item) → List ADef → Fr → AHeap → Prop
  | some k, ds, fr, h => E k ds fr h
  | none, _, _, _ => False
def EvQ (E : EvT) : Option AV → Option Nat → Array Oper → List Nat → List Item → List ADef → Fr → AHeap → Prop
  | some v, dst, ops, l, k, ds, fr, h => E (.inRegion ops l :: k) ds (fr.put dst v) h
  | none, _, _, _, _, _, _, _ => False
def EvE (E : EvT) : Option (AV × AHeap) → Option Nat → Array Oper → List Nat → List Item → List ADef → Fr → Prop
  | some (v, h), dst, ops, l, k, ds, fr => E (.inRegion ops l :: k) ds (fr.put dst v) h
  | none, _, _, _, _, _, _ => False
def EvD (S : Seat) (fn : Func) (R : Post) (E : EvT) (o : Oper) (ops : Array Oper) (i : Nat) (l : List Nat) (k : List Item) (ds : List ADef) (fr : Fr) (h : AHeap) : Prop :=
  match isLeaf o.op, quietOp o.op with
  | true, _ => Stop S fn R (.inRegion ops (i :: l) :: k) ds fr h
  | false, true => EvQ E (aq S o.op (rho S fr.get) h) o.dst ops l k ds fr h
  | false, false => EvE E (ae S o.op (rho S fr.get) h) o.dst ops l k ds fr
def EvG (S : Seat) (fn : Func) (R : Post) (E : EvT) : Option AV → Bool → Oper → Array Oper → Nat → List Nat → List Item → List ADef → Fr → AHeap → Prop
  | some (.bool b), want, o, ops, i, l, k, ds, fr, h => (b = want → EvD S fn R E o ops i l k ds fr h) ∧ (b = !want → E (.inRegion ops l :: k) ds (fr.put o.dst (.tup [])) h)
  | some (.tup _), want, o, ops, i, l, k, ds, fr, h => E (.inRegion ops l :: k) ds (fr.put o.dst (.tup [])) h
  | _, _, _, _, _, _, _, _, _, _ => False
def EvO (S : Seat) (fn : Func) (R : Post) (E : EvT) : Option Oper → Array Oper → Nat → List Nat → List Item → List ADef → Fr → AHeap → Prop
  | some o, ops, i, l, k, ds, fr, h => dstOk fn.ntmps o.dst = true ∧ (match o.guard with
    | none => EvD S fn R E o ops i l k ds fr h
    | some (j, want) => EvG S fn R E (((ops[j]?).bind (·.dst)).map fr.get) want o ops i l k ds fr h)
  | none, _, _, _, _, _, _, _ => False
def Ev (S : Seat) (fn : Func) (R : Post) : Nat → List Item → List ADef → Fr → AHeap → Prop
  | 0, k, ds, fr, h => Stop S fn R k ds fr h
  | n + 1, k, ds, fr, h => match k with
    | [] => Leave S fn .returning ds fr h R
    | .code (.seq a b) :: k => Ev S fn R n (.code a :: .code b :: k) ds fr h
    | .code .skip :: k => Ev S fn R n k ds fr h
    | .code (.cond c x y) :: k => EvC (Ev S fn R n) (rho S fr.get c) x y k ds fr h
    | .code (.block id c) :: k => Ev S fn R n (.code c :: .inBlock id :: k) ds fr h
    | .inBlock id :: k => Ev S fn R n k ds fr h
    | .code (.exit id) :: k => EvX (Ev S fn R n) (exitTo id k) ds fr h
    | .code .ret :: k => Leave S fn .returning ds fr h R
    | .code (.region _ ops false) :: k => Ev S fn R n (.inRegion ops (List.range ops.size) :: k) ds fr h
    | .inRegion ops [] :: k => Ev S fn R n k ds fr h
    | .inRegion ops (i :: l) :: k => EvO S fn R (Ev S fn R n) ops[i]? ops i l k ds fr h
    | x :: k => Stop S fn R (x :: k) ds fr h

section
variable {S : Seat} {fn : Func} {R : Post} {E : EvT} {k : List Item} {ds : List ADef} {fr : Fr} {h : AHeap}
theorem EvD.sound (ih : ∀ k ds fr h, E k ds fr h → Run S fn k ds fr h R) {o : Oper} {ops : Array Oper} {i : Nat} {l : List Nat} (ho : ops[i]? = some o) (hd : dstOk fn.ntmps o.dst = true) (hw : awanted ops o fr.get = some true)
    (e : EvD S fn R E o ops i l k ds fr h) : Run S fn (.inRegion ops (i :: l) :: k) ds fr h R := by
  unfold EvD at e
  cases hl : isLeaf o.op with
  | true => rw [hl] at e; exact e
  | false =>
    cases hq : quietOp o.op with
    | true =>
      rw [hl, hq] at e
      cases hv : aq S o.op (rho S fr.get) h with
      | none => rw [hv] at e; exact e.elim
      | some v => rw [hv] at e; exact Run.opQ ho hw hd hv (ih _ _ _ _ e)
    | false =>
      rw [hl, hq] at e
      cases hv : ae S o.op (rho S fr.get) h with
      | none => rw [hv] at e; exact e.elim
      | some p => obtain ⟨v, h'⟩ := p; rw [hv] at e; exact Run.opE ho hw hd hv (ih _ _ _ _ e)
theorem EvO.sound (ih : ∀ k ds fr h, E k ds fr h → Run S fn k ds fr h R) {x : Option Oper} {ops : Array Oper} {i : Nat} {l : List Nat} (hx : ops[i]? = x) (e : EvO S fn R E x ops i l k ds fr h) : Run S fn (.inRegion ops (i :: l) :: k) ds fr h R := by
  cases x with
  | none => exact e.elim
  | some o =>
    obtain ⟨hd, e⟩ := e
    cases hg : o.guard with
    | none =>
      rw [hg] at e
      exact EvD.sound ih hx hd (by unfold awanted; rw [hg]) e
    | some p =>
      obtain ⟨j, want⟩ := p
      rw [hg] at e
      simp only at e
      cases hb : ((ops[j]?).bind (·.dst)).map fr.get with
      | none => rw [hb] at e; exact e.elim
      | some v =>
        rw [hb] at e
        cases v <;> simp only [EvG] at e
        case tup cs =>
          refine Run.opSkip hx ?_ hd (ih _ _ _ _ e)
          unfold awanted
          rw [hg]
          simp only
          cases ht : (ops[j]?).bind (·.dst) with
          | none => rw [ht] at hb; cases hb
          | some t =>
            rw [ht] at hb
            simp only [Option.map_some, Option.some.injEq] at hb
            simp only [hb]
        rename_i b
        have haw : awanted ops o fr.get = some (b == want) := by
          unfold awanted
          rw [hg]
          simp only
          cases ht : (ops[j]?).bind (·.dst) with
          | none => rw [ht] at hb; cases hb
          | some t =>
            rw [ht] at hb
            simp only [Option.map_some, Option.some.injEq] at hb
            simp only [hb]
        by_cases q : b = want
        · exact EvD.sound ih hx hd (by rw [haw, q]; simp) (e.1 q)
        · refine Run.opSkip hx ?_ hd (ih _ _ _ _ (e.2 ?_))
          · rw [haw]; simp [q]
          · cases b <;> cases want <;> simp_all
theorem EvC.sound (ih : ∀ k ds fr h, E k ds fr h → Run S fn k ds fr h R) {c : Operand} {x y : Code} (e : EvC E (rho S fr.get c) x y k ds fr h) : Run S fn (.code (.cond c x y) :: k) ds fr h R := by
  cases hc : rho S fr.get c <;> rw [hc] at e <;> simp only [EvC] at e
  exact Run.cond hc (fun ht => ih _ _ _ _ (e.1 ht)) (fun ht => ih _ _ _ _ (e.2 ht))
theorem EvX.sound (ih : ∀ k ds fr h, E k ds fr h → Run S fn k ds fr h R) {id : Nat} (e : EvX E (exitTo id k) ds fr h) : Run S fn (.code (.exit id) :: k) ds fr h R := by
  cases hk : exitTo id k with
  | none => rw [hk] at e; exact e.elim
  | some k' => rw [hk] at e; exact Run.exit hk (ih _ _ _ _ e)
end
theorem Ev.sound {S : Seat} {fn : Func} {R : Post} : ∀ (n : Nat) (k : List Item) (ds : List ADef) (fr : Fr) (h : AHeap), Ev S fn R n k ds fr h → Run S fn k ds fr h R := by
  intro n
  induction n with
  | zero => intro k ds fr h e; exact e
  | succ n ih =>
    intro k ds fr h e
    unfold Ev at e
    split at e
    · exact Run.nil e
    · exact Run.seq (ih _ _ _ _ e)
    · exact Run.skip (ih _ _ _ _ e)
    · exact EvC.sound ih e
    · exact Run.block (ih _ _ _ _ e)
    · exact Run.inBlock (ih _ _ _ _ e)
    · exact EvX.sound ih e
    · exact Run.ret e
    · exact Run.region (ih _ _ _ _ e)
    · exact Run.regionEnd (ih _ _ _ _ e)
    · exact EvO.sound ih rfl e
    · exact e


/-! Rules for the reckoning -/
section
variable {S : Seat} {fn : Func} {R : Post} {E : EvT} {n : Nat} {k : List Item} {ds : List ADef} {fr : Fr} {h : AHeap}
theorem ev_seq (a b : Code) : Ev S fn R (n + 1) (.code (.seq a b) :: k) ds fr h = Ev S fn R n (.code a :: .code b :: k) ds fr h := rfl
theorem ev_skip : Ev S fn R (n + 1) (.code .skip :: k) ds fr h = Ev S fn R n k ds fr h := rfl
theorem ev_cond (c : Operand) (x y : Code) : Ev S fn R (n + 1) (.code (.cond c x y) :: k) ds fr h = EvC (Ev S fn R n) (rho S fr.get c) x y k ds fr h := rfl
theorem ev_block (id : Nat) (c : Code) : Ev S fn R (n + 1) (.code (.block id c) :: k) ds fr h = Ev S fn R n (.code c :: .inBlock id :: k) ds fr h := rfl
theorem ev_inBlock (id : Nat) : Ev S fn R (n + 1) (.inBlock id :: k) ds fr h = Ev S fn R n k ds fr h := rfl
theorem ev_exit (id : Nat) : Ev S fn R (n + 1) (.code (.exit id) :: k) ds fr h = EvX (Ev S fn R n) (exitTo id k) ds fr h := rfl
theorem ev_ret : Ev S fn R (n + 1) (.code .ret :: k) ds fr h = Leave S fn .returning ds fr h R := rfl
theorem ev_nil : Ev S fn R (n + 1) [] ds fr h = Leave S fn .returning ds fr h R := rfl
theorem ev_region (id : Nat) (l : List Oper) : Ev S fn R (n + 1) (.code (.region id ⟨l⟩ false) :: k) ds fr h = Ev S fn R n (.inRegion ⟨l⟩ (List.range l.length) :: k) ds fr h := rfl
theorem ev_draw (id : Nat) (ops : Array Oper) : Ev S fn R (n + 1) (.code (.region id ops true) :: k) ds fr h = Stop S fn R (.code (.region id ops true) :: k) ds fr h := rfl
theorem ev_loop (c : Code) : Ev S fn R (n + 1) (.code (.loop c) :: k) ds fr h = Stop S fn R (.code (.loop c) :: k) ds fr h := rfl
theorem ev_inLoop (c : Code) : Ev S fn R (n + 1) (.inLoop c :: k) ds fr h = Stop S fn R (.inLoop c :: k) ds fr h := rfl
theorem ev_regionEnd (ops : Array Oper) : Ev S fn R (n + 1) (.inRegion ops [] :: k) ds fr h = Ev S fn R n k ds fr h := rfl
theorem ev_op (ops : List Oper) (i : Nat) (l : List Nat) : Ev S fn R (n + 1) (.inRegion ⟨ops⟩ (i :: l) :: k) ds fr h = EvO S fn R (Ev S fn R n) ops[i]? ⟨ops⟩ i l k ds fr h := by
  show EvO S fn R (Ev S fn R n) (⟨ops⟩ : Array Oper)[i]? ⟨ops⟩ i l k ds fr h = _
  rw [List.getElem?_toArray]
theorem evc_bool (t : Bool) (x y : Code) : EvC E (.bool t) x y k ds fr h = ((t = true → E (.code x :: k) ds fr h) ∧ (t = false → E (.code y :: k) ds fr h)) := rfl
theorem evx_some : EvX E (some k) ds fr h = E k ds fr h := rfl
theorem evq_some (v : AV) (dst : Option Nat) (ops : Array Oper) (l : List Nat) : EvQ E (some v) dst ops l k ds fr h = E (.inRegion ops l :: k) ds (fr.put dst v) h := rfl
theorem evq_ite (c : Prop) [Decidable c] (a : Option AV) (dst : Option Nat) (ops : Array Oper) (l : List Nat) : EvQ E (if c then a else none) dst ops l k ds fr h = (c ∧ EvQ E a dst ops l k ds fr h) := by
  by_cases q : c
  · simp [q]
  · simp [q, EvQ]
theorem evq_ite' (c : Prop) [Decidable c] (a : Option AV) (dst : Option Nat) (ops : Array Oper) (l : List Nat) : EvQ E (if c then none else a) dst ops l k ds fr h = (¬ c ∧ EvQ E a dst ops l k ds fr h) := by
  by_cases q : c
  · simp [q, EvQ]
  · simp [q]
theorem eve_some (v : AV) (h' : AHeap) (dst : Option Nat) (ops : Array Oper) (l : List Nat) : EvE E (some (v, h')) dst ops l k ds fr = E (.inRegion ops l :: k) ds (fr.put dst v) h' := rfl
theorem eve_ite (c : Prop) [Decidable c] (a : Option (AV × AHeap)) (dst : Option Nat) (ops : Array Oper) (l : List Nat) : EvE E (if c then a else none) dst ops l k ds fr = (c ∧ EvE E a dst ops l k ds fr) := by
  by_cases q : c
  · simp [q]
  · simp [q, EvE]
theorem evo_some (d : Option Nat) (op : Op) (ty : Nat) (pos : String) (af : Array Edge) (ops : Array Oper) (i : Nat) (l : List Nat) :
    EvO S fn R E (some ⟨d, op, ty, pos, af, none⟩) ops i l k ds fr h = (dstOk fn.ntmps d = true ∧ EvD S fn R E ⟨d, op, ty, pos, af, none⟩ ops i l k ds fr h) := rfl
theorem evo_guard (d : Option Nat) (op : Op) (ty : Nat) (pos : String) (af : Array Edge) (j : Nat) (want : Bool) (ops : List Oper) (i : Nat) (l : List Nat) :
    EvO S fn R E (some ⟨d, op, ty, pos, af, some (j, want)⟩) ⟨ops⟩ i l k ds fr h = (dstOk fn.ntmps d = true ∧ EvG S fn R E (((ops[j]?).bind (·.dst)).map fr.get) want ⟨d, op, ty, pos, af, some (j, want)⟩ ⟨ops⟩ i l k ds fr h) := by
  show (_ ∧ EvG S fn R E ((((⟨ops⟩ : Array Oper)[j]?).bind (·.dst)).map fr.get) want _ ⟨ops⟩ i l k ds fr h) = _
  rw [List.getElem?_toArray]
theorem evg_bool (b want : Bool) (o : Oper) (ops : Array Oper) (i : Nat) (l : List Nat) : EvG S fn R E (some (.bool b)) want o ops i l k ds fr h = ((b = want → EvD S fn R E o ops i l k ds fr h) ∧ (b = !want → E (.inRegion ops l :: k) ds (fr.put o.dst (.tup [])) h)) := rfl
theorem evg_tup (cs : List AV) (want : Bool) (o : Oper) (ops : Array Oper) (i : Nat) (l : List Nat) : EvG S fn R E (some (.tup cs)) want o ops i l k ds fr h = E (.inRegion ops l :: k) ds (fr.put o.dst (.tup [])) h := rfl
variable (d : Option Nat) (ty : Nat) (pos : String) (af : Array Edge) (gd : Option (Nat × Bool)) (ops : Array Oper) (i : Nat) (l : List Nat)
theorem evd_move (x : Operand) : EvD S fn R E ⟨d, .move x, ty, pos, af, gd⟩ ops i l k ds fr h = E (.inRegion ops l :: k) ds (fr.put d (rho S fr.get x)) h := rfl
theorem evd_assign (x : Operand) : EvD S fn R E ⟨d, .assign x, ty, pos, af, gd⟩ ops i l k ds fr h = E (.inRegion ops l :: k) ds (fr.put d (rho S fr.get x)) h := rfl
def apickO (c a b : AV) : Option AV := match c with | .bool t => some (apick t a b) | _ => none
theorem evd_pick (c a b : Operand) : EvD S fn R E ⟨d, .pick c a b, ty, pos, af, gd⟩ ops i l k ds fr h = EvQ E (apickO (rho S fr.get c) (rho S fr.get a) (rho S fr.get b)) d ops l k ds fr h := rfl
theorem evd_load (t : Nat) (a : Operand) : EvD S fn R E ⟨d, .load t a, ty, pos, af, gd⟩ ops i l k ds fr h = EvQ E (aload S t (rho S fr.get a) h) d ops l k ds fr h := rfl
theorem evd_nilCheck (x : Operand) : EvD S fn R E ⟨d, .nilCheck x, ty, pos, af, gd⟩ ops i l k ds fr h = EvQ E (anilCheck (rho S fr.get x)) d ops l k ds fr h := rfl
theorem evd_binOp (op : BinOp) (t : Nat) (x y : Operand) (yt : Nat) : EvD S fn R E ⟨d, .binOp op t x y yt, ty, pos, af, gd⟩ ops i l k ds fr h = EvQ E (abin S op t (rho S fr.get x) (rho S fr.get y)) d ops l k ds fr h := rfl
theorem evd_unOp (op : UnOp) (t : Nat) (x : Operand) : EvD S fn R E ⟨d, .unOp op t x, ty, pos, af, gd⟩ ops i l k ds fr h = EvQ E (aun op (rho S fr.get x)) d ops l k ds fr h := rfl
theorem evd_convert (s t : Nat) (x : Operand) : EvD S fn R E ⟨d, .convert s t x, ty, pos, af, gd⟩ ops i l k ds fr h = EvQ E (aconvert S s t (rho S fr.get x)) d ops l k ds fr h := rfl
theorem evd_makeFunc (f : Nat) (caps : List Operand) : EvD S fn R E ⟨d, .makeFunc (.func f) ⟨[]⟩ ⟨caps⟩, ty, pos, af, gd⟩ ops i l k ds fr h = E (.inRegion ops l :: k) ds (fr.put d (.func f (caps.map (rho S fr.get)))) h := rfl
theorem evd_makeIface (t : Nat) (x : Operand) : EvD S fn R E ⟨d, .makeInterface t x, ty, pos, af, gd⟩ ops i l k ds fr h = EvQ E (amakeIface S t (rho S fr.get x)) d ops l k ds fr h := rfl
theorem evd_fieldAddr (s : Nat) (x : Operand) (f : Nat) : EvD S fn R E ⟨d, .fieldAddr s x f, ty, pos, af, gd⟩ ops i l k ds fr h = EvQ E (afieldAddr S s (rho S fr.get x) f) d ops l k ds fr h := rfl
theorem evd_field (s : Nat) (x : Operand) (f : Nat) : EvD S fn R E ⟨d, .field s x f, ty, pos, af, gd⟩ ops i l k ds fr h = EvQ E (afield S s (rho S fr.get x) f) d ops l k ds fr h := rfl
theorem evd_indexAddr (t : Nat) (x y : Operand) : EvD S fn R E ⟨d, .indexAddr t x y, ty, pos, af, gd⟩ ops i l k ds fr h = EvQ E (aindexAddr S t (rho S fr.get x) (rho S fr.get y)) d ops l k ds fr h := rfl
theorem evd_index (t : Nat) (x y : Operand) : EvD S fn R E ⟨d, .index t x y, ty, pos, af, gd⟩ ops i l k ds fr h = EvQ E (aindex S t (rho S fr.get x) (rho S fr.get y)) d ops l k ds fr h := rfl
theorem evd_lookup (t : Nat) (x y : Operand) (ok : Bool) : EvD S fn R E ⟨d, .lookup t x y ok, ty, pos, af, gd⟩ ops i l k ds fr h = EvQ E (alookup S t (rho S fr.get x) (rho S fr.get y) ok h) d ops l k ds fr h := rfl
theorem evd_extract (x : Operand) (j : Nat) : EvD S fn R E ⟨d, .extract x j, ty, pos, af, gd⟩ ops i l k ds fr h = EvQ E (aextract (rho S fr.get x) j) d ops l k ds fr h := rfl
theorem evd_slice (t : Nat) (x : Operand) (lo hi mx : Option Operand) : EvD S fn R E ⟨d, .slice t x lo hi mx, ty, pos, af, gd⟩ ops i l k ds fr h = EvQ E (aslice S t (rho S fr.get x) (lo.map (rho S fr.get)) (hi.map (rho S fr.get)) (mx.map (rho S fr.get))) d ops l k ds fr h := rfl
theorem evd_build (t : Nat) (ps : List (Nat × Operand)) : EvD S fn R E ⟨d, .build t ⟨ps⟩, ty, pos, af, gd⟩ ops i l k ds fr h = EvQ E (abuild S t (ps.map fun p => (p.1, rho S fr.get p.2))) d ops l k ds fr h := rfl
theorem evd_buildSlice (t n : Nat) (ps : List (Nat × Operand)) : EvD S fn R E ⟨d, .buildSlice t n ⟨ps⟩, ty, pos, af, gd⟩ ops i l k ds fr h = EvQ E (abuildSlice S t n (ps.map fun p => (p.1, rho S fr.get p.2))) d ops l k ds fr h := rfl
theorem evd_len (args : List Operand) (ts : List Nat) : EvD S fn R E ⟨d, .call ⟨.builtin .len, ⟨args⟩, ⟨ts⟩⟩, ty, pos, af, gd⟩ ops i l k ds fr h = EvQ E (abuiltin S .len ⟨ts⟩ (args.map (rho S fr.get)) h) d ops l k ds fr h := rfl
theorem evd_max (args : List Operand) (ts : Array Nat) : EvD S fn R E ⟨d, .call ⟨.builtin .max, ⟨args⟩, ts⟩, ty, pos, af, gd⟩ ops i l k ds fr h = EvQ E (amm true (args.map (rho S fr.get))) d ops l k ds fr h := rfl
theorem evd_min (args : List Operand) (ts : Array Nat) : EvD S fn R E ⟨d, .call ⟨.builtin .min, ⟨args⟩, ts⟩, ty, pos, af, gd⟩ ops i l k ds fr h = EvQ E (amm false (args.map (rho S fr.get))) d ops l k ds fr h := rfl
theorem evd_alloc (t : Nat) : EvD S fn R E ⟨d, .alloc t, ty, pos, af, gd⟩ ops i l k ds fr h = EvE E (aalloc S t h) d ops l k ds fr := rfl
theorem evd_box (t : Nat) (x : Operand) : EvD S fn R E ⟨d, .box t x, ty, pos, af, gd⟩ ops i l k ds fr h = EvE E (abox (rho S fr.get x) h) d ops l k ds fr := rfl
theorem evd_makeMap (t : Nat) (r : Option Operand) : EvD S fn R E ⟨d, .makeMap t r, ty, pos, af, gd⟩ ops i l k ds fr h = EvE E (amakeMap S t (r.map (rho S fr.get)) h) d ops l k ds fr := rfl
theorem evd_makeSlice (t : Nat) (x y : Operand) : EvD S fn R E ⟨d, .makeSlice t x y, ty, pos, af, gd⟩ ops i l k ds fr h = EvE E (amakeSlice S t (rho S fr.get x) (rho S fr.get y) h) d ops l k ds fr := rfl
def justH : Option AHeap → Option (AV × AHeap)
  | some h => some (.top, h)
  | none => none
def justT : Option AHeap → Option (AV × AHeap)
  | some h => some (.tup [], h)
  | none => none
theorem justH_eq (x : Option AHeap) : x.map (fun h' => (AV.top, h')) = justH x := by cases x <;> rfl
theorem justT_eq (x : Option AHeap) : x.map (fun h' => (AV.tup [], h')) = justT x := by cases x <;> rfl
theorem evd_store (t : Nat) (x y : Operand) : EvD S fn R E ⟨d, .store t x y, ty, pos, af, gd⟩ ops i l k ds fr h = EvE E (justH (astore S t (rho S fr.get x) (rho S fr.get y) h)) d ops l k ds fr := by
  rw [← justH_eq]; rfl
theorem evd_mapUpdate (t : Nat) (m x y : Operand) : EvD S fn R E ⟨d, .mapUpdate t m x y, ty, pos, af, gd⟩ ops i l k ds fr h = EvE E (justH (amapUpdate S t (rho S fr.get m) (rho S fr.get x) (rho S fr.get y) h)) d ops l k ds fr := by
  rw [← justH_eq]; rfl
theorem evd_insert (t : Nat) (m x y : Operand) : EvD S fn R E ⟨d, .insert t m x y, ty, pos, af, gd⟩ ops i l k ds fr h = EvE E (justH (amapUpdate S t (rho S fr.get m) (rho S fr.get x) (rho S fr.get y) h)) d ops l k ds fr := by
  rw [← justH_eq]; rfl
theorem evd_range (t : Nat) (x : Operand) : EvD S fn R E ⟨d, .range t x, ty, pos, af, gd⟩ ops i l k ds fr h = EvE E (arange S t (rho S fr.get x) h) d ops l k ds fr := rfl
theorem evd_append (x y : Operand) (ts : Array Nat) : EvD S fn R E ⟨d, .call ⟨.builtin .append, ⟨[x, y]⟩, ts⟩, ty, pos, af, gd⟩ ops i l k ds fr h = EvE E (aappend S ts (rho S fr.get x) (rho S fr.get y) h) d ops l k ds fr := rfl
theorem evd_delete (x y : Operand) (ts : List Nat) : EvD S fn R E ⟨d, .call ⟨.builtin .delete, ⟨[x, y]⟩, ⟨ts⟩⟩, ty, pos, af, gd⟩ ops i l k ds fr h = EvE E (justT (adelete S ts[0]? (rho S fr.get x) (rho S fr.get y) h)) d ops l k ds fr := by
  rw [← justT_eq, ← List.getElem?_toArray]; rfl
theorem evd_call (f : Operand) (args : Array Operand) (ts : Array Nat) : EvD S fn R E ⟨d, .call ⟨.value f, args, ts⟩, ty, pos, af, gd⟩ ops i l k ds fr h = Stop S fn R (.inRegion ops (i :: l) :: k) ds fr h := rfl
theorem evd_defer (c : Call) : EvD S fn R E ⟨d, .defer c, ty, pos, af, gd⟩ ops i l k ds fr h = Stop S fn R (.inRegion ops (i :: l) :: k) ds fr h := rfl
theorem evd_panic (x : Operand) : EvD S fn R E ⟨d, .panic x, ty, pos, af, gd⟩ ops i l k ds fr h = Stop S fn R (.inRegion ops (i :: l) :: k) ds fr h := rfl
theorem evd_next (x : Operand) (b : Bool) : EvD S fn R E ⟨d, .next x b, ty, pos, af, gd⟩ ops i l k ds fr h = Stop S fn R (.inRegion ops (i :: l) :: k) ds fr h := rfl
end
theorem rho_tmp (S : Seat) (fr : Nat → AV) (t : Nat) : rho S fr (.tmp t) = fr t := rfl
theorem rho_const (S : Seat) (fr : Nat → AV) (v : Value) : rho S fr (.const v) = ofValue v := rfl
theorem rho_func (S : Seat) (fr : Nat → AV) (f : Nat) : rho S fr (.func f) = .func f [] := rfl
theorem ofV_int (k : IntKind) (n : Int) : ofValue (.int k n) = .int k n := rfl
theorem ofV_bool (b : Bool) : ofValue (.bool b) = .bool b := rfl
theorem ofV_str (s : ByteArray) : ofValue (.string s) = .str s := rfl
theorem ofV_nilptr : ofValue (.pointer none) = .nilptr := rfl
theorem ofV_nilslice : ofValue (.slice none 0 0) = .slice 0 [] .fixed := rfl
theorem ofV_nilmap : ofValue (.map none) = .nilmap := rfl
theorem ofV_nilfunc : ofValue .nilFunc = .nilfunc := rfl
theorem ofV_niliface : ofValue .nilIface = .niliface := rfl
theorem get_cons (i j : Nat) (v : AV) (fr : Fr) : Fr.get ((i, v) :: fr) j = if i = j then v else Fr.get fr j := rfl
theorem put_some (fr : Fr) (d : Nat) (v : AV) : Fr.put fr (some d) v = (d, v) :: fr := rfl
theorem put_none (fr : Fr) (v : AV) : Fr.put fr none v = fr := rfl
theorem dstOk_some (n d : Nat) : (dstOk n (some d) = true) = (d < n) := by simp [dstOk]
theorem dstOk_none (n : Nat) : (dstOk n none = true) = True := by simp [dstOk]
theorem exitTo_same (id : Nat) (k : List Item) : exitTo id (.inBlock id :: k) = some k := by simp [exitTo]
theorem exitTo_block (id j : Nat) (k : List Item) : exitTo id (.inBlock j :: k) = if j = id then some k else exitTo id k := by
  simp only [exitTo, beq_iff_eq]
theorem exitTo_loop (id : Nat) (c : Code) (k : List Item) : exitTo id (.inLoop c :: k) = exitTo id k := rfl
theorem exitTo_code (id : Nat) (c : Code) (k : List Item) : exitTo id (.code c :: k) = exitTo id k := rfl
theorem exitTo_region (id : Nat) (ops : Array Oper) (l : List Nat) (k : List Item) : exitTo id (.inRegion ops l :: k) = exitTo id k := rfl

theorem Leave.of {S : Seat} {fn : Func} {fr : Fr} {h : AHeap} {R : Post} (e : match aresults S fn fr h fn.results.toList with | some vs => R (.ret (oneOf vs)) h | none => False) : Leave S fn .returning [] fr h R := by
  cases hr : aresults S fn fr h fn.results.toList with
  | none => rw [hr] at e; exact e.elim
  | some vs => rw [hr] at e; exact Leave.ret hr e

/-- A heap that has only been added to. -/
structure Ext (h h' : AHeap) : Prop where
  next : h.next ≤ h'.next
  ntok : h.ntok ≤ h'.ntok
  get : ∀ id, id < h.next → h'.get id = h.get id
  tok : ∀ t, t < h.ntok → h'.tok t = h.tok t
theorem Ext.refl (h : AHeap) : Ext h h := ⟨Nat.le_refl _, Nat.le_refl _, fun _ _ => rfl, fun _ _ => rfl⟩
theorem Ext.trans {a b c : AHeap} (x : Ext a b) (y : Ext b c) : Ext a c :=
  ⟨Nat.le_trans x.next y.next, Nat.le_trans x.ntok y.ntok, fun id h => (y.get id (Nat.lt_of_lt_of_le h x.next)).trans (x.get id h), fun t h => (y.tok t (Nat.lt_of_lt_of_le h x.ntok)).trans (x.tok t h)⟩
theorem Ext.alloc {a b : AHeap} (x : Ext a b) (o : AObj) : Ext a (b.alloc o) :=
  ⟨by rw [next_alloc]; exact Nat.le_succ_of_le x.next, x.ntok, fun id h => by rw [get_alloc, if_neg (by have := x.next; omega)]; exact x.get id h, x.tok⟩
theorem Ext.newTok {a b : AHeap} (x : Ext a b) (n : Nat) : Ext a (b.newTok n) :=
  ⟨x.next, by rw [ntok_newTok]; exact Nat.le_succ_of_le x.ntok, x.get, fun t h => by rw [tok_newTok, if_neg (by have := x.ntok; omega)]; exact x.tok t h⟩
theorem Ext.set {a b : AHeap} (x : Ext a b) {id : Nat} (hid : a.next ≤ id) (o : AObj) : Ext a (b.set id o) :=
  ⟨by rw [next_set]; exact x.next, x.ntok, fun i h => by rw [get_set, if_neg (by omega)]; exact x.get i h, x.tok⟩
theorem Ext.setTok {a b : AHeap} (x : Ext a b) {t : Nat} (ht : a.ntok ≤ t) (n : Nat) : Ext a (b.setTok t n) :=
  ⟨x.next, by rw [ntok_setTok]; exact x.ntok, x.get, fun i h => by rw [tok_setTok, if_neg (by omega)]; exact x.tok i h⟩
theorem Ext.trim {h h' : AHeap} (x : Ext h h') : Trim h h' h :=
  ⟨Nat.le_refl _, Nat.le_refl _, x.ntok, fun t ht => (x.tok t ht).symm, fun id o ho => ⟨by rw [x.get id (get_lt h id ho)]; exact ho, .inl ho⟩⟩
/-- The end of a call that leaves the heap as it was. -/
theorem Dropped.same {h h' : AHeap} {R : Post} {r : AEnd} (x : Ext h h') (hok : r.val.ok h.next h.ntok = true) (hR : R r h) : Dropped h R r h' := ⟨h, x.trim, hok, hR⟩

/-! Loops -/
theorem fr_sub {f g : Fr} (h : ∀ p ∈ f, g.get p.1 = p.2) : ∀ s, f.get s = g.get s ∨ f.get s = .top := by
  induction f with
  | nil => intro s; exact .inr rfl
  | cons p f ih =>
    intro s
    obtain ⟨i, v⟩ := p
    rw [get_cons]
    by_cases e : i = s
    · rw [if_pos e]
      left
      have := h (i, v) (.head _)
      rw [← e]
      exact this.symm
    · rw [if_neg e]
      exact ih (fun p hp => h p (.tail _ hp)) s
/-- A loop: 'fr s' what the slots hold at its head, 'hp s' what the heap is like, 'μ' what goes down. -/
theorem Stop.loop {S : Seat} {fn : Func} {R : Post} {c : Code} {k : List Item} {ds : List ADef} {f0 : Fr} {h0 : AHeap} {σ : Type} (μ : σ → Nat) (fr : σ → Fr) (hp : σ → AHeap → Prop) (s0 : σ) (hh : hp s0 h0) (hf : ∀ p ∈ fr s0, f0.get p.1 = p.2)
    (round : ∀ s h, hp s h → (∀ s' h' f, μ s' < μ s → hp s' h' → (∀ p ∈ fr s', f.get p.1 = p.2) → Stop S fn R (.inLoop c :: k) ds f h') → Run S fn (.code c :: .inLoop c :: k) ds (fr s) h R) : Stop S fn R (.code (.loop c) :: k) ds f0 h0 := by
  have key : ∀ n s h, μ s = n → hp s h → Run S fn (.code c :: .inLoop c :: k) ds (fr s) h R := by
    intro n
    induction n using Nat.strongRecOn with
    | _ n ih =>
      intro s h hn hs
      exact round s h hs fun s' h' f hlt hp' hf' => Run.inLoop (Run.sub (fr_sub hf') (ih (μ s') (hn ▸ hlt) s' h' rfl hp'))
  exact Run.loop (Run.sub (fr_sub hf) (key _ s0 h0 rfl hh))
/-- A call. -/
theorem Stop.call {S : Seat} {fn : Func} {R : Post} {k : List Item} {ds : List ADef} {fr : Fr} {h : AHeap} {ops : List Oper} {i : Nat} {l : List Nat} {d : Option Nat} {f : Operand} {args : List Operand} {ts : Array TypeId} {ty : Nat} {pos : String} {af : Array Edge}
    (fid : FuncId) (caps : List AV) (Rc : Post) (ho : ops[i]? = some ⟨d, .call ⟨.value f, ⟨args⟩, ts⟩, ty, pos, af, none⟩) (hd : dstOk fn.ntmps d = true) (hfn : rho S fr.get f = .func fid caps) (he : Enters S fid)
    (hc : AC S fid (args.map (rho S fr.get) ++ caps) h Rc) (hr : ∀ v h', Rc (.ret v) h' → Run S fn (.inRegion ⟨ops⟩ l :: k) ds (fr.put d v) h' R) (hp : ∀ v h', Rc (.pan v) h' → Leave S fn (.panicking v) ds fr h' R) :
    Stop S fn R (.inRegion ⟨ops⟩ (i :: l) :: k) ds fr h :=
  Run.opCall (by rw [List.getElem?_toArray]; exact ho) (by unfold awanted; rfl) hd rfl hfn he (by simpa using hc) hr hp
/-- A call that comes back with one value and leaves the heap as it was. -/
def Pure1 (v : AV) (h : AHeap) : Post := fun r h' => r = .ret v ∧ h' = h
theorem Stop.pure {S : Seat} {fn : Func} {R : Post} {k : List Item} {ds : List ADef} {fr : Fr} {h : AHeap} {ops : List Oper} {i : Nat} {l : List Nat} {d : Option Nat} {f : Operand} {args : List Operand} {ts : Array TypeId} {ty : Nat} {pos : String} {af : Array Edge}
    {fid : FuncId} {caps : List AV} {v : AV} (hc : AC S fid (args.map (rho S fr.get) ++ caps) h (Pure1 v h)) (ho : ops[i]? = some ⟨d, .call ⟨.value f, ⟨args⟩, ts⟩, ty, pos, af, none⟩) (hd : dstOk fn.ntmps d = true) (hfn : rho S fr.get f = .func fid caps) (he : Enters S fid)
    (hr : Run S fn (.inRegion ⟨ops⟩ l :: k) ds (fr.put d v) h R) : Stop S fn R (.inRegion ⟨ops⟩ (i :: l) :: k) ds fr h :=
  Stop.call fid caps _ ho hd hfn he hc (fun v' h' ⟨h1, h2⟩ => by cases h1; subst h2; exact hr) (fun v' h' ⟨h1, _⟩ => by cases h1)
/-- The end of a function without deferred calls that leaves the heap as it was. -/
theorem Leave.pure {S : Seat} {fn : Func} {fr : Fr} {h h0 : AHeap} {v : AV} {t : Nat} (hres : fn.results = #[.tmp t]) (hv : (fr.get t).fgt = v) (hx : Ext h0 h) (hok : v.ok h0.next h0.ntok = true) :
    Leave S fn .returning [] fr h (fun r h' => Dropped h0 (Pure1 v h0) r.fgt h') := by
  refine Leave.ret (vs := [fr.get t]) ?_ ?_
  · rw [hres]; rfl
  · show Dropped h0 (Pure1 v h0) (.ret (fr.get t).fgt) h
    rw [hv]
    exact Dropped.same hx hok ⟨rfl, rfl⟩
/-- A function that leaves the heap as it was. -/
theorem AC.pure {S : Seat} {f : FuncId} {fn : Func} {c : Code} {args : List AV} {h : AHeap} {v : AV} (hf : S.P.funcs[f]? = some fn) (hb : fn.body = some c) {n : Nat} (hnt : fn.ntmps = n) (hn : args.length ≤ n)
    (hr : Run S fn [.code c] [] (argFr 0 args) h (fun r h' => Dropped h (Pure1 v h) r.fgt h')) : AC S f args h (Pure1 v h) :=
  (AC.enter hf hb (by rw [hnt]; exact hn) hr).forget.drop
end Go.Proofs.YtajknofacjiddaaDoor.Abs

/- Rules by which data are reckoned. -/
namespace Go.Proofs.YtajknofacjiddaaDoor.Abs
open Go Go.RowKit
set_option linter.unusedVariables false
set_option linter.unusedSimpArgs false

def cellsFrom : Option AObj → Nat → Option (List AV)
  | some (.cells cs), off => some (cs.drop off)
  | _, _ => none
theorem acells_ptr (h : AHeap) (id off : Nat) : acells h (.ptr id off) = cellsFrom (h.get id) off := by
  simp only [acells]
  cases hq : h.get id with
  | none => rfl
  | some o => cases o <;> rfl
theorem acells_cptr (h : AHeap) (cs : List AV) : acells h (.cptr cs) = some cs := rfl
theorem cellsFrom_some (cs : List AV) (off : Nat) : cellsFrom (some (.cells cs)) off = some (cs.drop off) := rfl
theorem aload_ptr (S : Seat) (t : Nat) (id off : Nat) (h : AHeap) : aload S t (.ptr id off) h = (cellsFrom (h.get id) off).bind (areadT S t) := by unfold aload; rw [acells_ptr]
theorem aload_cptr (S : Seat) (t : Nat) (cs : List AV) (h : AHeap) : aload S t (.cptr cs) h = areadT S t cs := rfl

section
variable (S : Seat) (t : Nat) (k : IntKind) (a b : Int)
theorem abin_add : abin S .add t (.int k a) (.int k b) = some (.int k (k.wrap (a + b))) := by simp [abin, aint]
theorem abin_sub : abin S .sub t (.int k a) (.int k b) = some (.int k (k.wrap (a - b))) := by simp [abin, aint]
theorem abin_mul : abin S .mul t (.int k a) (.int k b) = some (.int k (k.wrap (a * b))) := by simp [abin, aint]
theorem abin_quo : abin S .quo t (.int k a) (.int k b) = if b = 0 then none else some (.int k (k.wrap (a.tdiv b))) := by simp [abin, aint]
theorem abin_rem : abin S .rem t (.int k a) (.int k b) = if b = 0 then none else some (.int k (a.tmod b)) := by simp [abin, aint]
theorem abin_eql : abin S .eql t (.int k a) (.int k b) = some (.bool (decide (a = b))) := by simp [abin, aint]
theorem abin_neq : abin S .neq t (.int k a) (.int k b) = some (.bool (!decide (a = b))) := by simp [abin, aint]
theorem abin_lss : abin S .lss t (.int k a) (.int k b) = some (.bool (decide (a < b))) := by simp [abin, aint]
theorem abin_leq : abin S .leq t (.int k a) (.int k b) = some (.bool (decide (a ≤ b))) := by simp [abin, aint]
theorem abin_gtr : abin S .gtr t (.int k a) (.int k b) = some (.bool (decide (b < a))) := by simp [abin, aint]
theorem abin_geq : abin S .geq t (.int k a) (.int k b) = some (.bool (decide (b ≤ a))) := by simp [abin, aint]
theorem abin_seql (x y : ByteArray) : abin S .eql t (.str x) (.str y) = some (.bool (decide (x = y))) := by simp [abin, astr]
theorem abin_sneq (x y : ByteArray) : abin S .neq t (.str x) (.str y) = some (.bool (!decide (x = y))) := by simp [abin, astr]
theorem abin_beql (h : S.P.underlying t = some .bool) (x y : Bool) : abin S .eql t (.bool x) (.bool y) = some (.bool (x == y)) := by simp [abin, h]
theorem abin_bneq (h : S.P.underlying t = some .bool) (x y : Bool) : abin S .neq t (.bool x) (.bool y) = some (.bool (!(x == y))) := by simp [abin, h]
theorem aun_not (x : Bool) : aun .not (.bool x) = some (.bool (!x)) := rfl
theorem aun_neg : aun .neg (.int k a) = some (.int k (k.wrap (0 - a))) := rfl
end
theorem apickO_bool (t : Bool) (a b : AV) : apickO (.bool t) a b = some (apick t a b) := rfl
theorem apick_bool (t x y : Bool) : apick t (.bool x) (.bool y) = .bool (if t then x else y) := rfl
theorem apick_true (a b : AV) : apick true a b = a := by unfold apick; split <;> (try split) <;> simp_all
theorem apick_false (a b : AV) : apick false a b = b := by unfold apick; split <;> (try split) <;> simp_all
theorem anil_ptr (id off : Nat) : anilCheck (.ptr id off) = some (.ptr id off) := rfl
theorem anil_cptr (cs : List AV) : anilCheck (.cptr cs) = some (.cptr cs) := rfl
theorem anil_func (f : Nat) (cs : List AV) : anilCheck (.func f cs) = some (.func f cs) := rfl
theorem aextract_tup (vs : List AV) (i : Nat) : aextract (.tup vs) i = vs[i]? := rfl
theorem amm_two (mx : Bool) (k k' : IntKind) (a b : Int) : amm mx [.int k a, .int k' b] = some (.int k (if mx then (if b > a then b else a) else (if b < a then b else a))) := by
  unfold amm amm
  rfl
/-- What a map that is read gives. -/
def lookM (o : Option AObj) (k : AV) (ok : Bool) (z : AV) : Option AV :=
  match o with
  | some (.map _ es) => match afind k es 0 with
    | some (some (_, v)) => some (okTup ok v true)
    | some none => some (okTup ok z false)
    | none => none
  | _ => none
theorem alookup_map {S : Seat} {t kt et : Nat} {z : AV} (hu : S.P.underlying t = some (.map kt et)) (hz : azero S et = some z) (id : Nat) (k : AV) (hk : keyOk (S.P.underlying kt) k = true) (ok : Bool) (h : AHeap) :
    alookup S t (.map id) k ok h = lookM (h.get id) k ok z := by
  unfold alookup lookM
  rw [hu]
  simp only [hk, if_true, hz, Option.map_some]
  cases h.get id with
  | none => rfl
  | some o =>
    cases o with
    | map clk es => simp only; cases afind k es 0 with | none => rfl | some r => cases r with | none => rfl | some p => rfl
    | _ => rfl
def putM (o : Option AObj) (id : Nat) (k x : AV) (h : AHeap) : Option AHeap :=
  match o with
  | some (.map clk es) => (amapPut clk es k x).map (h.set id)
  | _ => none
theorem amapUpdate_map {S : Seat} {t kt et : Nat} (hu : S.P.underlying t = some (.map kt et)) (id : Nat) (k x : AV) (hk : keyOk (S.P.underlying kt) k = true) (h : AHeap) : amapUpdate S t (.map id) k x h = putM (h.get id) id k x h := by
  unfold amapUpdate putM
  rw [hu]
  simp only [hk, if_true]
  cases h.get id with
  | none => rfl
  | some o => cases o <;> rfl
/-- Maps as functions from keys. -/
def aget : List AEnt → AV → Option (Option AV)
  | [], _ => some none
  | e :: es, k => match akeyEq k e.key with
    | some true => some (some e.val)
    | some false => aget es k
    | none => none
theorem afind_aget (k : AV) : ∀ (es : List AEnt) (i : Nat), (afind k es i).map (fun r => r.map (·.2)) = aget es k
  | [], _ => rfl
  | e :: es, i => by
    unfold afind aget
    cases akeyEq k e.key with
    | none => rfl
    | some b =>
      cases b with
      | true => rfl
      | false => exact afind_aget k es (i + 1)
def okOf (ok : Bool) (z : AV) : Option AV → AV
  | some v => okTup ok v true
  | none => okTup ok z false
theorem lookM_aget {clk : Nat} {es : List AEnt} {k z : AV} {r : Option AV} (ok : Bool) (h : aget es k = some r) : lookM (some (.map clk es)) k ok z = some (okOf ok z r) := by
  rw [← afind_aget k es 0] at h
  simp only [lookM]
  cases hf : afind k es 0 with
  | none => rw [hf] at h; cases h
  | some q =>
    rw [hf] at h
    cases q with
    | none => cases h; rfl
    | some p => cases h; rfl

def lenM : Option AObj → Option AV
  | some (.map _ es) => some (.int .i64 es.length)
  | _ => none
def delM (o : Option AObj) (id : Nat) (k : AV) (h : AHeap) : Option AHeap :=
  match o with
  | some (.map clk es) => match afind k es 0 with
    | some (some (i, _)) => some (h.set id (.map clk (es.eraseIdx i)))
    | some none => some h
    | none => none
  | _ => none
theorem adelete_map {S : Seat} {t kt et : Nat} (hu : S.P.underlying t = some (.map kt et)) (id : Nat) (k : AV) (hk : keyOk (S.P.underlying kt) k = true) (h : AHeap) : adelete S (some t) (.map id) k h = delM (h.get id) id k h := by
  simp only [adelete, Option.bind_some, hu, hk, if_true, delM]
  cases h.get id with
  | none => rfl
  | some o => cases o <;> rfl
def plOf (l : List (Nat × Nat)) (i : Nat) : Option (Nat × Nat) := l[i]?
def bsM (sz len : Nat) (r : Option (List AV)) : Option AV := r.bind fun r => if r.all acell then some (.slice sz (chunk sz len r) .fixed) else none
def storeM (o : Option AObj) (id off : Nat) (vs : Option (List AV)) (n : Nat) (h : AHeap) : Option AHeap :=
  match o, vs with
  | some (.cells cs), some vs => if vs.length = n ∧ off + vs.length ≤ cs.length ∧ vs.all acell = true then some (h.set id (.cells (asplice cs off vs))) else none
  | _, _ => none
theorem astore_ptr {S : Seat} {t n : Nat} (hi : (S.P.info? t).isSome = true) (hc : S.P.cellsOf t = n) (id off : Nat) (x : AV) (h : AHeap) : astore S t (.ptr id off) x h = storeM (h.get id) id off (acs x) n h := by
  simp only [astore]
  cases acs x with
  | none => cases h.get id with | none => rfl | some o => cases o <;> rfl
  | some vs =>
    cases hq : h.get id with
    | none => simp only [hq, storeM]
    | some o =>
      cases o with
      | cells cs => simp only [hq, hi, hc, true_and, storeM]
      | _ => simp only [hq, storeM]
section
variable {S : Seat} {t u' e e' : Nat} {z : AV} {zs : List AV} {sz by' : Nat}
theorem aappend_fixed (u : S.P.underlying t = some (.slice e)) (v : S.P.underlying u' = some (.slice e')) (hz : azero S e = some z) (ha : acs z = some zs) (hc : S.P.cellsOf e = sz) (hb : S.P.bytesOf e = by') (h1 : zs.length = sz) (h2 : 0 < sz) (h3 : 0 < by')
    (s1 s2 : Nat) (xs ys : List (List AV)) (tok : Tok) (h : AHeap) : aappend S ⟨[t, u']⟩ (.slice s1 xs .fixed) (.slice s2 ys tok) h =
      if (s2 = sz ∨ ys.length = 0) ∧ (xs.length + ys.length) * by' ≤ 140737488355328 ∧ (s1 = sz ∨ xs.length = 0) then some (.slice sz (xs ++ ys) (.tip h.ntok), h.newTok (xs.length + ys.length)) else none := by
  subst h1
  have e0 : (⟨[t, u']⟩ : Array Nat)[0]? = some t := rfl
  have e1 : (⟨[t, u']⟩ : Array Nat)[1]? = some u' := rfl
  simp only [aappend, e0, e1, Option.bind_some, u, aels, v, hc, hz, ha, hb, h2, h3, true_and]
  by_cases q : s2 = zs.length ∨ ys.length = 0
  · simp only [q, if_true, true_and]
  · simp only [q, if_false, false_and]
theorem aappend_tip (u : S.P.underlying t = some (.slice e)) (v : S.P.underlying u' = some (.slice e')) (hz : azero S e = some z) (ha : acs z = some zs) (hc : S.P.cellsOf e = sz) (hb : S.P.bytesOf e = by') (h1 : zs.length = sz) (h2 : 0 < sz) (h3 : 0 < by')
    (s2 p : Nat) (xs ys : List (List AV)) (tok : Tok) (h : AHeap) : aappend S ⟨[t, u']⟩ (.slice sz xs (.tip p)) (.slice s2 ys tok) h =
      if (s2 = sz ∨ ys.length = 0) ∧ (xs.length + ys.length) * by' ≤ 140737488355328 ∧ h.tok p = xs.length ∧ p < h.ntok then some (.slice sz (xs ++ ys) (.tip p), h.setTok p (xs.length + ys.length)) else none := by
  subst h1
  have e0 : (⟨[t, u']⟩ : Array Nat)[0]? = some t := rfl
  have e1 : (⟨[t, u']⟩ : Array Nat)[1]? = some u' := rfl
  simp only [aappend, e0, e1, Option.bind_some, u, aels, v, hc, hz, ha, hb, h2, h3, true_and, true_or, and_true]
  by_cases q : s2 = zs.length ∨ ys.length = 0
  · simp only [q, if_true, true_and]
    by_cases q2 : (xs.length + ys.length) * by' ≤ 140737488355328
    · simp only [q2, if_true, true_and]
    · simp only [q2, if_false, false_and]
  · simp only [q, if_false, false_and]
end
end Go.Proofs.YtajknofacjiddaaDoor.Abs

/- Arguments forgotten; rules for the heap. -/
namespace Go.Proofs.YtajknofacjiddaaDoor.Abs
open Go Go.RowKit
set_option linter.unusedVariables false
set_option linter.unusedSimpArgs false
theorem repL_fgt {g : Ghost} {vs : List AV} {xs : Array Value} (h : RepL g vs xs) : RepL g (fgtL vs) xs := by
  rw [fgtL_eq]
  refine ⟨by simpa using h.1, fun i v e => ?_⟩
  obtain ⟨a, ha, rfl⟩ := map_get e
  exact rep_fgt (h.2 i a ha)
theorem AC.args {S : Seat} {f : FuncId} {args : List AV} {h : AHeap} {R : Post} (hc : AC S f (fgtL args) h R) : AC S f args h R :=
  fun w0 g w xs inv hargs => hc w0 g w xs inv (repL_fgt hargs)
/-- A call that comes back with one value and leaves the heap as it was; the arguments' rows are forgotten. -/
theorem Stop.fact {S : Seat} {fn : Func} {R : Post} {k : List Item} {ds : List ADef} {fr : Fr} {h : AHeap} {ops : List Oper} {i : Nat} {l : List Nat} {d : Option Nat} {f : Operand} {args : List Operand} {ts : Array TypeId} {ty : Nat} {pos : String} {af : Array Edge} {gd : Option (Nat × Bool)}
    {fid : FuncId} {caps avs : List AV} {v : AV} (hc : AC S fid avs h (Pure1 v h)) (ho : ops[i]? = some ⟨d, .call ⟨.value f, ⟨args⟩, ts⟩, ty, pos, af, gd⟩) (hw : awanted ⟨ops⟩ ⟨d, .call ⟨.value f, ⟨args⟩, ts⟩, ty, pos, af, gd⟩ fr.get = some true) (hd : dstOk fn.ntmps d = true) (hfn : rho S fr.get f = .func fid caps) (he : Enters S fid)
    (has : fgtL (args.map (rho S fr.get) ++ caps) = avs)
    (hr : Run S fn (.inRegion ⟨ops⟩ l :: k) ds (fr.put d v) h R) : Stop S fn R (.inRegion ⟨ops⟩ (i :: l) :: k) ds fr h := by
  subst has
  exact Run.opCall (by rw [List.getElem?_toArray]; exact ho) hw hd rfl hfn he (Rc := Pure1 v h) (by simpa using hc.args) (fun v' h' hq => by obtain ⟨h1, h2⟩ := hq; cases h1; subst h2; exact hr) (fun v' h' hq => by obtain ⟨h1, _⟩ := hq; cases h1)
theorem ite_tt (t : Bool) {p q : Prop} : ((t = true → p) ∧ (t = false → q)) = (if t then p else q) := by cases t <;> simp
theorem fgt_bool (b : Bool) : (AV.bool b).fgt = .bool b := rfl
theorem fgt_int (k : IntKind) (n : Int) : (AV.int k n).fgt = .int k n := rfl
theorem fgt_str (s : ByteArray) : (AV.str s).fgt = .str s := rfl
theorem fgt_top : AV.top.fgt = .top := rfl
theorem fgt_ptr (a b : Nat) : (AV.ptr a b).fgt = .ptr a b := rfl
theorem fgt_map (a : Nat) : (AV.map a).fgt = .map a := rfl
theorem fgt_slice (sz : Nat) (els : List (List AV)) (t : Tok) : (AV.slice sz els t).fgt = kslice sz (fgtLL els) := rfl
theorem fgt_k (sz : Nat) (els : List (List AV)) : (kslice sz els).fgt = kslice sz (fgtLL els) := by cases els <;> rfl
theorem acs_k (sz : Nat) (els : List (List AV)) : acs (kslice sz els) = some [kslice sz els] := by cases els <;> rfl
theorem acell_k (sz : Nat) (els : List (List AV)) : acell (kslice sz els) = true := by cases els <;> rfl
theorem abox_k (sz : Nat) (els : List (List AV)) (h : AHeap) : abox (kslice sz els) h = some (.ptr h.next 0, h.alloc (.cells [kslice sz els])) := by cases els <;> rfl
theorem ok_k (n m sz : Nat) (els : List (List AV)) : (kslice sz els).ok n m = okLL n m els := by cases els <;> simp [kslice, AV.ok, okLL]
theorem fgt_agg (cs : List AV) : (AV.agg cs).fgt = .agg (fgtL cs) := rfl
theorem fgt_tup (cs : List AV) : (AV.tup cs).fgt = .tup (fgtL cs) := rfl
theorem fgt_func (f : Nat) (cs : List AV) : (AV.func f cs).fgt = .func f (fgtL cs) := rfl
theorem fgtL_nil : fgtL [] = [] := rfl
theorem fgtL_cons (v : AV) (vs : List AV) : fgtL (v :: vs) = v.fgt :: fgtL vs := rfl
theorem fgtLL_nil : fgtLL [] = [] := rfl
theorem fgtLL_cons (v : List AV) (vs : List (List AV)) : fgtLL (v :: vs) = fgtL v :: fgtLL vs := rfl
/-- What a frame is known to hold. -/
def Fr.Has (f : Fr) : Fr → Prop
  | [] => True
  | p :: ps => f.get p.1 = p.2 ∧ Fr.Has f ps
theorem has_nil (f : Fr) : Fr.Has f [] = True := rfl
theorem has_cons (f : Fr) (i : Nat) (v : AV) (ps : Fr) : Fr.Has f ((i, v) :: ps) = (f.get i = v ∧ Fr.Has f ps) := rfl
theorem Fr.Has.mem {f : Fr} : ∀ {g : Fr}, Fr.Has f g → ∀ p ∈ g, f.get p.1 = p.2
  | [], _, p, h => by cases h
  | q :: qs, h, p, hp => by
    cases hp with
    | head => exact h.1
    | tail _ hp => exact h.2.mem p hp
theorem Fr.Has.of {f : Fr} : ∀ {g : Fr}, (∀ p ∈ g, f.get p.1 = p.2) → Fr.Has f g
  | [], _ => trivial
  | q :: qs, h => ⟨h q (.head _), Fr.Has.of fun p hp => h p (.tail _ hp)⟩
/-- A loop: 'fr s' what the slots hold at its head, 'hp s' what the heap is like, 'μ' what goes down. -/
theorem Stop.round {S : Seat} {fn : Func} {R : Post} {c : Code} {k : List Item} {ds : List ADef} {f0 : Fr} {h0 : AHeap} {σ : Type} (μ : σ → Nat) (fr : σ → Fr) (hp : σ → AHeap → Prop) (s0 : σ) (hh : hp s0 h0) (hf : f0.Has (fr s0))
    (round : ∀ s h, hp s h → (∀ s' h' f, μ s' < μ s → hp s' h' → f.Has (fr s') → Stop S fn R (.inLoop c :: k) ds f h') → Run S fn (.code c :: .inLoop c :: k) ds (fr s) h R) : Stop S fn R (.code (.loop c) :: k) ds f0 h0 :=
  Stop.loop μ fr hp s0 hh hf.mem fun s h hs next => round s h hs fun s' h' f hlt hp' hf' => next s' h' f hlt hp' hf'.mem
end Go.Proofs.YtajknofacjiddaaDoor.Abs

/- Drawn regions reckoned. -/
namespace Go.Proofs.YtajknofacjiddaaDoor.Abs
open Go Go.RowKit
set_option linter.unusedVariables false
set_option linter.unusedSimpArgs false

/-- A call, in a drawn region, that comes back with one value and leaves the heap as it was. -/
def DC (S : Seat) (fn : Func) (x : Option Oper) (ops : Array Oper) (fr : Fr) (h : AHeap) (E : Fr → Prop) : Prop :=
  (∃ o, x = some o ∧ quietOp o.op = false ∧ dstOk fn.ntmps o.dst = true ∧ awanted ops o fr.get = some false ∧ E (fr.put o.dst (.tup []))) ∨
  ∃ d f args ts ty pos af gd fid caps v, x = some ⟨d, .call ⟨.value f, ⟨args⟩, ts⟩, ty, pos, af, gd⟩ ∧ awanted ops ⟨d, .call ⟨.value f, ⟨args⟩, ts⟩, ty, pos, af, gd⟩ fr.get = some true ∧ dstOk fn.ntmps d = true ∧
    rho S fr.get f = .func fid caps ∧ Enters S fid ∧ AC S fid (args.map (rho S fr.get) ++ caps) h (Pure1 v h) ∧ E (fr.put d v)
def DD (S : Seat) (fn : Func) (x : Option Oper) (ds : List ADef) (fr : Fr) (E : List ADef → Fr → Prop) : Prop :=
  ∃ d args ts ty pos af, x = some ⟨d, .defer ⟨.builtin .delete, ⟨args⟩, ts⟩, ty, pos, af, none⟩ ∧ dstOk fn.ntmps d = true ∧ E (.del ts (args.map (rho S fr.get)) :: ds) (fr.put d .top)
/-- A call, in a drawn region, that changes no cells that were there. -/
def DG (S : Seat) (fn : Func) (x : Option Oper) (ops : Array Oper) (fr : Fr) (h : AHeap) (E : Fr → AHeap → Prop) : Prop :=
  ∃ d f args ts ty pos af gd fid caps, ∃ Rc : Post, x = some ⟨d, .call ⟨.value f, ⟨args⟩, ts⟩, ty, pos, af, gd⟩ ∧ awanted ops ⟨d, .call ⟨.value f, ⟨args⟩, ts⟩, ty, pos, af, gd⟩ fr.get = some true ∧ dstOk fn.ntmps d = true ∧
    rho S fr.get f = .func fid caps ∧ Enters S fid ∧ AC S fid (args.map (rho S fr.get) ++ caps) h Rc ∧ (∀ v h', ¬ Rc (.pan v) h') ∧
    ∀ v h', Rc (.ret v) h' → (∀ id off, cellsFrom (h'.get id) off = cellsFrom (h.get id) off) ∧ E (fr.put d v) h'
/-- A call, in a drawn region, that may change all. -/
def DX (S : Seat) (fn : Func) (x : Option Oper) (ops : Array Oper) (fr : Fr) (h : AHeap) (E : Fr → AHeap → Prop) : Prop :=
  ∃ d f args ts ty pos af gd fid caps, ∃ Rc : Post, x = some ⟨d, .call ⟨.value f, ⟨args⟩, ts⟩, ty, pos, af, gd⟩ ∧ awanted ops ⟨d, .call ⟨.value f, ⟨args⟩, ts⟩, ty, pos, af, gd⟩ fr.get = some true ∧ dstOk fn.ntmps d = true ∧
    rho S fr.get f = .func fid caps ∧ Enters S fid ∧ AC S fid (args.map (rho S fr.get) ++ caps) h Rc ∧ (∀ v h', ¬ Rc (.pan v) h') ∧ ∀ v h', Rc (.ret v) h' → E (fr.put d v) h'
/-- 0: quiet, 1: with an effect on the heap, 2: a call, 3: a deferred 'delete'. -/
def DEv (S : Seat) (fn : Func) (R : Post) (ops : Array Oper) (k : List Item) (n : Nat) : List (Nat × Nat) → List ADef → Fr → AHeap → Prop
  | [], ds, fr, h => Ev S fn R n k ds fr h
  | (i, 0) :: l, ds, fr, h => EvO S fn R (fun _ ds fr h => DEv S fn R ops k n l ds fr h) ops[i]? ops i [] k ds fr h
  | (i, 1) :: l, ds, fr, h => EvO S fn R (fun _ ds fr h => DEv S fn R ops k n l ds fr h) ops[i]? ops i [] k ds fr h
  | (i, 2) :: l, ds, fr, h => DC S fn ops[i]? ops fr h (fun fr => DEv S fn R ops k n l ds fr h)
  | (i, 3) :: l, ds, fr, h => DD S fn ops[i]? ds fr (fun ds fr => DEv S fn R ops k n l ds fr h)
  | (i, 4) :: l, ds, fr, h => DG S fn ops[i]? ops fr h (fun fr h => DEv S fn R ops k n l ds fr h)
  | (i, 5) :: l, ds, fr, h => DX S fn ops[i]? ops fr h (fun fr h => DEv S fn R ops k n l ds fr h)
  | (i, _ + 6) :: l, ds, fr, h => False
def heapFree : Op → Bool
  | .move _ | .assign _ | .pick .. | .nilCheck _ | .binOp .. | .unOp .. | .convert .. | .makeFunc .. | .makeInterface .. | .fieldAddr .. | .field .. | .indexAddr .. | .index .. | .extract .. | .slice .. | .build .. | .buildSlice .. => true
  | _ => false
def isLoad : Op → Bool
  | .load .. => true
  | _ => false
def aeOp : Op → Bool
  | .alloc _ | .box .. | .makeMap .. | .makeSlice .. | .store .. | .mapUpdate .. | .insert .. | .range .. => true
  | .call { callee := .builtin b, .. } => match b with
    | .append | .delete => true
    | _ => false
  | _ => false
/-- 'old': reckoned before some change of the heap. -/
def planOk (ops : Array Oper) (tab : List (List Nat)) : List (Nat × Nat) → List Nat → List Nat → Bool
  | [], _, _ => true
  | (i, q) :: l, old, cur =>
    let o := ops.getD i default
    let anc := tab.getD i []
    if q = 0 then quietOp o.op && !isLeaf o.op && planOk ops tab l old (i :: cur)
    else if q = 1 then aeOp o.op && o.guard.isNone && !quietOp o.op && !isLeaf o.op && (old.all fun j => anc.contains j || heapFree (ops.getD j default).op) && (cur.all fun j => anc.contains j || heapFree (ops.getD j default).op) && planOk ops tab l (cur ++ old) []
    else if q = 2 then !quietOp o.op && (old.all fun j => anc.contains j || heapFree (ops.getD j default).op) && planOk ops tab l old cur
    else if q = 3 then !quietOp o.op && (old.all fun j => anc.contains j || heapFree (ops.getD j default).op) && planOk ops tab l old cur
    else if q = 4 then !quietOp o.op && (old.all fun j => anc.contains j || heapFree (ops.getD j default).op) && (cur.all fun j => anc.contains j || heapFree (ops.getD j default).op || isLoad (ops.getD j default).op) && planOk ops tab l (cur ++ old) []
    else if q = 5 then !quietOp o.op && (old.all fun j => anc.contains j || heapFree (ops.getD j default).op) && (cur.all fun j => anc.contains j || heapFree (ops.getD j default).op) && planOk ops tab l (cur ++ old) []
    else false

theorem aq_free {S : Seat} {op : Op} (hf : heapFree op = true) (ρ : Operand → AV) (h h' : AHeap) : aq S op ρ h = aq S op ρ h' := by
  cases op
  case makeFunc fn first caps => cases fn <;> rfl
  all_goals first | rfl | (simp [heapFree] at hf; done)
theorem aqg_free {S : Seat} {ops : Array Oper} {o : Oper} (hf : heapFree o.op = true) (fr : Nat → AV) (h h' : AHeap) : aqg S ops o fr h = aqg S ops o fr h' := by
  unfold aqg
  rw [aq_free hf _ h h']
theorem aload_same {S : Seat} {t : Nat} {v : AV} {h h' : AHeap} (hh : ∀ id off, cellsFrom (h'.get id) off = cellsFrom (h.get id) off) : aload S t v h' = aload S t v h := by
  have : acells h' v = acells h v := by
    cases v <;> first | rfl | skip
    rw [acells_ptr, acells_ptr, hh]
  unfold aload
  rw [this]
theorem aqg_load {S : Seat} {ops : Array Oper} {o : Oper} (hf : isLoad o.op = true) (fr : Nat → AV) {h h' : AHeap} (hh : ∀ id off, cellsFrom (h'.get id) off = cellsFrom (h.get id) off) : aqg S ops o fr h' = aqg S ops o fr h := by
  obtain ⟨d, op, ty, pos, af, gd⟩ := o
  cases op <;> first | (simp [isLoad] at hf; done) | skip
  unfold aqg
  show (match awanted ops _ fr with | some true => aload S _ _ h' | some false => _ | none => _) = (match awanted ops _ fr with | some true => aload S _ _ h | some false => _ | none => _)
  rw [aload_same hh]
theorem EvO.quiet {S : Seat} {fn : Func} {R : Post} {E : EvT} {ops : Array Oper} {i : Nat} {o : Oper} {l : List Nat} {k : List Item} {ds : List ADef} {fr : Fr} {h : AHeap} (hq : quietOp o.op = true) (hl : isLeaf o.op = false)
    (e : EvO S fn R E (some o) ops i l k ds fr h) : dstOk fn.ntmps o.dst = true ∧ ∃ v, aqg S ops o fr.get h = some v ∧ E (.inRegion ops l :: k) ds (fr.put o.dst v) h := by
  obtain ⟨hd, e⟩ := e
  have hD : EvD S fn R E o ops i l k ds fr h → ∃ v, aq S o.op (rho S fr.get) h = some v ∧ E (.inRegion ops l :: k) ds (fr.put o.dst v) h := by
    intro e
    unfold EvD at e
    rw [hl, hq] at e
    cases hv : aq S o.op (rho S fr.get) h with
    | none => rw [hv] at e; exact e.elim
    | some v => rw [hv] at e; exact ⟨v, rfl, e⟩
  refine ⟨hd, ?_⟩
  cases hg : o.guard with
  | none =>
    rw [hg] at e
    obtain ⟨v, h1, h2⟩ := hD e
    exact ⟨v, by unfold aqg awanted; rw [hg]; exact h1, h2⟩
  | some p =>
    obtain ⟨j, want⟩ := p
    rw [hg] at e
    simp only at e
    cases hb : ((ops[j]?).bind (·.dst)).map fr.get with
    | none => rw [hb] at e; exact e.elim
    | some v =>
      rw [hb] at e
      cases v <;> simp only [EvG] at e
      case tup cs =>
        refine ⟨.tup [], ?_, e⟩
        unfold aqg awanted
        rw [hg]
        simp only
        cases ht : (ops[j]?).bind (·.dst) with
        | none => rw [ht] at hb; cases hb
        | some t =>
          rw [ht] at hb
          simp only [Option.map_some, Option.some.injEq] at hb
          simp only [hb]
      rename_i b
      have haw : awanted ops o fr.get = some (b == want) := by
        unfold awanted
        rw [hg]
        simp only
        cases ht : (ops[j]?).bind (·.dst) with
        | none => rw [ht] at hb; cases hb
        | some t =>
          rw [ht] at hb
          simp only [Option.map_some, Option.some.injEq] at hb
          simp only [hb]
      by_cases q : b = want
      · obtain ⟨v, h1, h2⟩ := hD (e.1 q)
        exact ⟨v, by unfold aqg; rw [haw, q]; simpa using h1, h2⟩
      · exact ⟨.tup [], by unfold aqg; rw [haw, beq_eq_false_iff_ne.2 q], e.2 (by cases b <;> cases want <;> simp_all)⟩
theorem EvO.eff {S : Seat} {fn : Func} {R : Post} {E : EvT} {ops : Array Oper} {i : Nat} {o : Oper} {l : List Nat} {k : List Item} {ds : List ADef} {fr : Fr} {h : AHeap} (hq : quietOp o.op = false) (hl : isLeaf o.op = false) (hg : o.guard = none)
    (e : EvO S fn R E (some o) ops i l k ds fr h) : dstOk fn.ntmps o.dst = true ∧ awanted ops o fr.get = some true ∧ ∃ v h', ae S o.op (rho S fr.get) h = some (v, h') ∧ E (.inRegion ops l :: k) ds (fr.put o.dst v) h' := by
  obtain ⟨hd, e⟩ := e
  rw [hg] at e
  refine ⟨hd, by unfold awanted; rw [hg], ?_⟩
  unfold EvD at e
  rw [hl, hq] at e
  cases hv : ae S o.op (rho S fr.get) h with
  | none => rw [hv] at e; exact e.elim
  | some p => obtain ⟨v, h'⟩ := p; rw [hv] at e; exact ⟨v, h', rfl, e⟩
theorem getD_of {ops : Array Oper} {i : Nat} {o : Oper} (h : ops[i]? = some o) : ops.getD i default = o := by
  rw [Array.getD_eq_getD_getElem?, h]; exact Option.getD_some
theorem DEv.sound {S : Seat} {fn : Func} {R : Post} {ops : Array Oper} {tab : List (List Nat)} {k : List Item} {n : Nat} : ∀ (l : List (Nat × Nat)) (old cur : List Nat) (pend : Pend) (ds : List ADef) (fr : Fr) (h : AHeap), planOk ops tab l old cur = true →
    (∀ x ∈ pend, (x.1 ∈ old ∧ (heapFree (ops.getD x.1 default).op = true → ∀ o, ops[x.1]? = some o → aqg S ops o x.2.1 h = some x.2.2)) ∨ (x.1 ∈ cur ∧ ∀ o, ops[x.1]? = some o → aqg S ops o x.2.1 h = some x.2.2)) → DEv S fn R ops k n l ds fr h → DRun S fn ops tab k R (l.map (·.1)) pend ds fr h := by
  intro l
  induction l with
  | nil => intro old cur pend ds fr h _ _ e; exact Ev.sound n k ds fr h e
  | cons p l ih =>
    obtain ⟨i, q⟩ := p
    intro old cur pend ds fr h hp hpend e
    have stable : ∀ h', (∀ x ∈ pend, heapFree (ops.getD x.1 default).op = true → ∀ o, ops[x.1]? = some o → aqg S ops o x.2.1 h' = some x.2.2) → (∀ x ∈ pend, x.1 ∈ tab.getD i [] ∨ heapFree (ops.getD x.1 default).op = true ∨ ∀ o, ops[x.1]? = some o → aqg S ops o x.2.1 h' = some x.2.2) → Stable S ops tab i pend h' := by
      intro h' hf hc x hx
      rcases hc x hx with a | a | a
      · exact .inl a
      · exact .inr (hf x hx a)
      · exact .inr a
    have free : ∀ h', ∀ x ∈ pend, heapFree (ops.getD x.1 default).op = true → ∀ o, ops[x.1]? = some o → aqg S ops o x.2.1 h' = some x.2.2 := by
      intro h' x hx hfr o ho
      have hfo : heapFree o.op = true := by rw [← getD_of ho]; exact hfr
      rw [aqg_free hfo _ h' h]
      rcases hpend x hx with ⟨_, a⟩ | ⟨_, a⟩
      · exact a hfr o ho
      · exact a o ho
    match q, e, hp with
    | 0, e, hp =>
      simp only [planOk, if_true, Bool.and_eq_true, Bool.not_eq_true'] at hp
      obtain ⟨⟨h1, h2⟩, h3⟩ := hp
      simp only [DEv] at e
      cases ho : ops[i]? with
      | none => rw [ho] at e; exact e.elim
      | some o =>
        rw [ho] at e
        rw [getD_of ho] at h1 h2
        obtain ⟨hd, v, hv, e⟩ := EvO.quiet h1 h2 e
        refine ⟨o, ho, hd, ?_⟩
        rw [if_pos h1]
        refine ⟨v, hv, ih old (i :: cur) _ ds _ h h3 ?_ e⟩
        intro x hx
        cases hx with
        | head => exact .inr ⟨.head _, fun o' ho' => by rw [ho] at ho'; cases ho'; exact hv⟩
        | tail _ hx =>
          rcases hpend x hx with a | ⟨a, b⟩
          · exact .inl a
          · exact .inr ⟨.tail _ a, b⟩
    | 1, e, hp =>
      simp only [planOk, Nat.one_ne_zero, if_false, if_true, Bool.and_eq_true, Bool.not_eq_true', List.all_eq_true, Bool.or_eq_true, List.contains_iff_mem, Option.isNone_iff_eq_none] at hp
      obtain ⟨⟨⟨⟨⟨⟨h0, hg⟩, h1⟩, h2⟩, h3⟩, h4⟩, h5⟩ := hp
      simp only [DEv] at e
      cases ho : ops[i]? with
      | none => rw [ho] at e; exact e.elim
      | some o =>
        rw [ho] at e
        rw [getD_of ho] at h1 h2 hg
        obtain ⟨hd, hw, v, h', hv, e⟩ := EvO.eff h1 h2 hg e
        refine ⟨o, ho, hd, ?_⟩
        rw [if_neg (by rw [h1]; decide)]
        refine .inr ⟨hw, .ae hv ⟨stable h' (free h') ?_, ih (cur ++ old) [] pend ds _ h' h5 ?_ e⟩⟩
        · intro x hx
          rcases hpend x hx with ⟨a, _⟩ | ⟨a, _⟩
          · rcases h3 _ a with b | b
            · exact .inl b
            · exact .inr (.inl b)
          · rcases h4 _ a with b | b
            · exact .inl b
            · exact .inr (.inl b)
        · intro x hx
          refine .inl ⟨?_, free h' x hx⟩
          rcases hpend x hx with ⟨a, _⟩ | ⟨a, _⟩
          · exact List.mem_append_right _ a
          · exact List.mem_append_left _ a
    | 2, e, hp =>
      simp only [planOk, Nat.reduceEqDiff, if_false, if_true, Bool.and_eq_true, Bool.not_eq_true', List.all_eq_true, Bool.or_eq_true, List.contains_iff_mem] at hp
      obtain ⟨⟨h1, h3⟩, h5⟩ := hp
      simp only [DEv] at e
      rcases e with ⟨o, ho, hqo, hd, hw, e⟩ | e
      · exact ⟨o, ho, hd, by rw [if_neg (by rw [hqo]; decide)]; exact .inl ⟨hw, ih old cur pend ds _ h h5 hpend e⟩⟩
      obtain ⟨d, f, args, ts, ty, pos, af, gd, fid, caps, v, ho, hw, hd, hf, hen, hc, e⟩ := e
      rw [getD_of ho] at h1
      refine ⟨_, ho, hd, ?_⟩
      rw [if_neg (by rw [h1]; decide)]
      refine .inr ⟨hw, .call (Rc := Pure1 v h) rfl hf hen (by simpa using hc) (fun v' h' hq => ?_) (fun v' h' hq => by obtain ⟨a, _⟩ := hq; cases a)⟩
      obtain ⟨a, rfl⟩ := hq
      cases a
      refine ⟨stable h' (free h') ?_, ih old cur pend ds _ h' h5 hpend e⟩
      intro x hx
      rcases hpend x hx with ⟨a, _⟩ | ⟨_, a⟩
      · rcases h3 _ a with b | b
        · exact .inl b
        · exact .inr (.inl b)
      · exact .inr (.inr a)
    | 3, e, hp =>
      simp only [planOk, Nat.reduceEqDiff, if_false, if_true, Bool.and_eq_true, Bool.not_eq_true', List.all_eq_true, Bool.or_eq_true, List.contains_iff_mem] at hp
      obtain ⟨⟨h1, h3⟩, h5⟩ := hp
      simp only [DEv] at e
      obtain ⟨d, args, ts, ty, pos, af, ho, hd, e⟩ := e
      rw [getD_of ho] at h1
      refine ⟨_, ho, hd, ?_⟩
      rw [if_neg (by rw [h1]; decide)]
      refine .inr ⟨by unfold awanted; rfl, .deferDel rfl ⟨stable h (free h) ?_, ih old cur pend _ _ h h5 hpend (by simpa using e)⟩⟩
      intro x hx
      rcases hpend x hx with ⟨a, _⟩ | ⟨_, a⟩
      · rcases h3 _ a with b | b
        · exact .inl b
        · exact .inr (.inl b)
      · exact .inr (.inr a)
    | 4, e, hp =>
      simp only [planOk, Nat.reduceEqDiff, if_false, if_true, Bool.and_eq_true, Bool.not_eq_true', List.all_eq_true, Bool.or_eq_true, List.contains_iff_mem] at hp
      obtain ⟨⟨⟨h1, h3⟩, h4⟩, h5⟩ := hp
      simp only [DEv] at e
      obtain ⟨d, f, args, ts, ty, pos, af, gd, fid, caps, Rc, ho, hw, hd, hf, hen, hc, hnp, e⟩ := e
      rw [getD_of ho] at h1
      refine ⟨_, ho, hd, ?_⟩
      rw [if_neg (by rw [h1]; decide)]
      refine .inr ⟨hw, .call (Rc := Rc) rfl hf hen (by simpa using hc) (fun v' h' hq => ?_) (fun v' h' hq => absurd hq (hnp v' h'))⟩
      obtain ⟨hh, e⟩ := e v' h' hq
      refine ⟨?_, ih (cur ++ old) [] pend ds _ h' h5 ?_ e⟩
      · intro x hx
        rcases hpend x hx with ⟨a, _⟩ | ⟨a, b⟩
        · rcases h3 _ a with c | c
          · exact .inl c
          · exact .inr (free h' x hx c)
        · rcases h4 _ a with (c | c) | c
          · exact .inl c
          · exact .inr (free h' x hx c)
          · exact .inr fun o ho => by rw [aqg_load (by rw [← getD_of ho]; exact c) _ hh]; exact b o ho
      · intro x hx
        refine .inl ⟨?_, free h' x hx⟩
        rcases hpend x hx with ⟨a, _⟩ | ⟨a, _⟩
        · exact List.mem_append_right _ a
        · exact List.mem_append_left _ a
    | 5, e, hp =>
      simp only [planOk, Nat.reduceEqDiff, if_false, if_true, Bool.and_eq_true, Bool.not_eq_true', List.all_eq_true, Bool.or_eq_true, List.contains_iff_mem] at hp
      obtain ⟨⟨⟨h1, h3⟩, h4⟩, h5⟩ := hp
      simp only [DEv] at e
      obtain ⟨d, f, args, ts, ty, pos, af, gd, fid, caps, Rc, ho, hw, hd, hf, hen, hc, hnp, e⟩ := e
      rw [getD_of ho] at h1
      refine ⟨_, ho, hd, ?_⟩
      rw [if_neg (by rw [h1]; decide)]
      refine .inr ⟨hw, .call (Rc := Rc) rfl hf hen (by simpa using hc) (fun v' h' hq => ?_) (fun v' h' hq => absurd hq (hnp v' h'))⟩
      have e := e v' h' hq
      refine ⟨stable h' (free h') ?_, ih (cur ++ old) [] pend ds _ h' h5 ?_ e⟩
      · intro x hx
        rcases hpend x hx with ⟨a, _⟩ | ⟨a, b⟩
        · rcases h3 _ a with c | c
          · exact .inl c
          · exact .inr (.inl c)
        · rcases h4 _ a with c | c
          · exact .inl c
          · exact .inr (.inl c)
      · intro x hx
        refine .inl ⟨?_, free h' x hx⟩
        rcases hpend x hx with ⟨a, _⟩ | ⟨a, _⟩
        · exact List.mem_append_right _ a
        · exact List.mem_append_left _ a
    | q + 6, e, hp => exact e.elim
/-- A drawn region. -/
theorem Stop.drawn {S : Seat} {fn : Func} {R : Post} {id : Nat} {ops : Array Oper} {k : List Item} {ds : List ADef} {fr : Fr} {h : AHeap} (l : List (Nat × Nat)) (tab : List (List Nat)) (n : Nat) (hc : (drawCheck ops (l.map (·.1)) tab && planOk ops tab l [] []) = true)
    (e : DEv S fn R ops k n l ds fr h) : Stop S fn R (.code (.region id ops true) :: k) ds fr h := by
  rw [Bool.and_eq_true] at hc
  exact Run.draw hc.1 (DEv.sound l [] [] [] ds fr h hc.2 (fun x hx => by cases hx) e)
section
variable {S : Seat} {fn : Func} {R : Post} {ops : List Oper} {k : List Item} {n : Nat} {l : List (Nat × Nat)} {ds : List ADef} {fr : Fr} {h : AHeap} (i : Nat)
theorem dev_nil (ops : Array Oper) : DEv S fn R ops k n [] ds fr h = Ev S fn R n k ds fr h := rfl
theorem dev_q : DEv S fn R ⟨ops⟩ k n ((i, 0) :: l) ds fr h = EvO S fn R (fun _ ds fr h => DEv S fn R ⟨ops⟩ k n l ds fr h) ops[i]? ⟨ops⟩ i [] k ds fr h := by
  show EvO S fn R _ (⟨ops⟩ : Array Oper)[i]? _ i [] k ds fr h = _
  rw [List.getElem?_toArray]
theorem dev_e : DEv S fn R ⟨ops⟩ k n ((i, 1) :: l) ds fr h = EvO S fn R (fun _ ds fr h => DEv S fn R ⟨ops⟩ k n l ds fr h) ops[i]? ⟨ops⟩ i [] k ds fr h := by
  show EvO S fn R _ (⟨ops⟩ : Array Oper)[i]? _ i [] k ds fr h = _
  rw [List.getElem?_toArray]
theorem dev_c : DEv S fn R ⟨ops⟩ k n ((i, 2) :: l) ds fr h = DC S fn ops[i]? ⟨ops⟩ fr h (fun fr => DEv S fn R ⟨ops⟩ k n l ds fr h) := by
  show DC S fn (⟨ops⟩ : Array Oper)[i]? _ fr h _ = _
  rw [List.getElem?_toArray]
theorem dev_d : DEv S fn R ⟨ops⟩ k n ((i, 3) :: l) ds fr h = DD S fn ops[i]? ds fr (fun ds fr => DEv S fn R ⟨ops⟩ k n l ds fr h) := by
  show DD S fn (⟨ops⟩ : Array Oper)[i]? ds fr _ = _
  rw [List.getElem?_toArray]
theorem dev_g : DEv S fn R ⟨ops⟩ k n ((i, 4) :: l) ds fr h = DG S fn ops[i]? ⟨ops⟩ fr h (fun fr h => DEv S fn R ⟨ops⟩ k n l ds fr h) := by
  show DG S fn (⟨ops⟩ : Array Oper)[i]? _ fr h _ = _
  rw [List.getElem?_toArray]
theorem dev_x : DEv S fn R ⟨ops⟩ k n ((i, 5) :: l) ds fr h = DX S fn ops[i]? ⟨ops⟩ fr h (fun fr h => DEv S fn R ⟨ops⟩ k n l ds fr h) := by
  show DX S fn (⟨ops⟩ : Array Oper)[i]? _ fr h _ = _
  rw [List.getElem?_toArray]
theorem dd_some (d : Option Nat) (args : List Operand) (ts : Array TypeId) (ty : Nat) (pos : String) (af : Array Edge) (E : List ADef → Fr → Prop) :
    DD S fn (some ⟨d, .defer ⟨.builtin .delete, ⟨args⟩, ts⟩, ty, pos, af, none⟩) ds fr E = (dstOk fn.ntmps d = true ∧ E (.del ts (args.map (rho S fr.get)) :: ds) (fr.put d .top)) := by
  apply propext
  constructor
  · rintro ⟨d', a', ts', ty', pos', af', ho, hd, e⟩
    injection ho with ho
    injection ho with h1 h2 h3 h4 h5 h6
    injection h2 with h2
    injection h2 with h7 h8 h9
    injection h8 with h8
    subst h1 h8 h9
    exact ⟨hd, e⟩
  · rintro ⟨hd, e⟩
    exact ⟨d, args, ts, ty, pos, af, rfl, hd, e⟩
end
/-- The call of a drawn region. -/
theorem DC.fact {S : Seat} {fn : Func} {ops : Array Oper} {fr : Fr} {h : AHeap} {E : Fr → Prop} {d : Option Nat} {f : Operand} {args : List Operand} {ts : Array TypeId} {ty : Nat} {pos : String} {af : Array Edge} {gd : Option (Nat × Bool)} {fid : FuncId} {caps avs : List AV} {v : AV}
    (hc : AC S fid avs h (Pure1 v h)) (hw : awanted ops ⟨d, .call ⟨.value f, ⟨args⟩, ts⟩, ty, pos, af, gd⟩ fr.get = some true) (hd : dstOk fn.ntmps d = true) (hfn : rho S fr.get f = .func fid caps) (he : Enters S fid)
    (has : fgtL (args.map (rho S fr.get) ++ caps) = avs) (hr : E (fr.put d v)) : DC S fn (some ⟨d, .call ⟨.value f, ⟨args⟩, ts⟩, ty, pos, af, gd⟩) ops fr h E :=
  .inr ⟨d, f, args, ts, ty, pos, af, gd, fid, caps, v, rfl, hw, hd, hfn, he, by subst has; exact hc.args, hr⟩
/-- A call that is not wanted. -/
theorem DC.skip {S : Seat} {fn : Func} {ops : Array Oper} {fr : Fr} {h : AHeap} {E : Fr → Prop} {o : Oper} (hw : awanted ops o fr.get = some false) (hq : quietOp o.op = false) (hd : dstOk fn.ntmps o.dst = true) (hr : E (fr.put o.dst (.tup []))) : DC S fn (some o) ops fr h E :=
  .inl ⟨o, rfl, hq, hd, hw, hr⟩
end Go.Proofs.YtajknofacjiddaaDoor.Abs

/- The facts on types that the reckoning asks. By program. -/
namespace Go.Proofs.YtajknofacjiddaaDoor.Abs
open Go Go.RowKit
set_option maxRecDepth 100000
set_option linter.unusedSimpArgs false
set_option linter.unusedVariables false
theorem sd_mixed : Tryd.prog.follows .mixedOrders = true := by kernel_rfl
noncomputable def gl0 : Nat → Option (List AV) := fun _ => none
/-- The library's table of white space is as it was laid. -/
def base0 (w : World) : Prop := Go.Lib.TabIs Tryd.prog w "strings.asciiSpace" .u8 Go.Lib.asciiSpaceTab

noncomputable def sd : Seat := ⟨Tryd.prog, gl0, base0, sd_mixed⟩
theorem sdP : sd.P = Tryd.prog := rfl
theorem c3 : Tryd.prog.cellsOf 3 = 1 := by kernel_rfl
theorem i3 : (Tryd.prog.info? 3).isSome = true := by kernel_rfl
theorem rd_3 (v : AV) (cs : List AV) : areadT sd 3 (v :: cs) = some v := by simp [sdP, areadT, Tryd.underlying3, isAggT]
theorem c4 : Tryd.prog.cellsOf 4 = 1 := by kernel_rfl
theorem i4 : (Tryd.prog.info? 4).isSome = true := by kernel_rfl
theorem rd_4 (v : AV) (cs : List AV) : areadT sd 4 (v :: cs) = some v := by simp [sdP, areadT, Tryd.underlying4, isAggT]
theorem c5 : Tryd.prog.cellsOf 5 = 1 := by kernel_rfl
theorem i5 : (Tryd.prog.info? 5).isSome = true := by kernel_rfl
theorem rd_5 (v : AV) (cs : List AV) : areadT sd 5 (v :: cs) = some v := by simp [sdP, areadT, Tryd.underlying5, isAggT]
theorem c9 : Tryd.prog.cellsOf 9 = 1 := by kernel_rfl
theorem i9 : (Tryd.prog.info? 9).isSome = true := by kernel_rfl
theorem rd_9 (v : AV) (cs : List AV) : areadT sd 9 (v :: cs) = some v := by simp [sdP, areadT, Tryd.underlying9, isAggT]
theorem c22 : Tryd.prog.cellsOf 22 = 1 := by kernel_rfl
theorem i22 : (Tryd.prog.info? 22).isSome = true := by kernel_rfl
theorem rd_22 (v : AV) (cs : List AV) : areadT sd 22 (v :: cs) = some v := by simp [sdP, areadT, Tryd.underlying22, isAggT]
theorem c30 : Tryd.prog.cellsOf 30 = 1 := by kernel_rfl
theorem i30 : (Tryd.prog.info? 30).isSome = true := by kernel_rfl
theorem rd_30 (v : AV) (cs : List AV) : areadT sd 30 (v :: cs) = some v := by simp [sdP, areadT, Tryd.underlying30, isAggT]
theorem c32 : Tryd.prog.cellsOf 32 = 4 := by kernel_rfl
theorem i32 : (Tryd.prog.info? 32).isSome = true := by kernel_rfl
theorem rd_32 (v0 v1 v2 v3 : AV) (cs : List AV) : areadT sd 32 (v0 :: v1 :: v2 :: v3 :: cs) = some (.agg [v0, v1, v2, v3]) := by simp [sdP, areadT, Tryd.underlying32, c32, isAggT]
theorem c39 : Tryd.prog.cellsOf 39 = 1 := by kernel_rfl
theorem i39 : (Tryd.prog.info? 39).isSome = true := by kernel_rfl
theorem rd_39 (v : AV) (cs : List AV) : areadT sd 39 (v :: cs) = some v := by simp [sdP, areadT, Tryd.underlying39, isAggT]
theorem c41 : Tryd.prog.cellsOf 41 = 7 := by kernel_rfl
theorem i41 : (Tryd.prog.info? 41).isSome = true := by kernel_rfl
theorem rd_41 (v0 v1 v2 v3 v4 v5 v6 : AV) (cs : List AV) : areadT sd 41 (v0 :: v1 :: v2 :: v3 :: v4 :: v5 :: v6 :: cs) = some (.agg [v0, v1, v2, v3, v4, v5, v6]) := by simp [sdP, areadT, Tryd.underlying41, c41, isAggT]
theorem c43 : Tryd.prog.cellsOf 43 = 1 := by kernel_rfl
theorem i43 : (Tryd.prog.info? 43).isSome = true := by kernel_rfl
theorem rd_43 (v : AV) (cs : List AV) : areadT sd 43 (v :: cs) = some v := by simp [sdP, areadT, Tryd.underlying43, isAggT]
theorem c49 : Tryd.prog.cellsOf 49 = 6 := by kernel_rfl
theorem i49 : (Tryd.prog.info? 49).isSome = true := by kernel_rfl
theorem rd_49 (v0 v1 v2 v3 v4 v5 : AV) (cs : List AV) : areadT sd 49 (v0 :: v1 :: v2 :: v3 :: v4 :: v5 :: cs) = some (.agg [v0, v1, v2, v3, v4, v5]) := by simp [sdP, areadT, Tryd.underlying49, c49, isAggT]
theorem c54 : Tryd.prog.cellsOf 54 = 3 := by kernel_rfl
theorem i54 : (Tryd.prog.info? 54).isSome = true := by kernel_rfl
theorem rd_54 (v0 v1 v2 : AV) (cs : List AV) : areadT sd 54 (v0 :: v1 :: v2 :: cs) = some (.agg [v0, v1, v2]) := by simp [sdP, areadT, Tryd.underlying54, c54, isAggT]
theorem c65 : Tryd.prog.cellsOf 65 = 2 := by kernel_rfl
theorem i65 : (Tryd.prog.info? 65).isSome = true := by kernel_rfl
theorem rd_65 (v0 v1 : AV) (cs : List AV) : areadT sd 65 (v0 :: v1 :: cs) = some (.agg [v0, v1]) := by simp [sdP, areadT, Tryd.underlying65, c65, isAggT]
theorem c67 : Tryd.prog.cellsOf 67 = 1 := by kernel_rfl
theorem i67 : (Tryd.prog.info? 67).isSome = true := by kernel_rfl
theorem rd_67 (v : AV) (cs : List AV) : areadT sd 67 (v :: cs) = some v := by simp [sdP, areadT, Tryd.underlying67, isAggT]
theorem c73 : Tryd.prog.cellsOf 73 = 1 := by kernel_rfl
theorem i73 : (Tryd.prog.info? 73).isSome = true := by kernel_rfl
theorem rd_73 (v : AV) (cs : List AV) : areadT sd 73 (v :: cs) = some v := by simp [sdP, areadT, Tryd.underlying73, isAggT]
theorem c97 : Tryd.prog.cellsOf 97 = 2 := by kernel_rfl
theorem i97 : (Tryd.prog.info? 97).isSome = true := by kernel_rfl
theorem rd_97 (v0 v1 : AV) (cs : List AV) : areadT sd 97 (v0 :: v1 :: cs) = some (.agg [v0, v1]) := by simp [sdP, areadT, Tryd.underlying97, c97, isAggT]
theorem c98 : Tryd.prog.cellsOf 98 = 1 := by kernel_rfl
theorem i98 : (Tryd.prog.info? 98).isSome = true := by kernel_rfl
theorem rd_98 (v : AV) (cs : List AV) : areadT sd 98 (v :: cs) = some v := by simp [sdP, areadT, Tryd.underlying98, isAggT]
theorem c100 : Tryd.prog.cellsOf 100 = 1 := by kernel_rfl
theorem i100 : (Tryd.prog.info? 100).isSome = true := by kernel_rfl
theorem rd_100 (v : AV) (cs : List AV) : areadT sd 100 (v :: cs) = some v := by simp [sdP, areadT, Tryd.underlying100, isAggT]
theorem c101 : Tryd.prog.cellsOf 101 = 1 := by kernel_rfl
theorem i101 : (Tryd.prog.info? 101).isSome = true := by kernel_rfl
theorem rd_101 (v : AV) (cs : List AV) : areadT sd 101 (v :: cs) = some v := by simp [sdP, areadT, Tryd.underlying101, isAggT]
theorem c102 : Tryd.prog.cellsOf 102 = 1 := by kernel_rfl
theorem i102 : (Tryd.prog.info? 102).isSome = true := by kernel_rfl
theorem rd_102 (v : AV) (cs : List AV) : areadT sd 102 (v :: cs) = some v := by simp [sdP, areadT, Tryd.underlying102, isAggT]
theorem c105 : Tryd.prog.cellsOf 105 = 1 := by kernel_rfl
theorem i105 : (Tryd.prog.info? 105).isSome = true := by kernel_rfl
theorem rd_105 (v : AV) (cs : List AV) : areadT sd 105 (v :: cs) = some v := by simp [sdP, areadT, Tryd.underlying105, isAggT]
theorem c110 : Tryd.prog.cellsOf 110 = 3 := by kernel_rfl
theorem i110 : (Tryd.prog.info? 110).isSome = true := by kernel_rfl
theorem rd_110 (v0 v1 v2 : AV) (cs : List AV) : areadT sd 110 (v0 :: v1 :: v2 :: cs) = some (.agg [v0, v1, v2]) := by simp [sdP, areadT, Tryd.underlying110, c110, isAggT]
theorem fa_32_0p (id off : Nat) : afieldAddr sd 32 (.ptr id off) 0 = some (.ptr id (off + 0)) := by simp [sdP, afieldAddr, Tryd.underlying32, c5, Tryd.underlying5]
theorem fa_32_0c (cs : List AV) : afieldAddr sd 32 (.cptr cs) 0 = some (.cptr (cs.drop 0)) := by simp [sdP, afieldAddr, Tryd.underlying32, c5, Tryd.underlying5]
theorem fa_32_1p (id off : Nat) : afieldAddr sd 32 (.ptr id off) 1 = some (.ptr id (off + 1)) := by simp [sdP, afieldAddr, Tryd.underlying32, c3, Tryd.underlying3]
theorem fa_32_1c (cs : List AV) : afieldAddr sd 32 (.cptr cs) 1 = some (.cptr (cs.drop 1)) := by simp [sdP, afieldAddr, Tryd.underlying32, c3, Tryd.underlying3]
theorem fa_32_2p (id off : Nat) : afieldAddr sd 32 (.ptr id off) 2 = some (.ptr id (off + 2)) := by simp [sdP, afieldAddr, Tryd.underlying32, c9, Tryd.underlying9]
theorem fa_32_2c (cs : List AV) : afieldAddr sd 32 (.cptr cs) 2 = some (.cptr (cs.drop 2)) := by simp [sdP, afieldAddr, Tryd.underlying32, c9, Tryd.underlying9]
theorem fa_32_3p (id off : Nat) : afieldAddr sd 32 (.ptr id off) 3 = some (.ptr id (off + 3)) := by simp [sdP, afieldAddr, Tryd.underlying32, c30, Tryd.underlying30]
theorem fa_32_3c (cs : List AV) : afieldAddr sd 32 (.cptr cs) 3 = some (.cptr (cs.drop 3)) := by simp [sdP, afieldAddr, Tryd.underlying32, c30, Tryd.underlying30]
theorem fa_41_0p (id off : Nat) : afieldAddr sd 41 (.ptr id off) 0 = some (.ptr id (off + 0)) := by simp [sdP, afieldAddr, Tryd.underlying41, c9, Tryd.underlying9]
theorem fa_41_0c (cs : List AV) : afieldAddr sd 41 (.cptr cs) 0 = some (.cptr (cs.drop 0)) := by simp [sdP, afieldAddr, Tryd.underlying41, c9, Tryd.underlying9]
theorem fa_41_1p (id off : Nat) : afieldAddr sd 41 (.ptr id off) 1 = some (.ptr id (off + 1)) := by simp [sdP, afieldAddr, Tryd.underlying41, c39, Tryd.underlying39]
theorem fa_41_1c (cs : List AV) : afieldAddr sd 41 (.cptr cs) 1 = some (.cptr (cs.drop 1)) := by simp [sdP, afieldAddr, Tryd.underlying41, c39, Tryd.underlying39]
theorem fa_41_2p (id off : Nat) : afieldAddr sd 41 (.ptr id off) 2 = some (.ptr id (off + 2)) := by simp [sdP, afieldAddr, Tryd.underlying41, c4, Tryd.underlying4]
theorem fa_41_2c (cs : List AV) : afieldAddr sd 41 (.cptr cs) 2 = some (.cptr (cs.drop 2)) := by simp [sdP, afieldAddr, Tryd.underlying41, c4, Tryd.underlying4]
theorem fa_41_3p (id off : Nat) : afieldAddr sd 41 (.ptr id off) 3 = some (.ptr id (off + 3)) := by simp [sdP, afieldAddr, Tryd.underlying41, c32, Tryd.underlying32]
theorem fa_41_3c (cs : List AV) : afieldAddr sd 41 (.cptr cs) 3 = some (.cptr (cs.drop 3)) := by simp [sdP, afieldAddr, Tryd.underlying41, c32, Tryd.underlying32]
theorem fa_49_0p (id off : Nat) : afieldAddr sd 49 (.ptr id off) 0 = some (.ptr id (off + 0)) := by simp [sdP, afieldAddr, Tryd.underlying49, c32, Tryd.underlying32]
theorem fa_49_0c (cs : List AV) : afieldAddr sd 49 (.cptr cs) 0 = some (.cptr (cs.drop 0)) := by simp [sdP, afieldAddr, Tryd.underlying49, c32, Tryd.underlying32]
theorem fa_49_1p (id off : Nat) : afieldAddr sd 49 (.ptr id off) 1 = some (.ptr id (off + 4)) := by simp [sdP, afieldAddr, Tryd.underlying49, c4, Tryd.underlying4]
theorem fa_49_1c (cs : List AV) : afieldAddr sd 49 (.cptr cs) 1 = some (.cptr (cs.drop 4)) := by simp [sdP, afieldAddr, Tryd.underlying49, c4, Tryd.underlying4]
theorem fa_49_2p (id off : Nat) : afieldAddr sd 49 (.ptr id off) 2 = some (.ptr id (off + 5)) := by simp [sdP, afieldAddr, Tryd.underlying49, c4, Tryd.underlying4]
theorem fa_49_2c (cs : List AV) : afieldAddr sd 49 (.cptr cs) 2 = some (.cptr (cs.drop 5)) := by simp [sdP, afieldAddr, Tryd.underlying49, c4, Tryd.underlying4]
theorem fa_54_0p (id off : Nat) : afieldAddr sd 54 (.ptr id off) 0 = some (.ptr id (off + 0)) := by simp [sdP, afieldAddr, Tryd.underlying54, c4, Tryd.underlying4]
theorem fa_54_0c (cs : List AV) : afieldAddr sd 54 (.cptr cs) 0 = some (.cptr (cs.drop 0)) := by simp [sdP, afieldAddr, Tryd.underlying54, c4, Tryd.underlying4]
theorem fa_54_1p (id off : Nat) : afieldAddr sd 54 (.ptr id off) 1 = some (.ptr id (off + 1)) := by simp [sdP, afieldAddr, Tryd.underlying54, c3, Tryd.underlying3]
theorem fa_54_1c (cs : List AV) : afieldAddr sd 54 (.cptr cs) 1 = some (.cptr (cs.drop 1)) := by simp [sdP, afieldAddr, Tryd.underlying54, c3, Tryd.underlying3]
theorem fa_54_2p (id off : Nat) : afieldAddr sd 54 (.ptr id off) 2 = some (.ptr id (off + 2)) := by simp [sdP, afieldAddr, Tryd.underlying54, c43, Tryd.underlying43]
theorem fa_54_2c (cs : List AV) : afieldAddr sd 54 (.cptr cs) 2 = some (.cptr (cs.drop 2)) := by simp [sdP, afieldAddr, Tryd.underlying54, c43, Tryd.underlying43]
theorem fa_65_0p (id off : Nat) : afieldAddr sd 65 (.ptr id off) 0 = some (.ptr id (off + 0)) := by simp [sdP, afieldAddr, Tryd.underlying65, c9, Tryd.underlying9]
theorem fa_65_0c (cs : List AV) : afieldAddr sd 65 (.cptr cs) 0 = some (.cptr (cs.drop 0)) := by simp [sdP, afieldAddr, Tryd.underlying65, c9, Tryd.underlying9]
theorem fa_65_1p (id off : Nat) : afieldAddr sd 65 (.ptr id off) 1 = some (.ptr id (off + 1)) := by simp [sdP, afieldAddr, Tryd.underlying65, c4, Tryd.underlying4]
theorem fa_65_1c (cs : List AV) : afieldAddr sd 65 (.cptr cs) 1 = some (.cptr (cs.drop 1)) := by simp [sdP, afieldAddr, Tryd.underlying65, c4, Tryd.underlying4]
theorem c79 : Tryd.prog.cellsOf 79 = 2 := by kernel_rfl
theorem i79 : (Tryd.prog.info? 79).isSome = true := by kernel_rfl
theorem fa_79_0p (id off : Nat) : afieldAddr sd 79 (.ptr id off) 0 = some (.ptr id (off + 0)) := by simp [sdP, afieldAddr, Tryd.underlying79, c22, Tryd.underlying22]
theorem fa_79_0c (cs : List AV) : afieldAddr sd 79 (.cptr cs) 0 = some (.cptr (cs.drop 0)) := by simp [sdP, afieldAddr, Tryd.underlying79, c22, Tryd.underlying22]
theorem fa_79_1p (id off : Nat) : afieldAddr sd 79 (.ptr id off) 1 = some (.ptr id (off + 1)) := by simp [sdP, afieldAddr, Tryd.underlying79, c73, Tryd.underlying73]
theorem fa_79_1c (cs : List AV) : afieldAddr sd 79 (.cptr cs) 1 = some (.cptr (cs.drop 1)) := by simp [sdP, afieldAddr, Tryd.underlying79, c73, Tryd.underlying73]
theorem fa_97_0p (id off : Nat) : afieldAddr sd 97 (.ptr id off) 0 = some (.ptr id (off + 0)) := by simp [sdP, afieldAddr, Tryd.underlying97, c3, Tryd.underlying3]
theorem fa_97_0c (cs : List AV) : afieldAddr sd 97 (.cptr cs) 0 = some (.cptr (cs.drop 0)) := by simp [sdP, afieldAddr, Tryd.underlying97, c3, Tryd.underlying3]
theorem fa_97_1p (id off : Nat) : afieldAddr sd 97 (.ptr id off) 1 = some (.ptr id (off + 1)) := by simp [sdP, afieldAddr, Tryd.underlying97, c3, Tryd.underlying3]
theorem fa_97_1c (cs : List AV) : afieldAddr sd 97 (.cptr cs) 1 = some (.cptr (cs.drop 1)) := by simp [sdP, afieldAddr, Tryd.underlying97, c3, Tryd.underlying3]
theorem c104 : Tryd.prog.cellsOf 104 = 3 := by kernel_rfl
theorem i104 : (Tryd.prog.info? 104).isSome = true := by kernel_rfl
theorem fa_104_0p (id off : Nat) : afieldAddr sd 104 (.ptr id off) 0 = some (.ptr id (off + 0)) := by simp [sdP, afieldAddr, Tryd.underlying104, c101, Tryd.underlying101]
theorem fa_104_0c (cs : List AV) : afieldAddr sd 104 (.cptr cs) 0 = some (.cptr (cs.drop 0)) := by simp [sdP, afieldAddr, Tryd.underlying104, c101, Tryd.underlying101]
theorem fa_104_1p (id off : Nat) : afieldAddr sd 104 (.ptr id off) 1 = some (.ptr id (off + 1)) := by simp [sdP, afieldAddr, Tryd.underlying104, c102, Tryd.underlying102]
theorem fa_104_1c (cs : List AV) : afieldAddr sd 104 (.cptr cs) 1 = some (.cptr (cs.drop 1)) := by simp [sdP, afieldAddr, Tryd.underlying104, c102, Tryd.underlying102]
theorem fa_104_2p (id off : Nat) : afieldAddr sd 104 (.ptr id off) 2 = some (.ptr id (off + 2)) := by simp [sdP, afieldAddr, Tryd.underlying104, c3, Tryd.underlying3]
theorem fa_104_2c (cs : List AV) : afieldAddr sd 104 (.cptr cs) 2 = some (.cptr (cs.drop 2)) := by simp [sdP, afieldAddr, Tryd.underlying104, c3, Tryd.underlying3]
theorem c107 : Tryd.prog.cellsOf 107 = 3 := by kernel_rfl
theorem i107 : (Tryd.prog.info? 107).isSome = true := by kernel_rfl
theorem fa_107_0p (id off : Nat) : afieldAddr sd 107 (.ptr id off) 0 = some (.ptr id (off + 0)) := by simp [sdP, afieldAddr, Tryd.underlying107, c105, Tryd.underlying105]
theorem fa_107_0c (cs : List AV) : afieldAddr sd 107 (.cptr cs) 0 = some (.cptr (cs.drop 0)) := by simp [sdP, afieldAddr, Tryd.underlying107, c105, Tryd.underlying105]
theorem fa_107_1p (id off : Nat) : afieldAddr sd 107 (.ptr id off) 1 = some (.ptr id (off + 1)) := by simp [sdP, afieldAddr, Tryd.underlying107, c105, Tryd.underlying105]
theorem fa_107_1c (cs : List AV) : afieldAddr sd 107 (.cptr cs) 1 = some (.cptr (cs.drop 1)) := by simp [sdP, afieldAddr, Tryd.underlying107, c105, Tryd.underlying105]
theorem fa_107_2p (id off : Nat) : afieldAddr sd 107 (.ptr id off) 2 = some (.ptr id (off + 2)) := by simp [sdP, afieldAddr, Tryd.underlying107, c105, Tryd.underlying105]
theorem fa_107_2c (cs : List AV) : afieldAddr sd 107 (.cptr cs) 2 = some (.cptr (cs.drop 2)) := by simp [sdP, afieldAddr, Tryd.underlying107, c105, Tryd.underlying105]
theorem fa_110_0p (id off : Nat) : afieldAddr sd 110 (.ptr id off) 0 = some (.ptr id (off + 0)) := by simp [sdP, afieldAddr, Tryd.underlying110, c98, Tryd.underlying98]
theorem fa_110_0c (cs : List AV) : afieldAddr sd 110 (.cptr cs) 0 = some (.cptr (cs.drop 0)) := by simp [sdP, afieldAddr, Tryd.underlying110, c98, Tryd.underlying98]
theorem fa_110_1p (id off : Nat) : afieldAddr sd 110 (.ptr id off) 1 = some (.ptr id (off + 1)) := by simp [sdP, afieldAddr, Tryd.underlying110, c98, Tryd.underlying98]
theorem fa_110_1c (cs : List AV) : afieldAddr sd 110 (.cptr cs) 1 = some (.cptr (cs.drop 1)) := by simp [sdP, afieldAddr, Tryd.underlying110, c98, Tryd.underlying98]
theorem fa_110_2p (id off : Nat) : afieldAddr sd 110 (.ptr id off) 2 = some (.ptr id (off + 2)) := by simp [sdP, afieldAddr, Tryd.underlying110, c98, Tryd.underlying98]
theorem fa_110_2c (cs : List AV) : afieldAddr sd 110 (.cptr cs) 2 = some (.cptr (cs.drop 2)) := by simp [sdP, afieldAddr, Tryd.underlying110, c98, Tryd.underlying98]
theorem ia_22 (els : List (List AV)) (tok : Tok) (k : IntKind) (i : Int) : aindexAddr sd 22 (.slice 7 els tok) (.int k i) = if 0 ≤ i ∧ i < els.length then some (.cptr (els.getD i.toNat [])) else none := by simp [sdP, aindexAddr, Tryd.underlying22, Tryd.underlying41, c41]
theorem ia_22k (els : List (List AV)) (k : IntKind) (i : Int) : aindexAddr sd 22 (kslice 7 els) (.int k i) = if 0 ≤ i ∧ i < els.length then some (.cptr (els.getD i.toNat [])) else none := by
  cases els with
  | nil =>
    have : ¬ (0 ≤ i ∧ i < 0) := by omega
    simp [sdP, kslice, sdP, aindexAddr, Tryd.underlying22, Tryd.underlying41, c41, this]
  | cons e es => exact ia_22 (e :: es) .unk k i
theorem ia_22r (id off len cap : Nat) (k : IntKind) (i : Int) : aindexAddr sd 22 (.row id off len cap 7) (.int k i) = if 0 ≤ i ∧ i < len then some (.ptr id (off + i.toNat * 7)) else none := by simp [sdP, aindexAddr, Tryd.underlying22, Tryd.underlying41, c41]
theorem ia_30 (els : List (List AV)) (tok : Tok) (k : IntKind) (i : Int) : aindexAddr sd 30 (.slice 4 els tok) (.int k i) = if 0 ≤ i ∧ i < els.length then some (.cptr (els.getD i.toNat [])) else none := by simp [sdP, aindexAddr, Tryd.underlying30, Tryd.underlying32, c32]
theorem ia_30k (els : List (List AV)) (k : IntKind) (i : Int) : aindexAddr sd 30 (kslice 4 els) (.int k i) = if 0 ≤ i ∧ i < els.length then some (.cptr (els.getD i.toNat [])) else none := by
  cases els with
  | nil =>
    have : ¬ (0 ≤ i ∧ i < 0) := by omega
    simp [sdP, kslice, sdP, aindexAddr, Tryd.underlying30, Tryd.underlying32, c32, this]
  | cons e es => exact ia_30 (e :: es) .unk k i
theorem ia_30r (id off len cap : Nat) (k : IntKind) (i : Int) : aindexAddr sd 30 (.row id off len cap 4) (.int k i) = if 0 ≤ i ∧ i < len then some (.ptr id (off + i.toNat * 4)) else none := by simp [sdP, aindexAddr, Tryd.underlying30, Tryd.underlying32, c32]
theorem ia_39 (els : List (List AV)) (tok : Tok) (k : IntKind) (i : Int) : aindexAddr sd 39 (.slice 2 els tok) (.int k i) = if 0 ≤ i ∧ i < els.length then some (.cptr (els.getD i.toNat [])) else none := by simp [sdP, aindexAddr, Tryd.underlying39, Tryd.underlying65, c65]
theorem ia_39k (els : List (List AV)) (k : IntKind) (i : Int) : aindexAddr sd 39 (kslice 2 els) (.int k i) = if 0 ≤ i ∧ i < els.length then some (.cptr (els.getD i.toNat [])) else none := by
  cases els with
  | nil =>
    have : ¬ (0 ≤ i ∧ i < 0) := by omega
    simp [sdP, kslice, sdP, aindexAddr, Tryd.underlying39, Tryd.underlying65, c65, this]
  | cons e es => exact ia_39 (e :: es) .unk k i
theorem ia_39r (id off len cap : Nat) (k : IntKind) (i : Int) : aindexAddr sd 39 (.row id off len cap 2) (.int k i) = if 0 ≤ i ∧ i < len then some (.ptr id (off + i.toNat * 2)) else none := by simp [sdP, aindexAddr, Tryd.underlying39, Tryd.underlying65, c65]
theorem ia_43 (els : List (List AV)) (tok : Tok) (k : IntKind) (i : Int) : aindexAddr sd 43 (.slice 1 els tok) (.int k i) = if 0 ≤ i ∧ i < els.length then some (.cptr (els.getD i.toNat [])) else none := by simp [sdP, aindexAddr, Tryd.underlying43, Tryd.underlying3, c3]
theorem ia_43k (els : List (List AV)) (k : IntKind) (i : Int) : aindexAddr sd 43 (kslice 1 els) (.int k i) = if 0 ≤ i ∧ i < els.length then some (.cptr (els.getD i.toNat [])) else none := by
  cases els with
  | nil =>
    have : ¬ (0 ≤ i ∧ i < 0) := by omega
    simp [sdP, kslice, sdP, aindexAddr, Tryd.underlying43, Tryd.underlying3, c3, this]
  | cons e es => exact ia_43 (e :: es) .unk k i
theorem ia_43r (id off len cap : Nat) (k : IntKind) (i : Int) : aindexAddr sd 43 (.row id off len cap 1) (.int k i) = if 0 ≤ i ∧ i < len then some (.ptr id (off + i.toNat * 1)) else none := by simp [sdP, aindexAddr, Tryd.underlying43, Tryd.underlying3, c3]
theorem c50 : Tryd.prog.cellsOf 50 = 1 := by kernel_rfl
theorem i50 : (Tryd.prog.info? 50).isSome = true := by kernel_rfl
theorem ia_50 (els : List (List AV)) (tok : Tok) (k : IntKind) (i : Int) : aindexAddr sd 50 (.slice 6 els tok) (.int k i) = if 0 ≤ i ∧ i < els.length then some (.cptr (els.getD i.toNat [])) else none := by simp [sdP, aindexAddr, Tryd.underlying50, Tryd.underlying49, c49]
theorem ia_50k (els : List (List AV)) (k : IntKind) (i : Int) : aindexAddr sd 50 (kslice 6 els) (.int k i) = if 0 ≤ i ∧ i < els.length then some (.cptr (els.getD i.toNat [])) else none := by
  cases els with
  | nil =>
    have : ¬ (0 ≤ i ∧ i < 0) := by omega
    simp [sdP, kslice, sdP, aindexAddr, Tryd.underlying50, Tryd.underlying49, c49, this]
  | cons e es => exact ia_50 (e :: es) .unk k i
theorem ia_50r (id off len cap : Nat) (k : IntKind) (i : Int) : aindexAddr sd 50 (.row id off len cap 6) (.int k i) = if 0 ≤ i ∧ i < len then some (.ptr id (off + i.toNat * 6)) else none := by simp [sdP, aindexAddr, Tryd.underlying50, Tryd.underlying49, c49]
theorem c63 : Tryd.prog.cellsOf 63 = 1 := by kernel_rfl
theorem i63 : (Tryd.prog.info? 63).isSome = true := by kernel_rfl
theorem ia_63 (els : List (List AV)) (tok : Tok) (k : IntKind) (i : Int) : aindexAddr sd 63 (.slice 1 els tok) (.int k i) = if 0 ≤ i ∧ i < els.length then some (.cptr (els.getD i.toNat [])) else none := by simp [sdP, aindexAddr, Tryd.underlying63, Tryd.underlying4, c4]
theorem ia_63k (els : List (List AV)) (k : IntKind) (i : Int) : aindexAddr sd 63 (kslice 1 els) (.int k i) = if 0 ≤ i ∧ i < els.length then some (.cptr (els.getD i.toNat [])) else none := by
  cases els with
  | nil =>
    have : ¬ (0 ≤ i ∧ i < 0) := by omega
    simp [sdP, kslice, sdP, aindexAddr, Tryd.underlying63, Tryd.underlying4, c4, this]
  | cons e es => exact ia_63 (e :: es) .unk k i
theorem ia_63r (id off len cap : Nat) (k : IntKind) (i : Int) : aindexAddr sd 63 (.row id off len cap 1) (.int k i) = if 0 ≤ i ∧ i < len then some (.ptr id (off + i.toNat * 1)) else none := by simp [sdP, aindexAddr, Tryd.underlying63, Tryd.underlying4, c4]
theorem c70 : Tryd.prog.cellsOf 70 = 1 := by kernel_rfl
theorem i70 : (Tryd.prog.info? 70).isSome = true := by kernel_rfl
theorem ia_70 (els : List (List AV)) (tok : Tok) (k : IntKind) (i : Int) : aindexAddr sd 70 (.slice 1 els tok) (.int k i) = if 0 ≤ i ∧ i < els.length then some (.cptr (els.getD i.toNat [])) else none := by simp [sdP, aindexAddr, Tryd.underlying70, Tryd.underlying9, c9]
theorem ia_70k (els : List (List AV)) (k : IntKind) (i : Int) : aindexAddr sd 70 (kslice 1 els) (.int k i) = if 0 ≤ i ∧ i < els.length then some (.cptr (els.getD i.toNat [])) else none := by
  cases els with
  | nil =>
    have : ¬ (0 ≤ i ∧ i < 0) := by omega
    simp [sdP, kslice, sdP, aindexAddr, Tryd.underlying70, Tryd.underlying9, c9, this]
  | cons e es => exact ia_70 (e :: es) .unk k i
theorem ia_70r (id off len cap : Nat) (k : IntKind) (i : Int) : aindexAddr sd 70 (.row id off len cap 1) (.int k i) = if 0 ≤ i ∧ i < len then some (.ptr id (off + i.toNat * 1)) else none := by simp [sdP, aindexAddr, Tryd.underlying70, Tryd.underlying9, c9]
theorem c82 : Tryd.prog.cellsOf 82 = 1 := by kernel_rfl
theorem i82 : (Tryd.prog.info? 82).isSome = true := by kernel_rfl
theorem ia_82 (els : List (List AV)) (tok : Tok) (k : IntKind) (i : Int) : aindexAddr sd 82 (.slice 1 els tok) (.int k i) = if 0 ≤ i ∧ i < els.length then some (.cptr (els.getD i.toNat [])) else none := by simp [sdP, aindexAddr, Tryd.underlying82, Tryd.underlying5, c5]
theorem ia_82k (els : List (List AV)) (k : IntKind) (i : Int) : aindexAddr sd 82 (kslice 1 els) (.int k i) = if 0 ≤ i ∧ i < els.length then some (.cptr (els.getD i.toNat [])) else none := by
  cases els with
  | nil =>
    have : ¬ (0 ≤ i ∧ i < 0) := by omega
    simp [sdP, kslice, sdP, aindexAddr, Tryd.underlying82, Tryd.underlying5, c5, this]
  | cons e es => exact ia_82 (e :: es) .unk k i
theorem ia_82r (id off len cap : Nat) (k : IntKind) (i : Int) : aindexAddr sd 82 (.row id off len cap 1) (.int k i) = if 0 ≤ i ∧ i < len then some (.ptr id (off + i.toNat * 1)) else none := by simp [sdP, aindexAddr, Tryd.underlying82, Tryd.underlying5, c5]
theorem c90 : Tryd.prog.cellsOf 90 = 3 := by kernel_rfl
theorem i90 : (Tryd.prog.info? 90).isSome = true := by kernel_rfl
theorem ia_90p (id off : Nat) (k : IntKind) (i : Int) : aindexAddr sd 90 (.ptr id off) (.int k i) = if 0 ≤ i ∧ i < (3 : Nat) then some (.ptr id (off + i.toNat * 1)) else none := by simp [sdP, aindexAddr, Tryd.underlying90, Tryd.underlying4, c4]
theorem ia_90c (cs : List AV) (k : IntKind) (i : Int) : aindexAddr sd 90 (.cptr cs) (.int k i) = if 0 ≤ i ∧ i < (3 : Nat) then some (.cptr (cs.drop (i.toNat * 1))) else none := by simp [sdP, aindexAddr, Tryd.underlying90, Tryd.underlying4, c4]
theorem c92 : Tryd.prog.cellsOf 92 = 256 := by kernel_rfl
theorem i92 : (Tryd.prog.info? 92).isSome = true := by kernel_rfl
theorem ia_92p (id off : Nat) (k : IntKind) (i : Int) : aindexAddr sd 92 (.ptr id off) (.int k i) = if 0 ≤ i ∧ i < (256 : Nat) then some (.ptr id (off + i.toNat * 1)) else none := by simp [sdP, aindexAddr, Tryd.underlying92, Tryd.underlying5, c5]
theorem ia_92c (cs : List AV) (k : IntKind) (i : Int) : aindexAddr sd 92 (.cptr cs) (.int k i) = if 0 ≤ i ∧ i < (256 : Nat) then some (.cptr (cs.drop (i.toNat * 1))) else none := by simp [sdP, aindexAddr, Tryd.underlying92, Tryd.underlying5, c5]
theorem c95 : Tryd.prog.cellsOf 95 = 1 := by kernel_rfl
theorem i95 : (Tryd.prog.info? 95).isSome = true := by kernel_rfl
theorem ia_95 (els : List (List AV)) (tok : Tok) (k : IntKind) (i : Int) : aindexAddr sd 95 (.slice 2 els tok) (.int k i) = if 0 ≤ i ∧ i < els.length then some (.cptr (els.getD i.toNat [])) else none := by simp [sdP, aindexAddr, Tryd.underlying95, Tryd.underlying97, c97]
theorem ia_95k (els : List (List AV)) (k : IntKind) (i : Int) : aindexAddr sd 95 (kslice 2 els) (.int k i) = if 0 ≤ i ∧ i < els.length then some (.cptr (els.getD i.toNat [])) else none := by
  cases els with
  | nil =>
    have : ¬ (0 ≤ i ∧ i < 0) := by omega
    simp [sdP, kslice, sdP, aindexAddr, Tryd.underlying95, Tryd.underlying97, c97, this]
  | cons e es => exact ia_95 (e :: es) .unk k i
theorem ia_95r (id off len cap : Nat) (k : IntKind) (i : Int) : aindexAddr sd 95 (.row id off len cap 2) (.int k i) = if 0 ≤ i ∧ i < len then some (.ptr id (off + i.toNat * 2)) else none := by simp [sdP, aindexAddr, Tryd.underlying95, Tryd.underlying97, c97]
theorem ia_101 (els : List (List AV)) (tok : Tok) (k : IntKind) (i : Int) : aindexAddr sd 101 (.slice 3 els tok) (.int k i) = if 0 ≤ i ∧ i < els.length then some (.cptr (els.getD i.toNat [])) else none := by simp [sdP, aindexAddr, Tryd.underlying101, Tryd.underlying107, c107]
theorem ia_101k (els : List (List AV)) (k : IntKind) (i : Int) : aindexAddr sd 101 (kslice 3 els) (.int k i) = if 0 ≤ i ∧ i < els.length then some (.cptr (els.getD i.toNat [])) else none := by
  cases els with
  | nil =>
    have : ¬ (0 ≤ i ∧ i < 0) := by omega
    simp [sdP, kslice, sdP, aindexAddr, Tryd.underlying101, Tryd.underlying107, c107, this]
  | cons e es => exact ia_101 (e :: es) .unk k i
theorem ia_101r (id off len cap : Nat) (k : IntKind) (i : Int) : aindexAddr sd 101 (.row id off len cap 3) (.int k i) = if 0 ≤ i ∧ i < len then some (.ptr id (off + i.toNat * 3)) else none := by simp [sdP, aindexAddr, Tryd.underlying101, Tryd.underlying107, c107]
theorem ia_102 (els : List (List AV)) (tok : Tok) (k : IntKind) (i : Int) : aindexAddr sd 102 (.slice 3 els tok) (.int k i) = if 0 ≤ i ∧ i < els.length then some (.cptr (els.getD i.toNat [])) else none := by simp [sdP, aindexAddr, Tryd.underlying102, Tryd.underlying110, c110]
theorem ia_102k (els : List (List AV)) (k : IntKind) (i : Int) : aindexAddr sd 102 (kslice 3 els) (.int k i) = if 0 ≤ i ∧ i < els.length then some (.cptr (els.getD i.toNat [])) else none := by
  cases els with
  | nil =>
    have : ¬ (0 ≤ i ∧ i < 0) := by omega
    simp [sdP, kslice, sdP, aindexAddr, Tryd.underlying102, Tryd.underlying110, c110, this]
  | cons e es => exact ia_102 (e :: es) .unk k i
theorem ia_102r (id off len cap : Nat) (k : IntKind) (i : Int) : aindexAddr sd 102 (.row id off len cap 3) (.int k i) = if 0 ≤ i ∧ i < len then some (.ptr id (off + i.toNat * 3)) else none := by simp [sdP, aindexAddr, Tryd.underlying102, Tryd.underlying110, c110]
theorem ix_9 (s : ByteArray) (k : IntKind) (i : Int) : aindex sd 9 (.str s) (.int k i) = if 0 ≤ i ∧ i < s.size then some (.int .u8 ((s.data.toList.getD i.toNat 0).toNat)) else none := by simp [sdP, aindex, Tryd.underlying9]
theorem z4 : azero sd 4 = some (.bool false) := by kernel_rfl
theorem b4 : Tryd.prog.bytesOf 4 = 1 := by kernel_rfl
theorem lk_73 (id : Nat) (s : ByteArray) (ok : Bool) (h : AHeap) : alookup sd 73 (.map id) (.str s) ok h = lookM (h.get id) (.str s) ok (.bool false) := alookup_map Tryd.underlying73 z4 id _ (by simp [sdP, keyOk, Tryd.underlying9]) ok h
theorem mu_73 (id : Nat) (s : ByteArray) (x : AV) (h : AHeap) : amapUpdate sd 73 (.map id) (.str s) x h = putM (h.get id) id (.str s) x h := amapUpdate_map Tryd.underlying73 id _ x (by simp [sdP, keyOk, Tryd.underlying9]) h
theorem dl_73 (id : Nat) (s : ByteArray) (h : AHeap) : adelete sd (some 73) (.map id) (.str s) h = delM (h.get id) id (.str s) h := adelete_map Tryd.underlying73 id _ (by simp [sdP, keyOk, Tryd.underlying9]) h
theorem c75 : Tryd.prog.cellsOf 75 = 1 := by kernel_rfl
theorem i75 : (Tryd.prog.info? 75).isSome = true := by kernel_rfl
theorem z3 : azero sd 3 = some (.int .i64 0) := by kernel_rfl
theorem b3 : Tryd.prog.bytesOf 3 = 8 := by kernel_rfl
theorem lk_75 (id : Nat) (q : Int) (ok : Bool) (h : AHeap) : alookup sd 75 (.map id) (.int .u8 q) ok h = lookM (h.get id) (.int .u8 q) ok (.int .i64 0) := alookup_map Tryd.underlying75 z3 id _ (by simp [sdP, keyOk, Tryd.underlying5]) ok h
theorem mu_75 (id : Nat) (q : Int) (x : AV) (h : AHeap) : amapUpdate sd 75 (.map id) (.int .u8 q) x h = putM (h.get id) id (.int .u8 q) x h := amapUpdate_map Tryd.underlying75 id _ x (by simp [sdP, keyOk, Tryd.underlying5]) h
theorem ln_9 (s : ByteArray) (h : AHeap) : abuiltin sd .len ⟨[9]⟩ [.str s] h = some (.int .i64 s.size) := by simp [sdP, abuiltin, alen, Tryd.underlying9]
theorem ln_22 (sz : Nat) (els : List (List AV)) (tok : Tok) (h : AHeap) : abuiltin sd .len ⟨[22]⟩ [.slice sz els tok] h = some (.int .i64 els.length) := by simp [sdP, abuiltin, alen, Tryd.underlying22]
theorem ln_22k (sz : Nat) (els : List (List AV)) (h : AHeap) : abuiltin sd .len ⟨[22]⟩ [kslice sz els] h = some (.int .i64 els.length) := by cases els <;> exact ln_22 _ _ _ h
theorem ln_22r (id off len cap sz : Nat) (h : AHeap) : abuiltin sd .len ⟨[22]⟩ [.row id off len cap sz] h = some (.int .i64 len) := by simp [sdP, abuiltin, alen, Tryd.underlying22]
theorem ln_30 (sz : Nat) (els : List (List AV)) (tok : Tok) (h : AHeap) : abuiltin sd .len ⟨[30]⟩ [.slice sz els tok] h = some (.int .i64 els.length) := by simp [sdP, abuiltin, alen, Tryd.underlying30]
theorem ln_30k (sz : Nat) (els : List (List AV)) (h : AHeap) : abuiltin sd .len ⟨[30]⟩ [kslice sz els] h = some (.int .i64 els.length) := by cases els <;> exact ln_30 _ _ _ h
theorem ln_30r (id off len cap sz : Nat) (h : AHeap) : abuiltin sd .len ⟨[30]⟩ [.row id off len cap sz] h = some (.int .i64 len) := by simp [sdP, abuiltin, alen, Tryd.underlying30]
theorem ln_39 (sz : Nat) (els : List (List AV)) (tok : Tok) (h : AHeap) : abuiltin sd .len ⟨[39]⟩ [.slice sz els tok] h = some (.int .i64 els.length) := by simp [sdP, abuiltin, alen, Tryd.underlying39]
theorem ln_39k (sz : Nat) (els : List (List AV)) (h : AHeap) : abuiltin sd .len ⟨[39]⟩ [kslice sz els] h = some (.int .i64 els.length) := by cases els <;> exact ln_39 _ _ _ h
theorem ln_39r (id off len cap sz : Nat) (h : AHeap) : abuiltin sd .len ⟨[39]⟩ [.row id off len cap sz] h = some (.int .i64 len) := by simp [sdP, abuiltin, alen, Tryd.underlying39]
theorem ln_43 (sz : Nat) (els : List (List AV)) (tok : Tok) (h : AHeap) : abuiltin sd .len ⟨[43]⟩ [.slice sz els tok] h = some (.int .i64 els.length) := by simp [sdP, abuiltin, alen, Tryd.underlying43]
theorem ln_43k (sz : Nat) (els : List (List AV)) (h : AHeap) : abuiltin sd .len ⟨[43]⟩ [kslice sz els] h = some (.int .i64 els.length) := by cases els <;> exact ln_43 _ _ _ h
theorem ln_43r (id off len cap sz : Nat) (h : AHeap) : abuiltin sd .len ⟨[43]⟩ [.row id off len cap sz] h = some (.int .i64 len) := by simp [sdP, abuiltin, alen, Tryd.underlying43]
theorem ln_50 (sz : Nat) (els : List (List AV)) (tok : Tok) (h : AHeap) : abuiltin sd .len ⟨[50]⟩ [.slice sz els tok] h = some (.int .i64 els.length) := by simp [sdP, abuiltin, alen, Tryd.underlying50]
theorem ln_50k (sz : Nat) (els : List (List AV)) (h : AHeap) : abuiltin sd .len ⟨[50]⟩ [kslice sz els] h = some (.int .i64 els.length) := by cases els <;> exact ln_50 _ _ _ h
theorem ln_50r (id off len cap sz : Nat) (h : AHeap) : abuiltin sd .len ⟨[50]⟩ [.row id off len cap sz] h = some (.int .i64 len) := by simp [sdP, abuiltin, alen, Tryd.underlying50]
theorem ln_63 (sz : Nat) (els : List (List AV)) (tok : Tok) (h : AHeap) : abuiltin sd .len ⟨[63]⟩ [.slice sz els tok] h = some (.int .i64 els.length) := by simp [sdP, abuiltin, alen, Tryd.underlying63]
theorem ln_63k (sz : Nat) (els : List (List AV)) (h : AHeap) : abuiltin sd .len ⟨[63]⟩ [kslice sz els] h = some (.int .i64 els.length) := by cases els <;> exact ln_63 _ _ _ h
theorem ln_63r (id off len cap sz : Nat) (h : AHeap) : abuiltin sd .len ⟨[63]⟩ [.row id off len cap sz] h = some (.int .i64 len) := by simp [sdP, abuiltin, alen, Tryd.underlying63]
theorem ln_70 (sz : Nat) (els : List (List AV)) (tok : Tok) (h : AHeap) : abuiltin sd .len ⟨[70]⟩ [.slice sz els tok] h = some (.int .i64 els.length) := by simp [sdP, abuiltin, alen, Tryd.underlying70]
theorem ln_70k (sz : Nat) (els : List (List AV)) (h : AHeap) : abuiltin sd .len ⟨[70]⟩ [kslice sz els] h = some (.int .i64 els.length) := by cases els <;> exact ln_70 _ _ _ h
theorem ln_70r (id off len cap sz : Nat) (h : AHeap) : abuiltin sd .len ⟨[70]⟩ [.row id off len cap sz] h = some (.int .i64 len) := by simp [sdP, abuiltin, alen, Tryd.underlying70]
theorem ln_82 (sz : Nat) (els : List (List AV)) (tok : Tok) (h : AHeap) : abuiltin sd .len ⟨[82]⟩ [.slice sz els tok] h = some (.int .i64 els.length) := by simp [sdP, abuiltin, alen, Tryd.underlying82]
theorem ln_82k (sz : Nat) (els : List (List AV)) (h : AHeap) : abuiltin sd .len ⟨[82]⟩ [kslice sz els] h = some (.int .i64 els.length) := by cases els <;> exact ln_82 _ _ _ h
theorem ln_82r (id off len cap sz : Nat) (h : AHeap) : abuiltin sd .len ⟨[82]⟩ [.row id off len cap sz] h = some (.int .i64 len) := by simp [sdP, abuiltin, alen, Tryd.underlying82]
theorem ln_95 (sz : Nat) (els : List (List AV)) (tok : Tok) (h : AHeap) : abuiltin sd .len ⟨[95]⟩ [.slice sz els tok] h = some (.int .i64 els.length) := by simp [sdP, abuiltin, alen, Tryd.underlying95]
theorem ln_95k (sz : Nat) (els : List (List AV)) (h : AHeap) : abuiltin sd .len ⟨[95]⟩ [kslice sz els] h = some (.int .i64 els.length) := by cases els <;> exact ln_95 _ _ _ h
theorem ln_95r (id off len cap sz : Nat) (h : AHeap) : abuiltin sd .len ⟨[95]⟩ [.row id off len cap sz] h = some (.int .i64 len) := by simp [sdP, abuiltin, alen, Tryd.underlying95]
theorem ln_101 (sz : Nat) (els : List (List AV)) (tok : Tok) (h : AHeap) : abuiltin sd .len ⟨[101]⟩ [.slice sz els tok] h = some (.int .i64 els.length) := by simp [sdP, abuiltin, alen, Tryd.underlying101]
theorem ln_101k (sz : Nat) (els : List (List AV)) (h : AHeap) : abuiltin sd .len ⟨[101]⟩ [kslice sz els] h = some (.int .i64 els.length) := by cases els <;> exact ln_101 _ _ _ h
theorem ln_101r (id off len cap sz : Nat) (h : AHeap) : abuiltin sd .len ⟨[101]⟩ [.row id off len cap sz] h = some (.int .i64 len) := by simp [sdP, abuiltin, alen, Tryd.underlying101]
theorem ln_102 (sz : Nat) (els : List (List AV)) (tok : Tok) (h : AHeap) : abuiltin sd .len ⟨[102]⟩ [.slice sz els tok] h = some (.int .i64 els.length) := by simp [sdP, abuiltin, alen, Tryd.underlying102]
theorem ln_102k (sz : Nat) (els : List (List AV)) (h : AHeap) : abuiltin sd .len ⟨[102]⟩ [kslice sz els] h = some (.int .i64 els.length) := by cases els <;> exact ln_102 _ _ _ h
theorem ln_102r (id off len cap sz : Nat) (h : AHeap) : abuiltin sd .len ⟨[102]⟩ [.row id off len cap sz] h = some (.int .i64 len) := by simp [sdP, abuiltin, alen, Tryd.underlying102]
theorem z32 : azero sd 32 = some (.agg [.int .u8 0, .int .i64 0, .str .empty, .slice 0 [] .fixed]) := by kernel_rfl
theorem b32 : Tryd.prog.bytesOf 32 = 56 := by kernel_rfl
theorem bd_32 (ps : List (Nat × AV)) : abuild sd 32 ps = (afill (plOf [(0, 1), (1, 1), (2, 1), (3, 1)]) [.int .u8 0, .int .i64 0, .str .empty, .slice 0 [] .fixed] ps).map .agg := by
  have hp : aplaces sd (match sd.P.underlying 32 with | some (.struct fs) => fs | _ => #[]) = plOf [(0, 1), (1, 1), (2, 1), (3, 1)] := by
    funext q
    rw [sdP, Tryd.underlying32]
    simp only [aplaces, plOf, List.getElem?_toArray]
    match q with
    | 0 => simp [sdP, c5]
    | 1 => simp [sdP, c3]
    | 2 => simp [sdP, c9]
    | 3 => simp [sdP, c30]
    | n + 4 => rfl
  have hk : fieldsKnown sd (match sd.P.underlying 32 with | some (.struct fs) => fs | _ => #[]) = true := by rw [sdP, Tryd.underlying32]; simp [sdP, fieldsKnown, i3, i5, i9, i30]
  rw [sdP, Tryd.underlying32] at hp hk
  simp only at hp hk
  simp only [sdP, abuild, z32, Tryd.underlying32, hk, hp, if_true]
theorem z41 : azero sd 41 = some (.agg [.str .empty, .slice 0 [] .fixed, .bool false, .int .u8 0, .int .i64 0, .str .empty, .slice 0 [] .fixed]) := by kernel_rfl
theorem b41 : Tryd.prog.bytesOf 41 = 104 := by kernel_rfl
theorem bd_41 (ps : List (Nat × AV)) : abuild sd 41 ps = (afill (plOf [(0, 1), (1, 1), (2, 1), (3, 4)]) [.str .empty, .slice 0 [] .fixed, .bool false, .int .u8 0, .int .i64 0, .str .empty, .slice 0 [] .fixed] ps).map .agg := by
  have hp : aplaces sd (match sd.P.underlying 41 with | some (.struct fs) => fs | _ => #[]) = plOf [(0, 1), (1, 1), (2, 1), (3, 4)] := by
    funext q
    rw [sdP, Tryd.underlying41]
    simp only [aplaces, plOf, List.getElem?_toArray]
    match q with
    | 0 => simp [sdP, c9]
    | 1 => simp [sdP, c39]
    | 2 => simp [sdP, c4]
    | 3 => simp [sdP, c32]
    | n + 4 => rfl
  have hk : fieldsKnown sd (match sd.P.underlying 41 with | some (.struct fs) => fs | _ => #[]) = true := by rw [sdP, Tryd.underlying41]; simp [sdP, fieldsKnown, i4, i9, i32, i39]
  rw [sdP, Tryd.underlying41] at hp hk
  simp only at hp hk
  simp only [sdP, abuild, z41, Tryd.underlying41, hk, hp, if_true]
theorem z49 : azero sd 49 = some (.agg [.int .u8 0, .int .i64 0, .str .empty, .slice 0 [] .fixed, .bool false, .bool false]) := by kernel_rfl
theorem b49 : Tryd.prog.bytesOf 49 = 64 := by kernel_rfl
theorem bd_49 (ps : List (Nat × AV)) : abuild sd 49 ps = (afill (plOf [(0, 4), (4, 1), (5, 1)]) [.int .u8 0, .int .i64 0, .str .empty, .slice 0 [] .fixed, .bool false, .bool false] ps).map .agg := by
  have hp : aplaces sd (match sd.P.underlying 49 with | some (.struct fs) => fs | _ => #[]) = plOf [(0, 4), (4, 1), (5, 1)] := by
    funext q
    rw [sdP, Tryd.underlying49]
    simp only [aplaces, plOf, List.getElem?_toArray]
    match q with
    | 0 => simp [sdP, c32]
    | 1 => simp [sdP, c4]
    | 2 => simp [sdP, c4]
    | n + 3 => rfl
  have hk : fieldsKnown sd (match sd.P.underlying 49 with | some (.struct fs) => fs | _ => #[]) = true := by rw [sdP, Tryd.underlying49]; simp [sdP, fieldsKnown, i4, i4, i32]
  rw [sdP, Tryd.underlying49] at hp hk
  simp only at hp hk
  simp only [sdP, abuild, z49, Tryd.underlying49, hk, hp, if_true]
theorem z65 : azero sd 65 = some (.agg [.str .empty, .bool false]) := by kernel_rfl
theorem b65 : Tryd.prog.bytesOf 65 = 24 := by kernel_rfl
theorem bd_65 (ps : List (Nat × AV)) : abuild sd 65 ps = (afill (plOf [(0, 1), (1, 1)]) [.str .empty, .bool false] ps).map .agg := by
  have hp : aplaces sd (match sd.P.underlying 65 with | some (.struct fs) => fs | _ => #[]) = plOf [(0, 1), (1, 1)] := by
    funext q
    rw [sdP, Tryd.underlying65]
    simp only [aplaces, plOf, List.getElem?_toArray]
    match q with
    | 0 => simp [sdP, c9]
    | 1 => simp [sdP, c4]
    | n + 2 => rfl
  have hk : fieldsKnown sd (match sd.P.underlying 65 with | some (.struct fs) => fs | _ => #[]) = true := by rw [sdP, Tryd.underlying65]; simp [sdP, fieldsKnown, i4, i9]
  rw [sdP, Tryd.underlying65] at hp hk
  simp only at hp hk
  simp only [sdP, abuild, z65, Tryd.underlying65, hk, hp, if_true]
theorem z79 : azero sd 79 = some (.agg [.slice 0 [] .fixed, .nilmap]) := by kernel_rfl
theorem b79 : Tryd.prog.bytesOf 79 = 32 := by kernel_rfl
theorem bd_79 (ps : List (Nat × AV)) : abuild sd 79 ps = (afill (plOf [(0, 1), (1, 1)]) [.slice 0 [] .fixed, .nilmap] ps).map .agg := by
  have hp : aplaces sd (match sd.P.underlying 79 with | some (.struct fs) => fs | _ => #[]) = plOf [(0, 1), (1, 1)] := by
    funext q
    rw [sdP, Tryd.underlying79]
    simp only [aplaces, plOf, List.getElem?_toArray]
    match q with
    | 0 => simp [sdP, c22]
    | 1 => simp [sdP, c73]
    | n + 2 => rfl
  have hk : fieldsKnown sd (match sd.P.underlying 79 with | some (.struct fs) => fs | _ => #[]) = true := by rw [sdP, Tryd.underlying79]; simp [sdP, fieldsKnown, i22, i73]
  rw [sdP, Tryd.underlying79] at hp hk
  simp only at hp hk
  simp only [sdP, abuild, z79, Tryd.underlying79, hk, hp, if_true]
theorem z97 : azero sd 97 = some (.agg [.int .i64 0, .int .i64 0]) := by kernel_rfl
theorem b97 : Tryd.prog.bytesOf 97 = 16 := by kernel_rfl
theorem bd_97 (ps : List (Nat × AV)) : abuild sd 97 ps = (afill (plOf [(0, 1), (1, 1)]) [.int .i64 0, .int .i64 0] ps).map .agg := by
  have hp : aplaces sd (match sd.P.underlying 97 with | some (.struct fs) => fs | _ => #[]) = plOf [(0, 1), (1, 1)] := by
    funext q
    rw [sdP, Tryd.underlying97]
    simp only [aplaces, plOf, List.getElem?_toArray]
    match q with
    | 0 => simp [sdP, c3]
    | 1 => simp [sdP, c3]
    | n + 2 => rfl
  have hk : fieldsKnown sd (match sd.P.underlying 97 with | some (.struct fs) => fs | _ => #[]) = true := by rw [sdP, Tryd.underlying97]; simp [sdP, fieldsKnown, i3, i3]
  rw [sdP, Tryd.underlying97] at hp hk
  simp only at hp hk
  simp only [sdP, abuild, z97, Tryd.underlying97, hk, hp, if_true]
theorem bs_22 (len : Nat) (ps : List (Nat × AV)) : abuildSlice sd 22 len ps = if len * 7 ≤ 16777216 then bsM 7 len (afill (fun i => some (i * 7, 7)) (azeros [.str .empty, .slice 0 [] .fixed, .bool false, .int .u8 0, .int .i64 0, .str .empty, .slice 0 [] .fixed] len) ps) else none := by
  simp only [sdP, abuildSlice, Tryd.underlying22, z41, Option.bind_some, acs, c41, List.length_cons, List.length_nil, Nat.reduceAdd, true_and, Nat.zero_lt_succ]
  by_cases q : len * 7 ≤ 16777216
  · simp only [q, and_self, if_true, bsM]
  · simp only [q, and_false, if_false]
theorem bs_30 (len : Nat) (ps : List (Nat × AV)) : abuildSlice sd 30 len ps = if len * 4 ≤ 16777216 then bsM 4 len (afill (fun i => some (i * 4, 4)) (azeros [.int .u8 0, .int .i64 0, .str .empty, .slice 0 [] .fixed] len) ps) else none := by
  simp only [sdP, abuildSlice, Tryd.underlying30, z32, Option.bind_some, acs, c32, List.length_cons, List.length_nil, Nat.reduceAdd, true_and, Nat.zero_lt_succ]
  by_cases q : len * 4 ≤ 16777216
  · simp only [q, and_self, if_true, bsM]
  · simp only [q, and_false, if_false]
theorem bs_39 (len : Nat) (ps : List (Nat × AV)) : abuildSlice sd 39 len ps = if len * 2 ≤ 16777216 then bsM 2 len (afill (fun i => some (i * 2, 2)) (azeros [.str .empty, .bool false] len) ps) else none := by
  simp only [sdP, abuildSlice, Tryd.underlying39, z65, Option.bind_some, acs, c65, List.length_cons, List.length_nil, Nat.reduceAdd, true_and, Nat.zero_lt_succ]
  by_cases q : len * 2 ≤ 16777216
  · simp only [q, and_self, if_true, bsM]
  · simp only [q, and_false, if_false]
theorem bs_43 (len : Nat) (ps : List (Nat × AV)) : abuildSlice sd 43 len ps = if len * 1 ≤ 16777216 then bsM 1 len (afill (fun i => some (i * 1, 1)) (azeros [.int .i64 0] len) ps) else none := by
  simp only [sdP, abuildSlice, Tryd.underlying43, z3, Option.bind_some, acs, c3, List.length_cons, List.length_nil, Nat.reduceAdd, true_and, Nat.zero_lt_succ]
  by_cases q : len * 1 ≤ 16777216
  · simp only [q, and_self, if_true, bsM]
  · simp only [q, and_false, if_false]
theorem bs_50 (len : Nat) (ps : List (Nat × AV)) : abuildSlice sd 50 len ps = if len * 6 ≤ 16777216 then bsM 6 len (afill (fun i => some (i * 6, 6)) (azeros [.int .u8 0, .int .i64 0, .str .empty, .slice 0 [] .fixed, .bool false, .bool false] len) ps) else none := by
  simp only [sdP, abuildSlice, Tryd.underlying50, z49, Option.bind_some, acs, c49, List.length_cons, List.length_nil, Nat.reduceAdd, true_and, Nat.zero_lt_succ]
  by_cases q : len * 6 ≤ 16777216
  · simp only [q, and_self, if_true, bsM]
  · simp only [q, and_false, if_false]
theorem bs_63 (len : Nat) (ps : List (Nat × AV)) : abuildSlice sd 63 len ps = if len * 1 ≤ 16777216 then bsM 1 len (afill (fun i => some (i * 1, 1)) (azeros [.bool false] len) ps) else none := by
  simp only [sdP, abuildSlice, Tryd.underlying63, z4, Option.bind_some, acs, c4, List.length_cons, List.length_nil, Nat.reduceAdd, true_and, Nat.zero_lt_succ]
  by_cases q : len * 1 ≤ 16777216
  · simp only [q, and_self, if_true, bsM]
  · simp only [q, and_false, if_false]
theorem z9 : azero sd 9 = some (.str .empty) := by kernel_rfl
theorem b9 : Tryd.prog.bytesOf 9 = 16 := by kernel_rfl
theorem bs_70 (len : Nat) (ps : List (Nat × AV)) : abuildSlice sd 70 len ps = if len * 1 ≤ 16777216 then bsM 1 len (afill (fun i => some (i * 1, 1)) (azeros [.str .empty] len) ps) else none := by
  simp only [sdP, abuildSlice, Tryd.underlying70, z9, Option.bind_some, acs, c9, List.length_cons, List.length_nil, Nat.reduceAdd, true_and, Nat.zero_lt_succ]
  by_cases q : len * 1 ≤ 16777216
  · simp only [q, and_self, if_true, bsM]
  · simp only [q, and_false, if_false]
theorem bs_95 (len : Nat) (ps : List (Nat × AV)) : abuildSlice sd 95 len ps = if len * 2 ≤ 16777216 then bsM 2 len (afill (fun i => some (i * 2, 2)) (azeros [.int .i64 0, .int .i64 0] len) ps) else none := by
  simp only [sdP, abuildSlice, Tryd.underlying95, z97, Option.bind_some, acs, c97, List.length_cons, List.length_nil, Nat.reduceAdd, true_and, Nat.zero_lt_succ]
  by_cases q : len * 2 ≤ 16777216
  · simp only [q, and_self, if_true, bsM]
  · simp only [q, and_false, if_false]
theorem al_32 (h : AHeap) : aalloc sd 32 h = some (.ptr h.next 0, h.alloc (.cells [.int .u8 0, .int .i64 0, .str .empty, .slice 0 [] .fixed])) := by simp [sdP, aalloc, z32, acs]
theorem al_41 (h : AHeap) : aalloc sd 41 h = some (.ptr h.next 0, h.alloc (.cells [.str .empty, .slice 0 [] .fixed, .bool false, .int .u8 0, .int .i64 0, .str .empty, .slice 0 [] .fixed])) := by simp [sdP, aalloc, z41, acs]
theorem z43 : azero sd 43 = some (.slice 0 [] .fixed) := by kernel_rfl
theorem b43 : Tryd.prog.bytesOf 43 = 24 := by kernel_rfl
theorem al_43 (h : AHeap) : aalloc sd 43 h = some (.ptr h.next 0, h.alloc (.cells [.slice 0 [] .fixed])) := by simp [sdP, aalloc, z43, acs]
theorem al_49 (h : AHeap) : aalloc sd 49 h = some (.ptr h.next 0, h.alloc (.cells [.int .u8 0, .int .i64 0, .str .empty, .slice 0 [] .fixed, .bool false, .bool false])) := by simp [sdP, aalloc, z49, acs]
theorem al_65 (h : AHeap) : aalloc sd 65 h = some (.ptr h.next 0, h.alloc (.cells [.str .empty, .bool false])) := by simp [sdP, aalloc, z65, acs]
theorem z67 : azero sd 67 = some (.nilfunc) := by kernel_rfl
theorem b67 : Tryd.prog.bytesOf 67 = 8 := by kernel_rfl
theorem al_67 (h : AHeap) : aalloc sd 67 h = some (.ptr h.next 0, h.alloc (.cells [.nilfunc])) := by simp [sdP, aalloc, z67, acs]
theorem al_79 (h : AHeap) : aalloc sd 79 h = some (.ptr h.next 0, h.alloc (.cells [.slice 0 [] .fixed, .nilmap])) := by simp [sdP, aalloc, z79, acs]
theorem z90 : azero sd 90 = some (.agg [.bool false, .bool false, .bool false]) := by kernel_rfl
theorem b90 : Tryd.prog.bytesOf 90 = 3 := by kernel_rfl
theorem al_90 (h : AHeap) : aalloc sd 90 h = some (.ptr h.next 0, h.alloc (.cells [.bool false, .bool false, .bool false])) := by simp [sdP, aalloc, z90, acs]
theorem al_97 (h : AHeap) : aalloc sd 97 h = some (.ptr h.next 0, h.alloc (.cells [.int .i64 0, .int .i64 0])) := by simp [sdP, aalloc, z97, acs]
theorem z110 : azero sd 110 = some (.agg [.int .u32 0, .int .u32 0, .int .u32 0]) := by kernel_rfl
theorem b110 : Tryd.prog.bytesOf 110 = 12 := by kernel_rfl
theorem al_110 (h : AHeap) : aalloc sd 110 h = some (.ptr h.next 0, h.alloc (.cells [.int .u32 0, .int .u32 0, .int .u32 0])) := by simp [sdP, aalloc, z110, acs]
theorem st_4 (id off : Nat) (x : AV) (h : AHeap) : astore sd 4 (.ptr id off) x h = storeM (h.get id) id off (acs x) 1 h := astore_ptr i4 c4 id off x h
theorem st_9 (id off : Nat) (x : AV) (h : AHeap) : astore sd 9 (.ptr id off) x h = storeM (h.get id) id off (acs x) 1 h := astore_ptr i9 c9 id off x h
theorem st_32 (id off : Nat) (x : AV) (h : AHeap) : astore sd 32 (.ptr id off) x h = storeM (h.get id) id off (acs x) 4 h := astore_ptr i32 c32 id off x h
theorem st_41 (id off : Nat) (x : AV) (h : AHeap) : astore sd 41 (.ptr id off) x h = storeM (h.get id) id off (acs x) 7 h := astore_ptr i41 c41 id off x h
theorem st_43 (id off : Nat) (x : AV) (h : AHeap) : astore sd 43 (.ptr id off) x h = storeM (h.get id) id off (acs x) 1 h := astore_ptr i43 c43 id off x h
theorem st_49 (id off : Nat) (x : AV) (h : AHeap) : astore sd 49 (.ptr id off) x h = storeM (h.get id) id off (acs x) 6 h := astore_ptr i49 c49 id off x h
theorem st_65 (id off : Nat) (x : AV) (h : AHeap) : astore sd 65 (.ptr id off) x h = storeM (h.get id) id off (acs x) 2 h := astore_ptr i65 c65 id off x h
theorem st_67 (id off : Nat) (x : AV) (h : AHeap) : astore sd 67 (.ptr id off) x h = storeM (h.get id) id off (acs x) 1 h := astore_ptr i67 c67 id off x h
theorem st_79 (id off : Nat) (x : AV) (h : AHeap) : astore sd 79 (.ptr id off) x h = storeM (h.get id) id off (acs x) 2 h := astore_ptr i79 c79 id off x h
theorem st_97 (id off : Nat) (x : AV) (h : AHeap) : astore sd 97 (.ptr id off) x h = storeM (h.get id) id off (acs x) 2 h := astore_ptr i97 c97 id off x h
theorem st_110 (id off : Nat) (x : AV) (h : AHeap) : astore sd 110 (.ptr id off) x h = storeM (h.get id) id off (acs x) 3 h := astore_ptr i110 c110 id off x h
theorem c113 : Tryd.prog.cellsOf 113 = 1 := by kernel_rfl
theorem i113 : (Tryd.prog.info? 113).isSome = true := by kernel_rfl
theorem cv_3_113 (k : IntKind) (n : Int) : aconvert sd 3 113 (.int k n) = some (.int .u64 (IntKind.wrap .u64 n)) := by simp [sdP, aconvert, Tryd.underlying3, Tryd.underlying113]
theorem cv_5_3 (k : IntKind) (n : Int) : aconvert sd 5 3 (.int k n) = some (.int .i64 (IntKind.wrap .i64 n)) := by simp [sdP, aconvert, Tryd.underlying5, Tryd.underlying3]
theorem cv_9_82 (s : ByteArray) : aconvert sd 9 82 (.str s) = if s.size ≤ 140737488355328 then some (bytesAV s) else none := by simp [sdP, aconvert, Tryd.underlying9, Tryd.underlying82, Tryd.underlying5]
theorem c21 : Tryd.prog.cellsOf 21 = 1 := by kernel_rfl
theorem i21 : (Tryd.prog.info? 21).isSome = true := by kernel_rfl
theorem cv_21_98 (k : IntKind) (n : Int) : aconvert sd 21 98 (.int k n) = some (.int .u32 (IntKind.wrap .u32 n)) := by simp [sdP, aconvert, Tryd.underlying21, Tryd.underlying98]
theorem cv_21_105 (k : IntKind) (n : Int) : aconvert sd 21 105 (.int k n) = some (.int .u16 (IntKind.wrap .u16 n)) := by simp [sdP, aconvert, Tryd.underlying21, Tryd.underlying105]
theorem cv_98_21 (k : IntKind) (n : Int) : aconvert sd 98 21 (.int k n) = some (.int .i32 (IntKind.wrap .i32 n)) := by simp [sdP, aconvert, Tryd.underlying98, Tryd.underlying21]
theorem cv_105_98 (k : IntKind) (n : Int) : aconvert sd 105 98 (.int k n) = some (.int .u32 (IntKind.wrap .u32 n)) := by simp [sdP, aconvert, Tryd.underlying105, Tryd.underlying98]
theorem cv_113_3 (k : IntKind) (n : Int) : aconvert sd 113 3 (.int k n) = some (.int .i64 (IntKind.wrap .i64 n)) := by simp [sdP, aconvert, Tryd.underlying113, Tryd.underlying3]
theorem ap_22_22f (s1 s2 : Nat) (xs ys : List (List AV)) (tok : Tok) (h : AHeap) : aappend sd ⟨[22, 22]⟩ (.slice s1 xs .fixed) (.slice s2 ys tok) h = if (s2 = 7 ∨ ys.length = 0) ∧ (xs.length + ys.length) * 104 ≤ 140737488355328 ∧ (s1 = 7 ∨ xs.length = 0) then some (.slice 7 (xs ++ ys) (.tip h.ntok), h.newTok (xs.length + ys.length)) else none := aappend_fixed (u := Tryd.underlying22) (v := Tryd.underlying22) (hz := z41) (ha := rfl) (hc := c41) (hb := b41) (h1 := by decide) (h2 := by decide) (h3 := by decide) s1 s2 xs ys tok h
theorem ap_22_22t (s2 q : Nat) (xs ys : List (List AV)) (tok : Tok) (h : AHeap) : aappend sd ⟨[22, 22]⟩ (.slice 7 xs (.tip q)) (.slice s2 ys tok) h = if (s2 = 7 ∨ ys.length = 0) ∧ (xs.length + ys.length) * 104 ≤ 140737488355328 ∧ h.tok q = xs.length ∧ q < h.ntok then some (.slice 7 (xs ++ ys) (.tip q), h.setTok q (xs.length + ys.length)) else none := aappend_tip (u := Tryd.underlying22) (v := Tryd.underlying22) (hz := z41) (ha := rfl) (hc := c41) (hb := b41) (h1 := by decide) (h2 := by decide) (h3 := by decide) s2 q xs ys tok h
theorem ap_22_22fk (s1 : Nat) (xs ys : List (List AV)) (h : AHeap) : aappend sd ⟨[22, 22]⟩ (.slice s1 xs .fixed) (kslice 7 ys) h = if (xs.length + ys.length) * 104 ≤ 140737488355328 ∧ (s1 = 7 ∨ xs.length = 0) then some (.slice 7 (xs ++ ys) (.tip h.ntok), h.newTok (xs.length + ys.length)) else none := by
  cases ys with
  | nil => exact (ap_22_22f s1 0 xs [] .unk h).trans (by simp)
  | cons e es => exact (ap_22_22f s1 7 xs (e :: es) .unk h).trans (by simp)
theorem ap_22_22tk (q : Nat) (xs ys : List (List AV)) (h : AHeap) : aappend sd ⟨[22, 22]⟩ (.slice 7 xs (.tip q)) (kslice 7 ys) h = if (xs.length + ys.length) * 104 ≤ 140737488355328 ∧ h.tok q = xs.length ∧ q < h.ntok then some (.slice 7 (xs ++ ys) (.tip q), h.setTok q (xs.length + ys.length)) else none := by
  cases ys with
  | nil => exact (ap_22_22t 0 q xs [] .unk h).trans (by simp)
  | cons e es => exact (ap_22_22t 7 q xs (e :: es) .unk h).trans (by simp)
theorem ap_39_39f (s1 s2 : Nat) (xs ys : List (List AV)) (tok : Tok) (h : AHeap) : aappend sd ⟨[39, 39]⟩ (.slice s1 xs .fixed) (.slice s2 ys tok) h = if (s2 = 2 ∨ ys.length = 0) ∧ (xs.length + ys.length) * 24 ≤ 140737488355328 ∧ (s1 = 2 ∨ xs.length = 0) then some (.slice 2 (xs ++ ys) (.tip h.ntok), h.newTok (xs.length + ys.length)) else none := aappend_fixed (u := Tryd.underlying39) (v := Tryd.underlying39) (hz := z65) (ha := rfl) (hc := c65) (hb := b65) (h1 := by decide) (h2 := by decide) (h3 := by decide) s1 s2 xs ys tok h
theorem ap_39_39t (s2 q : Nat) (xs ys : List (List AV)) (tok : Tok) (h : AHeap) : aappend sd ⟨[39, 39]⟩ (.slice 2 xs (.tip q)) (.slice s2 ys tok) h = if (s2 = 2 ∨ ys.length = 0) ∧ (xs.length + ys.length) * 24 ≤ 140737488355328 ∧ h.tok q = xs.length ∧ q < h.ntok then some (.slice 2 (xs ++ ys) (.tip q), h.setTok q (xs.length + ys.length)) else none := aappend_tip (u := Tryd.underlying39) (v := Tryd.underlying39) (hz := z65) (ha := rfl) (hc := c65) (hb := b65) (h1 := by decide) (h2 := by decide) (h3 := by decide) s2 q xs ys tok h
theorem ap_39_39fk (s1 : Nat) (xs ys : List (List AV)) (h : AHeap) : aappend sd ⟨[39, 39]⟩ (.slice s1 xs .fixed) (kslice 2 ys) h = if (xs.length + ys.length) * 24 ≤ 140737488355328 ∧ (s1 = 2 ∨ xs.length = 0) then some (.slice 2 (xs ++ ys) (.tip h.ntok), h.newTok (xs.length + ys.length)) else none := by
  cases ys with
  | nil => exact (ap_39_39f s1 0 xs [] .unk h).trans (by simp)
  | cons e es => exact (ap_39_39f s1 2 xs (e :: es) .unk h).trans (by simp)
theorem ap_39_39tk (q : Nat) (xs ys : List (List AV)) (h : AHeap) : aappend sd ⟨[39, 39]⟩ (.slice 2 xs (.tip q)) (kslice 2 ys) h = if (xs.length + ys.length) * 24 ≤ 140737488355328 ∧ h.tok q = xs.length ∧ q < h.ntok then some (.slice 2 (xs ++ ys) (.tip q), h.setTok q (xs.length + ys.length)) else none := by
  cases ys with
  | nil => exact (ap_39_39t 0 q xs [] .unk h).trans (by simp)
  | cons e es => exact (ap_39_39t 2 q xs (e :: es) .unk h).trans (by simp)
theorem ap_43_43f (s1 s2 : Nat) (xs ys : List (List AV)) (tok : Tok) (h : AHeap) : aappend sd ⟨[43, 43]⟩ (.slice s1 xs .fixed) (.slice s2 ys tok) h = if (s2 = 1 ∨ ys.length = 0) ∧ (xs.length + ys.length) * 8 ≤ 140737488355328 ∧ (s1 = 1 ∨ xs.length = 0) then some (.slice 1 (xs ++ ys) (.tip h.ntok), h.newTok (xs.length + ys.length)) else none := aappend_fixed (u := Tryd.underlying43) (v := Tryd.underlying43) (hz := z3) (ha := rfl) (hc := c3) (hb := b3) (h1 := by decide) (h2 := by decide) (h3 := by decide) s1 s2 xs ys tok h
theorem ap_43_43t (s2 q : Nat) (xs ys : List (List AV)) (tok : Tok) (h : AHeap) : aappend sd ⟨[43, 43]⟩ (.slice 1 xs (.tip q)) (.slice s2 ys tok) h = if (s2 = 1 ∨ ys.length = 0) ∧ (xs.length + ys.length) * 8 ≤ 140737488355328 ∧ h.tok q = xs.length ∧ q < h.ntok then some (.slice 1 (xs ++ ys) (.tip q), h.setTok q (xs.length + ys.length)) else none := aappend_tip (u := Tryd.underlying43) (v := Tryd.underlying43) (hz := z3) (ha := rfl) (hc := c3) (hb := b3) (h1 := by decide) (h2 := by decide) (h3 := by decide) s2 q xs ys tok h
theorem ap_43_43fk (s1 : Nat) (xs ys : List (List AV)) (h : AHeap) : aappend sd ⟨[43, 43]⟩ (.slice s1 xs .fixed) (kslice 1 ys) h = if (xs.length + ys.length) * 8 ≤ 140737488355328 ∧ (s1 = 1 ∨ xs.length = 0) then some (.slice 1 (xs ++ ys) (.tip h.ntok), h.newTok (xs.length + ys.length)) else none := by
  cases ys with
  | nil => exact (ap_43_43f s1 0 xs [] .unk h).trans (by simp)
  | cons e es => exact (ap_43_43f s1 1 xs (e :: es) .unk h).trans (by simp)
theorem ap_43_43tk (q : Nat) (xs ys : List (List AV)) (h : AHeap) : aappend sd ⟨[43, 43]⟩ (.slice 1 xs (.tip q)) (kslice 1 ys) h = if (xs.length + ys.length) * 8 ≤ 140737488355328 ∧ h.tok q = xs.length ∧ q < h.ntok then some (.slice 1 (xs ++ ys) (.tip q), h.setTok q (xs.length + ys.length)) else none := by
  cases ys with
  | nil => exact (ap_43_43t 0 q xs [] .unk h).trans (by simp)
  | cons e es => exact (ap_43_43t 1 q xs (e :: es) .unk h).trans (by simp)
theorem ap_63_63f (s1 s2 : Nat) (xs ys : List (List AV)) (tok : Tok) (h : AHeap) : aappend sd ⟨[63, 63]⟩ (.slice s1 xs .fixed) (.slice s2 ys tok) h = if (s2 = 1 ∨ ys.length = 0) ∧ (xs.length + ys.length) * 1 ≤ 140737488355328 ∧ (s1 = 1 ∨ xs.length = 0) then some (.slice 1 (xs ++ ys) (.tip h.ntok), h.newTok (xs.length + ys.length)) else none := aappend_fixed (u := Tryd.underlying63) (v := Tryd.underlying63) (hz := z4) (ha := rfl) (hc := c4) (hb := b4) (h1 := by decide) (h2 := by decide) (h3 := by decide) s1 s2 xs ys tok h
theorem ap_63_63t (s2 q : Nat) (xs ys : List (List AV)) (tok : Tok) (h : AHeap) : aappend sd ⟨[63, 63]⟩ (.slice 1 xs (.tip q)) (.slice s2 ys tok) h = if (s2 = 1 ∨ ys.length = 0) ∧ (xs.length + ys.length) * 1 ≤ 140737488355328 ∧ h.tok q = xs.length ∧ q < h.ntok then some (.slice 1 (xs ++ ys) (.tip q), h.setTok q (xs.length + ys.length)) else none := aappend_tip (u := Tryd.underlying63) (v := Tryd.underlying63) (hz := z4) (ha := rfl) (hc := c4) (hb := b4) (h1 := by decide) (h2 := by decide) (h3 := by decide) s2 q xs ys tok h
theorem ap_63_63fk (s1 : Nat) (xs ys : List (List AV)) (h : AHeap) : aappend sd ⟨[63, 63]⟩ (.slice s1 xs .fixed) (kslice 1 ys) h = if (xs.length + ys.length) * 1 ≤ 140737488355328 ∧ (s1 = 1 ∨ xs.length = 0) then some (.slice 1 (xs ++ ys) (.tip h.ntok), h.newTok (xs.length + ys.length)) else none := by
  cases ys with
  | nil => exact (ap_63_63f s1 0 xs [] .unk h).trans (by simp)
  | cons e es => exact (ap_63_63f s1 1 xs (e :: es) .unk h).trans (by simp)
theorem ap_63_63tk (q : Nat) (xs ys : List (List AV)) (h : AHeap) : aappend sd ⟨[63, 63]⟩ (.slice 1 xs (.tip q)) (kslice 1 ys) h = if (xs.length + ys.length) * 1 ≤ 140737488355328 ∧ h.tok q = xs.length ∧ q < h.ntok then some (.slice 1 (xs ++ ys) (.tip q), h.setTok q (xs.length + ys.length)) else none := by
  cases ys with
  | nil => exact (ap_63_63t 0 q xs [] .unk h).trans (by simp)
  | cons e es => exact (ap_63_63t 1 q xs (e :: es) .unk h).trans (by simp)
theorem ap_95_95f (s1 s2 : Nat) (xs ys : List (List AV)) (tok : Tok) (h : AHeap) : aappend sd ⟨[95, 95]⟩ (.slice s1 xs .fixed) (.slice s2 ys tok) h = if (s2 = 2 ∨ ys.length = 0) ∧ (xs.length + ys.length) * 16 ≤ 140737488355328 ∧ (s1 = 2 ∨ xs.length = 0) then some (.slice 2 (xs ++ ys) (.tip h.ntok), h.newTok (xs.length + ys.length)) else none := aappend_fixed (u := Tryd.underlying95) (v := Tryd.underlying95) (hz := z97) (ha := rfl) (hc := c97) (hb := b97) (h1 := by decide) (h2 := by decide) (h3 := by decide) s1 s2 xs ys tok h
theorem ap_95_95t (s2 q : Nat) (xs ys : List (List AV)) (tok : Tok) (h : AHeap) : aappend sd ⟨[95, 95]⟩ (.slice 2 xs (.tip q)) (.slice s2 ys tok) h = if (s2 = 2 ∨ ys.length = 0) ∧ (xs.length + ys.length) * 16 ≤ 140737488355328 ∧ h.tok q = xs.length ∧ q < h.ntok then some (.slice 2 (xs ++ ys) (.tip q), h.setTok q (xs.length + ys.length)) else none := aappend_tip (u := Tryd.underlying95) (v := Tryd.underlying95) (hz := z97) (ha := rfl) (hc := c97) (hb := b97) (h1 := by decide) (h2 := by decide) (h3 := by decide) s2 q xs ys tok h
theorem ap_95_95fk (s1 : Nat) (xs ys : List (List AV)) (h : AHeap) : aappend sd ⟨[95, 95]⟩ (.slice s1 xs .fixed) (kslice 2 ys) h = if (xs.length + ys.length) * 16 ≤ 140737488355328 ∧ (s1 = 2 ∨ xs.length = 0) then some (.slice 2 (xs ++ ys) (.tip h.ntok), h.newTok (xs.length + ys.length)) else none := by
  cases ys with
  | nil => exact (ap_95_95f s1 0 xs [] .unk h).trans (by simp)
  | cons e es => exact (ap_95_95f s1 2 xs (e :: es) .unk h).trans (by simp)
theorem ap_95_95tk (q : Nat) (xs ys : List (List AV)) (h : AHeap) : aappend sd ⟨[95, 95]⟩ (.slice 2 xs (.tip q)) (kslice 2 ys) h = if (xs.length + ys.length) * 16 ≤ 140737488355328 ∧ h.tok q = xs.length ∧ q < h.ntok then some (.slice 2 (xs ++ ys) (.tip q), h.setTok q (xs.length + ys.length)) else none := by
  cases ys with
  | nil => exact (ap_95_95t 0 q xs [] .unk h).trans (by simp)
  | cons e es => exact (ap_95_95t 2 q xs (e :: es) .unk h).trans (by simp)
theorem beql_4 (x y : Bool) : abin sd .eql 4 (.bool x) (.bool y) = some (.bool (x == y)) := abin_beql sd 4 Tryd.underlying4 x y
theorem bneq_4 (x y : Bool) : abin sd .neq 4 (.bool x) (.bool y) = some (.bool (!(x == y))) := abin_bneq sd 4 Tryd.underlying4 x y
theorem en_3 : Enters sd 3 := Enters.of Tryd.func3 (by kernel_rfl) (by kernel_rfl)
theorem en_4 : Enters sd 4 := Enters.of Tryd.func4 (by kernel_rfl) (by kernel_rfl)
theorem en_5 : Enters sd 5 := Enters.of Tryd.func5 (by kernel_rfl) (by kernel_rfl)
theorem en_6 : Enters sd 6 := Enters.of Tryd.func6 (by kernel_rfl) (by kernel_rfl)
theorem en_7 : Enters sd 7 := Enters.of Tryd.func7 (by kernel_rfl) (by kernel_rfl)
theorem en_8 : Enters sd 8 := Enters.of Tryd.func8 (by kernel_rfl) (by kernel_rfl)
theorem en_9 : Enters sd 9 := Enters.of Tryd.func9 (by kernel_rfl) (by kernel_rfl)
theorem en_10 : Enters sd 10 := Enters.of Tryd.func10 (by kernel_rfl) (by kernel_rfl)
theorem en_11 : Enters sd 11 := Enters.of Tryd.func11 (by kernel_rfl) (by kernel_rfl)
theorem en_12 : Enters sd 12 := Enters.of Tryd.func12 (by kernel_rfl) (by kernel_rfl)
theorem en_13 : Enters sd 13 := Enters.of Tryd.func13 (by kernel_rfl) (by kernel_rfl)
theorem en_14 : Enters sd 14 := Enters.of Tryd.func14 (by kernel_rfl) (by kernel_rfl)
theorem en_15 : Enters sd 15 := Enters.of Tryd.func15 (by kernel_rfl) (by kernel_rfl)
theorem en_16 : Enters sd 16 := Enters.of Tryd.func16 (by kernel_rfl) (by kernel_rfl)
theorem en_17 : Enters sd 17 := Enters.of Tryd.func17 (by kernel_rfl) (by kernel_rfl)
theorem en_18 : Enters sd 18 := Enters.of Tryd.func18 (by kernel_rfl) (by kernel_rfl)
theorem en_19 : Enters sd 19 := Enters.of Tryd.func19 (by kernel_rfl) (by kernel_rfl)
theorem en_20 : Enters sd 20 := Enters.of Tryd.func20 (by kernel_rfl) (by kernel_rfl)
theorem en_21 : Enters sd 21 := Enters.of Tryd.func21 (by kernel_rfl) (by kernel_rfl)
theorem en_22 : Enters sd 22 := Enters.of Tryd.func22 (by kernel_rfl) (by kernel_rfl)
theorem en_23 : Enters sd 23 := Enters.of Tryd.func23 (by kernel_rfl) (by kernel_rfl)
theorem en_24 : Enters sd 24 := Enters.of Tryd.func24 (by kernel_rfl) (by kernel_rfl)
theorem en_25 : Enters sd 25 := Enters.of Tryd.func25 (by kernel_rfl) (by kernel_rfl)
theorem en_26 : Enters sd 26 := Enters.of Tryd.func26 (by kernel_rfl) (by kernel_rfl)
theorem en_27 : Enters sd 27 := Enters.of Tryd.func27 (by kernel_rfl) (by kernel_rfl)
theorem en_28 : Enters sd 28 := Enters.of Tryd.func28 (by kernel_rfl) (by kernel_rfl)
theorem en_29 : Enters sd 29 := Enters.of Tryd.func29 (by kernel_rfl) (by kernel_rfl)
theorem en_30 : Enters sd 30 := Enters.of Tryd.func30 (by kernel_rfl) (by kernel_rfl)
theorem en_31 : Enters sd 31 := Enters.of Tryd.func31 (by kernel_rfl) (by kernel_rfl)
theorem en_32 : Enters sd 32 := Enters.of Tryd.func32 (by kernel_rfl) (by kernel_rfl)
theorem en_33 : Enters sd 33 := Enters.of Tryd.func33 (by kernel_rfl) (by kernel_rfl)
theorem en_34 : Enters sd 34 := Enters.of Tryd.func34 (by kernel_rfl) (by kernel_rfl)
theorem en_35 : Enters sd 35 := Enters.of Tryd.func35 (by kernel_rfl) (by kernel_rfl)
theorem en_36 : Enters sd 36 := Enters.of Tryd.func36 (by kernel_rfl) (by kernel_rfl)
theorem en_37 : Enters sd 37 := Enters.of Tryd.func37 (by kernel_rfl) (by kernel_rfl)
theorem en_38 : Enters sd 38 := Enters.of Tryd.func38 (by kernel_rfl) (by kernel_rfl)
theorem en_39 : Enters sd 39 := Enters.of Tryd.func39 (by kernel_rfl) (by kernel_rfl)
theorem en_40 : Enters sd 40 := Enters.of Tryd.func40 (by kernel_rfl) (by kernel_rfl)
theorem en_41 : Enters sd 41 := Enters.of Tryd.func41 (by kernel_rfl) (by kernel_rfl)
theorem en_42 : Enters sd 42 := Enters.of Tryd.func42 (by kernel_rfl) (by kernel_rfl)
theorem en_43 : Enters sd 43 := Enters.of Tryd.func43 (by kernel_rfl) (by kernel_rfl)
theorem en_44 : Enters sd 44 := Enters.of Tryd.func44 (by kernel_rfl) (by kernel_rfl)
theorem en_45 : Enters sd 45 := Enters.of Tryd.func45 (by kernel_rfl) (by kernel_rfl)
theorem en_46 : Enters sd 46 := Enters.of Tryd.func46 (by kernel_rfl) (by kernel_rfl)
theorem en_47 : Enters sd 47 := Enters.of Tryd.func47 (by kernel_rfl) (by kernel_rfl)
theorem en_48 : Enters sd 48 := Enters.of Tryd.func48 (by kernel_rfl) (by kernel_rfl)
theorem en_49 : Enters sd 49 := Enters.of Tryd.func49 (by kernel_rfl) (by kernel_rfl)
theorem en_50 : Enters sd 50 := Enters.of Tryd.func50 (by kernel_rfl) (by kernel_rfl)
theorem en_51 : Enters sd 51 := Enters.of Tryd.func51 (by kernel_rfl) (by kernel_rfl)
theorem en_52 : Enters sd 52 := Enters.of Tryd.func52 (by kernel_rfl) (by kernel_rfl)
theorem en_53 : Enters sd 53 := Enters.of Tryd.func53 (by kernel_rfl) (by kernel_rfl)
theorem en_54 : Enters sd 54 := Enters.of Tryd.func54 (by kernel_rfl) (by kernel_rfl)
theorem en_55 : Enters sd 55 := Enters.of Tryd.func55 (by kernel_rfl) (by kernel_rfl)
theorem en_56 : Enters sd 56 := Enters.of Tryd.func56 (by kernel_rfl) (by kernel_rfl)
theorem en_57 : Enters sd 57 := Enters.of Tryd.func57 (by kernel_rfl) (by kernel_rfl)
theorem en_58 : Enters sd 58 := Enters.of Tryd.func58 (by kernel_rfl) (by kernel_rfl)
theorem en_59 : Enters sd 59 := Enters.of Tryd.func59 (by kernel_rfl) (by kernel_rfl)
theorem en_60 : Enters sd 60 := Enters.of Tryd.func60 (by kernel_rfl) (by kernel_rfl)
theorem en_61 : Enters sd 61 := Enters.of Tryd.func61 (by kernel_rfl) (by kernel_rfl)
theorem en_62 : Enters sd 62 := Enters.of Tryd.func62 (by kernel_rfl) (by kernel_rfl)
theorem en_63 : Enters sd 63 := Enters.of Tryd.func63 (by kernel_rfl) (by kernel_rfl)
theorem en_64 : Enters sd 64 := Enters.of Tryd.func64 (by kernel_rfl) (by kernel_rfl)
theorem en_65 : Enters sd 65 := Enters.of Tryd.func65 (by kernel_rfl) (by kernel_rfl)
theorem en_66 : Enters sd 66 := Enters.of Tryd.func66 (by kernel_rfl) (by kernel_rfl)
theorem en_67 : Enters sd 67 := Enters.of Tryd.func67 (by kernel_rfl) (by kernel_rfl)
end Go.Proofs.YtajknofacjiddaaDoor.Abs

/- Maps as functions. -/
namespace Go.Proofs.YtajknofacjiddaaDoor.Abs
open Go Go.RowKit
set_option linter.unusedVariables false
set_option linter.unusedSimpArgs false

structure KeyOf (K : Type) [DecidableEq K] where
  key : K → AV
  eq : ∀ a b : K, akeyEq (key a) (key b) = some (decide (a = b))
abbrev Keys (K : Type) [DecidableEq K] := Inhabited (KeyOf K)
abbrev Keys.key {K : Type} [DecidableEq K] [i : Keys K] : K → AV := i.default.key
theorem Keys.eq {K : Type} [DecidableEq K] [i : Keys K] : ∀ a b : K, akeyEq (i.default.key a) (i.default.key b) = some (decide (a = b)) := i.default.eq
theorem map_erase {α β : Type} (f : α → β) : ∀ (l : List α) (i : Nat), (l.eraseIdx i).map f = (l.map f).eraseIdx i
  | [], _ => rfl
  | a :: l, 0 => rfl
  | a :: l, i + 1 => congrArg (f a :: ·) (map_erase f l i)
instance : Keys ByteArray := ⟨⟨AV.str, fun _ _ => rfl⟩⟩
structure KMap {K : Type} [DecidableEq K] [Keys K] (es : List AEnt) (f : K → Option AV) : Prop where
  keys : ∃ ks : List K, es.map (·.key) = ks.map Keys.key ∧ ks.Nodup
  get : ∀ k : K, aget es (Keys.key k) = some (f k)
def kupd {K : Type} [DecidableEq K] [Keys K] (f : K → Option AV) (k : K) (v : Option AV) : K → Option AV := fun j => if j = k then v else f j
section
variable {K : Type} [DecidableEq K] [Keys K]
theorem KMap.nil : KMap (K := K) [] (fun _ => none) := ⟨⟨[], rfl, .nil⟩, fun _ => rfl⟩
/-- Where a key lies. -/
theorem find_cases (k : K) : ∀ (es : List AEnt) (ks : List K) (n : Nat), es.map (·.key) = ks.map Keys.key →
    (k ∉ ks ∧ afind (Keys.key k) es n = some none ∧ aget es (Keys.key k) = some none) ∨
    (∃ i v, ks[i]? = some k ∧ (∀ j, j < i → ks[j]? ≠ some k) ∧ afind (Keys.key k) es n = some (some (n + i, v)) ∧ aget es (Keys.key k) = some (some v) ∧ ∃ e, es[i]? = some e ∧ e.val = v) := by
  intro es
  induction es with
  | nil => intro ks n h; cases ks with | nil => exact .inl ⟨by simp, rfl, rfl⟩ | cons a b => simp at h
  | cons e es ih =>
    intro ks n h
    cases ks with
    | nil => simp at h
    | cons a ks =>
      simp only [List.map_cons, List.cons.injEq] at h
      obtain ⟨h1, h2⟩ := h
      by_cases q : k = a
      · subst q
        refine .inr ⟨0, e.val, rfl, fun j hj => absurd hj (Nat.not_lt_zero _), ?_, ?_, e, rfl, rfl⟩
        · simp [afind, h1, Keys.eq]
        · simp [aget, h1, Keys.eq]
      · have hf : afind (Keys.key k) (e :: es) n = afind (Keys.key k) es (n + 1) := by simp [afind, h1, Keys.eq, q]
        have hg : aget (e :: es) (Keys.key k) = aget es (Keys.key k) := by simp [aget, h1, Keys.eq, q]
        rw [hf, hg]
        rcases ih ks (n + 1) h2 with ⟨a1, a2, a3⟩ | ⟨i, v, a1, a2, a3, a4, a5⟩
        · exact .inl ⟨by simp [q, a1], a2, a3⟩
        · refine .inr ⟨i + 1, v, by simpa using a1, ?_, by rw [a3]; simp; omega, a4, by simpa using a5⟩
          intro j hj
          cases j with
          | zero => simp; exact fun e => q e.symm
          | succ j => simpa using a2 j (by omega)
theorem aget_app (es es' : List AEnt) (k : AV) : aget (es ++ es') k = match aget es k with | some none => aget es' k | r => r := by
  induction es with
  | nil => rfl
  | cons e es ih =>
    simp only [List.cons_append, aget]
    cases akeyEq k e.key with
    | none => rfl
    | some b => cases b with | true => rfl | false => exact ih
theorem KMap.put {es : List AEnt} {f : K → Option AV} (m : KMap es f) (clk : Nat) (k : K) (x : AV) : ∃ clk' es', amapPut clk es (Keys.key k) x = some (.map clk' es') ∧ KMap es' (kupd f k (some x)) ∧ ∀ e ∈ es', e ∈ es ∨ (e.key = Keys.key k ∧ e.val = x) := by
  obtain ⟨⟨ks, h1, h2⟩, h3⟩ := m
  rcases find_cases k es ks 0 h1 with ⟨a1, a2, a3⟩ | ⟨i, v, a1, a2, a3, a4, e, a5, a6⟩
  · refine ⟨clk + 1, es ++ [⟨clk, Keys.key k, x⟩], by unfold amapPut; rw [a2], ⟨⟨ks ++ [k], by simp [h1], ?_⟩, fun j => ?_⟩, fun e he => by rcases List.mem_append.1 he with h | h; exact .inl h; simp only [List.mem_singleton] at h; subst h; exact .inr ⟨rfl, rfl⟩⟩
    · rw [List.nodup_append]
      refine ⟨h2, by simp, ?_⟩
      intro a ha b hb
      simp only [List.mem_singleton] at hb
      subst hb
      exact fun e => a1 (e ▸ ha)
    · rw [aget_app, h3 j]
      unfold kupd
      by_cases q : j = k
      · subst q
        have : f j = none := by have := h3 j; rw [a3] at this; simpa using this.symm
        simp [this, aget, Keys.eq]
      · simp only [q, if_false]
        cases hf : f j with
        | none => simp [aget, Keys.eq, q]
        | some y => rfl
  · rw [Nat.zero_add] at a3
    refine ⟨clk, es.set i ⟨((es[i]?).map AEnt.born).getD 0, Keys.key k, x⟩, by unfold amapPut; rw [a3], ⟨⟨ks, ?_, h2⟩, fun j => ?_⟩, fun e he => by rcases List.mem_or_eq_of_mem_set he with h | h; exact .inl h; subst h; exact .inr ⟨rfl, rfl⟩⟩
    · rw [List.map_set, h1]
      refine List.ext_getElem? fun q => ?_
      rw [List.getElem?_set]
      split
      · rename_i hq
        subst hq
        have hi : i < ks.length := (List.getElem?_eq_some_iff.1 a1).1
        rw [if_pos (by simpa using hi), List.getElem?_map, a1]
        rfl
      · rfl
    · clear a3 a4 a5 a6
      revert ks i
      unfold kupd
      have hset : ∀ (es : List AEnt) (ks : List K) (i : Nat), es.map (·.key) = ks.map Keys.key → ks[i]? = some k → (∀ q, q < i → ks[q]? ≠ some k) → ∀ b : Nat, aget (es.set i ⟨b, Keys.key k, x⟩) (Keys.key j) = if j = k then some (some x) else aget es (Keys.key j) := by
        intro es
        induction es with
        | nil => intro ks i h1 h2; cases ks with | nil => simp at h2 | cons a b => simp at h1
        | cons e es ih =>
          intro ks i h1 h2 h4 b
          cases ks with
          | nil => simp at h1
          | cons a ks =>
            simp only [List.map_cons, List.cons.injEq] at h1
            cases i with
            | zero =>
              simp only [List.getElem?_cons_zero, Option.some.injEq] at h2
              subst h2
              by_cases q : j = a
              · subst q; simp [aget, Keys.eq]
              · simp [aget, Keys.eq, q, h1.1]
            | succ i =>
              have hne : a ≠ k := by have := h4 0 (by omega); simpa using this
              have := ih ks i h1.2 (by simpa using h2) (fun q hq => by have := h4 (q + 1) (by omega); simpa using this) b
              by_cases q : j = a
              · subst q
                simp [aget, Keys.eq, h1.1, hne]
              · simp only [List.set_cons_succ, aget, h1.1, Keys.eq, q, decide_false, this]
      intro ks h1 h2 i a1 a2
      rw [hset es ks i h1 a1 a2]
      by_cases q : j = k
      · simp [q]
      · simp only [q, if_false]; exact h3 j
theorem KMap.look {es : List AEnt} {f : K → Option AV} (m : KMap es f) (clk : Nat) (k : K) (ok : Bool) (z : AV) : lookM (some (.map clk es)) (Keys.key k) ok z = some (okOf ok z (f k)) := lookM_aget ok (m.get k)
theorem KMap.del {es : List AEnt} {f : K → Option AV} (m : KMap es f) (clk id : Nat) (k : K) (h : AHeap) (hg : h.get id = some (.map clk es)) : ∃ es', delM (h.get id) id (Keys.key k) h = some (h.set id (.map clk es')) ∧ KMap es' (kupd f k none) ∧ ∀ e ∈ es', e ∈ es := by
  obtain ⟨⟨ks, h1, h2⟩, h3⟩ := m
  rw [hg]
  rcases find_cases k es ks 0 h1 with ⟨a1, a2, a3⟩ | ⟨i, v, a1, a2, a3, a4, e, a5, a6⟩
  · refine ⟨es, ?_, ⟨⟨ks, h1, h2⟩, fun j => ?_⟩, fun e he => he⟩
    · simp only [delM, a2]
      have : h.set id (.map clk es) = h := by
        unfold AHeap.set
        have hid := get_lt h id hg
        have : h.objs.set id (some (.map clk es)) = h.objs := by
          refine List.ext_getElem? fun q => ?_
          rw [List.getElem?_set]
          split
          · rename_i hq
            subst hq
            unfold AHeap.get at hg
            unfold AHeap.next at hid
            rw [if_pos hid]
            rw [List.getElem?_eq_getElem hid] at hg ⊢
            simp only [Option.join_some] at hg
            rw [hg]
          · rfl
        rw [this]
      rw [this]
    · rw [h3 j]
      unfold kupd
      by_cases q : j = k
      · subst q
        have : f j = none := by have := h3 j; rw [a3] at this; simpa using this.symm
        simp [this]
      · simp [q]
  · rw [Nat.zero_add] at a3
    refine ⟨es.eraseIdx i, by simp only [delM, a3], ⟨⟨ks.eraseIdx i, by rw [map_erase, h1, map_erase], h2.sublist (List.eraseIdx_sublist _ _)⟩, fun j => ?_⟩, fun e he => List.mem_of_mem_eraseIdx he⟩
    have her : ∀ (es : List AEnt) (ks : List K) (i : Nat), es.map (·.key) = ks.map Keys.key → ks.Nodup → ks[i]? = some k → aget (es.eraseIdx i) (Keys.key j) = if j = k then some none else aget es (Keys.key j) := by
      intro es
      induction es with
      | nil => intro ks i h1 h2 h4; cases ks with | nil => simp at h4 | cons a b => simp at h1
      | cons e es ih =>
        intro ks i h1 h2 h4
        cases ks with
        | nil => simp at h1
        | cons a ks =>
          simp only [List.map_cons, List.cons.injEq] at h1
          rw [List.nodup_cons] at h2
          cases i with
          | zero =>
            simp only [List.getElem?_cons_zero, Option.some.injEq] at h4
            subst h4
            simp only [List.eraseIdx_zero, List.tail_cons]
            by_cases q : j = a
            · subst q
              rw [if_pos rfl]
              rcases find_cases j es ks 0 h1.2 with ⟨_, _, a3⟩ | ⟨i, v, a1, _⟩
              · exact a3
              · exact absurd (List.mem_of_getElem? a1) h2.1
            · simp [aget, Keys.eq, q, h1.1]
          | succ i =>
            have hk : ks[i]? = some k := by simpa using h4
            have hne : a ≠ k := fun e => h2.1 (e ▸ List.mem_of_getElem? hk)
            have := ih ks i h1.2 h2.2 hk
            by_cases q : j = a
            · subst q
              simp [aget, Keys.eq, h1.1, hne]
            · simp only [List.eraseIdx_cons_succ, aget, h1.1, Keys.eq, q, decide_false, this]
    rw [her es ks i h1 h2 a1, h3 j]
    unfold kupd
    by_cases q : j = k <;> simp [q]
end
theorem ev_zero {S : Seat} {fn : Func} {R : Post} {k : List Item} {ds : List ADef} {fr : Fr} {h : AHeap} : Ev S fn R 0 k ds fr h = Stop S fn R k ds fr h := rfl
theorem evc_if {E : EvT} {k : List Item} {ds : List ADef} {fr : Fr} {h : AHeap} (t : Bool) (x y : Code) : EvC E (.bool t) x y k ds fr h = if t = true then E (.code x :: k) ds fr h else E (.code y :: k) ds fr h := by
  rw [evc_bool]; cases t <;> simp
theorem evg_if {S : Seat} {fn : Func} {R : Post} {E : EvT} {k : List Item} {ds : List ADef} {fr : Fr} {h : AHeap} (b want : Bool) (o : Oper) (ops : Array Oper) (i : Nat) (l : List Nat) :
    EvG S fn R E (some (.bool b)) want o ops i l k ds fr h = if b = want then EvD S fn R E o ops i l k ds fr h else E (.inRegion ops l :: k) ds (fr.put o.dst (.tup [])) h := by
  rw [evg_bool]; cases b <;> cases want <;> simp
theorem ite_intro {p A B : Prop} [Decidable p] (h1 : p → A) (h2 : ¬ p → B) : if p then A else B := by
  split
  · exact h1 ‹_›
  · exact h2 ‹_›
/-! Maps reckoned entry by entry -/
structure K8 where
  v : Int
  deriving DecidableEq
instance : Keys K8 := ⟨⟨fun k => .int .u8 k.v, fun a b => by
  show (if IntKind.u8 = IntKind.u8 then some (decide (a.v = b.v)) else none) = _
  rw [if_pos rfl]
  congr 1
  refine decide_eq_decide.2 ?_
  cases a; cases b; simp⟩⟩
def putAt (clk : Nat) (es : List AEnt) (k x : AV) : Option (Option (Nat × AV)) → Option AObj
  | some (some (i, _)) => some (.map clk (es.set i { born := ((es[i]?).map AEnt.born).getD 0, key := k, val := x }))
  | some none => some (.map (clk + 1) (es ++ [{ born := clk, key := k, val := x }]))
  | none => none
theorem amapPut_eq (clk : Nat) (es : List AEnt) (k x : AV) : amapPut clk es k x = putAt clk es k x (afind k es 0) := rfl
theorem putAt_n (clk : Nat) (es : List AEnt) (k x : AV) : putAt clk es k x (some none) = some (.map (clk + 1) (es ++ [⟨clk, k, x⟩])) := rfl
def findAt (k : AV) (v : AV) (es : List AEnt) (i : Nat) : Option Bool → Option (Option (Nat × AV))
  | some true => some (some (i, v))
  | some false => afind k es (i + 1)
  | none => none
theorem afind_nil (k : AV) (i : Nat) : afind k [] i = some none := rfl
theorem afind_cons (k : AV) (b : Nat) (q v : AV) (es : List AEnt) (i : Nat) : afind k (⟨b, q, v⟩ :: es) i = findAt k v es i (akeyEq k q) := by
  simp only [afind]
  cases akeyEq k q with
  | none => rfl
  | some b => cases b <;> rfl
theorem findAt_t (k v : AV) (es : List AEnt) (i : Nat) : findAt k v es i (some true) = some (some (i, v)) := rfl
theorem findAt_f (k v : AV) (es : List AEnt) (i : Nat) : findAt k v es i (some false) = afind k es (i + 1) := rfl
theorem akeyEq_int (k : IntKind) (a b : Int) : akeyEq (.int k a) (.int k b) = some (decide (a = b)) := by simp [akeyEq]
theorem akeyEq_str (a b : ByteArray) : akeyEq (.str a) (.str b) = some (decide (a = b)) := rfl
def lookAt (ok : Bool) (z : AV) : Option (Option (Nat × AV)) → Option AV
  | some (some (_, v)) => some (okTup ok v true)
  | some none => some (okTup ok z false)
  | none => none
theorem lookM_m (clk : Nat) (es : List AEnt) (k : AV) (ok : Bool) (z : AV) : lookM (some (.map clk es)) k ok z = lookAt ok z (afind k es 0) := by
  simp only [lookM]
  cases afind k es 0 with
  | none => rfl
  | some o => cases o <;> rfl
theorem lookAt_s (ok : Bool) (z v : AV) (i : Nat) : lookAt ok z (some (some (i, v))) = some (okTup ok v true) := rfl
theorem lookAt_n (ok : Bool) (z : AV) : lookAt ok z (some none) = some (okTup ok z false) := rfl

/-! What is built from parts -/
def fillAt (place : Nat → Option (Nat × Nat)) : Option (Nat × Nat) → Option (List AV) → List AV → List (Nat × AV) → Option (List AV)
  | some (off, size), some cs, cells, rest => if cs.length = size ∧ off + cs.length ≤ cells.length then afill place (asplice cells off cs) rest else none
  | _, _, _, _ => none
theorem afill_nil (place : Nat → Option (Nat × Nat)) (cells : List AV) : afill place cells [] = some cells := rfl
theorem afill_cons (place : Nat → Option (Nat × Nat)) (cells : List AV) (i : Nat) (v : AV) (rest : List (Nat × AV)) : afill place cells ((i, v) :: rest) = fillAt place (place i) (acs v) cells rest := by
  simp only [afill]
  cases place i with
  | none => rfl
  | some p => obtain ⟨off, size⟩ := p; cases acs v <;> rfl
theorem fillAt_s (place : Nat → Option (Nat × Nat)) (off size : Nat) (cs cells : List AV) (rest : List (Nat × AV)) : fillAt place (some (off, size)) (some cs) cells rest = if cs.length = size ∧ off + cs.length ≤ cells.length then afill place (asplice cells off cs) rest else none := rfl
theorem plOf_eq (l : List (Nat × Nat)) (i : Nat) : plOf l i = l[i]? := rfl
theorem azeros_z (zs : List AV) : azeros zs 0 = [] := rfl
theorem azeros_s (zs : List AV) (n : Nat) : azeros zs (n + 1) = zs ++ azeros zs n := rfl
theorem chunk_s (sz n : Nat) (cs : List AV) : chunk sz (n + 1) cs = cs.take sz :: chunk sz n (cs.drop sz) := rfl
theorem chunk_z (sz : Nat) (r : List AV) : chunk sz 0 r = [] := rfl
theorem bsM_s (sz len : Nat) (r : List AV) : bsM sz len (some r) = if r.all acell = true then some (.slice sz (chunk sz len r) .fixed) else none := rfl
end Go.Proofs.YtajknofacjiddaaDoor.Abs
