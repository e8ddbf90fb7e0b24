/- Calls -/
import Derived.Test.YtajknofacjiddaaDoorF18
namespace Go.Proofs.YtajknofacjiddaaDoor.Abs
open Go Go.RowKit
set_option linter.unusedSimpArgs false
set_option linter.unusedVariables false
set_option maxHeartbeats 4000000
set_option maxRecDepth 100000
/-- What is still to be run when the loop of that block stands next. -/
def atLoop (id : Nat) : Nat → List Item → List Item
  | n + 1, .code (.seq a b) :: k => atLoop id n (.code a :: .code b :: k)
  | n + 1, .code (.block j c) :: k => if j = id then .code c :: .inBlock j :: k else atLoop id n k
  | n + 1, .code c :: k => atLoop id n k
  | _, k => k
def ownCall (lib : List Fn) (k : Int) (s : ByteArray) : List Int := if k = 85 ∧ 0 ≤ find lib s then [find lib s] else []
mutual
def callsE (lib : List Fn) : Node → List Int
  | .mk k _ s ks => ownCall lib k s ++ callsL lib ks
def callsL (lib : List Fn) : List Node → List Int
  | [] => []
  | x :: xs => callsE lib x ++ callsL lib xs
end
theorem callsL_eq (lib : List Fn) (ks : List Node) : callsL lib ks = ks.flatMap (callsE lib) := by
  induction ks with
  | nil => rfl
  | cons x xs ih => simp [callsL, ih]
theorem calls_eq (lib : List Fn) (x : Node) : callsE lib x = ownCall lib x.kind x.name ++ x.kids.flatMap (callsE lib) := by
  cases x; rw [← callsL_eq]; rfl
theorem own_len (lib : List Fn) (k : Int) (s : ByteArray) : (ownCall lib k s).length ≤ 1 := by
  unfold ownCall; split <;> simp
mutual
theorem calls_len (lib : List Fn) : ∀ x : Node, (callsE lib x).length ≤ x.size
  | .mk k n s ks => by
    simp only [callsE, Node.size, List.length_append]
    have := own_len lib k s
    have := callsL_len lib ks
    omega
theorem callsL_len (lib : List Fn) : ∀ ks : List Node, (callsL lib ks).length ≤ sizes ks
  | [] => Nat.le_refl _
  | x :: xs => by
    simp only [callsL, sizes, List.length_append]
    have := calls_len lib x
    have := callsL_len lib xs
    omega
end
def iels (l : List Int) : List (List AV) := l.map fun i => [.int .i64 i]
/-- The heap with that slice of numbers, of the call's own, in the cell b. -/
def outH (h : AHeap) (b : Nat) (els : List Int) : AHeap := if els = [] then h else (h.newTok els.length).set b (.cells [.slice 1 (iels els) (.tip h.ntok)])
theorem outH_nil (h : AHeap) (b : Nat) : outH h b [] = h := if_pos rfl
theorem outH_ne (h : AHeap) (b : Nat) {els : List Int} (he : els ≠ []) : outH h b els = (h.newTok els.length).set b (.cells [.slice 1 (iels els) (.tip h.ntok)]) := if_neg he
theorem set_alloc_lt (h : AHeap) {b : Nat} (hb : b < h.next) (o p : AObj) : (h.set b o).alloc p = (h.alloc p).set b o := by
  unfold AHeap.set AHeap.alloc
  simp only
  rw [List.set_append_left _ _ hb]
theorem outH_alloc (h : AHeap) {b : Nat} (hb : b < h.next) (els : List Int) (o : AObj) : (outH h b els).alloc o = outH (h.alloc o) b els := by
  by_cases he : els = []
  · subst he; rfl
  · rw [outH_ne _ _ he, outH_ne _ _ he, set_alloc_lt (h.newTok els.length) (show b < (h.newTok els.length).next from hb)]; rfl
theorem outH_next (h : AHeap) (b : Nat) (els : List Int) : (outH h b els).next = h.next := by
  unfold outH; split
  · rfl
  · rw [next_set]; rfl
theorem outH_get (h : AHeap) (b : Nat) (els : List Int) {id : Nat} (hid : id ≠ b) : (outH h b els).get id = h.get id := by
  unfold outH; split
  · rfl
  · rw [get_set, if_neg (fun e => hid e.1)]; rfl
theorem ok_iels (n m : Nat) (l : List Int) : okLL n m (iels l) = true := by
  induction l with
  | nil => rfl
  | cons x xs ih => unfold iels at ih ⊢; rw [List.map_cons]; unfold okLL okL okL AV.ok; rw [ih]; rfl
theorem ok_tip (n m t : Nat) (l : List Int) (ht : t < m) : AObj.ok n m (.cells [.slice 1 (iels l) (.tip t)]) := by
  show ((decide (t < m) && okLL n m (iels l)) && true) = true
  rw [ok_iels, decide_eq_true ht]; rfl
theorem outH_trim {h h1 : AHeap} (x : Ext h h1) (hnt : h1.ntok = h.ntok) {b : Nat} (hb : b < h.next) (els els' : List Int) (hl : els = [] ∨ els' ≠ []) : Trim (outH h b els) (outH h1 b els') (outH h b els') := by
  by_cases he : els' = []
  · subst he
    rcases hl with rfl | hl
    · exact x.trim
    · exact absurd rfl hl
  rw [outH_ne _ _ he, outH_ne _ _ he]
  refine ⟨by rw [outH_next, next_set]; exact Nat.le_refl _, ?_, by rw [ntok_set, ntok_set, ntok_newTok, ntok_newTok]; omega, fun t ht => ?_, fun id o hg => ?_⟩
  · rw [ntok_set, ntok_newTok]
    unfold outH
    split
    · omega
    · rw [ntok_set, ntok_newTok]; exact Nat.le_refl _
  · rw [ntok_set, ntok_newTok] at ht
    rw [tok_set, tok_set, tok_newTok, tok_newTok, hnt]
    split
    · rfl
    · exact (x.tok t (by omega)).symm
  · rw [get_set] at hg
    rw [get_set]
    by_cases e : id = b
    · have hb' : b < (h.newTok els'.length).next := hb
      have hb1 : b < (h1.newTok els'.length).next := by have := x.next; show b < h1.next; omega
      rw [if_pos ⟨e, hb'⟩] at hg
      rw [if_pos ⟨e, hb1⟩, hnt]
      refine ⟨hg, .inr ?_⟩
      cases hg
      rw [ntok_set, ntok_newTok]
      exact ok_tip _ _ _ _ (Nat.lt_succ_self _)
    · rw [if_neg (fun q => e q.1)] at hg ⊢
      rw [get_newTok] at hg ⊢
      have hlt := get_lt h id hg
      refine ⟨by rw [x.get id hlt]; exact hg, .inl ?_⟩
      rw [outH_get _ _ _ e]
      exact hg
theorem fgt_iels (l : List Int) : fgtLL (iels l) = iels l := fgt_ints l
theorem flat_step {lib : List Fn} {ks : List Node} {k : Nat} {y : Node} (hy : ks[k]? = some y) : (ks.take (k + 1)).flatMap (callsE lib) = (ks.take k).flatMap (callsE lib) ++ callsE lib y := by
  rw [take_snoc _ _ _ hy, List.flatMap_append]; simp
theorem flat_le {lib : List Fn} (x : Node) (k : Nat) : ((x.kids.take k).flatMap (callsE lib)).length + (ownCall lib x.kind x.name).length ≤ x.size := by
  have h1 := calls_len lib x
  rw [calls_eq] at h1
  have h2 : (x.kids.flatMap (callsE lib)).length = ((x.kids.take k).flatMap (callsE lib)).length + ((x.kids.drop k).flatMap (callsE lib)).length := by
    rw [← List.length_append, ← List.flatMap_append, List.take_append_drop]
  rw [List.length_append] at h1
  omega
theorem setTok_newTok (h : AHeap) (n n' : Nat) : (h.newTok n).setTok h.ntok n' = h.newTok n' := by
  unfold AHeap.newTok AHeap.setTok AHeap.ntok
  simp [List.set_append_right]
/-- What lies in the cell. -/
def outV (h : AHeap) (els : List Int) : AV := if els = [] then .slice 0 [] .fixed else .slice 1 (iels els) (.tip h.ntok)
theorem outH_out (h : AHeap) {b : Nat} (hb : h.get b = some (.cells [.slice 0 [] .fixed])) (els : List Int) : (outH h b els).get b = some (.cells [outV h els]) := by
  unfold outH outV
  split
  · exact hb
  · rw [get_set, if_pos ⟨rfl, get_lt h b hb⟩]
theorem outH_one (h : AHeap) (b : Nat) (f : Int) : (h.newTok 1).set b (.cells [.slice 1 [[.int .i64 f]] (.tip h.ntok)]) = outH h b [f] := by
  rw [outH_ne _ _ (by simp)]; rfl
theorem outH_push (h : AHeap) (b : Nat) {els : List Int} (he : els ≠ []) (fs : List Int) : ((outH h b els).setTok h.ntok (els.length + fs.length)).set b (.cells [.slice 1 (iels els ++ iels fs) (.tip h.ntok)]) = outH h b (els ++ fs) := by
  rw [outH_ne _ _ he, outH_ne _ _ (by simp [he]), ← set_setTok, set_set, setTok_newTok, List.length_append]
  unfold iels
  rw [List.map_append]
theorem outH_tok (h : AHeap) (b : Nat) {els : List Int} (he : els ≠ []) : (outH h b els).tok h.ntok = els.length := by
  rw [outH_ne _ _ he, tok_set, tok_newTok, if_pos rfl]
theorem outH_ntok (h : AHeap) (b : Nat) {els : List Int} (he : els ≠ []) : (outH h b els).ntok = h.ntok + 1 := by
  rw [outH_ne _ _ he, ntok_set, ntok_newTok]
theorem outH_set (h : AHeap) {b id : Nat} (hi : id ≠ b) (els : List Int) (o : AObj) : (outH h b els).set id o = outH (h.set id o) b els := by
  unfold outH
  split
  · rfl
  · unfold AHeap.set AHeap.newTok AHeap.ntok
    simp only
    rw [List.set_comm _ _ (Ne.symm hi)]
theorem iels_len (l : List Int) : (iels l).length = l.length := by unfold iels; rw [List.length_map]
noncomputable def K37 : List Item := match Tryd.f37.body with | some c => atLoop 0 100 [.code c] | none => []
theorem flat_sz (lib : List Fn) (ks : List Node) : (ks.flatMap (callsE lib)).length ≤ (ks.map Node.size).sum := by
  induction ks with
  | nil => exact Nat.le_refl _
  | cons x xs ih =>
    have := calls_len lib x
    simp only [List.flatMap_cons, List.length_append, List.map_cons, List.sum_cons]
    omega
theorem take_sz (ks : List Node) {k : Nat} {y : Node} (hy : ks[k]? = some y) : ((ks.take k).map Node.size).sum + y.size ≤ (ks.map Node.size).sum := by
  have h1 : (ks.map Node.size).sum = ((ks.take (k + 1)).map Node.size).sum + ((ks.drop (k + 1)).map Node.size).sum := by
    rw [← List.sum_append, ← List.map_append, List.take_append_drop]
  rw [take_snoc _ _ _ hy, List.map_append, List.sum_append] at h1
  simp only [List.map_cons, List.map_nil, List.sum_cons, List.sum_nil] at h1
  omega
theorem ac37 (lib : List Fn) (hlib : LibOk lib) (x : Node) : x.wf → ∀ (h : AHeap) (a b c : Nat) (els : List Int), els.length + x.size ≤ 1099511627776 → h.get a = some (.cells [vlib lib]) → h.get b = some (.cells [.slice 0 [] .fixed]) → h.get c = some (.cells [.func 37 [.ptr a 0, .ptr b 0, .ptr c 0]]) →
    AC sd 37 [.agg x.enc, .ptr a 0, .ptr b 0, .ptr c 0] (outH h b els) (PostH (.tup []) (outH h b (els ++ callsE lib x))) := by
  intro hw h a b c els hle ha hb hc
  refine AC.post Tryd.func37 rfl Tryd.ntmps37 (by show 4 ≤ 34; decide) ?_
  refine Ev.sound 100 _ _ _ _ ?_
  have hl := hlib.len
  have an := get_lt h a ha
  have bn := get_lt h b hb
  have cn := get_lt h c hc
  have hab : a ≠ b := fun e => by rw [e, hb] at ha; cases hq : lib.map Fn.enc <;> simp [vlib, kslice, hq] at ha
  have hcb : c ≠ b := fun e => by rw [e, hb] at hc; cases hc
  have n1 : (a = h.next) = False := by simp; omega
  have n2 : (b = h.next) = False := by simp; omega
  have n3 : (c = h.next) = False := by simp; omega
  simp only [argFr, enc_eq]
  have hga : ∀ els o, (outH (h.alloc o) b els).get a = some (.cells [vlib lib]) := fun els o => by rw [outH_get _ _ _ hab, get_alloc, if_neg (by omega)]; exact ha
  have hgx : ∀ els o, (outH (h.alloc o) b els).get h.next = some o := fun els o => by rw [outH_get _ _ _ (by omega), get_alloc, if_pos rfl]
  simp only [wvs, wab, wty, wls, Nat.reduceAdd, Nat.reduceEqDiff, Nat.reduceLT, Nat.reduceMul, Nat.reduceLeDiff, Int.reduceEq, ↓reduceIte, reduceCtorEq, ne_eq, true_implies, false_implies, implies_true, not_true_eq_false, not_false_eq_true, true_and, and_true, decide_true, decide_false, if_true, if_false, Nat.add_zero, Nat.zero_add, decide_eq_true_eq, decide_eq_false_iff_not, ite_not, Bool.true_eq_false, Bool.false_eq_true, Bool.not_eq_true, Bool.not_eq_false, Bool.not_true, Bool.not_false, Bool.true_beq, Bool.false_beq, true_or, or_true, false_or, or_false, Tryd.ntmps37, outH_next, outH_alloc _ bn, hga, hgx, vlib]
  refine Stop.fact (ac20 lib x.name hl _) rfl (by first | rfl | simp only [wvs, wab, wty, wls, Nat.reduceAdd, Nat.reduceEqDiff, Nat.reduceLT, Nat.reduceMul, Nat.reduceLeDiff, Int.reduceEq, ↓reduceIte, reduceCtorEq, ne_eq, true_implies, false_implies, implies_true, not_true_eq_false, not_false_eq_true, true_and, and_true, decide_true, decide_false, if_true, if_false, Nat.add_zero, Nat.zero_add, decide_eq_true_eq, decide_eq_false_iff_not, ite_not, Bool.true_eq_false, Bool.false_eq_true, Bool.not_eq_true, Bool.not_eq_false, Bool.not_true, Bool.not_false, Bool.true_beq, Bool.false_beq, true_or, or_true, false_or, or_false, Tryd.ntmps37, vlib, fgt_mapfenc]) (by simp only [wvs, wab, wty, wls, Nat.reduceAdd, Nat.reduceEqDiff, Nat.reduceLT, Nat.reduceMul, Nat.reduceLeDiff, Int.reduceEq, ↓reduceIte, reduceCtorEq, ne_eq, true_implies, false_implies, implies_true, not_true_eq_false, not_false_eq_true, true_and, and_true, decide_true, decide_false, if_true, if_false, Nat.add_zero, Nat.zero_add, decide_eq_true_eq, decide_eq_false_iff_not, ite_not, Bool.true_eq_false, Bool.false_eq_true, Bool.not_eq_true, Bool.not_eq_false, Bool.not_true, Bool.not_false, Bool.true_beq, Bool.false_beq, true_or, or_true, false_or, or_false, Tryd.ntmps37]) (caps := []) (by simp only [wvs, wab, wty, wls, Nat.reduceAdd, Nat.reduceEqDiff, Nat.reduceLT, Nat.reduceMul, Nat.reduceLeDiff, Int.reduceEq, ↓reduceIte, reduceCtorEq, ne_eq, true_implies, false_implies, implies_true, not_true_eq_false, not_false_eq_true, true_and, and_true, decide_true, decide_false, if_true, if_false, Nat.add_zero, Nat.zero_add, decide_eq_true_eq, decide_eq_false_iff_not, ite_not, Bool.true_eq_false, Bool.false_eq_true, Bool.not_eq_true, Bool.not_eq_false, Bool.not_true, Bool.not_false, Bool.true_beq, Bool.false_beq, true_or, or_true, false_or, or_false, vlib, fgt_mapfenc]) en_20 (by simp only [wvs, wab, wty, wls, Nat.reduceAdd, Nat.reduceEqDiff, Nat.reduceLT, Nat.reduceMul, Nat.reduceLeDiff, Int.reduceEq, ↓reduceIte, reduceCtorEq, ne_eq, true_implies, false_implies, implies_true, not_true_eq_false, not_false_eq_true, true_and, and_true, decide_true, decide_false, if_true, if_false, Nat.add_zero, Nat.zero_add, decide_eq_true_eq, decide_eq_false_iff_not, ite_not, Bool.true_eq_false, Bool.false_eq_true, Bool.not_eq_true, Bool.not_eq_false, Bool.not_true, Bool.not_false, Bool.true_beq, Bool.false_beq, true_or, or_true, false_or, or_false, vlib, fgt_mapfenc] <;> rfl) (Ev.sound 100 _ _ _ _ ?_)
  have hx0 : Ext h (h.alloc (.cells [.int .u8 x.kind, .int .i64 x.num, .str x.name, kslice 4 (x.kids.map Node.enc)])) := (Ext.refl h).alloc _
  generalize hb0 : h.alloc (.cells [.int .u8 x.kind, .int .i64 x.num, .str x.name, kslice 4 (x.kids.map Node.enc)]) = h0 at hx0 ⊢
  have hga : ∀ {h1}, Ext h0 h1 → ∀ els, (outH h1 b els).get a = some (.cells [vlib lib]) := fun {h1} hx els => by rw [outH_get _ _ _ hab, hx.get _ (by have := hx0.next; omega), hx0.get _ an]; exact ha
  have hgx : ∀ {h1}, Ext h0 h1 → ∀ els, (outH h1 b els).get h.next = some (.cells [.int .u8 x.kind, .int .i64 x.num, .str x.name, kslice 4 (x.kids.map Node.enc)]) := fun {h1} hx els => by
    rw [outH_get _ _ _ (by omega), hx.get _ (by rw [← hb0, next_alloc]; omega), ← hb0, get_alloc, if_pos rfl]
  have hgc : ∀ {h1}, Ext h0 h1 → ∀ els, (outH h1 b els).get c = some (.cells [.func 37 [.ptr a 0, .ptr b 0, .ptr c 0]]) := fun {h1} hx els => by rw [outH_get _ _ _ hcb, hx.get _ (by have := hx0.next; omega), hx0.get _ cn]; exact hc
  have hgb : ∀ {h1}, Ext h0 h1 → h1.get b = some (.cells [.slice 0 [] .fixed]) := fun {h1} hx => by rw [hx.get _ (by have := hx0.next; omega), hx0.get _ bn]; exact hb
  have hn0 : h0.next = h.next + 1 := by rw [← hb0, next_alloc]
  have ht0 : h0.ntok = h.ntok := by rw [← hb0]; rfl
  have hcall := calls_eq lib x
  -- the part from the loop on
  have rest : ∀ fr : Fr, fr.Has [(1, .ptr a 0), (2, .ptr b 0), (3, .ptr c 0), (24, kslice 4 (x.kids.map Node.enc)), (25, .int .i64 x.kids.length), (26, .int .i64 0)] → Stop sd Tryd.f37 (fun r h' => Dropped (outH h b els) (PostH (.tup []) (outH h b (els ++ callsE lib x))) r.fgt h') K37 [] fr (outH h0 b (els ++ ownCall lib x.kind x.name)) := by
    intro fr hfr
    obtain ⟨k, hK⟩ : ∃ k, K37 = k := ⟨_, rfl⟩
    have hK2 := hK
    simp only [K37, Tryd.f37, atLoop, Nat.reduceEqDiff, if_false, if_true, ↓reduceIte] at hK2
    rw [hK, ← hK2]
    clear hK hK2
    have hlen := hw.len
    have hfl := flat_le (lib := lib) x
    refine Stop.round (σ := Nat) (fun k => x.kids.length - k) (fun k => [(1, .ptr a 0), (2, .ptr b 0), (3, .ptr c 0), (24, kslice 4 (x.kids.map Node.enc)), (25, .int .i64 x.kids.length), (26, .int .i64 k)])
      (fun k h1 => k ≤ x.kids.length ∧ ∃ hb, Ext h0 hb ∧ hb.ntok = h0.ntok ∧ h1 = outH hb b (els ++ ownCall lib x.kind x.name ++ (x.kids.take k).flatMap (callsE lib))) 0 ⟨Nat.zero_le _, h0, Ext.refl _, rfl, by simp⟩ hfr ?_
    rintro k h1 ⟨hk, hb, hx, hnt, rfl⟩ next
    refine Ev.sound 100 _ _ _ _ ?_
    have hbb : b < hb.next := by have := hx.next; omega
    rcases turn x.kids k hk with ⟨y, hy, hmem, hlt, c1, c2⟩ | ⟨hkk, c1⟩
    · have w1 := wrap_succ k (by omega)
      have hgy : ∀ els o, (outH (hb.alloc o) b els).get hb.next = some o := fun els o => by rw [outH_get _ _ _ (by omega), get_alloc, if_pos rfl]
      have hsz := kid_size hmem
      have hx2 : ∀ o, Ext h0 (hb.alloc o) := fun o => hx.alloc o
      have hlt2 : (hb.next < hb.next + 1) = True := by simp
      simp only [wvs, wab, wty, wls, Nat.reduceAdd, Nat.reduceEqDiff, Nat.reduceLT, Nat.reduceMul, Nat.reduceLeDiff, Int.reduceEq, ↓reduceIte, reduceCtorEq, ne_eq, true_implies, false_implies, implies_true, not_true_eq_false, not_false_eq_true, true_and, and_true, decide_true, decide_false, if_true, if_false, Nat.add_zero, Nat.zero_add, decide_eq_true_eq, decide_eq_false_iff_not, ite_not, Bool.true_eq_false, Bool.false_eq_true, Bool.not_eq_true, Bool.not_eq_false, Bool.not_true, Bool.not_false, Bool.true_beq, Bool.false_beq, true_or, or_true, false_or, or_false, Tryd.ntmps37, c1, c2, List.length_map, getD_map Node.enc hy, enc_eq y, outH_next, outH_alloc _ hbb, hgy, hgc (hx2 _), hlt2, outH_set _ (show hb.next ≠ b by omega)]
      have hg1 : ∀ {id o}, h0.get id = some o → ∀ o', (hb.alloc o').get id = some o := fun {id o} hg o' => by rw [(hx.alloc o').get _ (get_lt h0 _ hg)]; exact hg
      refine Stop.post (ac37 lib hlib y (hw.kid hmem) (hb.alloc (.cells [.int .u8 y.kind, .int .i64 y.num, .str y.name, kslice 4 (y.kids.map Node.enc)])) a b c _ ?_ (hg1 (by rw [hx0.get _ an]; exact ha) _) (hg1 (hgb (Ext.refl _)) _) (hg1 (by rw [hx0.get _ cn]; exact hc) _))
        rfl rfl (by simp only [wvs, wab, wty, wls, Nat.reduceAdd, Nat.reduceEqDiff, Nat.reduceLT, Nat.reduceMul, Nat.reduceLeDiff, Int.reduceEq, ↓reduceIte, reduceCtorEq, ne_eq, true_implies, false_implies, implies_true, not_true_eq_false, not_false_eq_true, true_and, and_true, decide_true, decide_false, if_true, if_false, Nat.add_zero, Nat.zero_add, decide_eq_true_eq, decide_eq_false_iff_not, ite_not, Bool.true_eq_false, Bool.false_eq_true, Bool.not_eq_true, Bool.not_eq_false, Bool.not_true, Bool.not_false, Bool.true_beq, Bool.false_beq, true_or, or_true, false_or, or_false, Tryd.ntmps37]) (caps := [.ptr a 0, .ptr b 0, .ptr c 0]) (by simp only [wvs, wab, wty, wls, Nat.reduceAdd, Nat.reduceEqDiff, Nat.reduceLT, Nat.reduceMul, Nat.reduceLeDiff, Int.reduceEq, ↓reduceIte, reduceCtorEq, ne_eq, true_implies, false_implies, implies_true, not_true_eq_false, not_false_eq_true, true_and, and_true, decide_true, decide_false, if_true, if_false, Nat.add_zero, Nat.zero_add, decide_eq_true_eq, decide_eq_false_iff_not, ite_not, Bool.true_eq_false, Bool.false_eq_true, Bool.not_eq_true, Bool.not_eq_false, Bool.not_true, Bool.not_false, Bool.true_beq, Bool.false_beq, true_or, or_true, false_or, or_false, Tryd.ntmps37]) en_37 (by simp only [wvs, wab, wty, wls, Nat.reduceAdd, Nat.reduceEqDiff, Nat.reduceLT, Nat.reduceMul, Nat.reduceLeDiff, Int.reduceEq, ↓reduceIte, reduceCtorEq, ne_eq, true_implies, false_implies, implies_true, not_true_eq_false, not_false_eq_true, true_and, and_true, decide_true, decide_false, if_true, if_false, Nat.add_zero, Nat.zero_add, decide_eq_true_eq, decide_eq_false_iff_not, ite_not, Bool.true_eq_false, Bool.false_eq_true, Bool.not_eq_true, Bool.not_eq_false, Bool.not_true, Bool.not_false, Bool.true_beq, Bool.false_beq, true_or, or_true, false_or, or_false, Tryd.ntmps37, enc_eq y, fgt_mapenc] <;> rfl) (Ev.sound 100 _ _ _ _ ?_)
      · have h1 := flat_sz lib (x.kids.take k)
        have h2 := take_sz x.kids hy
        have h3 := own_len lib x.kind x.name
        have h4 := size_eq x
        simp only [List.length_append]
        omega
      simp only [wvs, wab, wty, wls, Nat.reduceAdd, Nat.reduceEqDiff, Nat.reduceLT, Nat.reduceMul, Nat.reduceLeDiff, Int.reduceEq, ↓reduceIte, reduceCtorEq, ne_eq, true_implies, false_implies, implies_true, not_true_eq_false, not_false_eq_true, true_and, and_true, decide_true, decide_false, if_true, if_false, Nat.add_zero, Nat.zero_add, decide_eq_true_eq, decide_eq_false_iff_not, ite_not, Bool.true_eq_false, Bool.false_eq_true, Bool.not_eq_true, Bool.not_eq_false, Bool.not_true, Bool.not_false, Bool.true_beq, Bool.false_beq, true_or, or_true, false_or, or_false, Tryd.ntmps37, w1]
      exact next (k + 1) _ _ (by omega) ⟨hlt, hb.alloc _, hx.alloc _, hnt, by rw [flat_step hy, ← List.append_assoc]⟩ (by simp only [wvs, wab, wty, wls, Nat.reduceAdd, Nat.reduceEqDiff, Nat.reduceLT, Nat.reduceMul, Nat.reduceLeDiff, Int.reduceEq, ↓reduceIte, reduceCtorEq, ne_eq, true_implies, false_implies, implies_true, not_true_eq_false, not_false_eq_true, true_and, and_true, decide_true, decide_false, if_true, if_false, Nat.add_zero, Nat.zero_add, decide_eq_true_eq, decide_eq_false_iff_not, ite_not, Bool.true_eq_false, Bool.false_eq_true, Bool.not_eq_true, Bool.not_eq_false, Bool.not_true, Bool.not_false, Bool.true_beq, Bool.false_beq, true_or, or_true, false_or, or_false, Tryd.ntmps37])
    · rw [hkk, List.take_length] at *
      simp only [wvs, wab, wty, wls, Nat.reduceAdd, Nat.reduceEqDiff, Nat.reduceLT, Nat.reduceMul, Nat.reduceLeDiff, Int.reduceEq, ↓reduceIte, reduceCtorEq, ne_eq, true_implies, false_implies, implies_true, not_true_eq_false, not_false_eq_true, true_and, and_true, decide_true, decide_false, if_true, if_false, Nat.add_zero, Nat.zero_add, decide_eq_true_eq, decide_eq_false_iff_not, ite_not, Bool.true_eq_false, Bool.false_eq_true, Bool.not_eq_true, Bool.not_eq_false, Bool.not_true, Bool.not_false, Bool.true_beq, Bool.false_beq, true_or, or_true, false_or, or_false, Tryd.ntmps37, c1]
      refine Leave.post rfl (by simp only [wvs, wab, wty, wls, Nat.reduceAdd, Nat.reduceEqDiff, Nat.reduceLT, Nat.reduceMul, Nat.reduceLeDiff, Int.reduceEq, ↓reduceIte, reduceCtorEq, ne_eq, true_implies, false_implies, implies_true, not_true_eq_false, not_false_eq_true, true_and, and_true, decide_true, decide_false, if_true, if_false, Nat.add_zero, Nat.zero_add, decide_eq_true_eq, decide_eq_false_iff_not, ite_not, Bool.true_eq_false, Bool.false_eq_true, Bool.not_eq_true, Bool.not_eq_false, Bool.not_true, Bool.not_false, Bool.true_beq, Bool.false_beq, true_or, or_true, false_or, or_false, Tryd.ntmps37, oneOf]) (v := .tup []) ?_ rfl
      rw [hcall, ← List.append_assoc]
      refine outH_trim (hx0.trans hx) (by rw [hnt, ht0]) bn _ _ ?_
      by_cases he : els = []
      · exact .inl he
      · exact .inr (by simp [he])
  by_cases k85 : x.kind = 85 ∧ 0 ≤ find lib x.name
  · have ho : ownCall lib x.kind x.name = [find lib x.name] := if_pos k85
    rw [ho] at rest
    by_cases he : els = []
    · subst he
      have hgn : (outH h0 b []).get b = some (.cells [.slice 0 [] .fixed]) := hgb (Ext.refl _)
      have bn0 : (b < h0.next) = True := by simp; omega
      have hgx0 := hgx (Ext.refl _) []
      rw [outH_nil] at hgn hgx0
      have n4 : (h.next = b) = False := by simp; omega
      simp only [wvs, wab, wty, wls, Nat.reduceAdd, Nat.reduceEqDiff, Nat.reduceLT, Nat.reduceMul, Nat.reduceLeDiff, Int.reduceEq, ↓reduceIte, reduceCtorEq, ne_eq, true_implies, false_implies, implies_true, not_true_eq_false, not_false_eq_true, true_and, and_true, decide_true, decide_false, if_true, if_false, Nat.add_zero, Nat.zero_add, decide_eq_true_eq, decide_eq_false_iff_not, ite_not, Bool.true_eq_false, Bool.false_eq_true, Bool.not_eq_true, Bool.not_eq_false, Bool.not_true, Bool.not_false, Bool.true_beq, Bool.false_beq, true_or, or_true, false_or, or_false, Tryd.ntmps37, hgx0, decide_eq_true k85.1, decide_eq_true k85.2, hgn, outH_nil, bn0, n4]
      simp only [List.nil_append] at rest
      rw [← outH_one] at rest
      exact rest _ (by simp only [wvs, wab, wty, wls, Nat.reduceAdd, Nat.reduceEqDiff, Nat.reduceLT, Nat.reduceMul, Nat.reduceLeDiff, Int.reduceEq, ↓reduceIte, reduceCtorEq, ne_eq, true_implies, false_implies, implies_true, not_true_eq_false, not_false_eq_true, true_and, and_true, decide_true, decide_false, if_true, if_false, Nat.add_zero, Nat.zero_add, decide_eq_true_eq, decide_eq_false_iff_not, ite_not, Bool.true_eq_false, Bool.false_eq_true, Bool.not_eq_true, Bool.not_eq_false, Bool.not_true, Bool.not_false, Bool.true_beq, Bool.false_beq, true_or, or_true, false_or, or_false, Tryd.ntmps37, List.length_map])
    · have hgn := outH_out h0 (hgb (Ext.refl _)) els
      unfold outV at hgn
      rw [if_neg he] at hgn
      have bn0 : (b < h0.next) = True := by simp; omega
      have n4 : (h.next = b) = False := by simp; omega
      have t1 := outH_tok h0 b he
      have t2 := outH_ntok h0 b he
      have t3 : (h0.ntok < h0.ntok + 1) = True := by simp
      simp only [wvs, wab, wty, wls, Nat.reduceAdd, Nat.reduceEqDiff, Nat.reduceLT, Nat.reduceMul, Nat.reduceLeDiff, Int.reduceEq, ↓reduceIte, reduceCtorEq, ne_eq, true_implies, false_implies, implies_true, not_true_eq_false, not_false_eq_true, true_and, and_true, decide_true, decide_false, if_true, if_false, Nat.add_zero, Nat.zero_add, decide_eq_true_eq, decide_eq_false_iff_not, ite_not, Bool.true_eq_false, Bool.false_eq_true, Bool.not_eq_true, Bool.not_eq_false, Bool.not_true, Bool.not_false, Bool.true_beq, Bool.false_beq, true_or, or_true, false_or, or_false, Tryd.ntmps37, hgx (Ext.refl _), decide_eq_true k85.1, decide_eq_true k85.2, hgn, outH_next, bn0, n4, t1, t2, t3, iels_len]
      rw [← outH_push h0 b he [find lib x.name]] at rest
      exact ⟨by omega, rest _ (by simp only [wvs, wab, wty, wls, Nat.reduceAdd, Nat.reduceEqDiff, Nat.reduceLT, Nat.reduceMul, Nat.reduceLeDiff, Int.reduceEq, ↓reduceIte, reduceCtorEq, ne_eq, true_implies, false_implies, implies_true, not_true_eq_false, not_false_eq_true, true_and, and_true, decide_true, decide_false, if_true, if_false, Nat.add_zero, Nat.zero_add, decide_eq_true_eq, decide_eq_false_iff_not, ite_not, Bool.true_eq_false, Bool.false_eq_true, Bool.not_eq_true, Bool.not_eq_false, Bool.not_true, Bool.not_false, Bool.true_beq, Bool.false_beq, true_or, or_true, false_or, or_false, Tryd.ntmps37, List.length_map])⟩
  · have ho : ownCall lib x.kind x.name = [] := if_neg k85
    rw [ho, List.append_nil] at rest
    by_cases k1 : x.kind = 85
    · have k2 : ¬ 0 ≤ find lib x.name := fun e => k85 ⟨k1, e⟩
      simp only [wvs, wab, wty, wls, Nat.reduceAdd, Nat.reduceEqDiff, Nat.reduceLT, Nat.reduceMul, Nat.reduceLeDiff, Int.reduceEq, ↓reduceIte, reduceCtorEq, ne_eq, true_implies, false_implies, implies_true, not_true_eq_false, not_false_eq_true, true_and, and_true, decide_true, decide_false, if_true, if_false, Nat.add_zero, Nat.zero_add, decide_eq_true_eq, decide_eq_false_iff_not, ite_not, Bool.true_eq_false, Bool.false_eq_true, Bool.not_eq_true, Bool.not_eq_false, Bool.not_true, Bool.not_false, Bool.true_beq, Bool.false_beq, true_or, or_true, false_or, or_false, Tryd.ntmps37, hgx (Ext.refl _), decide_eq_true k1, decide_eq_false k2]
      exact rest _ (by simp only [wvs, wab, wty, wls, Nat.reduceAdd, Nat.reduceEqDiff, Nat.reduceLT, Nat.reduceMul, Nat.reduceLeDiff, Int.reduceEq, ↓reduceIte, reduceCtorEq, ne_eq, true_implies, false_implies, implies_true, not_true_eq_false, not_false_eq_true, true_and, and_true, decide_true, decide_false, if_true, if_false, Nat.add_zero, Nat.zero_add, decide_eq_true_eq, decide_eq_false_iff_not, ite_not, Bool.true_eq_false, Bool.false_eq_true, Bool.not_eq_true, Bool.not_eq_false, Bool.not_true, Bool.not_false, Bool.true_beq, Bool.false_beq, true_or, or_true, false_or, or_false, Tryd.ntmps37, List.length_map])
    · simp only [wvs, wab, wty, wls, Nat.reduceAdd, Nat.reduceEqDiff, Nat.reduceLT, Nat.reduceMul, Nat.reduceLeDiff, Int.reduceEq, ↓reduceIte, reduceCtorEq, ne_eq, true_implies, false_implies, implies_true, not_true_eq_false, not_false_eq_true, true_and, and_true, decide_true, decide_false, if_true, if_false, Nat.add_zero, Nat.zero_add, decide_eq_true_eq, decide_eq_false_iff_not, ite_not, Bool.true_eq_false, Bool.false_eq_true, Bool.not_eq_true, Bool.not_eq_false, Bool.not_true, Bool.not_false, Bool.true_beq, Bool.false_beq, true_or, or_true, false_or, or_false, Tryd.ntmps37, hgx (Ext.refl _), decide_eq_false k1]
      exact rest _ (by simp only [wvs, wab, wty, wls, Nat.reduceAdd, Nat.reduceEqDiff, Nat.reduceLT, Nat.reduceMul, Nat.reduceLeDiff, Int.reduceEq, ↓reduceIte, reduceCtorEq, ne_eq, true_implies, false_implies, implies_true, not_true_eq_false, not_false_eq_true, true_and, and_true, decide_true, decide_false, if_true, if_false, Nat.add_zero, Nat.zero_add, decide_eq_true_eq, decide_eq_false_iff_not, ite_not, Bool.true_eq_false, Bool.false_eq_true, Bool.not_eq_true, Bool.not_eq_false, Bool.not_true, Bool.not_false, Bool.true_beq, Bool.false_beq, true_or, or_true, false_or, or_false, Tryd.ntmps37, List.length_map])
termination_by x.size
decreasing_by exact kid_size hmem
end Go.Proofs.YtajknofacjiddaaDoor.Abs
