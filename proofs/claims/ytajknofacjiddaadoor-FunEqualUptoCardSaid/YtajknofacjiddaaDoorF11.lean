/- typing.call -/
import Derived.Test.YtajknofacjiddaaDoorF10
namespace Go.Proofs.YtajknofacjiddaaDoor.Abs
open Go Go.RowKit
set_option linter.unusedSimpArgs false
set_option linter.unusedVariables false
set_option maxHeartbeats 4000000
set_option maxRecDepth 100000
theorem pos_at {α : Type} (p : α → Bool) (l : List α) (k : Nat) : pos p k l = -1 ∨ ∃ (i : Nat) (a : α), pos p k l = ((k + i : Nat) : Int) ∧ l[i]? = some a ∧ p a = true := by
  induction l generalizing k with
  | nil => exact .inl rfl
  | cons b l ih =>
    unfold pos
    split
    · rename_i h
      exact .inr ⟨0, b, by simp, rfl, h⟩
    · rcases ih (k + 1) with h | ⟨i, a, h1, h2, h3⟩
      · exact .inl h
      · exact .inr ⟨i + 1, a, by rw [h1]; congr 1; omega, by simpa using h2, h3⟩
theorem ac58 (lib : List Fn) (x : Node) (hv : ∀ y ∈ x.kids, VisitAt lib y) (hl : lib.length ≤ 1048576) (hlk : x.kids.length ≤ 1048576) (hlp : ∀ f ∈ lib, f.params.length ≤ 1048576) (env : Env) (h : AHeap) (t m clk : Nat) (es : List AEnt) (ht : h.get t = some (.cells [vlib lib, .map m])) (hm : h.get m = some (.map clk es)) (hE : EMap es env) :
    AC sd 58 [.ptr t 0, .agg x.enc] h (MapPost h m env (tyv (callE lib x.name (x.kids.map (chk lib)) env))) := by
  refine AC.mapped Tryd.func58 rfl Tryd.ntmps58 (by show 2 ≤ 64; decide) ?_
  refine Ev.sound 100 _ _ _ _ ?_
  simp only [argFr, enc_eq]
  have htm : t ≠ m := fun e => by rw [e, hm] at ht; cases ht
  have htm1 : (t = m) = False := by simp [htm]
  have htn := get_lt h t ht
  have hmn := get_lt h m hm
  have n1 : (t = h.next) = False := by simp; omega
  have n2 : (m = h.next) = False := by simp; omega
  simp only [wev, wab, wty, wls, Nat.reduceAdd, Nat.reduceEqDiff, Nat.reduceLT, Nat.reduceMul, Nat.reduceLeDiff, Int.reduceEq, ↓reduceIte, reduceCtorEq, ne_eq, true_implies, false_implies, implies_true, not_true_eq_false, not_false_eq_true, true_and, and_true, decide_true, decide_false, if_true, if_false, Nat.add_zero, Nat.zero_add, decide_eq_true_eq, decide_eq_false_iff_not, ite_not, Bool.true_eq_false, Bool.false_eq_true, Bool.not_eq_true, Bool.not_eq_false, Bool.not_true, Bool.not_false, Tryd.ntmps58]
  refine Stop.drawn [(0, 0), (1, 0), (2, 0), (3, 0), (4, 0), (5, 0), (6, 2), (7, 0)] [[], [0], [0, 1], [0, 1, 2], [], [4], [0, 1, 2, 3, 4, 5], [0, 1, 2, 3, 4, 5, 6]] 90 (by kernel_rfl) ?_
  simp only [wev, wab, wty, wls, Nat.reduceAdd, Nat.reduceEqDiff, Nat.reduceLT, Nat.reduceMul, Nat.reduceLeDiff, Int.reduceEq, ↓reduceIte, reduceCtorEq, ne_eq, true_implies, false_implies, implies_true, not_true_eq_false, not_false_eq_true, true_and, and_true, decide_true, decide_false, if_true, if_false, Nat.add_zero, Nat.zero_add, decide_eq_true_eq, decide_eq_false_iff_not, ite_not, Bool.true_eq_false, Bool.false_eq_true, Bool.not_eq_true, Bool.not_eq_false, Bool.not_true, Bool.not_false, Tryd.ntmps58, n1, n2, ht, vlib]
  refine DC.fact (ac20 lib x.name hl _) rfl (by simp only [wev, wab, wty, wls, Nat.reduceAdd, Nat.reduceEqDiff, Nat.reduceLT, Nat.reduceMul, Nat.reduceLeDiff, Int.reduceEq, ↓reduceIte, reduceCtorEq, ne_eq, true_implies, false_implies, implies_true, not_true_eq_false, not_false_eq_true, true_and, and_true, decide_true, decide_false, if_true, if_false, Nat.add_zero, Nat.zero_add, decide_eq_true_eq, decide_eq_false_iff_not, ite_not, Bool.true_eq_false, Bool.false_eq_true, Bool.not_eq_true, Bool.not_eq_false, Bool.not_true, Bool.not_false, Tryd.ntmps58]) (caps := []) (by simp only [wev, wab, wty, wls, Nat.reduceAdd, Nat.reduceEqDiff, Nat.reduceLT, Nat.reduceMul, Nat.reduceLeDiff, Int.reduceEq, ↓reduceIte, reduceCtorEq, ne_eq, true_implies, false_implies, implies_true, not_true_eq_false, not_false_eq_true, true_and, and_true, decide_true, decide_false, if_true, if_false, Nat.add_zero, Nat.zero_add, decide_eq_true_eq, decide_eq_false_iff_not, ite_not, Bool.true_eq_false, Bool.false_eq_true, Bool.not_eq_true, Bool.not_eq_false, Bool.not_true, Bool.not_false]) en_20 (by simp only [wev, wab, wty, wls, Nat.reduceAdd, Nat.reduceEqDiff, Nat.reduceLT, Nat.reduceMul, Nat.reduceLeDiff, Int.reduceEq, ↓reduceIte, reduceCtorEq, ne_eq, true_implies, false_implies, implies_true, not_true_eq_false, not_false_eq_true, true_and, and_true, decide_true, decide_false, if_true, if_false, Nat.add_zero, Nat.zero_add, decide_eq_true_eq, decide_eq_false_iff_not, ite_not, Bool.true_eq_false, Bool.false_eq_true, Bool.not_eq_true, Bool.not_eq_false, Bool.not_true, Bool.not_false, vlib, fgt_mapfenc]) ?_
  have hset : ∀ c, Ext (h.set m (.map clk es)) (h.alloc (.cells c)) := fun c => by rw [set_same h hm]; exact (Ext.refl h).alloc _
  rcases pos_at (fun f : Fn => decide (f.name = x.name)) lib 0 with hf | ⟨i, f, hf, hi, _⟩
  · have hf' : find lib x.name = -1 := hf
    have hn : callE lib x.name (x.kids.map (chk lib)) env = (false, 6) := by unfold callE; rw [hf', if_pos (by decide)]
    simp only [wev, wab, wty, wls, Nat.reduceAdd, Nat.reduceEqDiff, Nat.reduceLT, Nat.reduceMul, Nat.reduceLeDiff, Int.reduceEq, ↓reduceIte, reduceCtorEq, ne_eq, true_implies, false_implies, implies_true, not_true_eq_false, not_false_eq_true, true_and, and_true, decide_true, decide_false, if_true, if_false, Nat.add_zero, Nat.zero_add, decide_eq_true_eq, decide_eq_false_iff_not, ite_not, Bool.true_eq_false, Bool.false_eq_true, Bool.not_eq_true, Bool.not_eq_false, Bool.not_true, Bool.not_false, Tryd.ntmps58, hf', Int.reduceToNat, Int.reduceLE, Int.reduceLT, cast1, cast2, cast3, List.getD_cons_zero, List.getD_cons_succ]
    exact Leave.mapped rfl (by simp only [wev, wab, wty, wls, Nat.reduceAdd, Nat.reduceEqDiff, Nat.reduceLT, Nat.reduceMul, Nat.reduceLeDiff, Int.reduceEq, ↓reduceIte, reduceCtorEq, ne_eq, true_implies, false_implies, implies_true, not_true_eq_false, not_false_eq_true, true_and, and_true, decide_true, decide_false, if_true, if_false, Nat.add_zero, Nat.zero_add, decide_eq_true_eq, decide_eq_false_iff_not, ite_not, Bool.true_eq_false, Bool.false_eq_true, Bool.not_eq_true, Bool.not_eq_false, Bool.not_true, Bool.not_false, oneOf, hn, tyv]) hmn hE (hset _) rfl
  rw [Nat.zero_add] at hf
  have hf' : find lib x.name = (i : Int) := hf
  have hil : i < lib.length := (List.getElem?_eq_some_iff.1 hi).1
  have hpl := hlp f (List.mem_of_getElem? hi)
  have c0 : ((i : Int) < 0) = False := by simp
  have c1 : (0 ≤ (i : Int)) = True := by simp
  have c2 : ((i : Int) < (lib.length : Int)) = True := by simp; omega
  have hn : callE lib x.name (x.kids.map (chk lib)) env = if x.kids.length ≠ f.params.length then (false, 7) else (f.list, allE (x.kids.map (chk lib)) (f.params.map (·.list)) env) := by
    unfold callE; rw [hf', if_neg (by omega), Int.toNat_natCast, hi]; simp
  simp only [wev, wab, wty, wls, Nat.reduceAdd, Nat.reduceEqDiff, Nat.reduceLT, Nat.reduceMul, Nat.reduceLeDiff, Int.reduceEq, ↓reduceIte, reduceCtorEq, ne_eq, true_implies, false_implies, implies_true, not_true_eq_false, not_false_eq_true, true_and, and_true, decide_true, decide_false, if_true, if_false, Nat.add_zero, Nat.zero_add, decide_eq_true_eq, decide_eq_false_iff_not, ite_not, Bool.true_eq_false, Bool.false_eq_true, Bool.not_eq_true, Bool.not_eq_false, Bool.not_true, Bool.not_false, Tryd.ntmps58, hf', c0]
  refine Stop.drawn [(0, 0), (1, 0), (2, 0), (3, 0), (4, 0), (5, 0), (6, 0), (7, 0), (8, 0), (9, 0), (10, 0), (11, 0), (12, 0)] [[], [0], [0, 1], [], [3], [3, 4], [3, 4, 5], [], [3, 4, 5, 6, 7], [3, 4, 5, 6, 7, 8], [3, 4, 5, 6, 7, 8, 9], [3, 4, 5, 6, 7, 8, 9, 10], [0, 1, 2, 3, 4, 5, 6, 7, 8, 9, 10, 11]] 90 (by kernel_rfl) ?_
  by_cases hle : x.kids.length = f.params.length
  case neg =>
    rw [if_pos hle] at hn
    have d1 : decide ((x.kids.length : Int) = (f.params.length : Int)) = false := decide_eq_false (by omega)
    simp only [wev, wab, wty, wls, Nat.reduceAdd, Nat.reduceEqDiff, Nat.reduceLT, Nat.reduceMul, Nat.reduceLeDiff, Int.reduceEq, ↓reduceIte, reduceCtorEq, ne_eq, true_implies, false_implies, implies_true, not_true_eq_false, not_false_eq_true, true_and, and_true, decide_true, decide_false, if_true, if_false, Nat.add_zero, Nat.zero_add, decide_eq_true_eq, decide_eq_false_iff_not, ite_not, Bool.true_eq_false, Bool.false_eq_true, Bool.not_eq_true, Bool.not_eq_false, Bool.not_true, Bool.not_false, Tryd.ntmps58, n1, ht, vlib, List.length_map, c1, c2, getD_map Fn.enc hi, fenc_eq f, d1]
    exact Leave.mapped rfl (by simp only [wev, wab, wty, wls, Nat.reduceAdd, Nat.reduceEqDiff, Nat.reduceLT, Nat.reduceMul, Nat.reduceLeDiff, Int.reduceEq, ↓reduceIte, reduceCtorEq, ne_eq, true_implies, false_implies, implies_true, not_true_eq_false, not_false_eq_true, true_and, and_true, decide_true, decide_false, if_true, if_false, Nat.add_zero, Nat.zero_add, decide_eq_true_eq, decide_eq_false_iff_not, ite_not, Bool.true_eq_false, Bool.false_eq_true, Bool.not_eq_true, Bool.not_eq_false, Bool.not_true, Bool.not_false, oneOf, hn, tyv]) hmn hE (hset _) rfl
  rw [if_neg (by simpa using hle)] at hn
  have d1 : decide ((x.kids.length : Int) = (f.params.length : Int)) = true := decide_eq_true (by omega)
  simp only [wev, wab, wty, wls, Nat.reduceAdd, Nat.reduceEqDiff, Nat.reduceLT, Nat.reduceMul, Nat.reduceLeDiff, Int.reduceEq, ↓reduceIte, reduceCtorEq, ne_eq, true_implies, false_implies, implies_true, not_true_eq_false, not_false_eq_true, true_and, and_true, decide_true, decide_false, if_true, if_false, Nat.add_zero, Nat.zero_add, decide_eq_true_eq, decide_eq_false_iff_not, ite_not, Bool.true_eq_false, Bool.false_eq_true, Bool.not_eq_true, Bool.not_eq_false, Bool.not_true, Bool.not_false, Tryd.ntmps58, n1, ht, vlib, List.length_map, c1, c2, getD_map Fn.enc hi, fenc_eq f, d1]
  have hbody : ∀ c : List AV, (h.alloc (.cells c)).get h.next = some (.cells c) := fun c => by rw [get_alloc, if_pos rfl]
  refine Stop.round (σ := Nat × Option Nat) (fun s => f.params.length - s.1) (fun s => [(0, .ptr t 0), (3, .ptr h.next 0), (6, .int .i64 i), (7, gotV s.2 1 ((f.params.take s.1).map fun p => [.bool p.list])), (39, kslice 2 (f.params.map Param.enc)), (40, .int .i64 f.params.length), (41, .int .i64 s.1)])
    (fun s h1 => s.1 ≤ f.params.length ∧ GotOk h h1 s.2 s.1 ∧ Ext (h.alloc (.cells [.int .u8 x.kind, .int .i64 x.num, .str x.name, kslice 4 (x.kids.map Node.enc)])) h1) (0, none) ⟨Nat.zero_le _, ⟨fun _ => rfl, fun t e => by cases e⟩, Ext.refl _⟩ ?_ ?_
  · simp only [wev, wab, wty, wls, Nat.reduceAdd, Nat.reduceEqDiff, Nat.reduceLT, Nat.reduceMul, Nat.reduceLeDiff, Int.reduceEq, ↓reduceIte, reduceCtorEq, ne_eq, true_implies, false_implies, implies_true, not_true_eq_false, not_false_eq_true, true_and, and_true, decide_true, decide_false, if_true, if_false, Nat.add_zero, Nat.zero_add, decide_eq_true_eq, decide_eq_false_iff_not, ite_not, Bool.true_eq_false, Bool.false_eq_true, Bool.not_eq_true, Bool.not_eq_false, Bool.not_true, Bool.not_false, gotV, Int.ofNat_zero, Int.natCast_zero]
  rintro ⟨k, q⟩ h1 ⟨hk, hq, hx⟩ next
  have hb1 : h1.get h.next = some (.cells [.int .u8 x.kind, .int .i64 x.num, .str x.name, kslice 4 (x.kids.map Node.enc)]) := by rw [hx.get _ (by rw [next_alloc]; omega), hbody]
  have ht1 : h1.get t = some (.cells [vlib lib, .map m]) := by rw [hx.get t (by rw [next_alloc]; omega), get_alloc, if_neg (by omega)]; exact ht
  have hm1 : h1.get m = some (.map clk es) := by rw [hx.get m (by rw [next_alloc]; omega), get_alloc, if_neg (by omega)]; exact hm
  simp only at hk hq ⊢
  refine Ev.sound 100 _ _ _ _ ?_
  rcases turn f.params k hk with ⟨y, hy, hmem, hlt, c3, c4⟩ | ⟨hkk, c3⟩
  · have w1 := wrap_succ k (by omega)
    have hle' : (f.params.take k).length = k := by rw [List.length_take]; omega
    cases q with
    | none =>
      have hb : k = 0 := hq.none rfl
      subst hb
      simp only [wev, wab, wty, wls, Nat.reduceAdd, Nat.reduceEqDiff, Nat.reduceLT, Nat.reduceMul, Nat.reduceLeDiff, Int.reduceEq, ↓reduceIte, reduceCtorEq, ne_eq, true_implies, false_implies, implies_true, not_true_eq_false, not_false_eq_true, true_and, and_true, decide_true, decide_false, if_true, if_false, Nat.add_zero, Nat.zero_add, decide_eq_true_eq, decide_eq_false_iff_not, ite_not, Bool.true_eq_false, Bool.false_eq_true, Bool.not_eq_true, Bool.not_eq_false, Bool.not_true, Bool.not_false, Tryd.ntmps58, c3, c4, List.length_map, getD_map Param.enc hy, penc_eq, gotV]
      refine ⟨⟨.inl trivial, .inr trivial⟩, ?_⟩
      refine next (1, some h1.ntok) _ _ (by simp only; omega) ⟨hlt, ⟨fun e => (by cases e), fun t' e => ?_⟩, (hx.alloc _).newTok _⟩ ?_
      · cases e
        exact ⟨by simp only [wev, wab, wty, wls, Nat.reduceAdd, Nat.reduceEqDiff, Nat.reduceLT, Nat.reduceMul, Nat.reduceLeDiff, Int.reduceEq, ↓reduceIte, reduceCtorEq, ne_eq, true_implies, false_implies, implies_true, not_true_eq_false, not_false_eq_true, true_and, and_true, decide_true, decide_false, if_true, if_false, Nat.add_zero, Nat.zero_add, decide_eq_true_eq, decide_eq_false_iff_not, ite_not, Bool.true_eq_false, Bool.false_eq_true, Bool.not_eq_true, Bool.not_eq_false, Bool.not_true, Bool.not_false], by simp only [wev, wab, wty, wls, Nat.reduceAdd, Nat.reduceEqDiff, Nat.reduceLT, Nat.reduceMul, Nat.reduceLeDiff, Int.reduceEq, ↓reduceIte, reduceCtorEq, ne_eq, true_implies, false_implies, implies_true, not_true_eq_false, not_false_eq_true, true_and, and_true, decide_true, decide_false, if_true, if_false, Nat.add_zero, Nat.zero_add, decide_eq_true_eq, decide_eq_false_iff_not, ite_not, Bool.true_eq_false, Bool.false_eq_true, Bool.not_eq_true, Bool.not_eq_false, Bool.not_true, Bool.not_false, Nat.lt_succ_self], hx.ntok⟩
      · have htk : f.params.take 1 = [y] := by have := take_snoc f.params 0 y hy; simpa using this
        have w1' : IntKind.i64.wrap 1 = 1 := by decide +kernel
        simp only [wev, wab, wty, wls, Nat.reduceAdd, Nat.reduceEqDiff, Nat.reduceLT, Nat.reduceMul, Nat.reduceLeDiff, Int.reduceEq, ↓reduceIte, reduceCtorEq, ne_eq, true_implies, false_implies, implies_true, not_true_eq_false, not_false_eq_true, true_and, and_true, decide_true, decide_false, if_true, if_false, Nat.add_zero, Nat.zero_add, decide_eq_true_eq, decide_eq_false_iff_not, ite_not, Bool.true_eq_false, Bool.false_eq_true, Bool.not_eq_true, Bool.not_eq_false, Bool.not_true, Bool.not_false, gotV, htk, Int.natCast_one, Int.natCast_zero]
        simp
        exact w1'
    | some q =>
      obtain ⟨q1, q2, q3⟩ := hq.some q rfl
      simp only [wev, wab, wty, wls, Nat.reduceAdd, Nat.reduceEqDiff, Nat.reduceLT, Nat.reduceMul, Nat.reduceLeDiff, Int.reduceEq, ↓reduceIte, reduceCtorEq, ne_eq, true_implies, false_implies, implies_true, not_true_eq_false, not_false_eq_true, true_and, and_true, decide_true, decide_false, if_true, if_false, Nat.add_zero, Nat.zero_add, decide_eq_true_eq, decide_eq_false_iff_not, ite_not, Bool.true_eq_false, Bool.false_eq_true, Bool.not_eq_true, Bool.not_eq_false, Bool.not_true, Bool.not_false, Tryd.ntmps58, c3, c4, getD_map Param.enc hy, penc_eq, gotV, q1, q2, List.length_map, hle']
      refine ⟨⟨.inl trivial, by omega⟩, ?_⟩
      refine next (k + 1, some q) _ _ (by simp only; omega) ⟨hlt, ⟨fun e => (by cases e), fun t' e => ?_⟩, (hx.alloc _).setTok q3 _⟩ ?_
      · cases e
        refine ⟨?_, ?_, q3⟩
        · simp only [wev, wab, wty, wls, Nat.reduceAdd, Nat.reduceEqDiff, Nat.reduceLT, Nat.reduceMul, Nat.reduceLeDiff, Int.reduceEq, ↓reduceIte, reduceCtorEq, ne_eq, true_implies, false_implies, implies_true, not_true_eq_false, not_false_eq_true, true_and, and_true, decide_true, decide_false, if_true, if_false, Nat.add_zero, Nat.zero_add, decide_eq_true_eq, decide_eq_false_iff_not, ite_not, Bool.true_eq_false, Bool.false_eq_true, Bool.not_eq_true, Bool.not_eq_false, Bool.not_true, Bool.not_false, q2]
        · simp only [wev, wab, wty, wls, Nat.reduceAdd, Nat.reduceEqDiff, Nat.reduceLT, Nat.reduceMul, Nat.reduceLeDiff, Int.reduceEq, ↓reduceIte, reduceCtorEq, ne_eq, true_implies, false_implies, implies_true, not_true_eq_false, not_false_eq_true, true_and, and_true, decide_true, decide_false, if_true, if_false, Nat.add_zero, Nat.zero_add, decide_eq_true_eq, decide_eq_false_iff_not, ite_not, Bool.true_eq_false, Bool.false_eq_true, Bool.not_eq_true, Bool.not_eq_false, Bool.not_true, Bool.not_false, q2]
      · simp only [wev, wab, wty, wls, Nat.reduceAdd, Nat.reduceEqDiff, Nat.reduceLT, Nat.reduceMul, Nat.reduceLeDiff, Int.reduceEq, ↓reduceIte, reduceCtorEq, ne_eq, true_implies, false_implies, implies_true, not_true_eq_false, not_false_eq_true, true_and, and_true, decide_true, decide_false, if_true, if_false, Nat.add_zero, Nat.zero_add, decide_eq_true_eq, decide_eq_false_iff_not, ite_not, Bool.true_eq_false, Bool.false_eq_true, Bool.not_eq_true, Bool.not_eq_false, Bool.not_true, Bool.not_false, gotV, w1, take_snoc _ _ _ hy, List.map_append]
  · subst hkk
    have hfg : (gotV q 1 (((f.params.take f.params.length).map fun p => [AV.bool p.list]))).fgt = vbools (f.params.map (·.list)) := by
      rw [List.take_length]
      cases q with
      | none =>
        have hb : f.params = [] := List.eq_nil_of_length_eq_zero (hq.none rfl)
        rw [hb]; rfl
      | some q =>
        have : f.params.map (fun p => [AV.bool p.list]) = (f.params.map (·.list)).map fun b => [AV.bool b] := by rw [List.map_map]; rfl
        rw [this]
        simp only [gotV, fgt_slice, fgt_bools, vbools]
    simp only [wev, wab, wty, wls, Nat.reduceAdd, Nat.reduceEqDiff, Nat.reduceLT, Nat.reduceMul, Nat.reduceLeDiff, Int.reduceEq, ↓reduceIte, reduceCtorEq, ne_eq, true_implies, false_implies, implies_true, not_true_eq_false, not_false_eq_true, true_and, and_true, decide_true, decide_false, if_true, if_false, Nat.add_zero, Nat.zero_add, decide_eq_true_eq, decide_eq_false_iff_not, ite_not, Bool.true_eq_false, Bool.false_eq_true, Bool.not_eq_true, Bool.not_eq_false, Bool.not_true, Bool.not_false, Tryd.ntmps58, c3]
    refine Stop.drawn [(0, 0), (1, 0), (2, 0), (3, 0), (4, 0), (5, 0), (6, 0), (7, 0), (8, 0), (9, 0), (10, 0), (11, 0), (12, 4), (13, 0), (14, 0)] [[], [0], [0, 1], [0, 1, 2], [], [0, 1, 2, 3, 4], [0, 1, 2, 3, 4, 5], [0, 1, 2, 3, 4, 5, 6], [], [], [9], [], [8, 9, 10, 11], [0, 1, 2, 3, 4, 5, 6, 7, 8, 9, 10, 11, 12], [0, 1, 2, 3, 4, 5, 6, 7, 8, 9, 10, 11, 12, 13]] 90 (by kernel_rfl) ?_
    simp only [wev, wab, wty, wls, Nat.reduceAdd, Nat.reduceEqDiff, Nat.reduceLT, Nat.reduceMul, Nat.reduceLeDiff, Int.reduceEq, ↓reduceIte, reduceCtorEq, ne_eq, true_implies, false_implies, implies_true, not_true_eq_false, not_false_eq_true, true_and, and_true, decide_true, decide_false, if_true, if_false, Nat.add_zero, Nat.zero_add, decide_eq_true_eq, decide_eq_false_iff_not, ite_not, Bool.true_eq_false, Bool.false_eq_true, Bool.not_eq_true, Bool.not_eq_false, Bool.not_true, Bool.not_false, Tryd.ntmps58, ht1, hb1, vlib, List.length_map, c1, c2, getD_map Fn.enc hi, fenc_eq f]
    refine DG.mapped (ac55 lib x.kids (f.params.map (·.list)) hv hlk (by simpa using hpl) env _ t m clk es ht1 hm1 hE) hm1 rfl (by simp only [wev, wab, wty, wls, Nat.reduceAdd, Nat.reduceEqDiff, Nat.reduceLT, Nat.reduceMul, Nat.reduceLeDiff, Int.reduceEq, ↓reduceIte, reduceCtorEq, ne_eq, true_implies, false_implies, implies_true, not_true_eq_false, not_false_eq_true, true_and, and_true, decide_true, decide_false, if_true, if_false, Nat.add_zero, Nat.zero_add, decide_eq_true_eq, decide_eq_false_iff_not, ite_not, Bool.true_eq_false, Bool.false_eq_true, Bool.not_eq_true, Bool.not_eq_false, Bool.not_true, Bool.not_false, Tryd.ntmps58]) (caps := []) (by simp only [wev, wab, wty, wls, Nat.reduceAdd, Nat.reduceEqDiff, Nat.reduceLT, Nat.reduceMul, Nat.reduceLeDiff, Int.reduceEq, ↓reduceIte, reduceCtorEq, ne_eq, true_implies, false_implies, implies_true, not_true_eq_false, not_false_eq_true, true_and, and_true, decide_true, decide_false, if_true, if_false, Nat.add_zero, Nat.zero_add, decide_eq_true_eq, decide_eq_false_iff_not, ite_not, Bool.true_eq_false, Bool.false_eq_true, Bool.not_eq_true, Bool.not_eq_false, Bool.not_true, Bool.not_false]) en_55 (by simp only [wev, wab, wty, wls, Nat.reduceAdd, Nat.reduceEqDiff, Nat.reduceLT, Nat.reduceMul, Nat.reduceLeDiff, Int.reduceEq, ↓reduceIte, reduceCtorEq, ne_eq, true_implies, false_implies, implies_true, not_true_eq_false, not_false_eq_true, true_and, and_true, decide_true, decide_false, if_true, if_false, Nat.add_zero, Nat.zero_add, decide_eq_true_eq, decide_eq_false_iff_not, ite_not, Bool.true_eq_false, Bool.false_eq_true, Bool.not_eq_true, Bool.not_eq_false, Bool.not_true, Bool.not_false, hfg, fgt_mapenc]) ?_
    intro clk' es' hE'
    simp only [wev, wab, wty, wls, Nat.reduceAdd, Nat.reduceEqDiff, Nat.reduceLT, Nat.reduceMul, Nat.reduceLeDiff, Int.reduceEq, ↓reduceIte, reduceCtorEq, ne_eq, true_implies, false_implies, implies_true, not_true_eq_false, not_false_eq_true, true_and, and_true, decide_true, decide_false, if_true, if_false, Nat.add_zero, Nat.zero_add, decide_eq_true_eq, decide_eq_false_iff_not, ite_not, Bool.true_eq_false, Bool.false_eq_true, Bool.not_eq_true, Bool.not_eq_false, Bool.not_true, Bool.not_false, Tryd.ntmps58]
    refine Leave.mapped (clk := clk') rfl (by simp only [wev, wab, wty, wls, Nat.reduceAdd, Nat.reduceEqDiff, Nat.reduceLT, Nat.reduceMul, Nat.reduceLeDiff, Int.reduceEq, ↓reduceIte, reduceCtorEq, ne_eq, true_implies, false_implies, implies_true, not_true_eq_false, not_false_eq_true, true_and, and_true, decide_true, decide_false, if_true, if_false, Nat.add_zero, Nat.zero_add, decide_eq_true_eq, decide_eq_false_iff_not, ite_not, Bool.true_eq_false, Bool.false_eq_true, Bool.not_eq_true, Bool.not_eq_false, Bool.not_true, Bool.not_false, oneOf, hn, tyv]) hmn hE' ?_ rfl
    have := (hset [.int .u8 x.kind, .int .i64 x.num, .str x.name, kslice 4 (x.kids.map Node.enc)]).trans hx
    have := this.sets (by rw [next_set]; exact hmn) (.map clk' es')
    rwa [set_set] at this
end Go.Proofs.YtajknofacjiddaaDoor.Abs
