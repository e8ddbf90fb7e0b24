/- visible, result -/
import Derived.Test.YtajknofacjiddaaDoorF13
namespace Go.Proofs.YtajknofacjiddaaDoor.Abs
open Go Go.RowKit
set_option linter.unusedSimpArgs false
set_option linter.unusedVariables false
set_option maxHeartbeats 4000000
set_option maxRecDepth 100000
theorem ac36 (a b : Bool) (h : AHeap) : AC sd 36 [.bool a, .bool b] h (Pure1 (tyv (if b then (a, 0) else (false, 7))) h) := by
  refine AC.pure Tryd.func36 rfl Tryd.ntmps36 (by show 2 ≤ 9; decide) ?_
  refine Ev.sound 100 _ _ _ _ ?_
  simp only [argFr]
  cases b
  · simp only [wev, wab, wty, wls, Nat.reduceAdd, Nat.reduceEqDiff, Nat.reduceLT, Nat.reduceMul, Nat.reduceLeDiff, Int.reduceEq, ↓reduceIte, reduceCtorEq, ne_eq, true_implies, false_implies, implies_true, not_true_eq_false, not_false_eq_true, true_and, and_true, decide_true, decide_false, if_true, if_false, Nat.add_zero, Nat.zero_add, decide_eq_true_eq, decide_eq_false_iff_not, ite_not, Bool.true_eq_false, Bool.false_eq_true, Bool.not_eq_true, Bool.not_eq_false, Bool.not_true, Bool.not_false, Tryd.ntmps36]
    exact Leave.pures rfl (by simp only [wev, wab, wty, wls, Nat.reduceAdd, Nat.reduceEqDiff, Nat.reduceLT, Nat.reduceMul, Nat.reduceLeDiff, Int.reduceEq, ↓reduceIte, reduceCtorEq, ne_eq, true_implies, false_implies, implies_true, not_true_eq_false, not_false_eq_true, true_and, and_true, decide_true, decide_false, if_true, if_false, Nat.add_zero, Nat.zero_add, decide_eq_true_eq, decide_eq_false_iff_not, ite_not, Bool.true_eq_false, Bool.false_eq_true, Bool.not_eq_true, Bool.not_eq_false, Bool.not_true, Bool.not_false, oneOf, tyv]) (Ext.refl _) rfl
  · simp only [wev, wab, wty, wls, Nat.reduceAdd, Nat.reduceEqDiff, Nat.reduceLT, Nat.reduceMul, Nat.reduceLeDiff, Int.reduceEq, ↓reduceIte, reduceCtorEq, ne_eq, true_implies, false_implies, implies_true, not_true_eq_false, not_false_eq_true, true_and, and_true, decide_true, decide_false, if_true, if_false, Nat.add_zero, Nat.zero_add, decide_eq_true_eq, decide_eq_false_iff_not, ite_not, Bool.true_eq_false, Bool.false_eq_true, Bool.not_eq_true, Bool.not_eq_false, Bool.not_true, Bool.not_false, Tryd.ntmps36]
    exact Leave.pures rfl (by simp only [wev, wab, wty, wls, Nat.reduceAdd, Nat.reduceEqDiff, Nat.reduceLT, Nat.reduceMul, Nat.reduceLeDiff, Int.reduceEq, ↓reduceIte, reduceCtorEq, ne_eq, true_implies, false_implies, implies_true, not_true_eq_false, not_false_eq_true, true_and, and_true, decide_true, decide_false, if_true, if_false, Nat.add_zero, Nat.zero_add, decide_eq_true_eq, decide_eq_false_iff_not, ite_not, Bool.true_eq_false, Bool.false_eq_true, Bool.not_eq_true, Bool.not_eq_false, Bool.not_true, Bool.not_false, oneOf, tyv]) (Ext.refl _) rfl
/-- The type of a visible variable: the last binding counts. -/
def seeE (ps : List Param) (s : ByteArray) : Bool × Bool := match ps.reverse.find? (fun p => decide (p.name = s)) with | some p => (p.list, true) | none => (false, false)
theorem see_snoc (ps : List Param) (p : Param) (s : ByteArray) : seeE (ps ++ [p]) s = if p.name = s then (p.list, true) else seeE ps s := by
  unfold seeE
  rw [List.reverse_append]
  simp only [List.reverse_cons, List.reverse_nil, List.nil_append, List.singleton_append, List.find?_cons]
  by_cases q : p.name = s
  · rw [decide_eq_true q, if_pos q]
  · rw [decide_eq_false q, if_neg q]
theorem see_env (ps : List Param) (s : ByteArray) : seeE ps s = (((envOf ps) s).getD false, ((envOf ps) s).isSome) := by
  have : ∀ n, ∀ ps : List Param, ps.length = n → seeE ps s = (((envOf ps) s).getD false, ((envOf ps) s).isSome) := by
    intro n
    induction n with
    | zero => intro ps h; cases ps with | nil => rfl | cons _ _ => simp at h
    | succ n ih =>
      intro ps h
      rcases List.eq_nil_or_concat ps with rfl | ⟨qs, p, rfl⟩
      · simp at h
      rw [List.concat_eq_append, see_snoc, ih qs (by simpa using h)]
      have : envOf (qs ++ [p]) = envPut (envOf qs) p.name p.list := by unfold envOf; rw [List.foldl_append]; rfl
      rw [this]
      unfold envPut
      by_cases q : p.name = s
      · rw [if_pos q, if_pos q.symm]; rfl
      · rw [if_neg q, if_neg (fun e => q e.symm)]
  exact this _ ps rfl
theorem ac35 (ps : List Param) (hl : ps.length ≤ 1048576) (s : ByteArray) (h : AHeap) : AC sd 35 [vparams ps, .str s] h (Pure1 (.tup [.bool (seeE ps s).1, .bool (seeE ps s).2]) h) := by
  refine AC.pure Tryd.func35 rfl Tryd.ntmps35 (by show 2 ≤ 26; decide) ?_
  refine Ev.sound 100 _ _ _ _ ?_
  simp only [argFr, vparams]
  simp only [wev, wab, wty, wls, Nat.reduceAdd, Nat.reduceEqDiff, Nat.reduceLT, Nat.reduceMul, Nat.reduceLeDiff, Int.reduceEq, ↓reduceIte, reduceCtorEq, ne_eq, true_implies, false_implies, implies_true, not_true_eq_false, not_false_eq_true, true_and, and_true, decide_true, decide_false, if_true, if_false, Nat.add_zero, Nat.zero_add, decide_eq_true_eq, decide_eq_false_iff_not, ite_not, Bool.true_eq_false, Bool.false_eq_true, Bool.not_eq_true, Bool.not_eq_false, Bool.not_true, Bool.not_false, Tryd.ntmps35]
  have wm : ∀ k : Nat, k ≤ 1048576 → IntKind.i64.wrap ((k : Int) - 1) = (k : Int) - 1 := fun k hk => by
    cases k with
    | zero => decide +kernel
    | succ k => rw [show (((k + 1 : Nat) : Int) - 1) = (k : Int) by omega]; exact i64_id (by omega) (by omega)
  refine Stop.round (σ := Nat) (fun k => k) (fun k => [(0, kslice 2 (ps.map Param.enc)), (1, .str s), (6, .int .i64 ((k : Int) - 1))]) (fun k h1 => k ≤ ps.length ∧ h1 = h ∧ seeE ps s = seeE (ps.take k) s) ps.length ⟨Nat.le_refl _, rfl, by rw [List.take_length]⟩ ?_ ?_
  · simp only [wev, wab, wty, wls, Nat.reduceAdd, Nat.reduceEqDiff, Nat.reduceLT, Nat.reduceMul, Nat.reduceLeDiff, Int.reduceEq, ↓reduceIte, reduceCtorEq, ne_eq, true_implies, false_implies, implies_true, not_true_eq_false, not_false_eq_true, true_and, and_true, decide_true, decide_false, if_true, if_false, Nat.add_zero, Nat.zero_add, decide_eq_true_eq, decide_eq_false_iff_not, ite_not, Bool.true_eq_false, Bool.false_eq_true, Bool.not_eq_true, Bool.not_eq_false, Bool.not_true, Bool.not_false, List.length_map, wm _ hl]
  rintro k _ ⟨hk, rfl, hp⟩ next
  refine Ev.sound 100 _ _ _ _ ?_
  cases k with
  | zero =>
    have c1 : (0 ≤ ((0 : Nat) : Int) - 1) = False := by simp
    have hn : seeE ps s = (false, false) := hp
    simp only [wev, wab, wty, wls, Nat.reduceAdd, Nat.reduceEqDiff, Nat.reduceLT, Nat.reduceMul, Nat.reduceLeDiff, Int.reduceEq, ↓reduceIte, reduceCtorEq, ne_eq, true_implies, false_implies, implies_true, not_true_eq_false, not_false_eq_true, true_and, and_true, decide_true, decide_false, if_true, if_false, Nat.add_zero, Nat.zero_add, decide_eq_true_eq, decide_eq_false_iff_not, ite_not, Bool.true_eq_false, Bool.false_eq_true, Bool.not_eq_true, Bool.not_eq_false, Bool.not_true, Bool.not_false, Tryd.ntmps35, c1]
    exact Leave.pures rfl (by simp only [wev, wab, wty, wls, Nat.reduceAdd, Nat.reduceEqDiff, Nat.reduceLT, Nat.reduceMul, Nat.reduceLeDiff, Int.reduceEq, ↓reduceIte, reduceCtorEq, ne_eq, true_implies, false_implies, implies_true, not_true_eq_false, not_false_eq_true, true_and, and_true, decide_true, decide_false, if_true, if_false, Nat.add_zero, Nat.zero_add, decide_eq_true_eq, decide_eq_false_iff_not, ite_not, Bool.true_eq_false, Bool.false_eq_true, Bool.not_eq_true, Bool.not_eq_false, Bool.not_true, Bool.not_false, oneOf, hn]) (Ext.refl _) rfl
  | succ k =>
    have e1 : (((k + 1 : Nat) : Int) - 1) = (k : Int) := by omega
    rw [e1]
    have c1 : (0 ≤ (k : Int)) = True := by simp
    have c2 : ((k : Int) < (ps.length : Int)) = True := by simp; omega
    obtain ⟨y, hy⟩ : ∃ y, ps[k]? = some y := ⟨_, List.getElem?_eq_getElem (by omega)⟩
    rw [take_snoc _ _ _ hy, see_snoc] at hp
    by_cases q : y.name = s
    · rw [if_pos q] at hp
      simp only [wev, wab, wty, wls, Nat.reduceAdd, Nat.reduceEqDiff, Nat.reduceLT, Nat.reduceMul, Nat.reduceLeDiff, Int.reduceEq, ↓reduceIte, reduceCtorEq, ne_eq, true_implies, false_implies, implies_true, not_true_eq_false, not_false_eq_true, true_and, and_true, decide_true, decide_false, if_true, if_false, Nat.add_zero, Nat.zero_add, decide_eq_true_eq, decide_eq_false_iff_not, ite_not, Bool.true_eq_false, Bool.false_eq_true, Bool.not_eq_true, Bool.not_eq_false, Bool.not_true, Bool.not_false, Tryd.ntmps35, c1, c2, List.length_map, getD_map Param.enc hy, penc_eq, decide_eq_true q]
      exact Leave.pures rfl (by simp only [wev, wab, wty, wls, Nat.reduceAdd, Nat.reduceEqDiff, Nat.reduceLT, Nat.reduceMul, Nat.reduceLeDiff, Int.reduceEq, ↓reduceIte, reduceCtorEq, ne_eq, true_implies, false_implies, implies_true, not_true_eq_false, not_false_eq_true, true_and, and_true, decide_true, decide_false, if_true, if_false, Nat.add_zero, Nat.zero_add, decide_eq_true_eq, decide_eq_false_iff_not, ite_not, Bool.true_eq_false, Bool.false_eq_true, Bool.not_eq_true, Bool.not_eq_false, Bool.not_true, Bool.not_false, oneOf, hp]) (Ext.refl _) rfl
    · rw [if_neg q] at hp
      simp only [wev, wab, wty, wls, Nat.reduceAdd, Nat.reduceEqDiff, Nat.reduceLT, Nat.reduceMul, Nat.reduceLeDiff, Int.reduceEq, ↓reduceIte, reduceCtorEq, ne_eq, true_implies, false_implies, implies_true, not_true_eq_false, not_false_eq_true, true_and, and_true, decide_true, decide_false, if_true, if_false, Nat.add_zero, Nat.zero_add, decide_eq_true_eq, decide_eq_false_iff_not, ite_not, Bool.true_eq_false, Bool.false_eq_true, Bool.not_eq_true, Bool.not_eq_false, Bool.not_true, Bool.not_false, Tryd.ntmps35, c1, c2, List.length_map, getD_map Param.enc hy, penc_eq, decide_eq_false q, wm k (by omega)]
      exact next k _ _ (by omega) ⟨by omega, rfl, hp⟩ (by simp only [wev, wab, wty, wls, Nat.reduceAdd, Nat.reduceEqDiff, Nat.reduceLT, Nat.reduceMul, Nat.reduceLeDiff, Int.reduceEq, ↓reduceIte, reduceCtorEq, ne_eq, true_implies, false_implies, implies_true, not_true_eq_false, not_false_eq_true, true_and, and_true, decide_true, decide_false, if_true, if_false, Nat.add_zero, Nat.zero_add, decide_eq_true_eq, decide_eq_false_iff_not, ite_not, Bool.true_eq_false, Bool.false_eq_true, Bool.not_eq_true, Bool.not_eq_false, Bool.not_true, Bool.not_false])
end Go.Proofs.YtajknofacjiddaaDoor.Abs
