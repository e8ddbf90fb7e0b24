/- typing.bind -/
import Derived.Test.YtajknofacjiddaaDoorF9
namespace Go.Proofs.YtajknofacjiddaaDoor.Abs
open Go Go.RowKit
set_option linter.unusedSimpArgs false
set_option linter.unusedVariables false
set_option maxHeartbeats 4000000
set_option maxRecDepth 100000
theorem cast1 : ((1 : Nat) : Int) = 1 := rfl
theorem cast2 : ((2 : Nat) : Int) = 2 := rfl
theorem cast3 : ((3 : Nat) : Int) = 3 := rfl
theorem envDel_put (env : Env) (s : ByteArray) (b : Bool) (h : env s = none) : envDel (envPut env s b) s = env := by
  funext t
  unfold envDel envPut
  by_cases q : t = s
  · subst q; rw [if_pos rfl, h]
  · rw [if_neg q, if_neg q]
theorem ac57 (lib : List Fn) (x y0 y1 : Node) (hv0 : VisitAt lib y0) (hv1 : VisitAt lib y1) (hkids : x.kids = [y0, y1]) (env : Env) (h : AHeap) (t m clk : Nat) (es : List AEnt) (ht : h.get t = some (.cells [vlib lib, .map m])) (hm : h.get m = some (.map clk es)) (hE : EMap es env) :
    AC sd 57 [.ptr t 0, .agg x.enc] h (MapPost h m env (tyv (bindE x.name [chk lib y0, chk lib y1] env))) := by
  refine AC.mapped Tryd.func57 rfl Tryd.ntmps57 (by show 2 ≤ 54; decide) ?_
  refine Ev.sound 100 _ _ _ _ ?_
  simp only [argFr, enc_eq, hkids, List.map_cons, List.map_nil]
  have htm : t ≠ m := fun e => by rw [e, hm] at ht; cases ht
  have htm1 : (t = m) = False := by simp [htm]
  have htn := get_lt h t ht
  have hmn := get_lt h m hm
  have n1 : (t = h.next) = False := by simp; omega
  have n2 : (m = h.next) = False := by simp; omega
  have n3 : (h.next = m) = False := by simp; omega
  have n4 : (h.next = t) = False := by simp; omega
  have hlk := hE.look clk x.name
  simp only [wev, wab, wty, wls, Nat.reduceAdd, Nat.reduceEqDiff, Nat.reduceLT, Nat.reduceMul, Nat.reduceLeDiff, Int.reduceEq, ↓reduceIte, reduceCtorEq, ne_eq, true_implies, false_implies, implies_true, not_true_eq_false, not_false_eq_true, true_and, and_true, decide_true, decide_false, if_true, if_false, Nat.add_zero, Nat.zero_add, decide_eq_true_eq, decide_eq_false_iff_not, ite_not, Bool.true_eq_false, Bool.false_eq_true, Bool.not_eq_true, Bool.not_eq_false, Bool.not_true, Bool.not_false, Tryd.ntmps57]
  refine Stop.drawn [(0, 0), (1, 0), (2, 0), (3, 0), (4, 0), (5, 0), (6, 0), (7, 0), (8, 0), (9, 0), (10, 0), (11, 0)] [[], [0], [0, 1], [0, 1, 2], [], [4], [0, 1, 2, 3, 4, 5], [0, 1, 2, 3, 4, 5, 6], [0, 1, 2, 3, 4, 5, 6, 7], [0, 1, 2, 3, 4, 5, 6, 7], [0, 1, 2, 3, 4, 5, 6, 7, 8], [0, 1, 2, 3, 4, 5, 6, 7, 8, 9, 10]] 90 (by kernel_rfl) ?_
  have i0 : ((0 : Int) < 2) = True := by simp
  have i1 : ((1 : Int) < 2) = True := by simp
  have e0 : ((0 : Int) ≤ 0) = True := by simp
  have e1 : ((0 : Int) ≤ 1) = True := by simp
  cases hen : env x.name with
  | some b =>
    rw [hen] at hlk
    have hn : bindE x.name [chk lib y0, chk lib y1] env = (false, 22) := by unfold bindE; rw [hen]; rfl
    simp only [wev, wab, wty, wls, Nat.reduceAdd, Nat.reduceEqDiff, Nat.reduceLT, Nat.reduceMul, Nat.reduceLeDiff, Int.reduceEq, ↓reduceIte, reduceCtorEq, ne_eq, true_implies, false_implies, implies_true, not_true_eq_false, not_false_eq_true, true_and, and_true, decide_true, decide_false, if_true, if_false, Nat.add_zero, Nat.zero_add, decide_eq_true_eq, decide_eq_false_iff_not, ite_not, Bool.true_eq_false, Bool.false_eq_true, Bool.not_eq_true, Bool.not_eq_false, Bool.not_true, Bool.not_false, Tryd.ntmps57, n1, n2, ht, hm, hlk, Option.getD_some, Option.isSome_some]
    exact Leave.mapped rfl (by simp only [wev, wab, wty, wls, Nat.reduceAdd, Nat.reduceEqDiff, Nat.reduceLT, Nat.reduceMul, Nat.reduceLeDiff, Int.reduceEq, ↓reduceIte, reduceCtorEq, ne_eq, true_implies, false_implies, implies_true, not_true_eq_false, not_false_eq_true, true_and, and_true, decide_true, decide_false, if_true, if_false, Nat.add_zero, Nat.zero_add, decide_eq_true_eq, decide_eq_false_iff_not, ite_not, Bool.true_eq_false, Bool.false_eq_true, Bool.not_eq_true, Bool.not_eq_false, Bool.not_true, Bool.not_false, oneOf, hn, tyv]) hmn hE (by rw [set_same h hm]; exact (Ext.refl h).alloc _) rfl
  | none =>
  rw [hen] at hlk
  simp only [wev, wab, wty, wls, Nat.reduceAdd, Nat.reduceEqDiff, Nat.reduceLT, Nat.reduceMul, Nat.reduceLeDiff, Int.reduceEq, ↓reduceIte, reduceCtorEq, ne_eq, true_implies, false_implies, implies_true, not_true_eq_false, not_false_eq_true, true_and, and_true, decide_true, decide_false, if_true, if_false, Nat.add_zero, Nat.zero_add, decide_eq_true_eq, decide_eq_false_iff_not, ite_not, Bool.true_eq_false, Bool.false_eq_true, Bool.not_eq_true, Bool.not_eq_false, Bool.not_true, Bool.not_false, Tryd.ntmps57, n1, n2, ht, hm, hlk, Option.getD_none, Option.isSome_none, Int.reduceToNat, Int.reduceLE, Int.reduceLT, cast1, cast2, cast3, List.getD_cons_zero, List.getD_cons_succ, enc_eq y0, enc_eq y1]
  refine Stop.mapped (hv0 env _ t m clk es ?_ ?_ hE) rfl rfl (by simp only [wev, wab, wty, wls, Nat.reduceAdd, Nat.reduceEqDiff, Nat.reduceLT, Nat.reduceMul, Nat.reduceLeDiff, Int.reduceEq, ↓reduceIte, reduceCtorEq, ne_eq, true_implies, false_implies, implies_true, not_true_eq_false, not_false_eq_true, true_and, and_true, decide_true, decide_false, if_true, if_false, Nat.add_zero, Nat.zero_add, decide_eq_true_eq, decide_eq_false_iff_not, ite_not, Bool.true_eq_false, Bool.false_eq_true, Bool.not_eq_true, Bool.not_eq_false, Bool.not_true, Bool.not_false, Tryd.ntmps57]) (caps := []) (by simp only [wev, wab, wty, wls, Nat.reduceAdd, Nat.reduceEqDiff, Nat.reduceLT, Nat.reduceMul, Nat.reduceLeDiff, Int.reduceEq, ↓reduceIte, reduceCtorEq, ne_eq, true_implies, false_implies, implies_true, not_true_eq_false, not_false_eq_true, true_and, and_true, decide_true, decide_false, if_true, if_false, Nat.add_zero, Nat.zero_add, decide_eq_true_eq, decide_eq_false_iff_not, ite_not, Bool.true_eq_false, Bool.false_eq_true, Bool.not_eq_true, Bool.not_eq_false, Bool.not_true, Bool.not_false]) en_50 (by simp only [wev, wab, wty, wls, Nat.reduceAdd, Nat.reduceEqDiff, Nat.reduceLT, Nat.reduceMul, Nat.reduceLeDiff, Int.reduceEq, ↓reduceIte, reduceCtorEq, ne_eq, true_implies, false_implies, implies_true, not_true_eq_false, not_false_eq_true, true_and, and_true, decide_true, decide_false, if_true, if_false, Nat.add_zero, Nat.zero_add, decide_eq_true_eq, decide_eq_false_iff_not, ite_not, Bool.true_eq_false, Bool.false_eq_true, Bool.not_eq_true, Bool.not_eq_false, Bool.not_true, Bool.not_false, enc_eq y0, fgt_mapenc]) ?_
  · simp only [wev, wab, wty, wls, Nat.reduceAdd, Nat.reduceEqDiff, Nat.reduceLT, Nat.reduceMul, Nat.reduceLeDiff, Int.reduceEq, ↓reduceIte, reduceCtorEq, ne_eq, true_implies, false_implies, implies_true, not_true_eq_false, not_false_eq_true, true_and, and_true, decide_true, decide_false, if_true, if_false, Nat.add_zero, Nat.zero_add, decide_eq_true_eq, decide_eq_false_iff_not, ite_not, Bool.true_eq_false, Bool.false_eq_true, Bool.not_eq_true, Bool.not_eq_false, Bool.not_true, Bool.not_false, n1, ht]
  · simp only [wev, wab, wty, wls, Nat.reduceAdd, Nat.reduceEqDiff, Nat.reduceLT, Nat.reduceMul, Nat.reduceLeDiff, Int.reduceEq, ↓reduceIte, reduceCtorEq, ne_eq, true_implies, false_implies, implies_true, not_true_eq_false, not_false_eq_true, true_and, and_true, decide_true, decide_false, if_true, if_false, Nat.add_zero, Nat.zero_add, decide_eq_true_eq, decide_eq_false_iff_not, ite_not, Bool.true_eq_false, Bool.false_eq_true, Bool.not_eq_true, Bool.not_eq_false, Bool.not_true, Bool.not_false, n2, hm]
  clear hlk hE
  intro clk es hE
  have hx := fun c => ((Ext.refl h).alloc (.cells c)).sets hmn (.map clk es)
  by_cases he : (chk lib y0 env).2 = 0
  case neg =>
    have hn : bindE x.name [chk lib y0, chk lib y1] env = (false, (chk lib y0 env).2) := by unfold bindE; rw [hen]; simp [he]
    refine Ev.sound 100 _ _ _ _ ?_
    simp only [wev, wab, wty, wls, Nat.reduceAdd, Nat.reduceEqDiff, Nat.reduceLT, Nat.reduceMul, Nat.reduceLeDiff, Int.reduceEq, ↓reduceIte, reduceCtorEq, ne_eq, true_implies, false_implies, implies_true, not_true_eq_false, not_false_eq_true, true_and, and_true, decide_true, decide_false, if_true, if_false, Nat.add_zero, Nat.zero_add, decide_eq_true_eq, decide_eq_false_iff_not, ite_not, Bool.true_eq_false, Bool.false_eq_true, Bool.not_eq_true, Bool.not_eq_false, Bool.not_true, Bool.not_false, Tryd.ntmps57, tyv, decide_eq_false he]
    exact Leave.mapped rfl (by simp only [wev, wab, wty, wls, Nat.reduceAdd, Nat.reduceEqDiff, Nat.reduceLT, Nat.reduceMul, Nat.reduceLeDiff, Int.reduceEq, ↓reduceIte, reduceCtorEq, ne_eq, true_implies, false_implies, implies_true, not_true_eq_false, not_false_eq_true, true_and, and_true, decide_true, decide_false, if_true, if_false, Nat.add_zero, Nat.zero_add, decide_eq_true_eq, decide_eq_false_iff_not, ite_not, Bool.true_eq_false, Bool.false_eq_true, Bool.not_eq_true, Bool.not_eq_false, Bool.not_true, Bool.not_false, oneOf, hn, tyv]) hmn hE (hx _) rfl
  have hn : bindE x.name [chk lib y0, chk lib y1] env = chk lib y1 (envPut env x.name (chk lib y0 env).1) := by unfold bindE; rw [hen]; simp [he]
  refine Ev.sound 100 _ _ _ _ ?_
  simp only [wev, wab, wty, wls, Nat.reduceAdd, Nat.reduceEqDiff, Nat.reduceLT, Nat.reduceMul, Nat.reduceLeDiff, Int.reduceEq, ↓reduceIte, reduceCtorEq, ne_eq, true_implies, false_implies, implies_true, not_true_eq_false, not_false_eq_true, true_and, and_true, decide_true, decide_false, if_true, if_false, Nat.add_zero, Nat.zero_add, decide_eq_true_eq, decide_eq_false_iff_not, ite_not, Bool.true_eq_false, Bool.false_eq_true, Bool.not_eq_true, Bool.not_eq_false, Bool.not_true, Bool.not_false, Tryd.ntmps57, tyv, decide_eq_true he]
  refine Stop.drawn [(0, 0), (1, 0), (2, 0), (3, 0), (4, 0), (5, 0), (6, 0), (7, 1)] [[], [0], [0, 1], [0, 1, 2], [], [4], [], [0, 1, 2, 3, 4, 5, 6]] 90 (by kernel_rfl) ?_
  obtain ⟨clk1, es1, hp, hE1⟩ := hE.put clk x.name (chk lib y0 env).1
  have m1 : (m < h.next + 1) = True := by simp; omega
  simp only [wev, wab, wty, wls, Nat.reduceAdd, Nat.reduceEqDiff, Nat.reduceLT, Nat.reduceMul, Nat.reduceLeDiff, Int.reduceEq, ↓reduceIte, reduceCtorEq, ne_eq, true_implies, false_implies, implies_true, not_true_eq_false, not_false_eq_true, true_and, and_true, decide_true, decide_false, if_true, if_false, Nat.add_zero, Nat.zero_add, decide_eq_true_eq, decide_eq_false_iff_not, ite_not, Bool.true_eq_false, Bool.false_eq_true, Bool.not_eq_true, Bool.not_eq_false, Bool.not_true, Bool.not_false, Tryd.ntmps57, n1, n2, n3, n4, htm1, m1, ht, hp]
  refine Stop.drawn [(0, 0), (1, 0), (2, 0), (3, 0), (4, 0), (5, 0), (6, 3)] [[], [0], [0, 1], [0, 1, 2], [], [4], [0, 1, 2, 3, 4, 5]] 90 (by kernel_rfl) ?_
  simp only [wev, wab, wty, wls, Nat.reduceAdd, Nat.reduceEqDiff, Nat.reduceLT, Nat.reduceMul, Nat.reduceLeDiff, Int.reduceEq, ↓reduceIte, reduceCtorEq, ne_eq, true_implies, false_implies, implies_true, not_true_eq_false, not_false_eq_true, true_and, and_true, decide_true, decide_false, if_true, if_false, Nat.add_zero, Nat.zero_add, decide_eq_true_eq, decide_eq_false_iff_not, ite_not, Bool.true_eq_false, Bool.false_eq_true, Bool.not_eq_true, Bool.not_eq_false, Bool.not_true, Bool.not_false, Tryd.ntmps57, n1, n2, n3, n4, htm1, m1, ht, Int.reduceToNat, Int.reduceLE, Int.reduceLT, cast1, cast2, cast3, List.getD_cons_zero, List.getD_cons_succ, enc_eq y0, enc_eq y1]
  refine Stop.mapped (hv1 (envPut env x.name (chk lib y0 env).1) _ t m clk1 es1 ?_ ?_ hE1) rfl rfl (by simp only [wev, wab, wty, wls, Nat.reduceAdd, Nat.reduceEqDiff, Nat.reduceLT, Nat.reduceMul, Nat.reduceLeDiff, Int.reduceEq, ↓reduceIte, reduceCtorEq, ne_eq, true_implies, false_implies, implies_true, not_true_eq_false, not_false_eq_true, true_and, and_true, decide_true, decide_false, if_true, if_false, Nat.add_zero, Nat.zero_add, decide_eq_true_eq, decide_eq_false_iff_not, ite_not, Bool.true_eq_false, Bool.false_eq_true, Bool.not_eq_true, Bool.not_eq_false, Bool.not_true, Bool.not_false, Tryd.ntmps57]) (caps := []) (by simp only [wev, wab, wty, wls, Nat.reduceAdd, Nat.reduceEqDiff, Nat.reduceLT, Nat.reduceMul, Nat.reduceLeDiff, Int.reduceEq, ↓reduceIte, reduceCtorEq, ne_eq, true_implies, false_implies, implies_true, not_true_eq_false, not_false_eq_true, true_and, and_true, decide_true, decide_false, if_true, if_false, Nat.add_zero, Nat.zero_add, decide_eq_true_eq, decide_eq_false_iff_not, ite_not, Bool.true_eq_false, Bool.false_eq_true, Bool.not_eq_true, Bool.not_eq_false, Bool.not_true, Bool.not_false]) en_50 (by simp only [wev, wab, wty, wls, Nat.reduceAdd, Nat.reduceEqDiff, Nat.reduceLT, Nat.reduceMul, Nat.reduceLeDiff, Int.reduceEq, ↓reduceIte, reduceCtorEq, ne_eq, true_implies, false_implies, implies_true, not_true_eq_false, not_false_eq_true, true_and, and_true, decide_true, decide_false, if_true, if_false, Nat.add_zero, Nat.zero_add, decide_eq_true_eq, decide_eq_false_iff_not, ite_not, Bool.true_eq_false, Bool.false_eq_true, Bool.not_eq_true, Bool.not_eq_false, Bool.not_true, Bool.not_false, enc_eq y1, fgt_mapenc]) ?_
  · simp only [wev, wab, wty, wls, Nat.reduceAdd, Nat.reduceEqDiff, Nat.reduceLT, Nat.reduceMul, Nat.reduceLeDiff, Int.reduceEq, ↓reduceIte, reduceCtorEq, ne_eq, true_implies, false_implies, implies_true, not_true_eq_false, not_false_eq_true, true_and, and_true, decide_true, decide_false, if_true, if_false, Nat.add_zero, Nat.zero_add, decide_eq_true_eq, decide_eq_false_iff_not, ite_not, Bool.true_eq_false, Bool.false_eq_true, Bool.not_eq_true, Bool.not_eq_false, Bool.not_true, Bool.not_false, n1, htm1, ht, false_and]
  · simp only [wev, wab, wty, wls, Nat.reduceAdd, Nat.reduceEqDiff, Nat.reduceLT, Nat.reduceMul, Nat.reduceLeDiff, Int.reduceEq, ↓reduceIte, reduceCtorEq, ne_eq, true_implies, false_implies, implies_true, not_true_eq_false, not_false_eq_true, true_and, and_true, decide_true, decide_false, if_true, if_false, Nat.add_zero, Nat.zero_add, decide_eq_true_eq, decide_eq_false_iff_not, ite_not, Bool.true_eq_false, Bool.false_eq_true, Bool.not_eq_true, Bool.not_eq_false, Bool.not_true, Bool.not_false, m1]
  intro clk2 es2 hE2
  have hx2 := fun c => ((Ext.refl h).alloc (.cells c)).sets hmn (.map clk2 es2)
  refine Ev.sound 100 _ _ _ _ ?_
  simp only [wev, wab, wty, wls, Nat.reduceAdd, Nat.reduceEqDiff, Nat.reduceLT, Nat.reduceMul, Nat.reduceLeDiff, Int.reduceEq, ↓reduceIte, reduceCtorEq, ne_eq, true_implies, false_implies, implies_true, not_true_eq_false, not_false_eq_true, true_and, and_true, decide_true, decide_false, if_true, if_false, Nat.add_zero, Nat.zero_add, decide_eq_true_eq, decide_eq_false_iff_not, ite_not, Bool.true_eq_false, Bool.false_eq_true, Bool.not_eq_true, Bool.not_eq_false, Bool.not_true, Bool.not_false, Tryd.ntmps57, tyv, n1, n2, htm1, m1]
  have hg : ∀ c, ((h.alloc (.cells c)).set m (.map clk2 es2)).get m = some (.map clk2 es2) := fun c => by simp only [wev, wab, wty, wls, Nat.reduceAdd, Nat.reduceEqDiff, Nat.reduceLT, Nat.reduceMul, Nat.reduceLeDiff, Int.reduceEq, ↓reduceIte, reduceCtorEq, ne_eq, true_implies, false_implies, implies_true, not_true_eq_false, not_false_eq_true, true_and, and_true, decide_true, decide_false, if_true, if_false, Nat.add_zero, Nat.zero_add, decide_eq_true_eq, decide_eq_false_iff_not, ite_not, Bool.true_eq_false, Bool.false_eq_true, Bool.not_eq_true, Bool.not_eq_false, Bool.not_true, Bool.not_false, m1]
  obtain ⟨es3, hd, hE3⟩ := hE2.del clk2 m x.name _ (hg _)
  rw [envDel_put env x.name _ hen] at hE3
  refine Leave.del ((dl_73 m x.name _).trans hd) ?_
  refine Leave.mapped (clk := clk2) rfl (by simp only [wev, wab, wty, wls, Nat.reduceAdd, Nat.reduceEqDiff, Nat.reduceLT, Nat.reduceMul, Nat.reduceLeDiff, Int.reduceEq, ↓reduceIte, reduceCtorEq, ne_eq, true_implies, false_implies, implies_true, not_true_eq_false, not_false_eq_true, true_and, and_true, decide_true, decide_false, if_true, if_false, Nat.add_zero, Nat.zero_add, decide_eq_true_eq, decide_eq_false_iff_not, ite_not, Bool.true_eq_false, Bool.false_eq_true, Bool.not_eq_true, Bool.not_eq_false, Bool.not_true, Bool.not_false, oneOf, hn, tyv]) hmn hE3 ?_ rfl
  rw [set_set]
  exact ((Ext.refl h).alloc _).sets hmn _
end Go.Proofs.YtajknofacjiddaaDoor.Abs
