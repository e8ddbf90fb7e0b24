/- typing.branches -/
import Derived.Test.YtajknofacjiddaaDoorF8
namespace Go.Proofs.YtajknofacjiddaaDoor.Abs
open Go Go.RowKit
set_option linter.unusedSimpArgs false
set_option linter.unusedVariables false
set_option maxHeartbeats 4000000
set_option maxRecDepth 100000
def arr3 (bs : List Bool) : List AV := (bs.map AV.bool) ++ List.replicate (3 - bs.length) (.bool false)
theorem arr3_len (bs : List Bool) (h : bs.length ≤ 3) : (arr3 bs).length = 3 := by simp [arr3]; omega
theorem arr3_put (bs : List Bool) (b : Bool) (h : bs.length < 3) (id : Nat) (hp : AHeap) : storeM (some (.cells (arr3 bs))) id bs.length (some [.bool b]) 1 hp = some (hp.set id (.cells (arr3 (bs ++ [b])))) := by
  have e : asplice (arr3 bs) bs.length [.bool b] = arr3 (bs ++ [b]) := by
    match bs, h with
    | [], _ => rfl
    | [x], _ => rfl
    | [x, y], _ => rfl
  simp only [storeM, e]
  rw [if_pos ⟨rfl, by rw [arr3_len bs (by omega)]; simp; omega, rfl⟩]
theorem ac56 (lib : List Fn) (x : Node) (hv : ∀ y ∈ x.kids, VisitAt lib y) (hl : x.kids.length = 3) (env : Env) (h : AHeap) (t m clk : Nat) (es : List AEnt) (ht : h.get t = some (.cells [vlib lib, .map m])) (hm : h.get m = some (.map clk es)) (hE : EMap es env) :
    AC sd 56 [.ptr t 0, .agg x.enc] h (MapPost h m env (tyv (branchesE (x.kids.map (chk lib)) env))) := by
  refine AC.mapped Tryd.func56 rfl Tryd.ntmps56 (by show 2 ≤ 43; decide) ?_
  refine Ev.sound 100 _ _ _ _ ?_
  simp only [argFr, enc_eq]
  have htm : t ≠ m := fun e => by rw [e, hm] at ht; cases ht
  have htn := get_lt h t ht
  have hmn := get_lt h m hm
  simp only [wev, wab, wty, wls, Nat.reduceAdd, Nat.reduceEqDiff, Nat.reduceLT, Nat.reduceMul, Nat.reduceLeDiff, Int.reduceEq, ↓reduceIte, reduceCtorEq, ne_eq, true_implies, false_implies, implies_true, not_true_eq_false, not_false_eq_true, true_and, and_true, decide_true, decide_false, if_true, if_false, Nat.add_zero, Nat.zero_add, decide_eq_true_eq, decide_eq_false_iff_not, ite_not, Bool.true_eq_false, Bool.false_eq_true, Bool.not_eq_true, Bool.not_eq_false, Bool.not_true, Bool.not_false, Tryd.ntmps56]
  refine Stop.round (σ := List Bool) (fun s => x.kids.length - s.length) (fun s => [(0, .ptr t 0), (6, .ptr (h.next + 1) 0), (12, kslice 4 (x.kids.map Node.enc)), (13, .int .i64 x.kids.length), (14, .int .i64 s.length)])
    (fun s h1 => s.length ≤ x.kids.length ∧ h1.get (h.next + 1) = some (.cells (arr3 s)) ∧ h.next + 1 < h1.next ∧ runAll (x.kids.map (chk lib)) env = pre s (runAll ((x.kids.drop s.length).map (chk lib)) env) ∧ ∃ clk es, Ext (h.set m (.map clk es)) h1 ∧ EMap es env) [] ⟨Nat.zero_le _, ?_, ?_, (pre_nil _ _).symm, clk, es, ?_, hE⟩ ?_ ?_
  · simp only [wev, wab, wty, wls, Nat.reduceAdd, Nat.reduceEqDiff, Nat.reduceLT, Nat.reduceMul, Nat.reduceLeDiff, Int.reduceEq, ↓reduceIte, reduceCtorEq, ne_eq, true_implies, false_implies, implies_true, not_true_eq_false, not_false_eq_true, true_and, and_true, decide_true, decide_false, if_true, if_false, Nat.add_zero, Nat.zero_add, decide_eq_true_eq, decide_eq_false_iff_not, ite_not, Bool.true_eq_false, Bool.false_eq_true, Bool.not_eq_true, Bool.not_eq_false, Bool.not_true, Bool.not_false]; rfl
  · simp only [wev, wab, wty, wls, Nat.reduceAdd, Nat.reduceEqDiff, Nat.reduceLT, Nat.reduceMul, Nat.reduceLeDiff, Int.reduceEq, ↓reduceIte, reduceCtorEq, ne_eq, true_implies, false_implies, implies_true, not_true_eq_false, not_false_eq_true, true_and, and_true, decide_true, decide_false, if_true, if_false, Nat.add_zero, Nat.zero_add, decide_eq_true_eq, decide_eq_false_iff_not, ite_not, Bool.true_eq_false, Bool.false_eq_true, Bool.not_eq_true, Bool.not_eq_false, Bool.not_true, Bool.not_false]
  · rw [set_same h hm]; exact ((Ext.refl h).alloc _).alloc _
  · simp only [wev, wab, wty, wls, Nat.reduceAdd, Nat.reduceEqDiff, Nat.reduceLT, Nat.reduceMul, Nat.reduceLeDiff, Int.reduceEq, ↓reduceIte, reduceCtorEq, ne_eq, true_implies, false_implies, implies_true, not_true_eq_false, not_false_eq_true, true_and, and_true, decide_true, decide_false, if_true, if_false, Nat.add_zero, Nat.zero_add, decide_eq_true_eq, decide_eq_false_iff_not, ite_not, Bool.true_eq_false, Bool.false_eq_true, Bool.not_eq_true, Bool.not_eq_false, Bool.not_true, Bool.not_false, List.length_map, List.length_nil, Int.ofNat_zero, Int.natCast_zero]
  rintro bs h1 ⟨hk, ha, han, hr, clk, es, hx, hE⟩ next
  have ht1 : h1.get t = some (.cells [vlib lib, .map m]) := by rw [hx.get t (by rw [next_set]; exact htn), get_set, if_neg (fun e => htm e.1)]; exact ht
  have hm1 : h1.get m = some (.map clk es) := by rw [hx.get m (by rw [next_set]; exact hmn), get_set, if_pos ⟨rfl, hmn⟩]
  have n1 : (t = h1.next) = False := by have := get_lt h1 t ht1; simp; omega
  have n2 : (m = h1.next) = False := by have := get_lt h1 m hm1; simp; omega
  have n3 : (h.next + 1 = h1.next) = False := by simp; omega
  have n4 : (h.next + 1 = m) = False := by simp; omega
  refine Ev.sound 100 _ _ _ _ ?_
  rcases turn x.kids bs.length hk with ⟨y, hy, hmem, hlt, c1, c2⟩ | ⟨hkk, c1⟩
  · have w1 := wrap_succ bs.length (by omega)
    have c3 : ((bs.length : Int) < (3 : Nat)) = True := by simp; omega
    rw [drop_turn hy, List.map_cons] at hr
    simp only [wev, wab, wty, wls, Nat.reduceAdd, Nat.reduceEqDiff, Nat.reduceLT, Nat.reduceMul, Nat.reduceLeDiff, Int.reduceEq, ↓reduceIte, reduceCtorEq, ne_eq, true_implies, false_implies, implies_true, not_true_eq_false, not_false_eq_true, true_and, and_true, decide_true, decide_false, if_true, if_false, Nat.add_zero, Nat.zero_add, decide_eq_true_eq, decide_eq_false_iff_not, ite_not, Bool.true_eq_false, Bool.false_eq_true, Bool.not_eq_true, Bool.not_eq_false, Bool.not_true, Bool.not_false, Tryd.ntmps56, c1, c2, List.length_map, getD_map Node.enc hy, enc_eq y]
    refine Stop.mapped (hv y hmem env _ t m clk es ?_ ?_ hE) rfl rfl (by simp only [wev, wab, wty, wls, Nat.reduceAdd, Nat.reduceEqDiff, Nat.reduceLT, Nat.reduceMul, Nat.reduceLeDiff, Int.reduceEq, ↓reduceIte, reduceCtorEq, ne_eq, true_implies, false_implies, implies_true, not_true_eq_false, not_false_eq_true, true_and, and_true, decide_true, decide_false, if_true, if_false, Nat.add_zero, Nat.zero_add, decide_eq_true_eq, decide_eq_false_iff_not, ite_not, Bool.true_eq_false, Bool.false_eq_true, Bool.not_eq_true, Bool.not_eq_false, Bool.not_true, Bool.not_false, Tryd.ntmps56]) (caps := []) (by simp only [wev, wab, wty, wls, Nat.reduceAdd, Nat.reduceEqDiff, Nat.reduceLT, Nat.reduceMul, Nat.reduceLeDiff, Int.reduceEq, ↓reduceIte, reduceCtorEq, ne_eq, true_implies, false_implies, implies_true, not_true_eq_false, not_false_eq_true, true_and, and_true, decide_true, decide_false, if_true, if_false, Nat.add_zero, Nat.zero_add, decide_eq_true_eq, decide_eq_false_iff_not, ite_not, Bool.true_eq_false, Bool.false_eq_true, Bool.not_eq_true, Bool.not_eq_false, Bool.not_true, Bool.not_false]) en_50 (by simp only [wev, wab, wty, wls, Nat.reduceAdd, Nat.reduceEqDiff, Nat.reduceLT, Nat.reduceMul, Nat.reduceLeDiff, Int.reduceEq, ↓reduceIte, reduceCtorEq, ne_eq, true_implies, false_implies, implies_true, not_true_eq_false, not_false_eq_true, true_and, and_true, decide_true, decide_false, if_true, if_false, Nat.add_zero, Nat.zero_add, decide_eq_true_eq, decide_eq_false_iff_not, ite_not, Bool.true_eq_false, Bool.false_eq_true, Bool.not_eq_true, Bool.not_eq_false, Bool.not_true, Bool.not_false, enc_eq y, fgt_mapenc]) ?_
    · simp only [wev, wab, wty, wls, Nat.reduceAdd, Nat.reduceEqDiff, Nat.reduceLT, Nat.reduceMul, Nat.reduceLeDiff, Int.reduceEq, ↓reduceIte, reduceCtorEq, ne_eq, true_implies, false_implies, implies_true, not_true_eq_false, not_false_eq_true, true_and, and_true, decide_true, decide_false, if_true, if_false, Nat.add_zero, Nat.zero_add, decide_eq_true_eq, decide_eq_false_iff_not, ite_not, Bool.true_eq_false, Bool.false_eq_true, Bool.not_eq_true, Bool.not_eq_false, Bool.not_true, Bool.not_false, n1, ht1]
    · simp only [wev, wab, wty, wls, Nat.reduceAdd, Nat.reduceEqDiff, Nat.reduceLT, Nat.reduceMul, Nat.reduceLeDiff, Int.reduceEq, ↓reduceIte, reduceCtorEq, ne_eq, true_implies, false_implies, implies_true, not_true_eq_false, not_false_eq_true, true_and, and_true, decide_true, decide_false, if_true, if_false, Nat.add_zero, Nat.zero_add, decide_eq_true_eq, decide_eq_false_iff_not, ite_not, Bool.true_eq_false, Bool.false_eq_true, Bool.not_eq_true, Bool.not_eq_false, Bool.not_true, Bool.not_false, n2, hm1]
    intro clk' es' hE'
    have hx2 := fun c => (hx.alloc (.cells c)).sets (by rw [next_set]; exact hmn) (.map clk' es')
    simp only [set_set] at hx2
    refine Ev.sound 100 _ _ _ _ ?_
    by_cases he : (chk lib y env).2 = 0
    case neg =>
      rw [pre_err he] at hr
      have hn : branchesE (x.kids.map (chk lib)) env = (false, (chk lib y env).2) := by unfold branchesE; rw [hr, if_pos he]
      simp only [wev, wab, wty, wls, Nat.reduceAdd, Nat.reduceEqDiff, Nat.reduceLT, Nat.reduceMul, Nat.reduceLeDiff, Int.reduceEq, ↓reduceIte, reduceCtorEq, ne_eq, true_implies, false_implies, implies_true, not_true_eq_false, not_false_eq_true, true_and, and_true, decide_true, decide_false, if_true, if_false, Nat.add_zero, Nat.zero_add, decide_eq_true_eq, decide_eq_false_iff_not, ite_not, Bool.true_eq_false, Bool.false_eq_true, Bool.not_eq_true, Bool.not_eq_false, Bool.not_true, Bool.not_false, Tryd.ntmps56, tyv, decide_eq_false he]
      exact Leave.mapped rfl (by simp only [wev, wab, wty, wls, Nat.reduceAdd, Nat.reduceEqDiff, Nat.reduceLT, Nat.reduceMul, Nat.reduceLeDiff, Int.reduceEq, ↓reduceIte, reduceCtorEq, ne_eq, true_implies, false_implies, implies_true, not_true_eq_false, not_false_eq_true, true_and, and_true, decide_true, decide_false, if_true, if_false, Nat.add_zero, Nat.zero_add, decide_eq_true_eq, decide_eq_false_iff_not, ite_not, Bool.true_eq_false, Bool.false_eq_true, Bool.not_eq_true, Bool.not_eq_false, Bool.not_true, Bool.not_false, oneOf, hn, tyv]) hmn hE' (hx2 _) rfl
    rw [pre_step he] at hr
    simp only [wev, wab, wty, wls, Nat.reduceAdd, Nat.reduceEqDiff, Nat.reduceLT, Nat.reduceMul, Nat.reduceLeDiff, Int.reduceEq, ↓reduceIte, reduceCtorEq, ne_eq, true_implies, false_implies, implies_true, not_true_eq_false, not_false_eq_true, true_and, and_true, decide_true, decide_false, if_true, if_false, Nat.add_zero, Nat.zero_add, decide_eq_true_eq, decide_eq_false_iff_not, ite_not, Bool.true_eq_false, Bool.false_eq_true, Bool.not_eq_true, Bool.not_eq_false, Bool.not_true, Bool.not_false, Tryd.ntmps56, tyv, decide_eq_true he, c2, c3, n3, n4, ha, Int.toNat_natCast, Nat.mul_one, arr3_put bs _ (by omega : bs.length < 3), false_and]
    refine next (bs ++ [(chk lib y env).1]) _ _ (by simp only [List.length_append, List.length_cons, List.length_nil]; omega) ⟨by simp only [List.length_append, List.length_cons, List.length_nil]; omega, ?_, ?_, by simpa using hr, clk', es', (hx2 _).set (by rw [next_set]; omega) _, hE'⟩ ?_
    · have n5 : (h.next + 1 < h1.next + 1) = True := by simp; omega
      simp only [wev, wab, wty, wls, Nat.reduceAdd, Nat.reduceEqDiff, Nat.reduceLT, Nat.reduceMul, Nat.reduceLeDiff, Int.reduceEq, ↓reduceIte, reduceCtorEq, ne_eq, true_implies, false_implies, implies_true, not_true_eq_false, not_false_eq_true, true_and, and_true, decide_true, decide_false, if_true, if_false, Nat.add_zero, Nat.zero_add, decide_eq_true_eq, decide_eq_false_iff_not, ite_not, Bool.true_eq_false, Bool.false_eq_true, Bool.not_eq_true, Bool.not_eq_false, Bool.not_true, Bool.not_false, n5]
    · simp only [wev, wab, wty, wls, Nat.reduceAdd, Nat.reduceEqDiff, Nat.reduceLT, Nat.reduceMul, Nat.reduceLeDiff, Int.reduceEq, ↓reduceIte, reduceCtorEq, ne_eq, true_implies, false_implies, implies_true, not_true_eq_false, not_false_eq_true, true_and, and_true, decide_true, decide_false, if_true, if_false, Nat.add_zero, Nat.zero_add, decide_eq_true_eq, decide_eq_false_iff_not, ite_not, Bool.true_eq_false, Bool.false_eq_true, Bool.not_eq_true, Bool.not_eq_false, Bool.not_true, Bool.not_false]; omega
    · simp only [wev, wab, wty, wls, Nat.reduceAdd, Nat.reduceEqDiff, Nat.reduceLT, Nat.reduceMul, Nat.reduceLeDiff, Int.reduceEq, ↓reduceIte, reduceCtorEq, ne_eq, true_implies, false_implies, implies_true, not_true_eq_false, not_false_eq_true, true_and, and_true, decide_true, decide_false, if_true, if_false, Nat.add_zero, Nat.zero_add, decide_eq_true_eq, decide_eq_false_iff_not, ite_not, Bool.true_eq_false, Bool.false_eq_true, Bool.not_eq_true, Bool.not_eq_false, Bool.not_true, Bool.not_false, w1, List.length_append]
  · rw [hkk, List.drop_length, List.map_nil] at hr
    have hr' : runAll (x.kids.map (chk lib)) env = (bs, 0) := by rw [hr]; simp [pre, runAll]
    obtain ⟨a, b, c, hbs⟩ : ∃ a b c, bs = [a, b, c] := by
      match bs, (by omega : bs.length = 3) with
      | [a, b, c], _ => exact ⟨a, b, c, rfl⟩
    have ha' : h1.get (h.next + 1) = some (.cells [.bool a, .bool b, .bool c]) := by rw [ha, hbs]; rfl
    rw [hbs] at hr'
    have d0 : ((0 : Int) < (3 : Nat)) = True := by simp
    have d1 : ((1 : Int) < (3 : Nat)) = True := by simp
    have d2 : ((2 : Int) < (3 : Nat)) = True := by simp
    have e0 : ((0 : Int) ≤ 0) = True := by simp
    have e1 : ((0 : Int) ≤ 1) = True := by simp
    have e2 : ((0 : Int) ≤ 2) = True := by simp
    have t0 : (0 : Int).toNat = 0 := rfl
    have t1 : (1 : Int).toNat = 1 := rfl
    have t2 : (2 : Int).toNat = 2 := rfl
    have hb : branchesE (x.kids.map (chk lib)) env = if a = true ∨ b ≠ c then (false, 7) else (b, 0) := by unfold branchesE; rw [hr']; rfl
    cases a
    · by_cases q : b = c
      · subst q
        have hn : branchesE (x.kids.map (chk lib)) env = (b, 0) := by rw [hb]; simp
        simp only [wev, wab, wty, wls, Nat.reduceAdd, Nat.reduceEqDiff, Nat.reduceLT, Nat.reduceMul, Nat.reduceLeDiff, Int.reduceEq, ↓reduceIte, reduceCtorEq, ne_eq, true_implies, false_implies, implies_true, not_true_eq_false, not_false_eq_true, true_and, and_true, decide_true, decide_false, if_true, if_false, Nat.add_zero, Nat.zero_add, decide_eq_true_eq, decide_eq_false_iff_not, ite_not, Bool.true_eq_false, Bool.false_eq_true, Bool.not_eq_true, Bool.not_eq_false, Bool.not_true, Bool.not_false, Tryd.ntmps56, c1, ha', d0, d1, d2, e0, e1, e2, t0, t1, t2, beq_self_eq_true]
        exact Leave.mapped rfl (by simp only [wev, wab, wty, wls, Nat.reduceAdd, Nat.reduceEqDiff, Nat.reduceLT, Nat.reduceMul, Nat.reduceLeDiff, Int.reduceEq, ↓reduceIte, reduceCtorEq, ne_eq, true_implies, false_implies, implies_true, not_true_eq_false, not_false_eq_true, true_and, and_true, decide_true, decide_false, if_true, if_false, Nat.add_zero, Nat.zero_add, decide_eq_true_eq, decide_eq_false_iff_not, ite_not, Bool.true_eq_false, Bool.false_eq_true, Bool.not_eq_true, Bool.not_eq_false, Bool.not_true, Bool.not_false, oneOf, hn, tyv]) hmn hE hx rfl
      · have hn : branchesE (x.kids.map (chk lib)) env = (false, 7) := by rw [hb]; simp [q]
        have hb : (b == c) = false := beq_eq_false_iff_ne.2 q
        simp only [wev, wab, wty, wls, Nat.reduceAdd, Nat.reduceEqDiff, Nat.reduceLT, Nat.reduceMul, Nat.reduceLeDiff, Int.reduceEq, ↓reduceIte, reduceCtorEq, ne_eq, true_implies, false_implies, implies_true, not_true_eq_false, not_false_eq_true, true_and, and_true, decide_true, decide_false, if_true, if_false, Nat.add_zero, Nat.zero_add, decide_eq_true_eq, decide_eq_false_iff_not, ite_not, Bool.true_eq_false, Bool.false_eq_true, Bool.not_eq_true, Bool.not_eq_false, Bool.not_true, Bool.not_false, Tryd.ntmps56, c1, ha', d0, d1, d2, e0, e1, e2, t0, t1, t2, hb]
        exact Leave.mapped rfl (by simp only [wev, wab, wty, wls, Nat.reduceAdd, Nat.reduceEqDiff, Nat.reduceLT, Nat.reduceMul, Nat.reduceLeDiff, Int.reduceEq, ↓reduceIte, reduceCtorEq, ne_eq, true_implies, false_implies, implies_true, not_true_eq_false, not_false_eq_true, true_and, and_true, decide_true, decide_false, if_true, if_false, Nat.add_zero, Nat.zero_add, decide_eq_true_eq, decide_eq_false_iff_not, ite_not, Bool.true_eq_false, Bool.false_eq_true, Bool.not_eq_true, Bool.not_eq_false, Bool.not_true, Bool.not_false, oneOf, hn, tyv]) hmn hE hx rfl
    · have hn : branchesE (x.kids.map (chk lib)) env = (false, 7) := by rw [hb]; simp
      simp only [wev, wab, wty, wls, Nat.reduceAdd, Nat.reduceEqDiff, Nat.reduceLT, Nat.reduceMul, Nat.reduceLeDiff, Int.reduceEq, ↓reduceIte, reduceCtorEq, ne_eq, true_implies, false_implies, implies_true, not_true_eq_false, not_false_eq_true, true_and, and_true, decide_true, decide_false, if_true, if_false, Nat.add_zero, Nat.zero_add, decide_eq_true_eq, decide_eq_false_iff_not, ite_not, Bool.true_eq_false, Bool.false_eq_true, Bool.not_eq_true, Bool.not_eq_false, Bool.not_true, Bool.not_false, Tryd.ntmps56, c1, ha', d0, d1, d2, e0, e1, e2, t0, t1, t2]
      exact Leave.mapped rfl (by simp only [wev, wab, wty, wls, Nat.reduceAdd, Nat.reduceEqDiff, Nat.reduceLT, Nat.reduceMul, Nat.reduceLeDiff, Int.reduceEq, ↓reduceIte, reduceCtorEq, ne_eq, true_implies, false_implies, implies_true, not_true_eq_false, not_false_eq_true, true_and, and_true, decide_true, decide_false, if_true, if_false, Nat.add_zero, Nat.zero_add, decide_eq_true_eq, decide_eq_false_iff_not, ite_not, Bool.true_eq_false, Bool.false_eq_true, Bool.not_eq_true, Bool.not_eq_false, Bool.not_true, Bool.not_false, oneOf, hn, tyv]) hmn hE hx rfl
end Go.Proofs.YtajknofacjiddaaDoor.Abs
