/- Part 4 of the reckoning: the abstract machine, its soundness, and the contracts of the functions that the law reaches. -/
import Derived.Test.YtajknofacjiddaaDoorM3
import Derived.Test.YtajknofacjiddaaDoorRows
import Derived.Carry
import Derived.ChangeArms
import Derived.RowKit
import Derived.OpenShut
import Derived.Test.YtajknofacjiddaaDoorCards
import Derived.Test.YtajknofacjiddaaDoorTie
import Derived.Deep.DeepHandedRow
import Derived.Deep.DeepWitnessRowRef
import Derived.Lib.LaidTab
import Derived.Lib.LaidRTab
/- typing.bind -/
namespace Go.Proofs.YtajknofacjiddaaDoor.Abs
open Go Go.RowKit
set_option linter.unusedSimpArgs false
set_option linter.unusedVariables false
set_option maxHeartbeats 4000000
set_option maxRecDepth 100000
theorem cast1 : ((1 : Nat) : Int) = 1 := rfl
theorem cast2 : ((2 : Nat) : Int) = 2 := rfl
theorem cast3 : ((3 : Nat) : Int) = 3 := rfl
theorem envDel_put (env : Env) (s : ByteArray) (b : Bool) (h : env s = none) : envDel (envPut env s b) s = env := by
  funext t
  unfold envDel envPut
  by_cases q : t = s
  · subst q; rw [if_pos rfl, h]
  · rw [if_neg q, if_neg q]
theorem ac57 (lib : List Fn) (x y0 y1 : Node) (hv0 : VisitAt lib y0) (hv1 : VisitAt lib y1) (hkids : x.kids = [y0, y1]) (env : Env) (h : AHeap) (t m clk : Nat) (es : List AEnt) (ht : h.get t = some (.cells [vlib lib, .map m])) (hm : h.get m = some (.map clk es)) (hE : EMap es env) :
    AC sd 57 [.ptr t 0, .agg x.enc] h (MapPost h m env (tyv (bindE x.name [chk lib y0, chk lib y1] env))) := by
  refine AC.mapped Tryd.func57 rfl Tryd.ntmps57 (by show 2 ≤ 54; decide) ?_
  refine Ev.sound 100 _ _ _ _ ?_
  simp only [argFr, enc_eq, hkids, List.map_cons, List.map_nil]
  have htm : t ≠ m := fun e => by rw [e, hm] at ht; cases ht
  have htm1 : (t = m) = False := by simp [htm]
  have htn := get_lt h t ht
  have hmn := get_lt h m hm
  have n1 : (t = h.next) = False := by simp; omega
  have n2 : (m = h.next) = False := by simp; omega
  have n3 : (h.next = m) = False := by simp; omega
  have n4 : (h.next = t) = False := by simp; omega
  have hlk := hE.look clk x.name
  simp only [wx, Nat.reduceAdd, Nat.reduceEqDiff, Nat.reduceLT, Nat.reduceMul, Nat.reduceLeDiff, Int.reduceEq, ↓reduceIte, reduceCtorEq, ne_eq, implies_true, if_true, if_false, ite_not, Tryd.ntmps57]
  refine Stop.drawn [(0, 0), (1, 0), (2, 0), (3, 0), (4, 0), (5, 0), (6, 0), (7, 0), (8, 0), (9, 0), (10, 0), (11, 0)] [[], [0], [0, 1], [0, 1, 2], [], [4], [0, 1, 2, 3, 4, 5], [0, 1, 2, 3, 4, 5, 6], [0, 1, 2, 3, 4, 5, 6, 7], [0, 1, 2, 3, 4, 5, 6, 7], [0, 1, 2, 3, 4, 5, 6, 7, 8], [0, 1, 2, 3, 4, 5, 6, 7, 8, 9, 10]] 90 (by kernel_rfl) ?_
  have i0 : ((0 : Int) < 2) = True := by simp
  have i1 : ((1 : Int) < 2) = True := by simp
  have e0 : ((0 : Int) ≤ 0) = True := by simp
  have e1 : ((0 : Int) ≤ 1) = True := by simp
  cases hen : env x.name with
  | some b =>
    rw [hen] at hlk
    have hn : bindE x.name [chk lib y0, chk lib y1] env = (false, 22) := by unfold bindE; rw [hen]; rfl
    simp only [wx, Nat.reduceAdd, Nat.reduceEqDiff, Nat.reduceLT, Nat.reduceMul, Nat.reduceLeDiff, Int.reduceEq, ↓reduceIte, reduceCtorEq, ne_eq, implies_true, if_true, if_false, ite_not, Tryd.ntmps57, n1, n2, ht, hm, hlk, Option.getD_some, Option.isSome_some]
    exact Leave.mapped rfl (by simp only [wx, Nat.reduceAdd, Nat.reduceEqDiff, Nat.reduceLT, Nat.reduceMul, Nat.reduceLeDiff, Int.reduceEq, ↓reduceIte, reduceCtorEq, ne_eq, implies_true, if_true, if_false, ite_not, oneOf, hn, tyv]) hmn hE (by rw [set_same h hm]; exact (Ext.refl h).alloc _) rfl
  | none =>
  rw [hen] at hlk
  simp only [wx, Nat.reduceAdd, Nat.reduceEqDiff, Nat.reduceLT, Nat.reduceMul, Nat.reduceLeDiff, Int.reduceEq, ↓reduceIte, reduceCtorEq, ne_eq, implies_true, if_true, if_false, ite_not, Tryd.ntmps57, n1, n2, ht, hm, hlk, Option.getD_none, Option.isSome_none, Int.reduceToNat, Int.reduceLE, Int.reduceLT, cast1, cast2, cast3, List.getD_cons_zero, List.getD_cons_succ, enc_eq y0, enc_eq y1]
  refine Stop.mapped (hv0 env _ t m clk es ?_ ?_ hE) rfl rfl (by simp only [wx, Nat.reduceAdd, Nat.reduceEqDiff, Nat.reduceLT, Nat.reduceMul, Nat.reduceLeDiff, Int.reduceEq, ↓reduceIte, reduceCtorEq, ne_eq, implies_true, if_true, if_false, ite_not, Tryd.ntmps57]) (caps := []) (by simp only [wx, Nat.reduceAdd, Nat.reduceEqDiff, Nat.reduceLT, Nat.reduceMul, Nat.reduceLeDiff, Int.reduceEq, ↓reduceIte, reduceCtorEq, ne_eq, implies_true, if_true, if_false, ite_not]) en_50 (by simp only [wx, Nat.reduceAdd, Nat.reduceEqDiff, Nat.reduceLT, Nat.reduceMul, Nat.reduceLeDiff, Int.reduceEq, ↓reduceIte, reduceCtorEq, ne_eq, implies_true, if_true, if_false, ite_not, enc_eq y0, fgt_mapenc]) ?_
  · simp only [wx, Nat.reduceAdd, Nat.reduceEqDiff, Nat.reduceLT, Nat.reduceMul, Nat.reduceLeDiff, Int.reduceEq, ↓reduceIte, reduceCtorEq, ne_eq, implies_true, if_true, if_false, ite_not, n1, ht]
  · simp only [wx, Nat.reduceAdd, Nat.reduceEqDiff, Nat.reduceLT, Nat.reduceMul, Nat.reduceLeDiff, Int.reduceEq, ↓reduceIte, reduceCtorEq, ne_eq, implies_true, if_true, if_false, ite_not, n2, hm]
  clear hlk hE
  intro clk es hE
  have hx := fun c => ((Ext.refl h).alloc (.cells c)).sets hmn (.map clk es)
  by_cases he : (chk lib y0 env).2 = 0
  case neg =>
    have hn : bindE x.name [chk lib y0, chk lib y1] env = (false, (chk lib y0 env).2) := by unfold bindE; rw [hen]; simp [he]
    refine Ev.sound 100 _ _ _ _ ?_
    simp only [wx, Nat.reduceAdd, Nat.reduceEqDiff, Nat.reduceLT, Nat.reduceMul, Nat.reduceLeDiff, Int.reduceEq, ↓reduceIte, reduceCtorEq, ne_eq, implies_true, if_true, if_false, ite_not, Tryd.ntmps57, tyv, decide_eq_false he]
    exact Leave.mapped rfl (by simp only [wx, Nat.reduceAdd, Nat.reduceEqDiff, Nat.reduceLT, Nat.reduceMul, Nat.reduceLeDiff, Int.reduceEq, ↓reduceIte, reduceCtorEq, ne_eq, implies_true, if_true, if_false, ite_not, oneOf, hn, tyv]) hmn hE (hx _) rfl
  have hn : bindE x.name [chk lib y0, chk lib y1] env = chk lib y1 (envPut env x.name (chk lib y0 env).1) := by unfold bindE; rw [hen]; simp [he]
  refine Ev.sound 100 _ _ _ _ ?_
  simp only [wx, Nat.reduceAdd, Nat.reduceEqDiff, Nat.reduceLT, Nat.reduceMul, Nat.reduceLeDiff, Int.reduceEq, ↓reduceIte, reduceCtorEq, ne_eq, implies_true, if_true, if_false, ite_not, Tryd.ntmps57, tyv, decide_eq_true he]
  refine Stop.drawn [(0, 0), (1, 0), (2, 0), (3, 0), (4, 0), (5, 0), (6, 0), (7, 1)] [[], [0], [0, 1], [0, 1, 2], [], [4], [], [0, 1, 2, 3, 4, 5, 6]] 90 (by kernel_rfl) ?_
  obtain ⟨clk1, es1, hp, hE1⟩ := hE.put clk x.name (chk lib y0 env).1
  have m1 : (m < h.next + 1) = True := by simp; omega
  simp only [wx, Nat.reduceAdd, Nat.reduceEqDiff, Nat.reduceLT, Nat.reduceMul, Nat.reduceLeDiff, Int.reduceEq, ↓reduceIte, reduceCtorEq, ne_eq, implies_true, if_true, if_false, ite_not, Tryd.ntmps57, n1, n2, n3, n4, htm1, m1, ht, hp]
  refine Stop.drawn [(0, 0), (1, 0), (2, 0), (3, 0), (4, 0), (5, 0), (6, 3)] [[], [0], [0, 1], [0, 1, 2], [], [4], [0, 1, 2, 3, 4, 5]] 90 (by kernel_rfl) ?_
  simp only [wx, Nat.reduceAdd, Nat.reduceEqDiff, Nat.reduceLT, Nat.reduceMul, Nat.reduceLeDiff, Int.reduceEq, ↓reduceIte, reduceCtorEq, ne_eq, implies_true, if_true, if_false, ite_not, Tryd.ntmps57, n1, n2, n3, n4, htm1, m1, ht, Int.reduceToNat, Int.reduceLE, Int.reduceLT, cast1, cast2, cast3, List.getD_cons_zero, List.getD_cons_succ, enc_eq y0, enc_eq y1]
  refine Stop.mapped (hv1 (envPut env x.name (chk lib y0 env).1) _ t m clk1 es1 ?_ ?_ hE1) rfl rfl (by simp only [wx, Nat.reduceAdd, Nat.reduceEqDiff, Nat.reduceLT, Nat.reduceMul, Nat.reduceLeDiff, Int.reduceEq, ↓reduceIte, reduceCtorEq, ne_eq, implies_true, if_true, if_false, ite_not, Tryd.ntmps57]) (caps := []) (by simp only [wx, Nat.reduceAdd, Nat.reduceEqDiff, Nat.reduceLT, Nat.reduceMul, Nat.reduceLeDiff, Int.reduceEq, ↓reduceIte, reduceCtorEq, ne_eq, implies_true, if_true, if_false, ite_not]) en_50 (by simp only [wx, Nat.reduceAdd, Nat.reduceEqDiff, Nat.reduceLT, Nat.reduceMul, Nat.reduceLeDiff, Int.reduceEq, ↓reduceIte, reduceCtorEq, ne_eq, implies_true, if_true, if_false, ite_not, enc_eq y1, fgt_mapenc]) ?_
  · simp only [wx, Nat.reduceAdd, Nat.reduceEqDiff, Nat.reduceLT, Nat.reduceMul, Nat.reduceLeDiff, Int.reduceEq, ↓reduceIte, reduceCtorEq, ne_eq, implies_true, if_true, if_false, ite_not, n1, htm1, ht, false_and]
  · simp only [wx, Nat.reduceAdd, Nat.reduceEqDiff, Nat.reduceLT, Nat.reduceMul, Nat.reduceLeDiff, Int.reduceEq, ↓reduceIte, reduceCtorEq, ne_eq, implies_true, if_true, if_false, ite_not, m1]
  intro clk2 es2 hE2
  have hx2 := fun c => ((Ext.refl h).alloc (.cells c)).sets hmn (.map clk2 es2)
  refine Ev.sound 100 _ _ _ _ ?_
  simp only [wx, Nat.reduceAdd, Nat.reduceEqDiff, Nat.reduceLT, Nat.reduceMul, Nat.reduceLeDiff, Int.reduceEq, ↓reduceIte, reduceCtorEq, ne_eq, implies_true, if_true, if_false, ite_not, Tryd.ntmps57, tyv, n1, n2, htm1, m1]
  have hg : ∀ c, ((h.alloc (.cells c)).set m (.map clk2 es2)).get m = some (.map clk2 es2) := fun c => by simp only [wx, Nat.reduceAdd, Nat.reduceEqDiff, Nat.reduceLT, Nat.reduceMul, Nat.reduceLeDiff, Int.reduceEq, ↓reduceIte, reduceCtorEq, ne_eq, implies_true, if_true, if_false, ite_not, m1]
  obtain ⟨es3, hd, hE3⟩ := hE2.del clk2 m x.name _ (hg _)
  rw [envDel_put env x.name _ hen] at hE3
  refine Leave.del ((dl_73 m x.name _).trans hd) ?_
  refine Leave.mapped (clk := clk2) rfl (by simp only [wx, Nat.reduceAdd, Nat.reduceEqDiff, Nat.reduceLT, Nat.reduceMul, Nat.reduceLeDiff, Int.reduceEq, ↓reduceIte, reduceCtorEq, ne_eq, implies_true, if_true, if_false, ite_not, oneOf, hn, tyv]) hmn hE3 ?_ rfl
  rw [set_set]
  exact ((Ext.refl h).alloc _).sets hmn _
end Go.Proofs.YtajknofacjiddaaDoor.Abs

/- typing.call -/
namespace Go.Proofs.YtajknofacjiddaaDoor.Abs
open Go Go.RowKit
set_option linter.unusedSimpArgs false
set_option linter.unusedVariables false
set_option maxHeartbeats 4000000
set_option maxRecDepth 100000
theorem pos_at {α : Type} (p : α → Bool) (l : List α) (k : Nat) : pos p k l = -1 ∨ ∃ (i : Nat) (a : α), pos p k l = ((k + i : Nat) : Int) ∧ l[i]? = some a ∧ p a = true := by
  induction l generalizing k with
  | nil => exact .inl rfl
  | cons b l ih =>
    unfold pos
    split
    · rename_i h
      exact .inr ⟨0, b, by simp, rfl, h⟩
    · rcases ih (k + 1) with h | ⟨i, a, h1, h2, h3⟩
      · exact .inl h
      · exact .inr ⟨i + 1, a, by rw [h1]; congr 1; omega, by simpa using h2, h3⟩
theorem ac58 (lib : List Fn) (x : Node) (hv : ∀ y ∈ x.kids, VisitAt lib y) (hl : lib.length ≤ 1048576) (hlk : x.kids.length ≤ 1048576) (hlp : ∀ f ∈ lib, f.params.length ≤ 1048576) (env : Env) (h : AHeap) (t m clk : Nat) (es : List AEnt) (ht : h.get t = some (.cells [vlib lib, .map m])) (hm : h.get m = some (.map clk es)) (hE : EMap es env) :
    AC sd 58 [.ptr t 0, .agg x.enc] h (MapPost h m env (tyv (callE lib x.name (x.kids.map (chk lib)) env))) := by
  refine AC.mapped Tryd.func58 rfl Tryd.ntmps58 (by show 2 ≤ 64; decide) ?_
  refine Ev.sound 100 _ _ _ _ ?_
  simp only [argFr, enc_eq]
  have htm : t ≠ m := fun e => by rw [e, hm] at ht; cases ht
  have htm1 : (t = m) = False := by simp [htm]
  have htn := get_lt h t ht
  have hmn := get_lt h m hm
  have n1 : (t = h.next) = False := by simp; omega
  have n2 : (m = h.next) = False := by simp; omega
  simp only [wx, Nat.reduceAdd, Nat.reduceEqDiff, Nat.reduceLT, Nat.reduceMul, Nat.reduceLeDiff, Int.reduceEq, ↓reduceIte, reduceCtorEq, ne_eq, implies_true, if_true, if_false, ite_not, Tryd.ntmps58]
  refine Stop.drawn [(0, 0), (1, 0), (2, 0), (3, 0), (4, 0), (5, 0), (6, 2), (7, 0)] [[], [0], [0, 1], [0, 1, 2], [], [4], [0, 1, 2, 3, 4, 5], [0, 1, 2, 3, 4, 5, 6]] 90 (by kernel_rfl) ?_
  simp only [wx, Nat.reduceAdd, Nat.reduceEqDiff, Nat.reduceLT, Nat.reduceMul, Nat.reduceLeDiff, Int.reduceEq, ↓reduceIte, reduceCtorEq, ne_eq, implies_true, if_true, if_false, ite_not, Tryd.ntmps58, n1, n2, ht, vlib]
  refine DC.fact (ac20 lib x.name hl _) rfl (by simp only [wx, Nat.reduceAdd, Nat.reduceEqDiff, Nat.reduceLT, Nat.reduceMul, Nat.reduceLeDiff, Int.reduceEq, ↓reduceIte, reduceCtorEq, ne_eq, implies_true, if_true, if_false, ite_not, Tryd.ntmps58]) (caps := []) (by simp only [wx, Nat.reduceAdd, Nat.reduceEqDiff, Nat.reduceLT, Nat.reduceMul, Nat.reduceLeDiff, Int.reduceEq, ↓reduceIte, reduceCtorEq, ne_eq, implies_true, if_true, if_false, ite_not]) en_20 (by simp only [wx, Nat.reduceAdd, Nat.reduceEqDiff, Nat.reduceLT, Nat.reduceMul, Nat.reduceLeDiff, Int.reduceEq, ↓reduceIte, reduceCtorEq, ne_eq, implies_true, if_true, if_false, ite_not, vlib, fgt_mapfenc]) ?_
  have hset : ∀ c, Ext (h.set m (.map clk es)) (h.alloc (.cells c)) := fun c => by rw [set_same h hm]; exact (Ext.refl h).alloc _
  rcases pos_at (fun f : Fn => decide (f.name = x.name)) lib 0 with hf | ⟨i, f, hf, hi, _⟩
  · have hf' : find lib x.name = -1 := hf
    have hn : callE lib x.name (x.kids.map (chk lib)) env = (false, 6) := by unfold callE; rw [hf', if_pos (by decide)]
    simp only [wx, Nat.reduceAdd, Nat.reduceEqDiff, Nat.reduceLT, Nat.reduceMul, Nat.reduceLeDiff, Int.reduceEq, ↓reduceIte, reduceCtorEq, ne_eq, implies_true, if_true, if_false, ite_not, Tryd.ntmps58, hf', Int.reduceToNat, Int.reduceLE, Int.reduceLT, cast1, cast2, cast3, List.getD_cons_zero, List.getD_cons_succ]
    exact Leave.mapped rfl (by simp only [wx, Nat.reduceAdd, Nat.reduceEqDiff, Nat.reduceLT, Nat.reduceMul, Nat.reduceLeDiff, Int.reduceEq, ↓reduceIte, reduceCtorEq, ne_eq, implies_true, if_true, if_false, ite_not, oneOf, hn, tyv]) hmn hE (hset _) rfl
  rw [Nat.zero_add] at hf
  have hf' : find lib x.name = (i : Int) := hf
  have hil : i < lib.length := (List.getElem?_eq_some_iff.1 hi).1
  have hpl := hlp f (List.mem_of_getElem? hi)
  have c0 : ((i : Int) < 0) = False := by simp
  have c1 : (0 ≤ (i : Int)) = True := by simp
  have c2 : ((i : Int) < (lib.length : Int)) = True := by simp; omega
  have hn : callE lib x.name (x.kids.map (chk lib)) env = if x.kids.length ≠ f.params.length then (false, 7) else (f.list, allE (x.kids.map (chk lib)) (f.params.map (·.list)) env) := by
    unfold callE; rw [hf', if_neg (by omega), Int.toNat_natCast, hi]; simp
  simp only [wx, Nat.reduceAdd, Nat.reduceEqDiff, Nat.reduceLT, Nat.reduceMul, Nat.reduceLeDiff, Int.reduceEq, ↓reduceIte, reduceCtorEq, ne_eq, implies_true, if_true, if_false, ite_not, Tryd.ntmps58, hf', c0]
  refine Stop.drawn [(0, 0), (1, 0), (2, 0), (3, 0), (4, 0), (5, 0), (6, 0), (7, 0), (8, 0), (9, 0), (10, 0), (11, 0), (12, 0)] [[], [0], [0, 1], [], [3], [3, 4], [3, 4, 5], [], [3, 4, 5, 6, 7], [3, 4, 5, 6, 7, 8], [3, 4, 5, 6, 7, 8, 9], [3, 4, 5, 6, 7, 8, 9, 10], [0, 1, 2, 3, 4, 5, 6, 7, 8, 9, 10, 11]] 90 (by kernel_rfl) ?_
  by_cases hle : x.kids.length = f.params.length
  case neg =>
    rw [if_pos hle] at hn
    have d1 : decide ((x.kids.length : Int) = (f.params.length : Int)) = false := decide_eq_false (by omega)
    simp only [wx, Nat.reduceAdd, Nat.reduceEqDiff, Nat.reduceLT, Nat.reduceMul, Nat.reduceLeDiff, Int.reduceEq, ↓reduceIte, reduceCtorEq, ne_eq, implies_true, if_true, if_false, ite_not, Tryd.ntmps58, n1, ht, vlib, List.length_map, c1, c2, getD_map Fn.enc hi, fenc_eq f, d1]
    exact Leave.mapped rfl (by simp only [wx, Nat.reduceAdd, Nat.reduceEqDiff, Nat.reduceLT, Nat.reduceMul, Nat.reduceLeDiff, Int.reduceEq, ↓reduceIte, reduceCtorEq, ne_eq, implies_true, if_true, if_false, ite_not, oneOf, hn, tyv]) hmn hE (hset _) rfl
  rw [if_neg (by simpa using hle)] at hn
  have d1 : decide ((x.kids.length : Int) = (f.params.length : Int)) = true := decide_eq_true (by omega)
  simp only [wx, Nat.reduceAdd, Nat.reduceEqDiff, Nat.reduceLT, Nat.reduceMul, Nat.reduceLeDiff, Int.reduceEq, ↓reduceIte, reduceCtorEq, ne_eq, implies_true, if_true, if_false, ite_not, Tryd.ntmps58, n1, ht, vlib, List.length_map, c1, c2, getD_map Fn.enc hi, fenc_eq f, d1]
  have hbody : ∀ c : List AV, (h.alloc (.cells c)).get h.next = some (.cells c) := fun c => by rw [get_alloc, if_pos rfl]
  refine Stop.round (σ := Nat × Option Nat) (fun s => f.params.length - s.1) (fun s => [(0, .ptr t 0), (3, .ptr h.next 0), (6, .int .i64 i), (7, gotV s.2 1 ((f.params.take s.1).map fun p => [.bool p.list])), (39, kslice 2 (f.params.map Param.enc)), (40, .int .i64 f.params.length), (41, .int .i64 s.1)])
    (fun s h1 => s.1 ≤ f.params.length ∧ GotOk h h1 s.2 s.1 ∧ Ext (h.alloc (.cells [.int .u8 x.kind, .int .i64 x.num, .str x.name, kslice 4 (x.kids.map Node.enc)])) h1) (0, none) ⟨Nat.zero_le _, ⟨fun _ => rfl, fun t e => by cases e⟩, Ext.refl _⟩ ?_ ?_
  · simp only [wx, Nat.reduceAdd, Nat.reduceEqDiff, Nat.reduceLT, Nat.reduceMul, Nat.reduceLeDiff, Int.reduceEq, ↓reduceIte, reduceCtorEq, ne_eq, implies_true, if_true, if_false, ite_not, gotV, Int.ofNat_zero, Int.natCast_zero]
  rintro ⟨k, q⟩ h1 ⟨hk, hq, hx⟩ next
  have hb1 : h1.get h.next = some (.cells [.int .u8 x.kind, .int .i64 x.num, .str x.name, kslice 4 (x.kids.map Node.enc)]) := by rw [hx.get _ (by rw [next_alloc]; omega), hbody]
  have ht1 : h1.get t = some (.cells [vlib lib, .map m]) := by rw [hx.get t (by rw [next_alloc]; omega), get_alloc, if_neg (by omega)]; exact ht
  have hm1 : h1.get m = some (.map clk es) := by rw [hx.get m (by rw [next_alloc]; omega), get_alloc, if_neg (by omega)]; exact hm
  simp only at hk hq ⊢
  refine Ev.sound 100 _ _ _ _ ?_
  rcases turn f.params k hk with ⟨y, hy, hmem, hlt, c3, c4⟩ | ⟨hkk, c3⟩
  · have w1 := wrap_succ k (by omega)
    have hle' : (f.params.take k).length = k := by rw [List.length_take]; omega
    cases q with
    | none =>
      have hb : k = 0 := hq.none rfl
      subst hb
      simp only [wx, Nat.reduceAdd, Nat.reduceEqDiff, Nat.reduceLT, Nat.reduceMul, Nat.reduceLeDiff, Int.reduceEq, ↓reduceIte, reduceCtorEq, ne_eq, implies_true, if_true, if_false, ite_not, Tryd.ntmps58, c3, c4, List.length_map, getD_map Param.enc hy, penc_eq, gotV]
      refine ⟨⟨.inl trivial, .inr trivial⟩, ?_⟩
      refine next (1, some h1.ntok) _ _ (by simp only; omega) ⟨hlt, ⟨fun e => (by cases e), fun t' e => ?_⟩, (hx.alloc _).newTok _⟩ ?_
      · cases e
        exact ⟨by simp only [wx, Nat.reduceAdd, Nat.reduceEqDiff, Nat.reduceLT, Nat.reduceMul, Nat.reduceLeDiff, Int.reduceEq, ↓reduceIte, reduceCtorEq, ne_eq, implies_true, if_true, if_false, ite_not], by simp only [wx, Nat.reduceAdd, Nat.reduceEqDiff, Nat.reduceLT, Nat.reduceMul, Nat.reduceLeDiff, Int.reduceEq, ↓reduceIte, reduceCtorEq, ne_eq, implies_true, if_true, if_false, ite_not, Nat.lt_succ_self], hx.ntok⟩
      · have htk : f.params.take 1 = [y] := by have := take_snoc f.params 0 y hy; simpa using this
        have w1' : IntKind.i64.wrap 1 = 1 := by decide +kernel
        simp only [wx, Nat.reduceAdd, Nat.reduceEqDiff, Nat.reduceLT, Nat.reduceMul, Nat.reduceLeDiff, Int.reduceEq, ↓reduceIte, reduceCtorEq, ne_eq, implies_true, if_true, if_false, ite_not, gotV, htk, Int.natCast_one, Int.natCast_zero]
        simp
        exact w1'
    | some q =>
      obtain ⟨q1, q2, q3⟩ := hq.some q rfl
      simp only [wx, Nat.reduceAdd, Nat.reduceEqDiff, Nat.reduceLT, Nat.reduceMul, Nat.reduceLeDiff, Int.reduceEq, ↓reduceIte, reduceCtorEq, ne_eq, implies_true, if_true, if_false, ite_not, Tryd.ntmps58, c3, c4, getD_map Param.enc hy, penc_eq, gotV, q1, q2, List.length_map, hle']
      refine ⟨⟨.inl trivial, by omega⟩, ?_⟩
      refine next (k + 1, some q) _ _ (by simp only; omega) ⟨hlt, ⟨fun e => (by cases e), fun t' e => ?_⟩, (hx.alloc _).setTok q3 _⟩ ?_
      · cases e
        refine ⟨?_, ?_, q3⟩
        · simp only [wx, Nat.reduceAdd, Nat.reduceEqDiff, Nat.reduceLT, Nat.reduceMul, Nat.reduceLeDiff, Int.reduceEq, ↓reduceIte, reduceCtorEq, ne_eq, implies_true, if_true, if_false, ite_not, q2]
        · simp only [wx, Nat.reduceAdd, Nat.reduceEqDiff, Nat.reduceLT, Nat.reduceMul, Nat.reduceLeDiff, Int.reduceEq, ↓reduceIte, reduceCtorEq, ne_eq, implies_true, if_true, if_false, ite_not, q2]
      · simp only [wx, Nat.reduceAdd, Nat.reduceEqDiff, Nat.reduceLT, Nat.reduceMul, Nat.reduceLeDiff, Int.reduceEq, ↓reduceIte, reduceCtorEq, ne_eq, implies_true, if_true, if_false, ite_not, gotV, w1, take_snoc _ _ _ hy, List.map_append]
  · subst hkk
    have hfg : (gotV q 1 (((f.params.take f.params.length).map fun p => [AV.bool p.list]))).fgt = vbools (f.params.map (·.list)) := by
      rw [List.take_length]
      cases q with
      | none =>
        have hb : f.params = [] := List.eq_nil_of_length_eq_zero (hq.none rfl)
        rw [hb]; rfl
      | some q =>
        have : f.params.map (fun p => [AV.bool p.list]) = (f.params.map (·.list)).map fun b => [AV.bool b] := by rw [List.map_map]; rfl
        rw [this]
        simp only [gotV, fgt_slice, fgt_bools, vbools]
    simp only [wx, Nat.reduceAdd, Nat.reduceEqDiff, Nat.reduceLT, Nat.reduceMul, Nat.reduceLeDiff, Int.reduceEq, ↓reduceIte, reduceCtorEq, ne_eq, implies_true, if_true, if_false, ite_not, Tryd.ntmps58, c3]
    refine Stop.drawn [(0, 0), (1, 0), (2, 0), (3, 0), (4, 0), (5, 0), (6, 0), (7, 0), (8, 0), (9, 0), (10, 0), (11, 0), (12, 4), (13, 0), (14, 0)] [[], [0], [0, 1], [0, 1, 2], [], [0, 1, 2, 3, 4], [0, 1, 2, 3, 4, 5], [0, 1, 2, 3, 4, 5, 6], [], [], [9], [], [8, 9, 10, 11], [0, 1, 2, 3, 4, 5, 6, 7, 8, 9, 10, 11, 12], [0, 1, 2, 3, 4, 5, 6, 7, 8, 9, 10, 11, 12, 13]] 90 (by kernel_rfl) ?_
    simp only [wx, Nat.reduceAdd, Nat.reduceEqDiff, Nat.reduceLT, Nat.reduceMul, Nat.reduceLeDiff, Int.reduceEq, ↓reduceIte, reduceCtorEq, ne_eq, implies_true, if_true, if_false, ite_not, Tryd.ntmps58, ht1, hb1, vlib, List.length_map, c1, c2, getD_map Fn.enc hi, fenc_eq f]
    refine DG.mapped (ac55 lib x.kids (f.params.map (·.list)) hv hlk (by simpa using hpl) env _ t m clk es ht1 hm1 hE) hm1 rfl (by simp only [wx, Nat.reduceAdd, Nat.reduceEqDiff, Nat.reduceLT, Nat.reduceMul, Nat.reduceLeDiff, Int.reduceEq, ↓reduceIte, reduceCtorEq, ne_eq, implies_true, if_true, if_false, ite_not, Tryd.ntmps58]) (caps := []) (by simp only [wx, Nat.reduceAdd, Nat.reduceEqDiff, Nat.reduceLT, Nat.reduceMul, Nat.reduceLeDiff, Int.reduceEq, ↓reduceIte, reduceCtorEq, ne_eq, implies_true, if_true, if_false, ite_not]) en_55 (by simp only [wx, Nat.reduceAdd, Nat.reduceEqDiff, Nat.reduceLT, Nat.reduceMul, Nat.reduceLeDiff, Int.reduceEq, ↓reduceIte, reduceCtorEq, ne_eq, implies_true, if_true, if_false, ite_not, hfg, fgt_mapenc]) ?_
    intro clk' es' hE'
    simp only [wx, Nat.reduceAdd, Nat.reduceEqDiff, Nat.reduceLT, Nat.reduceMul, Nat.reduceLeDiff, Int.reduceEq, ↓reduceIte, reduceCtorEq, ne_eq, implies_true, if_true, if_false, ite_not, Tryd.ntmps58]
    refine Leave.mapped (clk := clk') rfl (by simp only [wx, Nat.reduceAdd, Nat.reduceEqDiff, Nat.reduceLT, Nat.reduceMul, Nat.reduceLeDiff, Int.reduceEq, ↓reduceIte, reduceCtorEq, ne_eq, implies_true, if_true, if_false, ite_not, oneOf, hn, tyv]) hmn hE' ?_ rfl
    have := (hset [.int .u8 x.kind, .int .i64 x.num, .str x.name, kslice 4 (x.kids.map Node.enc)]).trans hx
    have := this.sets (by rw [next_set]; exact hmn) (.map clk' es')
    rwa [set_set] at this
end Go.Proofs.YtajknofacjiddaaDoor.Abs

/- typing.visit -/
namespace Go.Proofs.YtajknofacjiddaaDoor.Abs
open Go Go.RowKit
set_option linter.unusedSimpArgs false
set_option linter.unusedVariables false
set_option maxHeartbeats 4000000
set_option maxRecDepth 100000
theorem form_kids {x : Node} (h : formB x = true) : (∀ y ∈ x.kids, formB y = true) ∧ wantKids x.kind x.kids.length = some x.kids.length := by
  rw [formB_eq, Bool.and_eq_true] at h
  refine ⟨List.all_eq_true.1 h.2, ?_⟩
  have := h.1
  unfold nodeB at this
  rw [Bool.and_eq_true] at this
  exact of_decide_eq_true this.1
structure LibOk (lib : List Fn) : Prop where
  len : lib.length ≤ 1048576
  params : ∀ f ∈ lib, f.params.length ≤ 1048576
theorem ac50 (lib : List Fn) (hlib : LibOk lib) (x : Node) : x.wf → formB x = true → VisitAt lib x := by
  intro hw hform env h t m clk es ht hm hE
  obtain ⟨hfk, hwk⟩ := form_kids hform
  have hlen := hw.len
  have hv : ∀ y ∈ x.kids, VisitAt lib y := fun y hy => ac50 lib hlib y (hw.kid hy) (hfk y hy)
  refine AC.mapped Tryd.func50 rfl Tryd.ntmps50 (by show 2 ≤ 77; decide) ?_
  refine Ev.sound 100 _ _ _ _ ?_
  simp only [argFr, enc_eq]
  have htm : t ≠ m := fun e => by rw [e, hm] at ht; cases ht
  have htm1 : (t = m) = False := by simp [htm]
  have htn := get_lt h t ht
  have hmn := get_lt h m hm
  have n1 : (t = h.next) = False := by simp; omega
  have n2 : (m = h.next) = False := by simp; omega
  have hce := chk_eq lib x
  unfold stepE at hce
  have hset : ∀ c, Ext (h.set m (.map clk es)) (h.alloc (.cells c)) := fun c => by rw [set_same h hm]; exact (Ext.refl h).alloc _
  have hx := fun (c : List AV) clk es => ((Ext.refl h).alloc (.cells c)).sets hmn (.map clk es)
  by_cases k81 : x.kind = 81
  case pos =>
    have hlk := hE.look clk x.name
    simp only [wx, Nat.reduceAdd, Nat.reduceEqDiff, Nat.reduceLT, Nat.reduceMul, Nat.reduceLeDiff, Int.reduceEq, ↓reduceIte, reduceCtorEq, ne_eq, implies_true, if_true, if_false, ite_not, Tryd.ntmps50, decide_eq_true k81]
    refine Stop.drawn [(0, 0), (1, 0), (2, 0), (3, 0), (4, 0), (5, 0), (6, 0), (7, 0), (8, 0), (9, 0), (10, 0), (11, 0)] [[], [0], [0, 1], [0, 1, 2], [], [4], [0, 1, 2, 3, 4, 5], [0, 1, 2, 3, 4, 5, 6], [0, 1, 2, 3, 4, 5, 6, 7], [0, 1, 2, 3, 4, 5, 6, 7], [0, 1, 2, 3, 4, 5, 6, 7, 8], [0, 1, 2, 3, 4, 5, 6, 7, 8, 9, 10]] 90 (by kernel_rfl) ?_
    cases hen : env x.name with
    | none =>
      rw [hen] at hlk
      have hn : chk lib x env = (false, 6) := by rw [hce]; simp [k81, hen]
      simp only [wx, Nat.reduceAdd, Nat.reduceEqDiff, Nat.reduceLT, Nat.reduceMul, Nat.reduceLeDiff, Int.reduceEq, ↓reduceIte, reduceCtorEq, ne_eq, implies_true, if_true, if_false, ite_not, Tryd.ntmps50, n1, n2, ht, hm, hlk, Option.getD_none, Option.isSome_none]
      exact Leave.mapped rfl (by simp only [wx, Nat.reduceAdd, Nat.reduceEqDiff, Nat.reduceLT, Nat.reduceMul, Nat.reduceLeDiff, Int.reduceEq, ↓reduceIte, reduceCtorEq, ne_eq, implies_true, if_true, if_false, ite_not, oneOf, hn, tyv]) hmn hE (hset _) rfl
    | some b =>
      rw [hen] at hlk
      have hn : chk lib x env = (b, 0) := by rw [hce]; simp [k81, hen]
      simp only [wx, Nat.reduceAdd, Nat.reduceEqDiff, Nat.reduceLT, Nat.reduceMul, Nat.reduceLeDiff, Int.reduceEq, ↓reduceIte, reduceCtorEq, ne_eq, implies_true, if_true, if_false, ite_not, Tryd.ntmps50, n1, n2, ht, hm, hlk, Option.getD_some, Option.isSome_some]
      exact Leave.mapped rfl (by simp only [wx, Nat.reduceAdd, Nat.reduceEqDiff, Nat.reduceLT, Nat.reduceMul, Nat.reduceLeDiff, Int.reduceEq, ↓reduceIte, reduceCtorEq, ne_eq, implies_true, if_true, if_false, ite_not, oneOf, hn, tyv]) hmn hE (hset _) rfl
  by_cases k82 : x.kind = 82
  case pos =>
    have hn : chk lib x env = (false, allE (x.kids.map (chk lib)) [false, false] env) := by rw [hce]; simp [k81, k82]
    simp only [wx, Nat.reduceAdd, Nat.reduceEqDiff, Nat.reduceLT, Nat.reduceMul, Nat.reduceLeDiff, Int.reduceEq, ↓reduceIte, reduceCtorEq, ne_eq, implies_true, if_true, if_false, ite_not, Tryd.ntmps50, decide_eq_false k81, decide_eq_true k82]
    refine Stop.mapped (ac55 lib x.kids [false, false] hv hlen (by decide) env _ t m clk es ?_ ?_ hE) rfl rfl (by simp only [wx, Nat.reduceAdd, Nat.reduceEqDiff, Nat.reduceLT, Nat.reduceMul, Nat.reduceLeDiff, Int.reduceEq, ↓reduceIte, reduceCtorEq, ne_eq, implies_true, if_true, if_false, ite_not, Tryd.ntmps50]) (caps := []) (by simp only [wx, Nat.reduceAdd, Nat.reduceEqDiff, Nat.reduceLT, Nat.reduceMul, Nat.reduceLeDiff, Int.reduceEq, ↓reduceIte, reduceCtorEq, ne_eq, implies_true, if_true, if_false, ite_not]) en_55 (by simp only [wx, Nat.reduceAdd, Nat.reduceEqDiff, Nat.reduceLT, Nat.reduceMul, Nat.reduceLeDiff, Int.reduceEq, ↓reduceIte, reduceCtorEq, ne_eq, implies_true, if_true, if_false, ite_not, fgt_mapenc, vbools]) ?_
    · simp only [wx, Nat.reduceAdd, Nat.reduceEqDiff, Nat.reduceLT, Nat.reduceMul, Nat.reduceLeDiff, Int.reduceEq, ↓reduceIte, reduceCtorEq, ne_eq, implies_true, if_true, if_false, ite_not, n1, ht]
    · simp only [wx, Nat.reduceAdd, Nat.reduceEqDiff, Nat.reduceLT, Nat.reduceMul, Nat.reduceLeDiff, Int.reduceEq, ↓reduceIte, reduceCtorEq, ne_eq, implies_true, if_true, if_false, ite_not, n2, hm]
    intro clk' es' hE'
    refine Ev.sound 100 _ _ _ _ ?_
    simp only [wx, Nat.reduceAdd, Nat.reduceEqDiff, Nat.reduceLT, Nat.reduceMul, Nat.reduceLeDiff, Int.reduceEq, ↓reduceIte, reduceCtorEq, ne_eq, implies_true, if_true, if_false, ite_not, Tryd.ntmps50, tyv]
    exact Leave.mapped (clk := clk') rfl (by simp only [wx, Nat.reduceAdd, Nat.reduceEqDiff, Nat.reduceLT, Nat.reduceMul, Nat.reduceLeDiff, Int.reduceEq, ↓reduceIte, reduceCtorEq, ne_eq, implies_true, if_true, if_false, ite_not, oneOf, hn, tyv]) hmn hE' (hx _ _ _) rfl
  by_cases k83 : x.kind = 83
  case pos =>
    have h3 : x.kids.length = 3 := by rw [k83] at hwk; exact (Option.some.inj hwk).symm
    have hn : chk lib x env = branchesE (x.kids.map (chk lib)) env := by rw [hce]; simp [k81, k82, k83]
    simp only [wx, Nat.reduceAdd, Nat.reduceEqDiff, Nat.reduceLT, Nat.reduceMul, Nat.reduceLeDiff, Int.reduceEq, ↓reduceIte, reduceCtorEq, ne_eq, implies_true, if_true, if_false, ite_not, Tryd.ntmps50, decide_eq_false k81, decide_eq_false k82, decide_eq_true k83]
    refine Stop.mapped (ac56 lib x hv h3 env _ t m clk es ?_ ?_ hE) rfl rfl (by simp only [wx, Nat.reduceAdd, Nat.reduceEqDiff, Nat.reduceLT, Nat.reduceMul, Nat.reduceLeDiff, Int.reduceEq, ↓reduceIte, reduceCtorEq, ne_eq, implies_true, if_true, if_false, ite_not, Tryd.ntmps50]) (caps := []) (by simp only [wx, Nat.reduceAdd, Nat.reduceEqDiff, Nat.reduceLT, Nat.reduceMul, Nat.reduceLeDiff, Int.reduceEq, ↓reduceIte, reduceCtorEq, ne_eq, implies_true, if_true, if_false, ite_not]) en_56 (by simp only [wx, Nat.reduceAdd, Nat.reduceEqDiff, Nat.reduceLT, Nat.reduceMul, Nat.reduceLeDiff, Int.reduceEq, ↓reduceIte, reduceCtorEq, ne_eq, implies_true, if_true, if_false, ite_not, enc_eq, fgt_mapenc]) ?_
    · simp only [wx, Nat.reduceAdd, Nat.reduceEqDiff, Nat.reduceLT, Nat.reduceMul, Nat.reduceLeDiff, Int.reduceEq, ↓reduceIte, reduceCtorEq, ne_eq, implies_true, if_true, if_false, ite_not, n1, ht]
    · simp only [wx, Nat.reduceAdd, Nat.reduceEqDiff, Nat.reduceLT, Nat.reduceMul, Nat.reduceLeDiff, Int.reduceEq, ↓reduceIte, reduceCtorEq, ne_eq, implies_true, if_true, if_false, ite_not, n2, hm]
    intro clk' es' hE'
    refine Ev.sound 100 _ _ _ _ ?_
    simp only [wx, Nat.reduceAdd, Nat.reduceEqDiff, Nat.reduceLT, Nat.reduceMul, Nat.reduceLeDiff, Int.reduceEq, ↓reduceIte, reduceCtorEq, ne_eq, implies_true, if_true, if_false, ite_not, Tryd.ntmps50, tyv]
    exact Leave.mapped (clk := clk') rfl (by simp only [wx, Nat.reduceAdd, Nat.reduceEqDiff, Nat.reduceLT, Nat.reduceMul, Nat.reduceLeDiff, Int.reduceEq, ↓reduceIte, reduceCtorEq, ne_eq, implies_true, if_true, if_false, ite_not, oneOf, hn, tyv]) hmn hE' (hx _ _ _) rfl
  by_cases k84 : x.kind = 84
  case pos =>
    have h2 : x.kids.length = 2 := by rw [k84] at hwk; exact (Option.some.inj hwk).symm
    obtain ⟨y0, y1, hkids⟩ : ∃ y0 y1, x.kids = [y0, y1] := by
      match x.kids, h2 with
      | [a, b], _ => exact ⟨a, b, rfl⟩
    have hn : chk lib x env = bindE x.name [chk lib y0, chk lib y1] env := by rw [hce]; simp [k81, k82, k83, k84, hkids]
    simp only [wx, Nat.reduceAdd, Nat.reduceEqDiff, Nat.reduceLT, Nat.reduceMul, Nat.reduceLeDiff, Int.reduceEq, ↓reduceIte, reduceCtorEq, ne_eq, implies_true, if_true, if_false, ite_not, Tryd.ntmps50, decide_eq_false k81, decide_eq_false k82, decide_eq_false k83, decide_eq_true k84]
    refine Stop.mapped (ac57 lib x y0 y1 (hv y0 (by rw [hkids]; simp)) (hv y1 (by rw [hkids]; simp)) hkids env _ t m clk es ?_ ?_ hE) rfl rfl (by simp only [wx, Nat.reduceAdd, Nat.reduceEqDiff, Nat.reduceLT, Nat.reduceMul, Nat.reduceLeDiff, Int.reduceEq, ↓reduceIte, reduceCtorEq, ne_eq, implies_true, if_true, if_false, ite_not, Tryd.ntmps50]) (caps := []) (by simp only [wx, Nat.reduceAdd, Nat.reduceEqDiff, Nat.reduceLT, Nat.reduceMul, Nat.reduceLeDiff, Int.reduceEq, ↓reduceIte, reduceCtorEq, ne_eq, implies_true, if_true, if_false, ite_not]) en_57 (by simp only [wx, Nat.reduceAdd, Nat.reduceEqDiff, Nat.reduceLT, Nat.reduceMul, Nat.reduceLeDiff, Int.reduceEq, ↓reduceIte, reduceCtorEq, ne_eq, implies_true, if_true, if_false, ite_not, enc_eq, fgt_mapenc]) ?_
    · simp only [wx, Nat.reduceAdd, Nat.reduceEqDiff, Nat.reduceLT, Nat.reduceMul, Nat.reduceLeDiff, Int.reduceEq, ↓reduceIte, reduceCtorEq, ne_eq, implies_true, if_true, if_false, ite_not, n1, ht]
    · simp only [wx, Nat.reduceAdd, Nat.reduceEqDiff, Nat.reduceLT, Nat.reduceMul, Nat.reduceLeDiff, Int.reduceEq, ↓reduceIte, reduceCtorEq, ne_eq, implies_true, if_true, if_false, ite_not, n2, hm]
    intro clk' es' hE'
    refine Ev.sound 100 _ _ _ _ ?_
    simp only [wx, Nat.reduceAdd, Nat.reduceEqDiff, Nat.reduceLT, Nat.reduceMul, Nat.reduceLeDiff, Int.reduceEq, ↓reduceIte, reduceCtorEq, ne_eq, implies_true, if_true, if_false, ite_not, Tryd.ntmps50, tyv]
    exact Leave.mapped (clk := clk') rfl (by simp only [wx, Nat.reduceAdd, Nat.reduceEqDiff, Nat.reduceLT, Nat.reduceMul, Nat.reduceLeDiff, Int.reduceEq, ↓reduceIte, reduceCtorEq, ne_eq, implies_true, if_true, if_false, ite_not, oneOf, hn, tyv]) hmn hE' (hx _ _ _) rfl
  by_cases k85 : x.kind = 85
  case pos =>
    have hn : chk lib x env = callE lib x.name (x.kids.map (chk lib)) env := by rw [hce]; simp [k81, k82, k83, k84, k85]
    simp only [wx, Nat.reduceAdd, Nat.reduceEqDiff, Nat.reduceLT, Nat.reduceMul, Nat.reduceLeDiff, Int.reduceEq, ↓reduceIte, reduceCtorEq, ne_eq, implies_true, if_true, if_false, ite_not, Tryd.ntmps50, decide_eq_false k81, decide_eq_false k82, decide_eq_false k83, decide_eq_false k84, decide_eq_true k85]
    refine Stop.mapped (ac58 lib x hv hlib.len hlen hlib.params env _ t m clk es ?_ ?_ hE) rfl rfl (by simp only [wx, Nat.reduceAdd, Nat.reduceEqDiff, Nat.reduceLT, Nat.reduceMul, Nat.reduceLeDiff, Int.reduceEq, ↓reduceIte, reduceCtorEq, ne_eq, implies_true, if_true, if_false, ite_not, Tryd.ntmps50]) (caps := []) (by simp only [wx, Nat.reduceAdd, Nat.reduceEqDiff, Nat.reduceLT, Nat.reduceMul, Nat.reduceLeDiff, Int.reduceEq, ↓reduceIte, reduceCtorEq, ne_eq, implies_true, if_true, if_false, ite_not]) en_58 (by simp only [wx, Nat.reduceAdd, Nat.reduceEqDiff, Nat.reduceLT, Nat.reduceMul, Nat.reduceLeDiff, Int.reduceEq, ↓reduceIte, reduceCtorEq, ne_eq, implies_true, if_true, if_false, ite_not, enc_eq, fgt_mapenc]) ?_
    · simp only [wx, Nat.reduceAdd, Nat.reduceEqDiff, Nat.reduceLT, Nat.reduceMul, Nat.reduceLeDiff, Int.reduceEq, ↓reduceIte, reduceCtorEq, ne_eq, implies_true, if_true, if_false, ite_not, n1, ht]
    · simp only [wx, Nat.reduceAdd, Nat.reduceEqDiff, Nat.reduceLT, Nat.reduceMul, Nat.reduceLeDiff, Int.reduceEq, ↓reduceIte, reduceCtorEq, ne_eq, implies_true, if_true, if_false, ite_not, n2, hm]
    intro clk' es' hE'
    refine Ev.sound 100 _ _ _ _ ?_
    simp only [wx, Nat.reduceAdd, Nat.reduceEqDiff, Nat.reduceLT, Nat.reduceMul, Nat.reduceLeDiff, Int.reduceEq, ↓reduceIte, reduceCtorEq, ne_eq, implies_true, if_true, if_false, ite_not, Tryd.ntmps50, tyv]
    exact Leave.mapped (clk := clk') rfl (by simp only [wx, Nat.reduceAdd, Nat.reduceEqDiff, Nat.reduceLT, Nat.reduceMul, Nat.reduceLeDiff, Int.reduceEq, ↓reduceIte, reduceCtorEq, ne_eq, implies_true, if_true, if_false, ite_not, oneOf, hn, tyv]) hmn hE' (hx _ _ _) rfl
  by_cases k86 : x.kind = 86
  case pos =>
    have hn : chk lib x env = (true, 0) := by rw [hce]; simp [k81, k82, k83, k84, k85, k86]
    simp only [wx, Nat.reduceAdd, Nat.reduceEqDiff, Nat.reduceLT, Nat.reduceMul, Nat.reduceLeDiff, Int.reduceEq, ↓reduceIte, reduceCtorEq, ne_eq, implies_true, if_true, if_false, ite_not, Tryd.ntmps50, decide_eq_false k81, decide_eq_false k82, decide_eq_false k83, decide_eq_false k84, decide_eq_false k85, decide_eq_true k86]
    exact Leave.mapped rfl (by simp only [wx, Nat.reduceAdd, Nat.reduceEqDiff, Nat.reduceLT, Nat.reduceMul, Nat.reduceLeDiff, Int.reduceEq, ↓reduceIte, reduceCtorEq, ne_eq, implies_true, if_true, if_false, ite_not, oneOf, hn, tyv]) hmn hE (hset _) rfl
  by_cases k87 : x.kind = 87
  case pos =>
    have hn : chk lib x env = (true, allE (x.kids.map (chk lib)) [false, true] env) := by rw [hce]; simp [k81, k82, k83, k84, k85, k86, k87]
    simp only [wx, Nat.reduceAdd, Nat.reduceEqDiff, Nat.reduceLT, Nat.reduceMul, Nat.reduceLeDiff, Int.reduceEq, ↓reduceIte, reduceCtorEq, ne_eq, implies_true, if_true, if_false, ite_not, Tryd.ntmps50, decide_eq_false k81, decide_eq_false k82, decide_eq_false k83, decide_eq_false k84, decide_eq_false k85, decide_eq_false k86, decide_eq_true k87]
    refine Stop.mapped (ac55 lib x.kids [false, true] hv hlen (by decide) env _ t m clk es ?_ ?_ hE) rfl rfl (by simp only [wx, Nat.reduceAdd, Nat.reduceEqDiff, Nat.reduceLT, Nat.reduceMul, Nat.reduceLeDiff, Int.reduceEq, ↓reduceIte, reduceCtorEq, ne_eq, implies_true, if_true, if_false, ite_not, Tryd.ntmps50]) (caps := []) (by simp only [wx, Nat.reduceAdd, Nat.reduceEqDiff, Nat.reduceLT, Nat.reduceMul, Nat.reduceLeDiff, Int.reduceEq, ↓reduceIte, reduceCtorEq, ne_eq, implies_true, if_true, if_false, ite_not]) en_55 (by simp only [wx, Nat.reduceAdd, Nat.reduceEqDiff, Nat.reduceLT, Nat.reduceMul, Nat.reduceLeDiff, Int.reduceEq, ↓reduceIte, reduceCtorEq, ne_eq, implies_true, if_true, if_false, ite_not, fgt_mapenc, vbools]) ?_
    · simp only [wx, Nat.reduceAdd, Nat.reduceEqDiff, Nat.reduceLT, Nat.reduceMul, Nat.reduceLeDiff, Int.reduceEq, ↓reduceIte, reduceCtorEq, ne_eq, implies_true, if_true, if_false, ite_not, n1, ht]
    · simp only [wx, Nat.reduceAdd, Nat.reduceEqDiff, Nat.reduceLT, Nat.reduceMul, Nat.reduceLeDiff, Int.reduceEq, ↓reduceIte, reduceCtorEq, ne_eq, implies_true, if_true, if_false, ite_not, n2, hm]
    intro clk' es' hE'
    refine Ev.sound 100 _ _ _ _ ?_
    simp only [wx, Nat.reduceAdd, Nat.reduceEqDiff, Nat.reduceLT, Nat.reduceMul, Nat.reduceLeDiff, Int.reduceEq, ↓reduceIte, reduceCtorEq, ne_eq, implies_true, if_true, if_false, ite_not, Tryd.ntmps50, tyv]
    exact Leave.mapped (clk := clk') rfl (by simp only [wx, Nat.reduceAdd, Nat.reduceEqDiff, Nat.reduceLT, Nat.reduceMul, Nat.reduceLeDiff, Int.reduceEq, ↓reduceIte, reduceCtorEq, ne_eq, implies_true, if_true, if_false, ite_not, oneOf, hn, tyv]) hmn hE' (hx _ _ _) rfl
  by_cases k88 : x.kind = 88
  case pos =>
    have hn : chk lib x env = (false, allE (x.kids.map (chk lib)) [true] env) := by rw [hce]; simp [k81, k82, k83, k84, k85, k86, k87, k88]
    simp only [wx, Nat.reduceAdd, Nat.reduceEqDiff, Nat.reduceLT, Nat.reduceMul, Nat.reduceLeDiff, Int.reduceEq, ↓reduceIte, reduceCtorEq, ne_eq, implies_true, if_true, if_false, ite_not, Tryd.ntmps50, decide_eq_false k81, decide_eq_false k82, decide_eq_false k83, decide_eq_false k84, decide_eq_false k85, decide_eq_false k86, decide_eq_false k87, decide_eq_true k88]
    refine Stop.mapped (ac55 lib x.kids [true] hv hlen (by decide) env _ t m clk es ?_ ?_ hE) rfl rfl (by simp only [wx, Nat.reduceAdd, Nat.reduceEqDiff, Nat.reduceLT, Nat.reduceMul, Nat.reduceLeDiff, Int.reduceEq, ↓reduceIte, reduceCtorEq, ne_eq, implies_true, if_true, if_false, ite_not, Tryd.ntmps50]) (caps := []) (by simp only [wx, Nat.reduceAdd, Nat.reduceEqDiff, Nat.reduceLT, Nat.reduceMul, Nat.reduceLeDiff, Int.reduceEq, ↓reduceIte, reduceCtorEq, ne_eq, implies_true, if_true, if_false, ite_not]) en_55 (by simp only [wx, Nat.reduceAdd, Nat.reduceEqDiff, Nat.reduceLT, Nat.reduceMul, Nat.reduceLeDiff, Int.reduceEq, ↓reduceIte, reduceCtorEq, ne_eq, implies_true, if_true, if_false, ite_not, fgt_mapenc, vbools]) ?_
    · simp only [wx, Nat.reduceAdd, Nat.reduceEqDiff, Nat.reduceLT, Nat.reduceMul, Nat.reduceLeDiff, Int.reduceEq, ↓reduceIte, reduceCtorEq, ne_eq, implies_true, if_true, if_false, ite_not, n1, ht]
    · simp only [wx, Nat.reduceAdd, Nat.reduceEqDiff, Nat.reduceLT, Nat.reduceMul, Nat.reduceLeDiff, Int.reduceEq, ↓reduceIte, reduceCtorEq, ne_eq, implies_true, if_true, if_false, ite_not, n2, hm]
    intro clk' es' hE'
    refine Ev.sound 100 _ _ _ _ ?_
    simp only [wx, Nat.reduceAdd, Nat.reduceEqDiff, Nat.reduceLT, Nat.reduceMul, Nat.reduceLeDiff, Int.reduceEq, ↓reduceIte, reduceCtorEq, ne_eq, implies_true, if_true, if_false, ite_not, Tryd.ntmps50, tyv]
    exact Leave.mapped (clk := clk') rfl (by simp only [wx, Nat.reduceAdd, Nat.reduceEqDiff, Nat.reduceLT, Nat.reduceMul, Nat.reduceLeDiff, Int.reduceEq, ↓reduceIte, reduceCtorEq, ne_eq, implies_true, if_true, if_false, ite_not, oneOf, hn, tyv]) hmn hE' (hx _ _ _) rfl
  by_cases k90 : x.kind = 90
  case pos =>
    have hn : chk lib x env = (false, allE (x.kids.map (chk lib)) [true] env) := by rw [hce]; simp [k81, k82, k83, k84, k85, k86, k87, k88, k90]
    simp only [wx, Nat.reduceAdd, Nat.reduceEqDiff, Nat.reduceLT, Nat.reduceMul, Nat.reduceLeDiff, Int.reduceEq, ↓reduceIte, reduceCtorEq, ne_eq, implies_true, if_true, if_false, ite_not, Tryd.ntmps50, decide_eq_false k81, decide_eq_false k82, decide_eq_false k83, decide_eq_false k84, decide_eq_false k85, decide_eq_false k86, decide_eq_false k87, decide_eq_false k88, decide_eq_true k90]
    refine Stop.mapped (ac55 lib x.kids [true] hv hlen (by decide) env _ t m clk es ?_ ?_ hE) rfl rfl (by simp only [wx, Nat.reduceAdd, Nat.reduceEqDiff, Nat.reduceLT, Nat.reduceMul, Nat.reduceLeDiff, Int.reduceEq, ↓reduceIte, reduceCtorEq, ne_eq, implies_true, if_true, if_false, ite_not, Tryd.ntmps50]) (caps := []) (by simp only [wx, Nat.reduceAdd, Nat.reduceEqDiff, Nat.reduceLT, Nat.reduceMul, Nat.reduceLeDiff, Int.reduceEq, ↓reduceIte, reduceCtorEq, ne_eq, implies_true, if_true, if_false, ite_not]) en_55 (by simp only [wx, Nat.reduceAdd, Nat.reduceEqDiff, Nat.reduceLT, Nat.reduceMul, Nat.reduceLeDiff, Int.reduceEq, ↓reduceIte, reduceCtorEq, ne_eq, implies_true, if_true, if_false, ite_not, fgt_mapenc, vbools]) ?_
    · simp only [wx, Nat.reduceAdd, Nat.reduceEqDiff, Nat.reduceLT, Nat.reduceMul, Nat.reduceLeDiff, Int.reduceEq, ↓reduceIte, reduceCtorEq, ne_eq, implies_true, if_true, if_false, ite_not, n1, ht]
    · simp only [wx, Nat.reduceAdd, Nat.reduceEqDiff, Nat.reduceLT, Nat.reduceMul, Nat.reduceLeDiff, Int.reduceEq, ↓reduceIte, reduceCtorEq, ne_eq, implies_true, if_true, if_false, ite_not, n2, hm]
    intro clk' es' hE'
    refine Ev.sound 100 _ _ _ _ ?_
    simp only [wx, Nat.reduceAdd, Nat.reduceEqDiff, Nat.reduceLT, Nat.reduceMul, Nat.reduceLeDiff, Int.reduceEq, ↓reduceIte, reduceCtorEq, ne_eq, implies_true, if_true, if_false, ite_not, Tryd.ntmps50, tyv]
    exact Leave.mapped (clk := clk') rfl (by simp only [wx, Nat.reduceAdd, Nat.reduceEqDiff, Nat.reduceLT, Nat.reduceMul, Nat.reduceLeDiff, Int.reduceEq, ↓reduceIte, reduceCtorEq, ne_eq, implies_true, if_true, if_false, ite_not, oneOf, hn, tyv]) hmn hE' (hx _ _ _) rfl
  by_cases k89 : x.kind = 89
  case pos =>
    have hn : chk lib x env = (true, allE (x.kids.map (chk lib)) [true] env) := by rw [hce]; simp [k81, k82, k83, k84, k85, k86, k87, k88, k90, k89]
    simp only [wx, Nat.reduceAdd, Nat.reduceEqDiff, Nat.reduceLT, Nat.reduceMul, Nat.reduceLeDiff, Int.reduceEq, ↓reduceIte, reduceCtorEq, ne_eq, implies_true, if_true, if_false, ite_not, Tryd.ntmps50, decide_eq_false k81, decide_eq_false k82, decide_eq_false k83, decide_eq_false k84, decide_eq_false k85, decide_eq_false k86, decide_eq_false k87, decide_eq_false k88, decide_eq_false k90, decide_eq_true k89]
    refine Stop.mapped (ac55 lib x.kids [true] hv hlen (by decide) env _ t m clk es ?_ ?_ hE) rfl rfl (by simp only [wx, Nat.reduceAdd, Nat.reduceEqDiff, Nat.reduceLT, Nat.reduceMul, Nat.reduceLeDiff, Int.reduceEq, ↓reduceIte, reduceCtorEq, ne_eq, implies_true, if_true, if_false, ite_not, Tryd.ntmps50]) (caps := []) (by simp only [wx, Nat.reduceAdd, Nat.reduceEqDiff, Nat.reduceLT, Nat.reduceMul, Nat.reduceLeDiff, Int.reduceEq, ↓reduceIte, reduceCtorEq, ne_eq, implies_true, if_true, if_false, ite_not]) en_55 (by simp only [wx, Nat.reduceAdd, Nat.reduceEqDiff, Nat.reduceLT, Nat.reduceMul, Nat.reduceLeDiff, Int.reduceEq, ↓reduceIte, reduceCtorEq, ne_eq, implies_true, if_true, if_false, ite_not, fgt_mapenc, vbools]) ?_
    · simp only [wx, Nat.reduceAdd, Nat.reduceEqDiff, Nat.reduceLT, Nat.reduceMul, Nat.reduceLeDiff, Int.reduceEq, ↓reduceIte, reduceCtorEq, ne_eq, implies_true, if_true, if_false, ite_not, n1, ht]
    · simp only [wx, Nat.reduceAdd, Nat.reduceEqDiff, Nat.reduceLT, Nat.reduceMul, Nat.reduceLeDiff, Int.reduceEq, ↓reduceIte, reduceCtorEq, ne_eq, implies_true, if_true, if_false, ite_not, n2, hm]
    intro clk' es' hE'
    refine Ev.sound 100 _ _ _ _ ?_
    simp only [wx, Nat.reduceAdd, Nat.reduceEqDiff, Nat.reduceLT, Nat.reduceMul, Nat.reduceLeDiff, Int.reduceEq, ↓reduceIte, reduceCtorEq, ne_eq, implies_true, if_true, if_false, ite_not, Tryd.ntmps50, tyv]
    exact Leave.mapped (clk := clk') rfl (by simp only [wx, Nat.reduceAdd, Nat.reduceEqDiff, Nat.reduceLT, Nat.reduceMul, Nat.reduceLeDiff, Int.reduceEq, ↓reduceIte, reduceCtorEq, ne_eq, implies_true, if_true, if_false, ite_not, oneOf, hn, tyv]) hmn hE' (hx _ _ _) rfl
  have hn : chk lib x env = (false, 0) := by rw [hce]; simp [k81, k82, k83, k84, k85, k86, k87, k88, k90, k89]
  simp only [wx, Nat.reduceAdd, Nat.reduceEqDiff, Nat.reduceLT, Nat.reduceMul, Nat.reduceLeDiff, Int.reduceEq, ↓reduceIte, reduceCtorEq, ne_eq, implies_true, if_true, if_false, ite_not, Tryd.ntmps50, decide_eq_false k81, decide_eq_false k82, decide_eq_false k83, decide_eq_false k84, decide_eq_false k85, decide_eq_false k86, decide_eq_false k87, decide_eq_false k88, decide_eq_false k90, decide_eq_false k89]
  exact Leave.mapped rfl (by simp only [wx, Nat.reduceAdd, Nat.reduceEqDiff, Nat.reduceLT, Nat.reduceMul, Nat.reduceLeDiff, Int.reduceEq, ↓reduceIte, reduceCtorEq, ne_eq, implies_true, if_true, if_false, ite_not, oneOf, hn, tyv]) hmn hE (hset _) rfl
 termination_by x.size
 decreasing_by exact kid_size hy
end Go.Proofs.YtajknofacjiddaaDoor.Abs

/- check -/
namespace Go.Proofs.YtajknofacjiddaaDoor.Abs
open Go Go.RowKit
set_option linter.unusedSimpArgs false
set_option linter.unusedVariables false
set_option maxHeartbeats 4000000
set_option maxRecDepth 100000
theorem Leave.pures {S : Seat} {fn : Func} {fr : Fr} {h h0 : AHeap} {v : AV} {vs : List AV} (hres : aresults S fn fr h fn.results.toList = some vs) (hv : (oneOf vs).fgt = v) (hx : Ext h0 h) (hok : v.ok h0.next h0.ntok = true) :
    Leave S fn .returning [] fr h (fun r h' => Dropped h0 (Pure1 v h0) r.fgt h') := by
  refine Leave.ret hres ?_
  show Dropped h0 (Pure1 v h0) (.ret (oneOf vs).fgt) h
  rw [hv]
  exact Dropped.same hx hok ⟨rfl, rfl⟩
/-- What the parameters' names stand for. -/
def envOf (ps : List Param) : Env := ps.foldl (fun env p => envPut env p.name p.list) fun _ => none
def checkE (lib : List Fn) (ps : List Param) (x : Node) : Bool × Int := ((chk lib x (envOf ps)).1 && decide ((chk lib x (envOf ps)).2 = 0), (chk lib x (envOf ps)).2)
theorem ac33 (lib : List Fn) (hlib : LibOk lib) (ps : List Param) (hps : ps.length ≤ 1048576) (x : Node) (hw : x.wf) (hform : formB x = true) (h : AHeap) : AC sd 33 [vlib lib, vparams ps, .agg x.enc] h (Pure1 (tyv (checkE lib ps x)) h) := by
  refine AC.pure Tryd.func33 rfl Tryd.ntmps33 (by show 3 ≤ 40; decide) ?_
  refine Ev.sound 100 _ _ _ _ ?_
  simp only [argFr, enc_eq, vlib, vparams]
  simp only [wx, Nat.reduceAdd, Nat.reduceEqDiff, Nat.reduceLT, Nat.reduceMul, Nat.reduceLeDiff, Int.reduceEq, ↓reduceIte, reduceCtorEq, ne_eq, implies_true, if_true, if_false, ite_not, Tryd.ntmps33]
  refine Stop.round (σ := Nat) (fun k => ps.length - k) (fun k => [(5, .ptr h.next 0), (8, .ptr (h.next + 2) 0), (16, kslice 2 (ps.map Param.enc)), (17, .int .i64 ps.length), (18, .int .i64 k)])
    (fun k h1 => k ≤ ps.length ∧ ∃ clk es, EMap es (envOf (ps.take k)) ∧ Ext (((h.alloc (.cells [.int .u8 x.kind, .int .i64 x.num, .str x.name, kslice 4 (x.kids.map Node.enc)])).alloc (.map clk es)).alloc (.cells [kslice 7 (lib.map Fn.enc), .map (h.next + 1)])) h1) 0 ⟨Nat.zero_le _, 0, [], .nil, ?_⟩ ?_ ?_
  · exact Ext.refl _
  · simp only [wx, Nat.reduceAdd, Nat.reduceEqDiff, Nat.reduceLT, Nat.reduceMul, Nat.reduceLeDiff, Int.reduceEq, ↓reduceIte, reduceCtorEq, ne_eq, implies_true, if_true, if_false, ite_not, List.length_map, Int.ofNat_zero, Int.natCast_zero]
  rintro k h1 ⟨hk, clk, es, hE, hx⟩ next
  have hb1 : h1.get h.next = some (.cells [.int .u8 x.kind, .int .i64 x.num, .str x.name, kslice 4 (x.kids.map Node.enc)]) := by rw [hx.get _ (by simp only [wx, Nat.reduceAdd, Nat.reduceEqDiff, Nat.reduceLT, Nat.reduceMul, Nat.reduceLeDiff, Int.reduceEq, ↓reduceIte, reduceCtorEq, ne_eq, implies_true, if_true, if_false, ite_not])]; simp only [wx, Nat.reduceAdd, Nat.reduceEqDiff, Nat.reduceLT, Nat.reduceMul, Nat.reduceLeDiff, Int.reduceEq, ↓reduceIte, reduceCtorEq, ne_eq, implies_true, if_true, if_false, ite_not]
  have hm1 : h1.get (h.next + 1) = some (.map clk es) := by rw [hx.get _ (by simp only [wx, Nat.reduceAdd, Nat.reduceEqDiff, Nat.reduceLT, Nat.reduceMul, Nat.reduceLeDiff, Int.reduceEq, ↓reduceIte, reduceCtorEq, ne_eq, implies_true, if_true, if_false, ite_not])]; simp only [wx, Nat.reduceAdd, Nat.reduceEqDiff, Nat.reduceLT, Nat.reduceMul, Nat.reduceLeDiff, Int.reduceEq, ↓reduceIte, reduceCtorEq, ne_eq, implies_true, if_true, if_false, ite_not]
  have ht1 : h1.get (h.next + 2) = some (.cells [kslice 7 (lib.map Fn.enc), .map (h.next + 1)]) := by rw [hx.get _ (by simp only [wx, Nat.reduceAdd, Nat.reduceEqDiff, Nat.reduceLT, Nat.reduceMul, Nat.reduceLeDiff, Int.reduceEq, ↓reduceIte, reduceCtorEq, ne_eq, implies_true, if_true, if_false, ite_not])]; simp only [wx, Nat.reduceAdd, Nat.reduceEqDiff, Nat.reduceLT, Nat.reduceMul, Nat.reduceLeDiff, Int.reduceEq, ↓reduceIte, reduceCtorEq, ne_eq, implies_true, if_true, if_false, ite_not]
  have n1 : (h.next + 2 = h1.next) = False := by have := get_lt h1 _ ht1; simp; omega
  have n2 : (h.next + 1 = h1.next) = False := by have := get_lt h1 _ hm1; simp; omega
  refine Ev.sound 100 _ _ _ _ ?_
  rcases turn ps k hk with ⟨y, hy, hmem, hlt, c1, c2⟩ | ⟨rfl, c1⟩
  · have w1 := wrap_succ k (by omega)
    obtain ⟨clk', es', hp, hE'⟩ := hE.put clk y.name y.list
    simp only [wx, Nat.reduceAdd, Nat.reduceEqDiff, Nat.reduceLT, Nat.reduceMul, Nat.reduceLeDiff, Int.reduceEq, ↓reduceIte, reduceCtorEq, ne_eq, implies_true, if_true, if_false, ite_not, Tryd.ntmps33, c1, c2, List.length_map, getD_map Param.enc hy, penc_eq, n1, n2, ht1, hm1, hp, w1]
    have hx2 := (hx.alloc (.cells [.str y.name, .bool y.list])).sets (m := h.next + 1) (by simp only [wx, Nat.reduceAdd, Nat.reduceEqDiff, Nat.reduceLT, Nat.reduceMul, Nat.reduceLeDiff, Int.reduceEq, ↓reduceIte, reduceCtorEq, ne_eq, implies_true, if_true, if_false, ite_not]) (.map clk' es')
    simp only [wx, Nat.reduceAdd, Nat.reduceEqDiff, Nat.reduceLT, Nat.reduceMul, Nat.reduceLeDiff, Int.reduceEq, ↓reduceIte, reduceCtorEq, ne_eq, implies_true, if_true, if_false, ite_not] at hx2
    have he : envOf (ps.take (k + 1)) = envPut (envOf (ps.take k)) y.name y.list := by unfold envOf; rw [take_snoc _ _ _ hy, List.foldl_append]; rfl
    exact next (k + 1) _ _ (by omega) ⟨hlt, clk', es', by rw [he]; exact hE', hx2⟩ (by simp only [wx, Nat.reduceAdd, Nat.reduceEqDiff, Nat.reduceLT, Nat.reduceMul, Nat.reduceLeDiff, Int.reduceEq, ↓reduceIte, reduceCtorEq, ne_eq, implies_true, if_true, if_false, ite_not])
  · rw [List.take_length] at hE
    have hh : Ext h h1 := (((Ext.refl h).alloc _).alloc _).alloc _ |>.trans hx
    simp only [wx, Nat.reduceAdd, Nat.reduceEqDiff, Nat.reduceLT, Nat.reduceMul, Nat.reduceLeDiff, Int.reduceEq, ↓reduceIte, reduceCtorEq, ne_eq, implies_true, if_true, if_false, ite_not, Tryd.ntmps33, c1, hb1]
    refine Stop.mapped (ac50 lib hlib x hw hform (envOf ps) _ (h.next + 2) (h.next + 1) clk es ht1 hm1 hE) rfl rfl (by simp only [wx, Nat.reduceAdd, Nat.reduceEqDiff, Nat.reduceLT, Nat.reduceMul, Nat.reduceLeDiff, Int.reduceEq, ↓reduceIte, reduceCtorEq, ne_eq, implies_true, if_true, if_false, ite_not, Tryd.ntmps33]) (caps := []) (by simp only [wx, Nat.reduceAdd, Nat.reduceEqDiff, Nat.reduceLT, Nat.reduceMul, Nat.reduceLeDiff, Int.reduceEq, ↓reduceIte, reduceCtorEq, ne_eq, implies_true, if_true, if_false, ite_not]) en_50 (by simp only [wx, Nat.reduceAdd, Nat.reduceEqDiff, Nat.reduceLT, Nat.reduceMul, Nat.reduceLeDiff, Int.reduceEq, ↓reduceIte, reduceCtorEq, ne_eq, implies_true, if_true, if_false, ite_not, enc_eq, fgt_mapenc]) ?_
    intro clk' es' hE'
    refine Ev.sound 100 _ _ _ _ ?_
    have hc : checkE lib ps x = ((chk lib x (envOf ps)).1 && decide ((chk lib x (envOf ps)).2 = 0), (chk lib x (envOf ps)).2) := rfl
    cases hb : (chk lib x (envOf ps)).1
    · rw [hb, Bool.false_and] at hc
      simp only [wx, Nat.reduceAdd, Nat.reduceEqDiff, Nat.reduceLT, Nat.reduceMul, Nat.reduceLeDiff, Int.reduceEq, ↓reduceIte, reduceCtorEq, ne_eq, implies_true, if_true, if_false, ite_not, Tryd.ntmps33, tyv, hb]
      exact Leave.pures rfl (by simp only [wx, Nat.reduceAdd, Nat.reduceEqDiff, Nat.reduceLT, Nat.reduceMul, Nat.reduceLeDiff, Int.reduceEq, ↓reduceIte, reduceCtorEq, ne_eq, implies_true, if_true, if_false, ite_not, oneOf, hc]) (hh.set (by omega) _) rfl
    · rw [hb, Bool.true_and] at hc
      simp only [wx, Nat.reduceAdd, Nat.reduceEqDiff, Nat.reduceLT, Nat.reduceMul, Nat.reduceLeDiff, Int.reduceEq, ↓reduceIte, reduceCtorEq, ne_eq, implies_true, if_true, if_false, ite_not, Tryd.ntmps33, tyv, hb]
      exact Leave.pures rfl (by simp only [wx, Nat.reduceAdd, Nat.reduceEqDiff, Nat.reduceLT, Nat.reduceMul, Nat.reduceLeDiff, Int.reduceEq, ↓reduceIte, reduceCtorEq, ne_eq, implies_true, if_true, if_false, ite_not, oneOf, hc]) (hh.set (by omega) _) rfl
end Go.Proofs.YtajknofacjiddaaDoor.Abs

/- visible, result -/
namespace Go.Proofs.YtajknofacjiddaaDoor.Abs
open Go Go.RowKit
set_option linter.unusedSimpArgs false
set_option linter.unusedVariables false
set_option maxHeartbeats 4000000
set_option maxRecDepth 100000
theorem ac36 (a b : Bool) (h : AHeap) : AC sd 36 [.bool a, .bool b] h (Pure1 (tyv (if b then (a, 0) else (false, 7))) h) := by
  refine AC.pure Tryd.func36 rfl Tryd.ntmps36 (by show 2 ≤ 9; decide) ?_
  refine Ev.sound 100 _ _ _ _ ?_
  simp only [argFr]
  cases b
  · simp only [wx, Nat.reduceAdd, Nat.reduceEqDiff, Nat.reduceLT, Nat.reduceMul, Nat.reduceLeDiff, Int.reduceEq, ↓reduceIte, reduceCtorEq, ne_eq, implies_true, if_true, if_false, ite_not, Tryd.ntmps36]
    exact Leave.pures rfl (by simp only [wx, Nat.reduceAdd, Nat.reduceEqDiff, Nat.reduceLT, Nat.reduceMul, Nat.reduceLeDiff, Int.reduceEq, ↓reduceIte, reduceCtorEq, ne_eq, implies_true, if_true, if_false, ite_not, oneOf, tyv]) (Ext.refl _) rfl
  · simp only [wx, Nat.reduceAdd, Nat.reduceEqDiff, Nat.reduceLT, Nat.reduceMul, Nat.reduceLeDiff, Int.reduceEq, ↓reduceIte, reduceCtorEq, ne_eq, implies_true, if_true, if_false, ite_not, Tryd.ntmps36]
    exact Leave.pures rfl (by simp only [wx, Nat.reduceAdd, Nat.reduceEqDiff, Nat.reduceLT, Nat.reduceMul, Nat.reduceLeDiff, Int.reduceEq, ↓reduceIte, reduceCtorEq, ne_eq, implies_true, if_true, if_false, ite_not, oneOf, tyv]) (Ext.refl _) rfl
/-- The type of a visible variable: the last binding counts. -/
def seeE (ps : List Param) (s : ByteArray) : Bool × Bool := match ps.reverse.find? (fun p => decide (p.name = s)) with | some p => (p.list, true) | none => (false, false)
theorem see_snoc (ps : List Param) (p : Param) (s : ByteArray) : seeE (ps ++ [p]) s = if p.name = s then (p.list, true) else seeE ps s := by
  unfold seeE
  rw [List.reverse_append]
  simp only [List.reverse_cons, List.reverse_nil, List.nil_append, List.singleton_append, List.find?_cons]
  by_cases q : p.name = s
  · rw [decide_eq_true q, if_pos q]
  · rw [decide_eq_false q, if_neg q]
theorem see_env (ps : List Param) (s : ByteArray) : seeE ps s = (((envOf ps) s).getD false, ((envOf ps) s).isSome) := by
  have : ∀ n, ∀ ps : List Param, ps.length = n → seeE ps s = (((envOf ps) s).getD false, ((envOf ps) s).isSome) := by
    intro n
    induction n with
    | zero => intro ps h; cases ps with | nil => rfl | cons _ _ => simp at h
    | succ n ih =>
      intro ps h
      rcases List.eq_nil_or_concat ps with rfl | ⟨qs, p, rfl⟩
      · simp at h
      rw [List.concat_eq_append, see_snoc, ih qs (by simpa using h)]
      have : envOf (qs ++ [p]) = envPut (envOf qs) p.name p.list := by unfold envOf; rw [List.foldl_append]; rfl
      rw [this]
      unfold envPut
      by_cases q : p.name = s
      · rw [if_pos q, if_pos q.symm]; rfl
      · rw [if_neg q, if_neg (fun e => q e.symm)]
  exact this _ ps rfl
theorem ac35 (ps : List Param) (hl : ps.length ≤ 1048576) (s : ByteArray) (h : AHeap) : AC sd 35 [vparams ps, .str s] h (Pure1 (.tup [.bool (seeE ps s).1, .bool (seeE ps s).2]) h) := by
  refine AC.pure Tryd.func35 rfl Tryd.ntmps35 (by show 2 ≤ 26; decide) ?_
  refine Ev.sound 100 _ _ _ _ ?_
  simp only [argFr, vparams]
  simp only [wx, Nat.reduceAdd, Nat.reduceEqDiff, Nat.reduceLT, Nat.reduceMul, Nat.reduceLeDiff, Int.reduceEq, ↓reduceIte, reduceCtorEq, ne_eq, implies_true, if_true, if_false, ite_not, Tryd.ntmps35]
  have wm : ∀ k : Nat, k ≤ 1048576 → IntKind.i64.wrap ((k : Int) - 1) = (k : Int) - 1 := fun k hk => by
    cases k with
    | zero => decide +kernel
    | succ k => rw [show (((k + 1 : Nat) : Int) - 1) = (k : Int) by omega]; exact i64_id (by omega) (by omega)
  refine Stop.round (σ := Nat) (fun k => k) (fun k => [(0, kslice 2 (ps.map Param.enc)), (1, .str s), (6, .int .i64 ((k : Int) - 1))]) (fun k h1 => k ≤ ps.length ∧ h1 = h ∧ seeE ps s = seeE (ps.take k) s) ps.length ⟨Nat.le_refl _, rfl, by rw [List.take_length]⟩ ?_ ?_
  · simp only [wx, Nat.reduceAdd, Nat.reduceEqDiff, Nat.reduceLT, Nat.reduceMul, Nat.reduceLeDiff, Int.reduceEq, ↓reduceIte, reduceCtorEq, ne_eq, implies_true, if_true, if_false, ite_not, List.length_map, wm _ hl]
  rintro k _ ⟨hk, rfl, hp⟩ next
  refine Ev.sound 100 _ _ _ _ ?_
  cases k with
  | zero =>
    have c1 : (0 ≤ ((0 : Nat) : Int) - 1) = False := by simp
    have hn : seeE ps s = (false, false) := hp
    simp only [wx, Nat.reduceAdd, Nat.reduceEqDiff, Nat.reduceLT, Nat.reduceMul, Nat.reduceLeDiff, Int.reduceEq, ↓reduceIte, reduceCtorEq, ne_eq, implies_true, if_true, if_false, ite_not, Tryd.ntmps35, c1]
    exact Leave.pures rfl (by simp only [wx, Nat.reduceAdd, Nat.reduceEqDiff, Nat.reduceLT, Nat.reduceMul, Nat.reduceLeDiff, Int.reduceEq, ↓reduceIte, reduceCtorEq, ne_eq, implies_true, if_true, if_false, ite_not, oneOf, hn]) (Ext.refl _) rfl
  | succ k =>
    have e1 : (((k + 1 : Nat) : Int) - 1) = (k : Int) := by omega
    rw [e1]
    have c1 : (0 ≤ (k : Int)) = True := by simp
    have c2 : ((k : Int) < (ps.length : Int)) = True := by simp; omega
    obtain ⟨y, hy⟩ : ∃ y, ps[k]? = some y := ⟨_, List.getElem?_eq_getElem (by omega)⟩
    rw [take_snoc _ _ _ hy, see_snoc] at hp
    by_cases q : y.name = s
    · rw [if_pos q] at hp
      simp only [wx, Nat.reduceAdd, Nat.reduceEqDiff, Nat.reduceLT, Nat.reduceMul, Nat.reduceLeDiff, Int.reduceEq, ↓reduceIte, reduceCtorEq, ne_eq, implies_true, if_true, if_false, ite_not, Tryd.ntmps35, c1, c2, List.length_map, getD_map Param.enc hy, penc_eq, decide_eq_true q]
      exact Leave.pures rfl (by simp only [wx, Nat.reduceAdd, Nat.reduceEqDiff, Nat.reduceLT, Nat.reduceMul, Nat.reduceLeDiff, Int.reduceEq, ↓reduceIte, reduceCtorEq, ne_eq, implies_true, if_true, if_false, ite_not, oneOf, hp]) (Ext.refl _) rfl
    · rw [if_neg q] at hp
      simp only [wx, Nat.reduceAdd, Nat.reduceEqDiff, Nat.reduceLT, Nat.reduceMul, Nat.reduceLeDiff, Int.reduceEq, ↓reduceIte, reduceCtorEq, ne_eq, implies_true, if_true, if_false, ite_not, Tryd.ntmps35, c1, c2, List.length_map, getD_map Param.enc hy, penc_eq, decide_eq_false q, wm k (by omega)]
      exact next k _ _ (by omega) ⟨by omega, rfl, hp⟩ (by simp only [wx, Nat.reduceAdd, Nat.reduceEqDiff, Nat.reduceLT, Nat.reduceMul, Nat.reduceLeDiff, Int.reduceEq, ↓reduceIte, reduceCtorEq, ne_eq, implies_true, if_true, if_false, ite_not])
end Go.Proofs.YtajknofacjiddaaDoor.Abs

/- The reference's type check: plain facts. -/
namespace Go.Proofs.YtajknofacjiddaaDoor.Abs
open Go Go.RowKit
set_option linter.unusedSimpArgs false
set_option linter.unusedVariables false
theorem checkE_err {lib : List Fn} {ps : List Param} {x : Node} {e : Int} (h : (chk lib x (envOf ps)).2 = e) (he : e ≠ 0) : checkE lib ps x = (false, e) := by
  unfold checkE; rw [h, decide_eq_false he, Bool.and_false]
theorem checkE_ok {lib : List Fn} {ps : List Param} {x : Node} {b : Bool} (h : chk lib x (envOf ps) = (b, 0)) : checkE lib ps x = (b, 0) := by
  unfold checkE; rw [h]; simp
/-- A call that gets so far as its arguments. -/
def CallOk (lib : List Fn) (x : Node) (f : Fn) (i : Nat) : Prop := find lib x.name = (i : Int) ∧ lib[i]? = some f ∧ x.kids.length = f.params.length
theorem callE_ok {lib : List Fn} {x : Node} {f : Fn} {i : Nat} (h : CallOk lib x f i) (fs : List Typ) (hf : fs.length = x.kids.length) (env : Env) : callE lib x.name fs env = (f.list, allE fs (f.params.map (·.list)) env) := by
  obtain ⟨h1, h2, h3⟩ := h
  unfold callE
  rw [h1, if_neg (by omega), Int.toNat_natCast, h2]
  simp only
  rw [if_neg (by simp; omega)]
theorem kid_err {lib : List Fn} {ps : List Param} {x : Node} (hform : formB x = true) (h84 : x.kind ≠ 84) (h85 : x.kind = 85 → ∃ f i, CallOk lib x f i) {e : Int} (hr : (runAll (x.kids.map (chk lib)) (envOf ps)).2 = e) (he : e ≠ 0) : checkE lib ps x = (false, e) := by
  obtain ⟨_, hwk⟩ := form_kids hform
  have hall : ∀ want, allE (x.kids.map (chk lib)) want (envOf ps) = e := fun want => by unfold allE; rw [hr, if_pos he]
  have hnil : x.kids = [] → False := fun h => by rw [h] at hr; exact he hr.symm
  refine checkE_err ?_ he
  rw [chk_eq]
  unfold stepE
  by_cases k81 : x.kind = 81
  · rw [k81] at hwk; exact (hnil (List.eq_nil_of_length_eq_zero (Option.some.inj hwk).symm)).elim
  rw [if_neg k81]
  by_cases k82 : x.kind = 82
  · rw [if_pos k82]; exact hall _
  rw [if_neg k82]
  by_cases k83 : x.kind = 83
  · rw [if_pos k83]; unfold branchesE; rw [hr, if_pos he]
  rw [if_neg k83, if_neg h84]
  by_cases k85 : x.kind = 85
  · rw [if_pos k85]
    obtain ⟨f, i, hc⟩ := h85 k85
    rw [callE_ok hc _ (by simp)]
    exact hall _
  rw [if_neg k85]
  by_cases k86 : x.kind = 86
  · rw [k86] at hwk; exact (hnil (List.eq_nil_of_length_eq_zero (Option.some.inj hwk).symm)).elim
  rw [if_neg k86]
  by_cases k87 : x.kind = 87
  · rw [if_pos k87]; exact hall _
  rw [if_neg k87]
  by_cases k88 : x.kind = 88 ∨ x.kind = 90
  · rw [if_pos k88]; exact hall _
  rw [if_neg k88]
  by_cases k89 : x.kind = 89
  · rw [if_pos k89]; exact hall _
  by_cases k80 : x.kind = 80
  · rw [k80] at hwk; exact (hnil (List.eq_nil_of_length_eq_zero (Option.some.inj hwk).symm)).elim
  have k88' : x.kind ≠ 88 := fun e => k88 (.inl e)
  have k90' : x.kind ≠ 90 := fun e => k88 (.inr e)
  unfold wantKids at hwk
  simp [k80, k81, k82, k83, h84, k85, k86, k87, k88', k89, k90'] at hwk
end Go.Proofs.YtajknofacjiddaaDoor.Abs

/- depth, size; Depth, Size -/
namespace Go.Proofs.YtajknofacjiddaaDoor.Abs
open Go Go.RowKit
set_option linter.unusedSimpArgs false
set_option linter.unusedVariables false
set_option maxHeartbeats 4000000
set_option maxRecDepth 100000
theorem ac44 (x : Node) : x.size ≤ 1048576 → ∀ h : AHeap, AC sd 44 [.agg x.enc] h (Pure1 (.int .i64 x.depth) h) := by
  intro hs h
  refine AC.pure Tryd.func44 rfl Tryd.ntmps44 (by show 1 ≤ 20; decide) ?_
  refine Ev.sound 100 _ _ _ _ ?_
  simp only [argFr, enc_eq]
  simp only [wx, Nat.reduceAdd, Nat.reduceEqDiff, Nat.reduceLT, Nat.reduceMul, Nat.reduceLeDiff, Int.reduceEq, ↓reduceIte, reduceCtorEq, ne_eq, implies_true, if_true, if_false, ite_not, Tryd.ntmps44]
  refine Stop.round (σ := Nat) (fun k => x.kids.length - k) (fun k => [(3, .int .i64 (depths (x.kids.take k))), (7, kslice 4 (x.kids.map Node.enc)), (8, .int .i64 x.kids.length), (9, .int .i64 k)]) (fun k h1 => k ≤ x.kids.length ∧ Ext h h1) 0 ⟨Nat.zero_le _, (Ext.refl _).alloc _⟩ ?_ ?_
  · simp only [wx, Nat.reduceAdd, Nat.reduceEqDiff, Nat.reduceLT, Nat.reduceMul, Nat.reduceLeDiff, Int.reduceEq, ↓reduceIte, reduceCtorEq, ne_eq, implies_true, if_true, if_false, ite_not, depths, List.length_map, Int.ofNat_zero, Int.natCast_zero]
  intro k h1 ⟨hk, hx⟩ next
  refine Ev.sound 100 _ _ _ _ ?_
  have hkl := kids_size x
  rcases turn x.kids k hk with ⟨y, hy, hmem, hlt, c1, c2⟩ | ⟨rfl, c1⟩
  · have hys := kid_size hmem
    have w1 := wrap_succ k (by omega)
    simp only [wx, Nat.reduceAdd, Nat.reduceEqDiff, Nat.reduceLT, Nat.reduceMul, Nat.reduceLeDiff, Int.reduceEq, ↓reduceIte, reduceCtorEq, ne_eq, implies_true, if_true, if_false, ite_not, Tryd.ntmps44, c1, c2, List.length_map, getD_map Node.enc hy, enc_eq y]
    refine Stop.fact (ac44 y (by omega) _) rfl rfl (by simp only [wx, Nat.reduceAdd, Nat.reduceEqDiff, Nat.reduceLT, Nat.reduceMul, Nat.reduceLeDiff, Int.reduceEq, ↓reduceIte, reduceCtorEq, ne_eq, implies_true, if_true, if_false, ite_not, Tryd.ntmps44]) rfl en_44 (by simp only [wx, Nat.reduceAdd, Nat.reduceEqDiff, Nat.reduceLT, Nat.reduceMul, Nat.reduceLeDiff, Int.reduceEq, ↓reduceIte, reduceCtorEq, ne_eq, implies_true, if_true, if_false, ite_not, enc_eq y, fgt_mapenc]) ?_
    refine Ev.sound 100 _ _ _ _ ?_
    simp only [wx, Nat.reduceAdd, Nat.reduceEqDiff, Nat.reduceLT, Nat.reduceMul, Nat.reduceLeDiff, Int.reduceEq, ↓reduceIte, reduceCtorEq, ne_eq, implies_true, if_true, if_false, ite_not, Tryd.ntmps44, Bool.true_eq_false, imax, w1]
    exact next (k + 1) _ _ (by omega) ⟨hlt, hx.alloc _⟩ (by simp only [wx, Nat.reduceAdd, Nat.reduceEqDiff, Nat.reduceLT, Nat.reduceMul, Nat.reduceLeDiff, Int.reduceEq, ↓reduceIte, reduceCtorEq, ne_eq, implies_true, if_true, if_false, ite_not, take_snoc _ _ _ hy, depths_snoc])
  · have hd := depth_eq x
    have hl := depth_le x
    have w1 := wrap_succ (depths x.kids) (by omega)
    simp only [wx, Nat.reduceAdd, Nat.reduceEqDiff, Nat.reduceLT, Nat.reduceMul, Nat.reduceLeDiff, Int.reduceEq, ↓reduceIte, reduceCtorEq, ne_eq, implies_true, if_true, if_false, ite_not, Tryd.ntmps44, c1, Bool.false_eq_true, List.take_length, w1]
    exact Leave.pure rfl (by simp only [wx, Nat.reduceAdd, Nat.reduceEqDiff, Nat.reduceLT, Nat.reduceMul, Nat.reduceLeDiff, Int.reduceEq, ↓reduceIte, reduceCtorEq, ne_eq, implies_true, if_true, if_false, ite_not, hd]) hx rfl
 termination_by x.size
theorem ac45 (x : Node) : x.size ≤ 1048576 → ∀ h : AHeap, AC sd 45 [.agg x.enc] h (Pure1 (.int .i64 x.size) h) := by
  intro hs h
  refine AC.pure Tryd.func45 rfl Tryd.ntmps45 (by show 1 ≤ 19; decide) ?_
  refine Ev.sound 100 _ _ _ _ ?_
  simp only [argFr, enc_eq]
  simp only [wx, Nat.reduceAdd, Nat.reduceEqDiff, Nat.reduceLT, Nat.reduceMul, Nat.reduceLeDiff, Int.reduceEq, ↓reduceIte, reduceCtorEq, ne_eq, implies_true, if_true, if_false, ite_not, Tryd.ntmps45]
  refine Stop.round (σ := Nat) (fun k => x.kids.length - k) (fun k => [(3, .int .i64 ((sizes (x.kids.take k) + 1 : Nat) : Int)), (7, kslice 4 (x.kids.map Node.enc)), (8, .int .i64 x.kids.length), (9, .int .i64 k)]) (fun k h1 => k ≤ x.kids.length ∧ Ext h h1) 0 ⟨Nat.zero_le _, (Ext.refl _).alloc _⟩ ?_ ?_
  · simp only [wx, Nat.reduceAdd, Nat.reduceEqDiff, Nat.reduceLT, Nat.reduceMul, Nat.reduceLeDiff, Int.reduceEq, ↓reduceIte, reduceCtorEq, ne_eq, implies_true, if_true, if_false, ite_not, sizes, List.length_map, Int.ofNat_zero, Int.natCast_zero]
    simp
  intro k h1 ⟨hk, hx⟩ next
  refine Ev.sound 100 _ _ _ _ ?_
  have hkl := kids_size x
  have hsk := size_kids x
  have htk := sizes_take x.kids k
  rcases turn x.kids k hk with ⟨y, hy, hmem, hlt, c1, c2⟩ | ⟨rfl, c1⟩
  · have hys := kid_size hmem
    have w1 := wrap_succ k (by omega)
    have e1 : sizes (x.kids.take (k + 1)) + 1 = sizes (x.kids.take k) + (1 + y.size) := by rw [take_snoc _ _ _ hy, sizes_snoc]; omega
    have ht1 := sizes_take x.kids (k + 1)
    have w2 := wrap_add (sizes (x.kids.take k) + 1) y.size (by omega)
    simp only [wx, Nat.reduceAdd, Nat.reduceEqDiff, Nat.reduceLT, Nat.reduceMul, Nat.reduceLeDiff, Int.reduceEq, ↓reduceIte, reduceCtorEq, ne_eq, implies_true, if_true, if_false, ite_not, Tryd.ntmps45, c1, c2, List.length_map, getD_map Node.enc hy, enc_eq y]
    refine Stop.fact (ac45 y (by omega) _) rfl rfl (by simp only [wx, Nat.reduceAdd, Nat.reduceEqDiff, Nat.reduceLT, Nat.reduceMul, Nat.reduceLeDiff, Int.reduceEq, ↓reduceIte, reduceCtorEq, ne_eq, implies_true, if_true, if_false, ite_not, Tryd.ntmps45]) rfl en_45 (by simp only [wx, Nat.reduceAdd, Nat.reduceEqDiff, Nat.reduceLT, Nat.reduceMul, Nat.reduceLeDiff, Int.reduceEq, ↓reduceIte, reduceCtorEq, ne_eq, implies_true, if_true, if_false, ite_not, enc_eq y, fgt_mapenc]) ?_
    refine Ev.sound 100 _ _ _ _ ?_
    simp only [wx, Nat.reduceAdd, Nat.reduceEqDiff, Nat.reduceLT, Nat.reduceMul, Nat.reduceLeDiff, Int.reduceEq, ↓reduceIte, reduceCtorEq, ne_eq, implies_true, if_true, if_false, ite_not, Tryd.ntmps45, Bool.true_eq_false, w1, w2]
    exact next (k + 1) _ _ (by omega) ⟨hlt, hx.alloc _⟩ (by simp only [wx, Nat.reduceAdd, Nat.reduceEqDiff, Nat.reduceLT, Nat.reduceMul, Nat.reduceLeDiff, Int.reduceEq, ↓reduceIte, reduceCtorEq, ne_eq, implies_true, if_true, if_false, ite_not, e1])
  · simp only [wx, Nat.reduceAdd, Nat.reduceEqDiff, Nat.reduceLT, Nat.reduceMul, Nat.reduceLeDiff, Int.reduceEq, ↓reduceIte, reduceCtorEq, ne_eq, implies_true, if_true, if_false, ite_not, Tryd.ntmps45, c1, Bool.false_eq_true, List.take_length]
    exact Leave.pure rfl (by simp only [wx, Nat.reduceAdd, Nat.reduceEqDiff, Nat.reduceLT, Nat.reduceMul, Nat.reduceLeDiff, Int.reduceEq, ↓reduceIte, reduceCtorEq, ne_eq, implies_true, if_true, if_false, ite_not, hsk]) hx rfl
 termination_by x.size
theorem ac46 (x : Node) : x.size ≤ 1048576 → ∀ h : AHeap, AC sd 46 [.agg x.enc] h (Pure1 (.int .i64 x.depth) h) := by
  intro hs h
  refine AC.pure Tryd.func46 rfl Tryd.ntmps46 (by show 1 ≤ 22; decide) ?_
  refine Ev.sound 100 _ _ _ _ ?_
  simp only [argFr, enc_eq]
  simp only [wx, Nat.reduceAdd, Nat.reduceEqDiff, Nat.reduceLT, Nat.reduceMul, Nat.reduceLeDiff, Int.reduceEq, ↓reduceIte, reduceCtorEq, ne_eq, implies_true, if_true, if_false, ite_not, Tryd.ntmps46]
  refine Stop.round (σ := Nat) (fun k => x.kids.length - k) (fun k => [(1, .ptr h.next 0), (3, .int .i64 (depths (x.kids.take k))), (4, .int .i64 k)]) (fun k h1 => k ≤ x.kids.length ∧ h1 = h.alloc (.cells [.int .u8 x.kind, .int .i64 x.num, .str x.name, kslice 4 (x.kids.map Node.enc)])) 0 ⟨Nat.zero_le _, rfl⟩ ?_ ?_
  · simp only [wx, Nat.reduceAdd, Nat.reduceEqDiff, Nat.reduceLT, Nat.reduceMul, Nat.reduceLeDiff, Int.reduceEq, ↓reduceIte, reduceCtorEq, ne_eq, implies_true, if_true, if_false, ite_not, depths, Int.ofNat_zero, Int.natCast_zero]
  rintro k _ ⟨hk, rfl⟩ next
  refine Ev.sound 100 _ _ _ _ ?_
  have hkl := kids_size x
  rcases turn x.kids k hk with ⟨y, hy, hmem, hlt, c1, c2⟩ | ⟨rfl, c1⟩
  · have hys := kid_size hmem
    have w1 := wrap_succ k (by omega)
    simp only [wx, Nat.reduceAdd, Nat.reduceEqDiff, Nat.reduceLT, Nat.reduceMul, Nat.reduceLeDiff, Int.reduceEq, ↓reduceIte, reduceCtorEq, ne_eq, implies_true, if_true, if_false, ite_not, Tryd.ntmps46, c1, c2, List.length_map, getD_map Node.enc hy, enc_eq y]
    refine Stop.fact (ac46 y (by omega) _) rfl rfl (by simp only [wx, Nat.reduceAdd, Nat.reduceEqDiff, Nat.reduceLT, Nat.reduceMul, Nat.reduceLeDiff, Int.reduceEq, ↓reduceIte, reduceCtorEq, ne_eq, implies_true, if_true, if_false, ite_not, Tryd.ntmps46]) rfl en_46 (by simp only [wx, Nat.reduceAdd, Nat.reduceEqDiff, Nat.reduceLT, Nat.reduceMul, Nat.reduceLeDiff, Int.reduceEq, ↓reduceIte, reduceCtorEq, ne_eq, implies_true, if_true, if_false, ite_not, enc_eq y, fgt_mapenc]) ?_
    refine Ev.sound 100 _ _ _ _ ?_
    simp only [wx, Nat.reduceAdd, Nat.reduceEqDiff, Nat.reduceLT, Nat.reduceMul, Nat.reduceLeDiff, Int.reduceEq, ↓reduceIte, reduceCtorEq, ne_eq, implies_true, if_true, if_false, ite_not, Tryd.ntmps46, Bool.true_eq_false, imax, w1]
    exact next (k + 1) _ _ (by omega) ⟨hlt, rfl⟩ (by simp only [wx, Nat.reduceAdd, Nat.reduceEqDiff, Nat.reduceLT, Nat.reduceMul, Nat.reduceLeDiff, Int.reduceEq, ↓reduceIte, reduceCtorEq, ne_eq, implies_true, if_true, if_false, ite_not, take_snoc _ _ _ hy, depths_snoc])
  · have hd := depth_eq x
    have hl := depth_le x
    have w1 := wrap_succ (depths x.kids) (by omega)
    simp only [wx, Nat.reduceAdd, Nat.reduceEqDiff, Nat.reduceLT, Nat.reduceMul, Nat.reduceLeDiff, Int.reduceEq, ↓reduceIte, reduceCtorEq, ne_eq, implies_true, if_true, if_false, ite_not, Tryd.ntmps46, c1, List.length_map, Bool.false_eq_true, List.take_length, w1]
    exact Leave.pure rfl (by simp only [wx, Nat.reduceAdd, Nat.reduceEqDiff, Nat.reduceLT, Nat.reduceMul, Nat.reduceLeDiff, Int.reduceEq, ↓reduceIte, reduceCtorEq, ne_eq, implies_true, if_true, if_false, ite_not, hd]) ((Ext.refl _).alloc _) rfl
 termination_by x.size
theorem ac47 (x : Node) : x.size ≤ 1048576 → ∀ h : AHeap, AC sd 47 [.agg x.enc] h (Pure1 (.int .i64 x.size) h) := by
  intro hs h
  refine AC.pure Tryd.func47 rfl Tryd.ntmps47 (by show 1 ≤ 21; decide) ?_
  refine Ev.sound 100 _ _ _ _ ?_
  simp only [argFr, enc_eq]
  simp only [wx, Nat.reduceAdd, Nat.reduceEqDiff, Nat.reduceLT, Nat.reduceMul, Nat.reduceLeDiff, Int.reduceEq, ↓reduceIte, reduceCtorEq, ne_eq, implies_true, if_true, if_false, ite_not, Tryd.ntmps47]
  refine Stop.round (σ := Nat) (fun k => x.kids.length - k) (fun k => [(1, .ptr h.next 0), (3, .int .i64 ((sizes (x.kids.take k) + 1 : Nat) : Int)), (4, .int .i64 k)]) (fun k h1 => k ≤ x.kids.length ∧ h1 = h.alloc (.cells [.int .u8 x.kind, .int .i64 x.num, .str x.name, kslice 4 (x.kids.map Node.enc)])) 0 ⟨Nat.zero_le _, rfl⟩ ?_ ?_
  · simp only [wx, Nat.reduceAdd, Nat.reduceEqDiff, Nat.reduceLT, Nat.reduceMul, Nat.reduceLeDiff, Int.reduceEq, ↓reduceIte, reduceCtorEq, ne_eq, implies_true, if_true, if_false, ite_not, sizes, Int.ofNat_zero, Int.natCast_zero]
    simp
  rintro k _ ⟨hk, rfl⟩ next
  refine Ev.sound 100 _ _ _ _ ?_
  have hkl := kids_size x
  have hsk := size_kids x
  rcases turn x.kids k hk with ⟨y, hy, hmem, hlt, c1, c2⟩ | ⟨rfl, c1⟩
  · have hys := kid_size hmem
    have w1 := wrap_succ k (by omega)
    have e1 : sizes (x.kids.take (k + 1)) + 1 = sizes (x.kids.take k) + (1 + y.size) := by rw [take_snoc _ _ _ hy, sizes_snoc]; omega
    have ht1 := sizes_take x.kids (k + 1)
    have w2 := wrap_add (sizes (x.kids.take k) + 1) y.size (by omega)
    simp only [wx, Nat.reduceAdd, Nat.reduceEqDiff, Nat.reduceLT, Nat.reduceMul, Nat.reduceLeDiff, Int.reduceEq, ↓reduceIte, reduceCtorEq, ne_eq, implies_true, if_true, if_false, ite_not, Tryd.ntmps47, c1, c2, List.length_map, getD_map Node.enc hy, enc_eq y]
    refine Stop.fact (ac47 y (by omega) _) rfl rfl (by simp only [wx, Nat.reduceAdd, Nat.reduceEqDiff, Nat.reduceLT, Nat.reduceMul, Nat.reduceLeDiff, Int.reduceEq, ↓reduceIte, reduceCtorEq, ne_eq, implies_true, if_true, if_false, ite_not, Tryd.ntmps47]) rfl en_47 (by simp only [wx, Nat.reduceAdd, Nat.reduceEqDiff, Nat.reduceLT, Nat.reduceMul, Nat.reduceLeDiff, Int.reduceEq, ↓reduceIte, reduceCtorEq, ne_eq, implies_true, if_true, if_false, ite_not, enc_eq y, fgt_mapenc]) ?_
    refine Ev.sound 100 _ _ _ _ ?_
    simp only [wx, Nat.reduceAdd, Nat.reduceEqDiff, Nat.reduceLT, Nat.reduceMul, Nat.reduceLeDiff, Int.reduceEq, ↓reduceIte, reduceCtorEq, ne_eq, implies_true, if_true, if_false, ite_not, Tryd.ntmps47, Bool.true_eq_false, w1, w2]
    exact next (k + 1) _ _ (by omega) ⟨hlt, rfl⟩ (by simp only [wx, Nat.reduceAdd, Nat.reduceEqDiff, Nat.reduceLT, Nat.reduceMul, Nat.reduceLeDiff, Int.reduceEq, ↓reduceIte, reduceCtorEq, ne_eq, implies_true, if_true, if_false, ite_not, e1])
  · simp only [wx, Nat.reduceAdd, Nat.reduceEqDiff, Nat.reduceLT, Nat.reduceMul, Nat.reduceLeDiff, Int.reduceEq, ↓reduceIte, reduceCtorEq, ne_eq, implies_true, if_true, if_false, ite_not, Tryd.ntmps47, c1, List.length_map, Bool.false_eq_true, List.take_length]
    exact Leave.pure rfl (by simp only [wx, Nat.reduceAdd, Nat.reduceEqDiff, Nat.reduceLT, Nat.reduceMul, Nat.reduceLeDiff, Int.reduceEq, ↓reduceIte, reduceCtorEq, ne_eq, implies_true, if_true, if_false, ite_not, hsk]) ((Ext.refl _).alloc _) rfl
 termination_by x.size
end Go.Proofs.YtajknofacjiddaaDoor.Abs

/- one -/
namespace Go.Proofs.YtajknofacjiddaaDoor.Abs
open Go Go.RowKit
set_option linter.unusedSimpArgs false
set_option linter.unusedVariables false
set_option maxHeartbeats 4000000
set_option maxRecDepth 100000
def pnames (ps : List Param) : List ByteArray := ps.map (·.name)
def dupB (l : List ByteArray) : Bool := decide (¬ l.Nodup)
def checkOne (lib : List Fn) (f : Fn) : Int :=
  if (checkE lib f.params f.body).2 = 0 ∧ (checkE lib f.params f.body).1 ≠ f.list then 7 else (checkE lib f.params f.body).2
def bodyOne (lib : List Fn) (f : Fn) : Int :=
  if dupB (pnames f.params) = true then 22 else if formB f.body = false then 3 else if 80 < f.body.depth then 19 else if 2000 < f.body.size then 5 else checkOne lib f
def oneE (lib : List Fn) (i : Nat) (f : Fn) : Int :=
  if 30 ≤ i then 5 else if nameB f.name = false then 3 else if find lib f.name < i then 22 else if 8 < f.params.length then 5 else
  if (f.params.all fun p => nameB p.name) = false then 3 else bodyOne lib f
structure FnOk (f : Fn) : Prop where
  name : f.name.size ≤ 1099511627776
  params : f.params.length ≤ 1048576
  names : ∀ p ∈ f.params, p.name.size ≤ 1099511627776
  body : f.body.wf
def has (l : List ByteArray) (a : ByteArray) : Bool := l.any fun b => decide (b = a)
theorem has_iff {l : List ByteArray} {a : ByteArray} : has l a = true ↔ a ∈ l := by
  unfold has
  simp
theorem has_snoc (l : List ByteArray) (a s : ByteArray) : has (l ++ [a]) s = (has l s || decide (a = s)) := by
  unfold has
  simp
theorem dup_snoc (l : List ByteArray) (a : ByteArray) : dupB (l ++ [a]) = (dupB l || has l a) := by
  unfold dupB
  rw [Bool.eq_iff_iff]
  simp only [decide_eq_true_eq, Bool.or_eq_true, List.nodup_append, has_iff]
  constructor
  · intro h
    by_cases q : a ∈ l
    · exact .inr q
    · refine .inl fun hn => h ⟨hn, by simp, fun x hx y hy => ?_⟩
      simp at hy
      subst hy
      exact fun e => q (e ▸ hx)
  · rintro (h | h)
    · exact fun k => h k.1
    · exact fun k => k.2.2 a h a (by simp) rfl
/-- Which names have been seen. -/
def seenE (l : List ByteArray) : Env := fun s => if has l s = true then some true else none
theorem seen_snoc (l : List ByteArray) (a : ByteArray) : seenE (l ++ [a]) = envPut (seenE l) a true := by
  funext s
  unfold seenE envPut
  rw [has_snoc]
  by_cases q : s = a
  · subst q; simp
  · have q' : ¬ a = s := fun e => q e.symm
    simp [q, q']
theorem seen_get (l : List ByteArray) (a : ByteArray) : (seenE l a).getD false = has l a := by
  unfold seenE
  by_cases q : has l a = true <;> simp [q]
theorem ac30 (lib : List Fn) (hlib : LibOk lib) (i : Nat) (f : Fn) (hf : lib[i]? = some f) (hok : FnOk f) (h : AHeap) : AC sd 30 [vlib lib, .int .i64 i] h (Pure1 (.int .i64 (oneE lib i f)) h) := by
  refine AC.pure Tryd.func30 rfl Tryd.ntmps30 (by show 2 ≤ 94; decide) ?_
  refine Ev.sound 100 _ _ _ _ ?_
  simp only [argFr, vlib]
  have hi : i < lib.length := (List.getElem?_eq_some_iff.1 hf).1
  have hl := hlib.len
  have c1 : (0 ≤ (i : Int)) = True := by simp
  have c2 : ((i : Int) < (lib.length : Int)) = True := by simp; omega
  have hE0 : ∀ v, Ext h (h.alloc v) := fun v => (Ext.refl h).alloc v
  simp only [wy, Nat.reduceAdd, Nat.reduceEqDiff, Nat.reduceLT, Nat.reduceMul, Nat.reduceLeDiff, Int.reduceEq, ↓reduceIte, reduceCtorEq, ne_eq, implies_true, if_true, if_false, ite_not, eq_self, Tryd.ntmps30, c1, c2, List.length_map, getD_map Fn.enc hf, fenc_eq f]
  refine EvC.part (fun a1 => ?_) (fun a1 => ?_)
  · have hn : oneE lib i f = 5 := by unfold oneE; rw [if_pos (by have := of_decide_eq_true a1; omega)]
    simp only [wy, Nat.reduceAdd, Nat.reduceEqDiff, Nat.reduceLT, Nat.reduceMul, Nat.reduceLeDiff, Int.reduceEq, ↓reduceIte, reduceCtorEq, ne_eq, implies_true, if_true, if_false, ite_not, eq_self, Tryd.ntmps30]
    exact Leave.pures rfl (by simp only [wy, Nat.reduceAdd, Nat.reduceEqDiff, Nat.reduceLT, Nat.reduceMul, Nat.reduceLeDiff, Int.reduceEq, ↓reduceIte, reduceCtorEq, ne_eq, implies_true, if_true, if_false, ite_not, eq_self, oneOf, hn] <;> rfl) (hE0 _) rfl
  simp only [wy, Nat.reduceAdd, Nat.reduceEqDiff, Nat.reduceLT, Nat.reduceMul, Nat.reduceLeDiff, Int.reduceEq, ↓reduceIte, reduceCtorEq, ne_eq, implies_true, if_true, if_false, ite_not, eq_self, Tryd.ntmps30, a1]
  refine Stop.fact (ac43 f.name hok.name _) rfl (by first | rfl | simp only [wy, Nat.reduceAdd, Nat.reduceEqDiff, Nat.reduceLT, Nat.reduceMul, Nat.reduceLeDiff, Int.reduceEq, ↓reduceIte, reduceCtorEq, ne_eq, implies_true, if_true, if_false, ite_not, eq_self, Tryd.ntmps30]) (by simp only [wy, Nat.reduceAdd, Nat.reduceEqDiff, Nat.reduceLT, Nat.reduceMul, Nat.reduceLeDiff, Int.reduceEq, ↓reduceIte, reduceCtorEq, ne_eq, implies_true, if_true, if_false, ite_not, eq_self, Tryd.ntmps30]) (caps := []) (by simp only [wy, Nat.reduceAdd, Nat.reduceEqDiff, Nat.reduceLT, Nat.reduceMul, Nat.reduceLeDiff, Int.reduceEq, ↓reduceIte, reduceCtorEq, ne_eq, implies_true, if_true, if_false, ite_not, eq_self]) en_43 (by simp only [wy, Nat.reduceAdd, Nat.reduceEqDiff, Nat.reduceLT, Nat.reduceMul, Nat.reduceLeDiff, Int.reduceEq, ↓reduceIte, reduceCtorEq, ne_eq, implies_true, if_true, if_false, ite_not, eq_self] <;> rfl) (Ev.sound 100 _ _ _ _ ?_)
  simp only [wy, Nat.reduceAdd, Nat.reduceEqDiff, Nat.reduceLT, Nat.reduceMul, Nat.reduceLeDiff, Int.reduceEq, ↓reduceIte, reduceCtorEq, ne_eq, implies_true, if_true, if_false, ite_not, eq_self, Tryd.ntmps30]
  cases a2 : nameB f.name
  · have hn : oneE lib i f = 3 := by unfold oneE; rw [if_neg (by have := of_decide_eq_false a1; omega), if_pos a2]
    simp only [wy, Nat.reduceAdd, Nat.reduceEqDiff, Nat.reduceLT, Nat.reduceMul, Nat.reduceLeDiff, Int.reduceEq, ↓reduceIte, reduceCtorEq, ne_eq, implies_true, if_true, if_false, ite_not, eq_self, Tryd.ntmps30]
    exact Leave.pures rfl (by simp only [wy, Nat.reduceAdd, Nat.reduceEqDiff, Nat.reduceLT, Nat.reduceMul, Nat.reduceLeDiff, Int.reduceEq, ↓reduceIte, reduceCtorEq, ne_eq, implies_true, if_true, if_false, ite_not, eq_self, oneOf, hn] <;> rfl) (hE0 _) rfl
  simp only [wy, Nat.reduceAdd, Nat.reduceEqDiff, Nat.reduceLT, Nat.reduceMul, Nat.reduceLeDiff, Int.reduceEq, ↓reduceIte, reduceCtorEq, ne_eq, implies_true, if_true, if_false, ite_not, eq_self, Tryd.ntmps30]
  refine Stop.fact (ac20 lib f.name hl _) rfl (by first | rfl | simp only [wy, Nat.reduceAdd, Nat.reduceEqDiff, Nat.reduceLT, Nat.reduceMul, Nat.reduceLeDiff, Int.reduceEq, ↓reduceIte, reduceCtorEq, ne_eq, implies_true, if_true, if_false, ite_not, eq_self, Tryd.ntmps30, vlib, fgt_mapfenc]) (by simp only [wy, Nat.reduceAdd, Nat.reduceEqDiff, Nat.reduceLT, Nat.reduceMul, Nat.reduceLeDiff, Int.reduceEq, ↓reduceIte, reduceCtorEq, ne_eq, implies_true, if_true, if_false, ite_not, eq_self, Tryd.ntmps30]) (caps := []) (by simp only [wy, Nat.reduceAdd, Nat.reduceEqDiff, Nat.reduceLT, Nat.reduceMul, Nat.reduceLeDiff, Int.reduceEq, ↓reduceIte, reduceCtorEq, ne_eq, implies_true, if_true, if_false, ite_not, eq_self, vlib, fgt_mapfenc]) en_20 (by simp only [wy, Nat.reduceAdd, Nat.reduceEqDiff, Nat.reduceLT, Nat.reduceMul, Nat.reduceLeDiff, Int.reduceEq, ↓reduceIte, reduceCtorEq, ne_eq, implies_true, if_true, if_false, ite_not, eq_self, vlib, fgt_mapfenc] <;> rfl) (Ev.sound 100 _ _ _ _ ?_)
  simp only [wy, Nat.reduceAdd, Nat.reduceEqDiff, Nat.reduceLT, Nat.reduceMul, Nat.reduceLeDiff, Int.reduceEq, ↓reduceIte, reduceCtorEq, ne_eq, implies_true, if_true, if_false, ite_not, eq_self, Tryd.ntmps30]
  refine EvC.part (fun a3 => ?_) (fun a3 => ?_)
  · have hn : oneE lib i f = 22 := by unfold oneE; rw [if_neg (by have := of_decide_eq_false a1; omega), if_neg (by simp [a2]), if_pos (of_decide_eq_true a3)]
    simp only [wy, Nat.reduceAdd, Nat.reduceEqDiff, Nat.reduceLT, Nat.reduceMul, Nat.reduceLeDiff, Int.reduceEq, ↓reduceIte, reduceCtorEq, ne_eq, implies_true, if_true, if_false, ite_not, eq_self, Tryd.ntmps30]
    exact Leave.pures rfl (by simp only [wy, Nat.reduceAdd, Nat.reduceEqDiff, Nat.reduceLT, Nat.reduceMul, Nat.reduceLeDiff, Int.reduceEq, ↓reduceIte, reduceCtorEq, ne_eq, implies_true, if_true, if_false, ite_not, eq_self, oneOf, hn] <;> rfl) (hE0 _) rfl
  simp only [wy, Nat.reduceAdd, Nat.reduceEqDiff, Nat.reduceLT, Nat.reduceMul, Nat.reduceLeDiff, Int.reduceEq, ↓reduceIte, reduceCtorEq, ne_eq, implies_true, if_true, if_false, ite_not, eq_self, Tryd.ntmps30, a3, List.length_map]
  refine EvC.part (fun a4 => ?_) (fun a4 => ?_)
  · have hn : oneE lib i f = 5 := by
      unfold oneE
      rw [if_neg (by have := of_decide_eq_false a1; omega), if_neg (by simp [a2]), if_neg (of_decide_eq_false a3), if_pos (by have := of_decide_eq_true a4; omega)]
    simp only [wy, Nat.reduceAdd, Nat.reduceEqDiff, Nat.reduceLT, Nat.reduceMul, Nat.reduceLeDiff, Int.reduceEq, ↓reduceIte, reduceCtorEq, ne_eq, implies_true, if_true, if_false, ite_not, eq_self, Tryd.ntmps30]
    exact Leave.pures rfl (by simp only [wy, Nat.reduceAdd, Nat.reduceEqDiff, Nat.reduceLT, Nat.reduceMul, Nat.reduceLeDiff, Int.reduceEq, ↓reduceIte, reduceCtorEq, ne_eq, implies_true, if_true, if_false, ite_not, eq_self, oneOf, hn] <;> rfl) (hE0 _) rfl
  have hn0 : oneE lib i f = if (f.params.all fun p => nameB p.name) = false then 3 else bodyOne lib f := by
    unfold oneE
    rw [if_neg (by have := of_decide_eq_false a1; omega), if_neg (by simp [a2]), if_neg (of_decide_eq_false a3), if_neg (by have := of_decide_eq_false a4; omega)]
  simp only [wy, Nat.reduceAdd, Nat.reduceEqDiff, Nat.reduceLT, Nat.reduceMul, Nat.reduceLeDiff, Int.reduceEq, ↓reduceIte, reduceCtorEq, ne_eq, implies_true, if_true, if_false, ite_not, eq_self, Tryd.ntmps30]
  have hp := hok.params
  have hcell : AObj.cells [.str f.name, kslice 2 (f.params.map Param.enc), .bool f.list, .int .u8 f.body.kind, .int .i64 f.body.num, .str f.body.name, kslice 4 (f.body.kids.map Node.enc)] = .cells f.enc := by rw [fenc_eq]
  refine Stop.round (σ := Nat) (fun k => f.params.length - k) (fun k => [(0, kslice 7 (lib.map Fn.enc)), (1, .int .i64 i), (5, .ptr h.next 0), (6, .map (h.next + 1)), (7, .bool (dupB ((pnames f.params).take k))), (38, kslice 2 (f.params.map Param.enc)), (39, .int .i64 f.params.length), (40, .int .i64 k)])
    (fun k h1 => k ≤ f.params.length ∧ ((f.params.take k).all fun p => nameB p.name) = true ∧ ∃ clk es, EMap es (seenE ((pnames f.params).take k)) ∧ Ext ((h.alloc (.cells f.enc)).alloc (.map clk es)) h1) 0 ⟨Nat.zero_le _, rfl, 0, [], .nil, ?_⟩ ?_ ?_
  · rw [hcell]; exact Ext.refl _
  · simp only [wy, Nat.reduceAdd, Nat.reduceEqDiff, Nat.reduceLT, Nat.reduceMul, Nat.reduceLeDiff, Int.reduceEq, ↓reduceIte, reduceCtorEq, ne_eq, implies_true, if_true, if_false, ite_not, eq_self, Tryd.ntmps30, List.length_map, Int.ofNat_zero, Int.natCast_zero, List.take_zero]; rfl
  rintro k h1 ⟨hk, hall, clk, es, hE, hx⟩ next
  have hf1 : h1.get h.next = some (.cells f.enc) := by rw [hx.get _ (by simp only [wy, Nat.reduceAdd, Nat.reduceEqDiff, Nat.reduceLT, Nat.reduceMul, Nat.reduceLeDiff, Int.reduceEq, ↓reduceIte, reduceCtorEq, ne_eq, implies_true, if_true, if_false, ite_not, eq_self, Tryd.ntmps30])]; simp only [wy, Nat.reduceAdd, Nat.reduceEqDiff, Nat.reduceLT, Nat.reduceMul, Nat.reduceLeDiff, Int.reduceEq, ↓reduceIte, reduceCtorEq, ne_eq, implies_true, if_true, if_false, ite_not, eq_self, Tryd.ntmps30]
  rw [fenc_eq] at hf1
  have hm1 : h1.get (h.next + 1) = some (.map clk es) := by rw [hx.get _ (by simp only [wy, Nat.reduceAdd, Nat.reduceEqDiff, Nat.reduceLT, Nat.reduceMul, Nat.reduceLeDiff, Int.reduceEq, ↓reduceIte, reduceCtorEq, ne_eq, implies_true, if_true, if_false, ite_not, eq_self, Tryd.ntmps30])]; simp only [wy, Nat.reduceAdd, Nat.reduceEqDiff, Nat.reduceLT, Nat.reduceMul, Nat.reduceLeDiff, Int.reduceEq, ↓reduceIte, reduceCtorEq, ne_eq, implies_true, if_true, if_false, ite_not, eq_self, Tryd.ntmps30]
  have n1 : (h.next + 1 = h1.next) = False := by have := get_lt h1 _ hm1; simp; omega
  have n2 : (h.next = h1.next) = False := by have := get_lt h1 _ hm1; simp; omega
  have hh : Ext h h1 := ((Ext.refl h).alloc _).alloc _ |>.trans hx
  refine Ev.sound 100 _ _ _ _ ?_
  rcases turn f.params k hk with ⟨y, hy, hmem, hlt, c1, c2⟩ | ⟨hkk, c1⟩
  · have w1 := wrap_succ k (by omega)
    have hty : (f.params.take (k + 1)) = f.params.take k ++ [y] := take_snoc _ _ _ hy
    have hny : (pnames f.params).take (k + 1) = (pnames f.params).take k ++ [y.name] := take_snoc _ _ _ (by unfold pnames; rw [List.getElem?_map, hy]; rfl)
    obtain ⟨clk', es', hp, hE'⟩ := hE.put clk y.name true
    rw [← seen_snoc, ← hny] at hE'
    have hlk := hE.look1 clk y.name
    rw [seen_get] at hlk
    have hd := dup_snoc ((pnames f.params).take k) y.name
    rw [← hny] at hd
    simp only [wy, Nat.reduceAdd, Nat.reduceEqDiff, Nat.reduceLT, Nat.reduceMul, Nat.reduceLeDiff, Int.reduceEq, ↓reduceIte, reduceCtorEq, ne_eq, implies_true, if_true, if_false, ite_not, eq_self, Tryd.ntmps30, c1, c2, List.length_map, getD_map Param.enc hy, penc_eq, n1, n2]
    refine Stop.fact (ac43 y.name (hok.names y hmem) _) rfl (by first | rfl | simp only [wy, Nat.reduceAdd, Nat.reduceEqDiff, Nat.reduceLT, Nat.reduceMul, Nat.reduceLeDiff, Int.reduceEq, ↓reduceIte, reduceCtorEq, ne_eq, implies_true, if_true, if_false, ite_not, eq_self, Tryd.ntmps30]) (by simp only [wy, Nat.reduceAdd, Nat.reduceEqDiff, Nat.reduceLT, Nat.reduceMul, Nat.reduceLeDiff, Int.reduceEq, ↓reduceIte, reduceCtorEq, ne_eq, implies_true, if_true, if_false, ite_not, eq_self, Tryd.ntmps30]) (caps := []) (by simp only [wy, Nat.reduceAdd, Nat.reduceEqDiff, Nat.reduceLT, Nat.reduceMul, Nat.reduceLeDiff, Int.reduceEq, ↓reduceIte, reduceCtorEq, ne_eq, implies_true, if_true, if_false, ite_not, eq_self]) en_43 (by simp only [wy, Nat.reduceAdd, Nat.reduceEqDiff, Nat.reduceLT, Nat.reduceMul, Nat.reduceLeDiff, Int.reduceEq, ↓reduceIte, reduceCtorEq, ne_eq, implies_true, if_true, if_false, ite_not, eq_self] <;> rfl) (Ev.sound 100 _ _ _ _ ?_)
    cases b1 : nameB y.name
    · have hn : oneE lib i f = 3 := by
        rw [hn0, if_pos]
        rw [← List.take_append_drop (k + 1) f.params, List.all_append, hty, List.all_append]
        simp [b1]
      simp only [wy, Nat.reduceAdd, Nat.reduceEqDiff, Nat.reduceLT, Nat.reduceMul, Nat.reduceLeDiff, Int.reduceEq, ↓reduceIte, reduceCtorEq, ne_eq, implies_true, if_true, if_false, ite_not, eq_self, Tryd.ntmps30]
      exact Leave.pures rfl (by simp only [wy, Nat.reduceAdd, Nat.reduceEqDiff, Nat.reduceLT, Nat.reduceMul, Nat.reduceLeDiff, Int.reduceEq, ↓reduceIte, reduceCtorEq, ne_eq, implies_true, if_true, if_false, ite_not, eq_self, oneOf, hn] <;> rfl) (hh.alloc _) rfl
    cases b2 : dupB ((pnames f.params).take k)
    · rw [b2, Bool.false_or] at hd
      simp only [wy, Nat.reduceAdd, Nat.reduceEqDiff, Nat.reduceLT, Nat.reduceMul, Nat.reduceLeDiff, Int.reduceEq, ↓reduceIte, reduceCtorEq, ne_eq, implies_true, if_true, if_false, ite_not, eq_self, Tryd.ntmps30, n1, n2, hm1, hlk, hp, w1]
      have hx2 := (hx.alloc (.cells [.str y.name, .bool y.list])).sets (m := h.next + 1) (by simp only [wy, Nat.reduceAdd, Nat.reduceEqDiff, Nat.reduceLT, Nat.reduceMul, Nat.reduceLeDiff, Int.reduceEq, ↓reduceIte, reduceCtorEq, ne_eq, implies_true, if_true, if_false, ite_not, eq_self, Tryd.ntmps30]) (.map clk' es')
      simp only [wy, Nat.reduceAdd, Nat.reduceEqDiff, Nat.reduceLT, Nat.reduceMul, Nat.reduceLeDiff, Int.reduceEq, ↓reduceIte, reduceCtorEq, ne_eq, implies_true, if_true, if_false, ite_not, eq_self, Tryd.ntmps30] at hx2
      exact next (k + 1) _ _ (by omega) ⟨hlt, by rw [hty, List.all_append, hall]; simp [b1], clk', es', hE', hx2⟩ (by simp only [wy, Nat.reduceAdd, Nat.reduceEqDiff, Nat.reduceLT, Nat.reduceMul, Nat.reduceLeDiff, Int.reduceEq, ↓reduceIte, reduceCtorEq, ne_eq, implies_true, if_true, if_false, ite_not, eq_self, Tryd.ntmps30, hd])
    · rw [b2, Bool.true_or] at hd
      simp only [wy, Nat.reduceAdd, Nat.reduceEqDiff, Nat.reduceLT, Nat.reduceMul, Nat.reduceLeDiff, Int.reduceEq, ↓reduceIte, reduceCtorEq, ne_eq, implies_true, if_true, if_false, ite_not, eq_self, Tryd.ntmps30, n1, n2, hm1, hlk, hp, w1]
      have hx2 := (hx.alloc (.cells [.str y.name, .bool y.list])).sets (m := h.next + 1) (by simp only [wy, Nat.reduceAdd, Nat.reduceEqDiff, Nat.reduceLT, Nat.reduceMul, Nat.reduceLeDiff, Int.reduceEq, ↓reduceIte, reduceCtorEq, ne_eq, implies_true, if_true, if_false, ite_not, eq_self, Tryd.ntmps30]) (.map clk' es')
      simp only [wy, Nat.reduceAdd, Nat.reduceEqDiff, Nat.reduceLT, Nat.reduceMul, Nat.reduceLeDiff, Int.reduceEq, ↓reduceIte, reduceCtorEq, ne_eq, implies_true, if_true, if_false, ite_not, eq_self, Tryd.ntmps30] at hx2
      exact next (k + 1) _ _ (by omega) ⟨hlt, by rw [hty, List.all_append, hall]; simp [b1], clk', es', hE', hx2⟩ (by simp only [wy, Nat.reduceAdd, Nat.reduceEqDiff, Nat.reduceLT, Nat.reduceMul, Nat.reduceLeDiff, Int.reduceEq, ↓reduceIte, reduceCtorEq, ne_eq, implies_true, if_true, if_false, ite_not, eq_self, Tryd.ntmps30, hd])
  · have hkn : (pnames f.params).take k = pnames f.params := List.take_of_length_le (by unfold pnames; rw [List.length_map]; omega)
    rw [hkn]
    rw [List.take_of_length_le (by omega)] at hall
    rw [if_neg (by rw [hall]; simp)] at hn0
    unfold bodyOne at hn0
    simp only [wy, Nat.reduceAdd, Nat.reduceEqDiff, Nat.reduceLT, Nat.reduceMul, Nat.reduceLeDiff, Int.reduceEq, ↓reduceIte, reduceCtorEq, ne_eq, implies_true, if_true, if_false, ite_not, eq_self, Tryd.ntmps30, c1]
    refine EvC.part (fun b1 => ?_) (fun b1 => ?_)
    · rw [if_pos b1] at hn0
      simp only [wy, Nat.reduceAdd, Nat.reduceEqDiff, Nat.reduceLT, Nat.reduceMul, Nat.reduceLeDiff, Int.reduceEq, ↓reduceIte, reduceCtorEq, ne_eq, implies_true, if_true, if_false, ite_not, eq_self, Tryd.ntmps30, b1]
      exact Leave.pures rfl (by simp only [wy, Nat.reduceAdd, Nat.reduceEqDiff, Nat.reduceLT, Nat.reduceMul, Nat.reduceLeDiff, Int.reduceEq, ↓reduceIte, reduceCtorEq, ne_eq, implies_true, if_true, if_false, ite_not, eq_self, oneOf, hn0] <;> rfl) (hh) rfl
    rw [if_neg (by rw [b1]; simp)] at hn0
    simp only [wy, Nat.reduceAdd, Nat.reduceEqDiff, Nat.reduceLT, Nat.reduceMul, Nat.reduceLeDiff, Int.reduceEq, ↓reduceIte, reduceCtorEq, ne_eq, implies_true, if_true, if_false, ite_not, eq_self, Tryd.ntmps30, b1, hf1]
    refine Stop.fact (ac32 f.body hok.body _) rfl (by first | rfl | simp only [wy, Nat.reduceAdd, Nat.reduceEqDiff, Nat.reduceLT, Nat.reduceMul, Nat.reduceLeDiff, Int.reduceEq, ↓reduceIte, reduceCtorEq, ne_eq, implies_true, if_true, if_false, ite_not, eq_self, Tryd.ntmps30, enc_eq, fgt_mapenc]) (by simp only [wy, Nat.reduceAdd, Nat.reduceEqDiff, Nat.reduceLT, Nat.reduceMul, Nat.reduceLeDiff, Int.reduceEq, ↓reduceIte, reduceCtorEq, ne_eq, implies_true, if_true, if_false, ite_not, eq_self, Tryd.ntmps30]) (caps := []) (by simp only [wy, Nat.reduceAdd, Nat.reduceEqDiff, Nat.reduceLT, Nat.reduceMul, Nat.reduceLeDiff, Int.reduceEq, ↓reduceIte, reduceCtorEq, ne_eq, implies_true, if_true, if_false, ite_not, eq_self, enc_eq, fgt_mapenc]) en_32 (by simp only [wy, Nat.reduceAdd, Nat.reduceEqDiff, Nat.reduceLT, Nat.reduceMul, Nat.reduceLeDiff, Int.reduceEq, ↓reduceIte, reduceCtorEq, ne_eq, implies_true, if_true, if_false, ite_not, eq_self, enc_eq, fgt_mapenc] <;> rfl) (Ev.sound 100 _ _ _ _ ?_)
    cases b2 : formB f.body
    · rw [if_pos b2] at hn0
      simp only [wy, Nat.reduceAdd, Nat.reduceEqDiff, Nat.reduceLT, Nat.reduceMul, Nat.reduceLeDiff, Int.reduceEq, ↓reduceIte, reduceCtorEq, ne_eq, implies_true, if_true, if_false, ite_not, eq_self, Tryd.ntmps30]
      exact Leave.pures rfl (by simp only [wy, Nat.reduceAdd, Nat.reduceEqDiff, Nat.reduceLT, Nat.reduceMul, Nat.reduceLeDiff, Int.reduceEq, ↓reduceIte, reduceCtorEq, ne_eq, implies_true, if_true, if_false, ite_not, eq_self, oneOf, hn0] <;> rfl) (hh) rfl
    rw [if_neg (by rw [b2]; simp)] at hn0
    simp only [wy, Nat.reduceAdd, Nat.reduceEqDiff, Nat.reduceLT, Nat.reduceMul, Nat.reduceLeDiff, Int.reduceEq, ↓reduceIte, reduceCtorEq, ne_eq, implies_true, if_true, if_false, ite_not, eq_self, Tryd.ntmps30, hf1]
    refine Stop.fact (ac44 f.body hok.body.size _) rfl (by first | rfl | simp only [wy, Nat.reduceAdd, Nat.reduceEqDiff, Nat.reduceLT, Nat.reduceMul, Nat.reduceLeDiff, Int.reduceEq, ↓reduceIte, reduceCtorEq, ne_eq, implies_true, if_true, if_false, ite_not, eq_self, Tryd.ntmps30, enc_eq, fgt_mapenc]) (by simp only [wy, Nat.reduceAdd, Nat.reduceEqDiff, Nat.reduceLT, Nat.reduceMul, Nat.reduceLeDiff, Int.reduceEq, ↓reduceIte, reduceCtorEq, ne_eq, implies_true, if_true, if_false, ite_not, eq_self, Tryd.ntmps30]) (caps := []) (by simp only [wy, Nat.reduceAdd, Nat.reduceEqDiff, Nat.reduceLT, Nat.reduceMul, Nat.reduceLeDiff, Int.reduceEq, ↓reduceIte, reduceCtorEq, ne_eq, implies_true, if_true, if_false, ite_not, eq_self, enc_eq, fgt_mapenc]) en_44 (by simp only [wy, Nat.reduceAdd, Nat.reduceEqDiff, Nat.reduceLT, Nat.reduceMul, Nat.reduceLeDiff, Int.reduceEq, ↓reduceIte, reduceCtorEq, ne_eq, implies_true, if_true, if_false, ite_not, eq_self, enc_eq, fgt_mapenc] <;> rfl) (Ev.sound 100 _ _ _ _ ?_)
    simp only [wy, Nat.reduceAdd, Nat.reduceEqDiff, Nat.reduceLT, Nat.reduceMul, Nat.reduceLeDiff, Int.reduceEq, ↓reduceIte, reduceCtorEq, ne_eq, implies_true, if_true, if_false, ite_not, eq_self, Tryd.ntmps30]
    refine EvC.part (fun b3 => ?_) (fun b3 => ?_)
    · rw [if_pos (by have := of_decide_eq_true b3; omega)] at hn0
      simp only [wy, Nat.reduceAdd, Nat.reduceEqDiff, Nat.reduceLT, Nat.reduceMul, Nat.reduceLeDiff, Int.reduceEq, ↓reduceIte, reduceCtorEq, ne_eq, implies_true, if_true, if_false, ite_not, eq_self, Tryd.ntmps30]
      exact Leave.pures rfl (by simp only [wy, Nat.reduceAdd, Nat.reduceEqDiff, Nat.reduceLT, Nat.reduceMul, Nat.reduceLeDiff, Int.reduceEq, ↓reduceIte, reduceCtorEq, ne_eq, implies_true, if_true, if_false, ite_not, eq_self, oneOf, hn0] <;> rfl) (hh) rfl
    rw [if_neg (by have := of_decide_eq_false b3; omega)] at hn0
    simp only [wy, Nat.reduceAdd, Nat.reduceEqDiff, Nat.reduceLT, Nat.reduceMul, Nat.reduceLeDiff, Int.reduceEq, ↓reduceIte, reduceCtorEq, ne_eq, implies_true, if_true, if_false, ite_not, eq_self, Tryd.ntmps30, hf1]
    refine Stop.fact (ac45 f.body hok.body.size _) rfl (by first | rfl | simp only [wy, Nat.reduceAdd, Nat.reduceEqDiff, Nat.reduceLT, Nat.reduceMul, Nat.reduceLeDiff, Int.reduceEq, ↓reduceIte, reduceCtorEq, ne_eq, implies_true, if_true, if_false, ite_not, eq_self, Tryd.ntmps30, enc_eq, fgt_mapenc]) (by simp only [wy, Nat.reduceAdd, Nat.reduceEqDiff, Nat.reduceLT, Nat.reduceMul, Nat.reduceLeDiff, Int.reduceEq, ↓reduceIte, reduceCtorEq, ne_eq, implies_true, if_true, if_false, ite_not, eq_self, Tryd.ntmps30]) (caps := []) (by simp only [wy, Nat.reduceAdd, Nat.reduceEqDiff, Nat.reduceLT, Nat.reduceMul, Nat.reduceLeDiff, Int.reduceEq, ↓reduceIte, reduceCtorEq, ne_eq, implies_true, if_true, if_false, ite_not, eq_self, enc_eq, fgt_mapenc]) en_45 (by simp only [wy, Nat.reduceAdd, Nat.reduceEqDiff, Nat.reduceLT, Nat.reduceMul, Nat.reduceLeDiff, Int.reduceEq, ↓reduceIte, reduceCtorEq, ne_eq, implies_true, if_true, if_false, ite_not, eq_self, enc_eq, fgt_mapenc] <;> rfl) (Ev.sound 100 _ _ _ _ ?_)
    simp only [wy, Nat.reduceAdd, Nat.reduceEqDiff, Nat.reduceLT, Nat.reduceMul, Nat.reduceLeDiff, Int.reduceEq, ↓reduceIte, reduceCtorEq, ne_eq, implies_true, if_true, if_false, ite_not, eq_self, Tryd.ntmps30]
    refine EvC.part (fun b4 => ?_) (fun b4 => ?_)
    · rw [if_pos (by have := of_decide_eq_true b4; omega)] at hn0
      simp only [wy, Nat.reduceAdd, Nat.reduceEqDiff, Nat.reduceLT, Nat.reduceMul, Nat.reduceLeDiff, Int.reduceEq, ↓reduceIte, reduceCtorEq, ne_eq, implies_true, if_true, if_false, ite_not, eq_self, Tryd.ntmps30]
      exact Leave.pures rfl (by simp only [wy, Nat.reduceAdd, Nat.reduceEqDiff, Nat.reduceLT, Nat.reduceMul, Nat.reduceLeDiff, Int.reduceEq, ↓reduceIte, reduceCtorEq, ne_eq, implies_true, if_true, if_false, ite_not, eq_self, oneOf, hn0] <;> rfl) (hh) rfl
    rw [if_neg (by have := of_decide_eq_false b4; omega)] at hn0
    unfold checkOne at hn0
    simp only [wy, Nat.reduceAdd, Nat.reduceEqDiff, Nat.reduceLT, Nat.reduceMul, Nat.reduceLeDiff, Int.reduceEq, ↓reduceIte, reduceCtorEq, ne_eq, implies_true, if_true, if_false, ite_not, eq_self, Tryd.ntmps30, hf1]
    refine Stop.fact (ac33 lib hlib f.params hok.params f.body hok.body b2 _) rfl (by first | rfl | simp only [wy, Nat.reduceAdd, Nat.reduceEqDiff, Nat.reduceLT, Nat.reduceMul, Nat.reduceLeDiff, Int.reduceEq, ↓reduceIte, reduceCtorEq, ne_eq, implies_true, if_true, if_false, ite_not, eq_self, Tryd.ntmps30, enc_eq, fgt_mapenc, vlib, vparams, fgt_mapfenc, fgt_mappenc]) (by simp only [wy, Nat.reduceAdd, Nat.reduceEqDiff, Nat.reduceLT, Nat.reduceMul, Nat.reduceLeDiff, Int.reduceEq, ↓reduceIte, reduceCtorEq, ne_eq, implies_true, if_true, if_false, ite_not, eq_self, Tryd.ntmps30]) (caps := []) (by simp only [wy, Nat.reduceAdd, Nat.reduceEqDiff, Nat.reduceLT, Nat.reduceMul, Nat.reduceLeDiff, Int.reduceEq, ↓reduceIte, reduceCtorEq, ne_eq, implies_true, if_true, if_false, ite_not, eq_self, enc_eq, fgt_mapenc, vlib, vparams, fgt_mapfenc, fgt_mappenc]) en_33 (by simp only [wy, Nat.reduceAdd, Nat.reduceEqDiff, Nat.reduceLT, Nat.reduceMul, Nat.reduceLeDiff, Int.reduceEq, ↓reduceIte, reduceCtorEq, ne_eq, implies_true, if_true, if_false, ite_not, eq_self, enc_eq, fgt_mapenc, vlib, vparams, fgt_mapfenc, fgt_mappenc] <;> rfl) (Ev.sound 100 _ _ _ _ ?_)
    by_cases b5 : (checkE lib f.params f.body).2 = 0
    · by_cases b6 : (checkE lib f.params f.body).1 = f.list
      · rw [if_neg (by simp [b6])] at hn0
        cases b7 : f.list <;> rw [b7] at b6 <;> (simp only [wy, Nat.reduceAdd, Nat.reduceEqDiff, Nat.reduceLT, Nat.reduceMul, Nat.reduceLeDiff, Int.reduceEq, ↓reduceIte, reduceCtorEq, ne_eq, implies_true, if_true, if_false, ite_not, eq_self, Tryd.ntmps30, tyv, hf1, decide_eq_true b5, b6, b7, beq_self_eq_true]; exact Leave.pures rfl (by simp only [wy, Nat.reduceAdd, Nat.reduceEqDiff, Nat.reduceLT, Nat.reduceMul, Nat.reduceLeDiff, Int.reduceEq, ↓reduceIte, reduceCtorEq, ne_eq, implies_true, if_true, if_false, ite_not, eq_self, oneOf, hn0] <;> rfl) (hh) rfl)
      · rw [if_pos ⟨b5, b6⟩] at hn0
        cases b7 : f.list <;> rw [b7] at b6 <;> simp only [Bool.not_eq_true, Bool.not_eq_false] at b6 <;> (simp only [wy, Nat.reduceAdd, Nat.reduceEqDiff, Nat.reduceLT, Nat.reduceMul, Nat.reduceLeDiff, Int.reduceEq, ↓reduceIte, reduceCtorEq, ne_eq, implies_true, if_true, if_false, ite_not, eq_self, Tryd.ntmps30, tyv, hf1, decide_eq_true b5, b6, b7, Bool.true_beq, Bool.false_beq]; exact Leave.pures rfl (by simp only [wy, Nat.reduceAdd, Nat.reduceEqDiff, Nat.reduceLT, Nat.reduceMul, Nat.reduceLeDiff, Int.reduceEq, ↓reduceIte, reduceCtorEq, ne_eq, implies_true, if_true, if_false, ite_not, eq_self, oneOf, hn0] <;> rfl) (hh) rfl)
    · rw [if_neg (by simp [b5])] at hn0
      simp only [wy, Nat.reduceAdd, Nat.reduceEqDiff, Nat.reduceLT, Nat.reduceMul, Nat.reduceLeDiff, Int.reduceEq, ↓reduceIte, reduceCtorEq, ne_eq, implies_true, if_true, if_false, ite_not, eq_self, Tryd.ntmps30, tyv, hf1, decide_eq_false b5]
      exact Leave.pures rfl (by simp only [wy, Nat.reduceAdd, Nat.reduceEqDiff, Nat.reduceLT, Nat.reduceMul, Nat.reduceLeDiff, Int.reduceEq, ↓reduceIte, reduceCtorEq, ne_eq, implies_true, if_true, if_false, ite_not, eq_self, oneOf, hn0] <;> rfl) (hh) rfl
end Go.Proofs.YtajknofacjiddaaDoor.Abs

/- Valid, Type -/
namespace Go.Proofs.YtajknofacjiddaaDoor.Abs
open Go Go.RowKit
set_option linter.unusedSimpArgs false
set_option linter.unusedVariables false
set_option maxHeartbeats 4000000
set_option maxRecDepth 100000
def validFrom (lib : List Fn) : Nat → List Fn → Int × Int
  | _, [] => (-1, 0)
  | k, f :: fs => if oneE lib k f = 0 then validFrom lib (k + 1) fs else (k, oneE lib k f)
def validE (lib : List Fn) : Int × Int := validFrom lib 0 lib
theorem ac13 (lib : List Fn) (hlib : LibOk lib) (hok : ∀ f ∈ lib, FnOk f) (h : AHeap) : AC sd 13 [vlib lib] h (Pure1 (.tup [.int .i64 (validE lib).1, .int .i64 (validE lib).2]) h) := by
  refine AC.pure Tryd.func13 rfl Tryd.ntmps13 (by show 1 ≤ 19; decide) ?_
  refine Ev.sound 100 _ _ _ _ ?_
  have hl := hlib.len
  simp only [argFr, vlib]
  simp only [wy, Nat.reduceAdd, Nat.reduceEqDiff, Nat.reduceLT, Nat.reduceMul, Nat.reduceLeDiff, Int.reduceEq, ↓reduceIte, reduceCtorEq, ne_eq, implies_true, if_true, if_false, ite_not, eq_self, Tryd.ntmps13, List.length_map]
  refine Stop.round (σ := Nat) (fun k => lib.length - k) (fun k => [(0, kslice 7 (lib.map Fn.enc)), (7, .int .i64 lib.length), (8, .int .i64 k)])
    (fun k h1 => k ≤ lib.length ∧ h1 = h ∧ validE lib = validFrom lib k (lib.drop k)) 0 ⟨Nat.zero_le _, rfl, rfl⟩ ?_ ?_
  · simp only [wy, Nat.reduceAdd, Nat.reduceEqDiff, Nat.reduceLT, Nat.reduceMul, Nat.reduceLeDiff, Int.reduceEq, ↓reduceIte, reduceCtorEq, ne_eq, implies_true, if_true, if_false, ite_not, eq_self, Tryd.ntmps13, Int.ofNat_zero, Int.natCast_zero]
  rintro k _ ⟨hk, rfl, hv⟩ next
  refine Ev.sound 100 _ _ _ _ ?_
  rcases turn lib k hk with ⟨y, hy, hmem, hlt, c1, c2⟩ | ⟨hkk, c1⟩
  · have w1 := wrap_succ k (by omega)
    rw [drop_turn hy] at hv
    unfold validFrom at hv
    simp only [wy, Nat.reduceAdd, Nat.reduceEqDiff, Nat.reduceLT, Nat.reduceMul, Nat.reduceLeDiff, Int.reduceEq, ↓reduceIte, reduceCtorEq, ne_eq, implies_true, if_true, if_false, ite_not, eq_self, Tryd.ntmps13, c1]
    refine Stop.fact (ac30 lib hlib k y hy (hok y hmem) _) rfl (by first | rfl | simp only [wy, Nat.reduceAdd, Nat.reduceEqDiff, Nat.reduceLT, Nat.reduceMul, Nat.reduceLeDiff, Int.reduceEq, ↓reduceIte, reduceCtorEq, ne_eq, implies_true, if_true, if_false, ite_not, eq_self, Tryd.ntmps13, vlib, fgt_mapfenc]) (by simp only [wy, Nat.reduceAdd, Nat.reduceEqDiff, Nat.reduceLT, Nat.reduceMul, Nat.reduceLeDiff, Int.reduceEq, ↓reduceIte, reduceCtorEq, ne_eq, implies_true, if_true, if_false, ite_not, eq_self, Tryd.ntmps13]) (caps := []) (by simp only [wy, Nat.reduceAdd, Nat.reduceEqDiff, Nat.reduceLT, Nat.reduceMul, Nat.reduceLeDiff, Int.reduceEq, ↓reduceIte, reduceCtorEq, ne_eq, implies_true, if_true, if_false, ite_not, eq_self, vlib, fgt_mapfenc]) en_30 (by simp only [wy, Nat.reduceAdd, Nat.reduceEqDiff, Nat.reduceLT, Nat.reduceMul, Nat.reduceLeDiff, Int.reduceEq, ↓reduceIte, reduceCtorEq, ne_eq, implies_true, if_true, if_false, ite_not, eq_self, vlib, fgt_mapfenc] <;> rfl) (Ev.sound 100 _ _ _ _ ?_)
    by_cases b1 : oneE lib k y = 0
    · rw [if_pos b1] at hv
      simp only [wy, Nat.reduceAdd, Nat.reduceEqDiff, Nat.reduceLT, Nat.reduceMul, Nat.reduceLeDiff, Int.reduceEq, ↓reduceIte, reduceCtorEq, ne_eq, implies_true, if_true, if_false, ite_not, eq_self, Tryd.ntmps13, decide_eq_true b1, w1]
      exact next (k + 1) _ _ (by omega) ⟨hlt, rfl, hv⟩ (by simp only [wy, Nat.reduceAdd, Nat.reduceEqDiff, Nat.reduceLT, Nat.reduceMul, Nat.reduceLeDiff, Int.reduceEq, ↓reduceIte, reduceCtorEq, ne_eq, implies_true, if_true, if_false, ite_not, eq_self, Tryd.ntmps13])
    · rw [if_neg b1] at hv
      simp only [wy, Nat.reduceAdd, Nat.reduceEqDiff, Nat.reduceLT, Nat.reduceMul, Nat.reduceLeDiff, Int.reduceEq, ↓reduceIte, reduceCtorEq, ne_eq, implies_true, if_true, if_false, ite_not, eq_self, Tryd.ntmps13, decide_eq_false b1]
      exact Leave.pures rfl (by simp only [wy, Nat.reduceAdd, Nat.reduceEqDiff, Nat.reduceLT, Nat.reduceMul, Nat.reduceLeDiff, Int.reduceEq, ↓reduceIte, reduceCtorEq, ne_eq, implies_true, if_true, if_false, ite_not, eq_self, oneOf, hv] <;> rfl) (Ext.refl _) rfl
  · rw [hkk, List.drop_length] at hv
    unfold validFrom at hv
    simp only [wy, Nat.reduceAdd, Nat.reduceEqDiff, Nat.reduceLT, Nat.reduceMul, Nat.reduceLeDiff, Int.reduceEq, ↓reduceIte, reduceCtorEq, ne_eq, implies_true, if_true, if_false, ite_not, eq_self, Tryd.ntmps13, c1]
    exact Leave.pures rfl (by simp only [wy, Nat.reduceAdd, Nat.reduceEqDiff, Nat.reduceLT, Nat.reduceMul, Nat.reduceLeDiff, Int.reduceEq, ↓reduceIte, reduceCtorEq, ne_eq, implies_true, if_true, if_false, ite_not, eq_self, oneOf, hv] <;> rfl) (Ext.refl _) rfl
def typeE (lib : List Fn) (i : Int) (x : Node) : Bool × Int :=
  if i < 0 ∨ (lib.length : Int) ≤ i then (false, 2) else if formB x = false then (false, 3) else match lib[i.toNat]? with | some f => checkE lib f.params x | none => (false, 0)
theorem ac16 (lib : List Fn) (hlib : LibOk lib) (hok : ∀ f ∈ lib, FnOk f) (i : Int) (x : Node) (hx : x.wf) (h : AHeap) : AC sd 16 [vlib lib, .int .i64 i, .agg x.enc] h (Pure1 (tyv (typeE lib i x)) h) := by
  refine AC.pure Tryd.func16 rfl Tryd.ntmps16 (by show 3 ≤ 31; decide) ?_
  refine Ev.sound 100 _ _ _ _ ?_
  simp only [argFr, vlib, enc_eq]
  have hh : ∀ v, Ext h (h.alloc v) := fun v => (Ext.refl h).alloc v
  by_cases a1 : i < 0
  · have hn : typeE lib i x = (false, 2) := by unfold typeE; rw [if_pos (.inl a1)]
    simp only [wy, Nat.reduceAdd, Nat.reduceEqDiff, Nat.reduceLT, Nat.reduceMul, Nat.reduceLeDiff, Int.reduceEq, ↓reduceIte, reduceCtorEq, ne_eq, implies_true, if_true, if_false, ite_not, eq_self, Tryd.ntmps16, List.length_map, decide_eq_true a1]
    exact Leave.pures rfl (by simp only [wy, Nat.reduceAdd, Nat.reduceEqDiff, Nat.reduceLT, Nat.reduceMul, Nat.reduceLeDiff, Int.reduceEq, ↓reduceIte, reduceCtorEq, ne_eq, implies_true, if_true, if_false, ite_not, eq_self, oneOf, hn, tyv] <;> rfl) (hh _) rfl
  by_cases a2 : (lib.length : Int) ≤ i
  · have hn : typeE lib i x = (false, 2) := by unfold typeE; rw [if_pos (.inr a2)]
    simp only [wy, Nat.reduceAdd, Nat.reduceEqDiff, Nat.reduceLT, Nat.reduceMul, Nat.reduceLeDiff, Int.reduceEq, ↓reduceIte, reduceCtorEq, ne_eq, implies_true, if_true, if_false, ite_not, eq_self, Tryd.ntmps16, List.length_map, decide_eq_false a1, decide_eq_true a2]
    exact Leave.pures rfl (by simp only [wy, Nat.reduceAdd, Nat.reduceEqDiff, Nat.reduceLT, Nat.reduceMul, Nat.reduceLeDiff, Int.reduceEq, ↓reduceIte, reduceCtorEq, ne_eq, implies_true, if_true, if_false, ite_not, eq_self, oneOf, hn, tyv] <;> rfl) (hh _) rfl
  obtain ⟨k, rfl⟩ : ∃ k : Nat, i = k := ⟨i.toNat, by omega⟩
  obtain ⟨f, hf⟩ : ∃ f, lib[k]? = some f := ⟨_, List.getElem?_eq_getElem (by omega)⟩
  have hmem := List.mem_of_getElem? hf
  have hn0 : typeE lib k x = if formB x = false then (false, 3) else checkE lib f.params x := by
    unfold typeE
    rw [if_neg (by omega), Int.toNat_natCast, hf]
  simp only [wy, Nat.reduceAdd, Nat.reduceEqDiff, Nat.reduceLT, Nat.reduceMul, Nat.reduceLeDiff, Int.reduceEq, ↓reduceIte, reduceCtorEq, ne_eq, implies_true, if_true, if_false, ite_not, eq_self, Tryd.ntmps16, List.length_map, decide_eq_false a1, decide_eq_false a2]
  refine Stop.fact (ac32 x hx _) rfl (by first | rfl | simp only [wy, Nat.reduceAdd, Nat.reduceEqDiff, Nat.reduceLT, Nat.reduceMul, Nat.reduceLeDiff, Int.reduceEq, ↓reduceIte, reduceCtorEq, ne_eq, implies_true, if_true, if_false, ite_not, eq_self, Tryd.ntmps16, enc_eq, fgt_mapenc]) (by simp only [wy, Nat.reduceAdd, Nat.reduceEqDiff, Nat.reduceLT, Nat.reduceMul, Nat.reduceLeDiff, Int.reduceEq, ↓reduceIte, reduceCtorEq, ne_eq, implies_true, if_true, if_false, ite_not, eq_self, Tryd.ntmps16]) (caps := []) (by simp only [wy, Nat.reduceAdd, Nat.reduceEqDiff, Nat.reduceLT, Nat.reduceMul, Nat.reduceLeDiff, Int.reduceEq, ↓reduceIte, reduceCtorEq, ne_eq, implies_true, if_true, if_false, ite_not, eq_self, enc_eq, fgt_mapenc]) en_32 (by simp only [wy, Nat.reduceAdd, Nat.reduceEqDiff, Nat.reduceLT, Nat.reduceMul, Nat.reduceLeDiff, Int.reduceEq, ↓reduceIte, reduceCtorEq, ne_eq, implies_true, if_true, if_false, ite_not, eq_self, enc_eq, fgt_mapenc] <;> rfl) (Ev.sound 100 _ _ _ _ ?_)
  cases b1 : formB x
  · rw [if_pos b1] at hn0
    simp only [wy, Nat.reduceAdd, Nat.reduceEqDiff, Nat.reduceLT, Nat.reduceMul, Nat.reduceLeDiff, Int.reduceEq, ↓reduceIte, reduceCtorEq, ne_eq, implies_true, if_true, if_false, ite_not, eq_self, Tryd.ntmps16]
    exact Leave.pures rfl (by simp only [wy, Nat.reduceAdd, Nat.reduceEqDiff, Nat.reduceLT, Nat.reduceMul, Nat.reduceLeDiff, Int.reduceEq, ↓reduceIte, reduceCtorEq, ne_eq, implies_true, if_true, if_false, ite_not, eq_self, oneOf, hn0, tyv] <;> rfl) (hh _) rfl
  rw [if_neg (by simp [b1])] at hn0
  have c1 : (0 ≤ (k : Int)) = True := by simp
  have c2 : ((k : Int) < (lib.length : Int)) = True := by simp; omega
  simp only [wy, Nat.reduceAdd, Nat.reduceEqDiff, Nat.reduceLT, Nat.reduceMul, Nat.reduceLeDiff, Int.reduceEq, ↓reduceIte, reduceCtorEq, ne_eq, implies_true, if_true, if_false, ite_not, eq_self, Tryd.ntmps16]
  refine Stop.drawn [(0, 0), (1, 0), (2, 0), (3, 0), (4, 0), (5, 0), (6, 0), (7, 2), (8, 0), (9, 0), (10, 0), (11, 0)] [[], [], [], [1, 2], [1, 2, 3], [1, 2, 3, 4], [], [0, 1, 2, 3, 4, 5, 6], [0, 1, 2, 3, 4, 5, 6, 7], [0, 1, 2, 3, 4, 5, 6, 7], [0, 1, 2, 3, 4, 5, 6, 7, 8, 9], [0, 1, 2, 3, 4, 5, 6, 7, 8, 9, 10]] 90 (by kernel_rfl) ?_
  simp only [wy, Nat.reduceAdd, Nat.reduceEqDiff, Nat.reduceLT, Nat.reduceMul, Nat.reduceLeDiff, Int.reduceEq, ↓reduceIte, reduceCtorEq, ne_eq, implies_true, if_true, if_false, ite_not, eq_self, Tryd.ntmps16, List.length_map, c1, c2, getD_map Fn.enc hf, fenc_eq f]
  refine DC.fact (ac33 lib hlib f.params (hlib.params f hmem) x hx b1 _) rfl (by simp only [wy, Nat.reduceAdd, Nat.reduceEqDiff, Nat.reduceLT, Nat.reduceMul, Nat.reduceLeDiff, Int.reduceEq, ↓reduceIte, reduceCtorEq, ne_eq, implies_true, if_true, if_false, ite_not, eq_self, Tryd.ntmps16]) (caps := []) (by simp only [wy, Nat.reduceAdd, Nat.reduceEqDiff, Nat.reduceLT, Nat.reduceMul, Nat.reduceLeDiff, Int.reduceEq, ↓reduceIte, reduceCtorEq, ne_eq, implies_true, if_true, if_false, ite_not, eq_self, Tryd.ntmps16]) en_33 (by simp only [wy, Nat.reduceAdd, Nat.reduceEqDiff, Nat.reduceLT, Nat.reduceMul, Nat.reduceLeDiff, Int.reduceEq, ↓reduceIte, reduceCtorEq, ne_eq, implies_true, if_true, if_false, ite_not, eq_self, Tryd.ntmps16, enc_eq, fgt_mapenc, vlib, vparams, fgt_mapfenc, fgt_mappenc]) ?_
  simp only [wy, Nat.reduceAdd, Nat.reduceEqDiff, Nat.reduceLT, Nat.reduceMul, Nat.reduceLeDiff, Int.reduceEq, ↓reduceIte, reduceCtorEq, ne_eq, implies_true, if_true, if_false, ite_not, eq_self, Tryd.ntmps16, tyv]
  exact Leave.pures rfl (by simp only [wy, Nat.reduceAdd, Nat.reduceEqDiff, Nat.reduceLT, Nat.reduceMul, Nat.reduceLeDiff, Int.reduceEq, ↓reduceIte, reduceCtorEq, ne_eq, implies_true, if_true, if_false, ite_not, eq_self, oneOf, hn0, tyv] <;> rfl) (hh _) rfl
end Go.Proofs.YtajknofacjiddaaDoor.Abs

/- From what a call is given to the abstract machine, and from its answer to a row's statement. -/
namespace Go.Proofs.YtajknofacjiddaaDoor.Abs
open Go Go.RowKit Go.ChangeShapes Go.WideShapes
set_option linter.unusedVariables false

/-- At the start: all that is there is only read. -/
def ghost0 (W : World) : Ghost := ⟨fun _ => none, fun b o => (W.cell? ⟨b, o, none⟩).bind fun x => if x.oneCell' then some x else none, fun _ _ => none⟩
def heap0 : AHeap := ⟨[], []⟩
theorem ghost0_I {W : World} {b o : Nat} {x : Value} (h : W.cell? ⟨b, o, none⟩ = some x) (h1 : x.oneCell' = true) : (ghost0 W).I b o = some x := by
  simp [ghost0, h, h1]
theorem start {S : Seat} {W : World} (hb : S.base W) (hg : ∀ k, S.gl k = none) : Inv S W heap0 (ghost0 W) W := {
  below := Below.refl _ _
  gdom := fun id b e => by cases e
  ginj := fun id id' b e => by cases e
  obj := fun id o e => by simp [AHeap.get, heap0] at e
  imm := fun b o x e => by
    obtain ⟨y, h1, h2⟩ := Option.bind_eq_some_iff.1 e
    split at h2
    case isFalse => cases h2
    rename_i h3
    cases h2
    exact ⟨h1, (fun id h => by cases h), h3⟩
  tdom := fun t n d e => by cases e
  tok := fun t a cap sz e => by cases e
  tdisj := fun t t' a cap sz a' cap' sz' e => by cases e
  glob := fun k cs e => by rw [hg] at e; cases e
  base := hb }

/-- Cells, and what they bear. -/
def Flat (W : World) (vs : List AV) (cs : List Value) : Prop := cs.length = vs.length ∧ ∀ (i : Nat) v x, vs[i]? = some v → cs[i]? = some x → Rep (ghost0 W) v x ∧ x.oneCell' = true
theorem Flat.one {W : World} {v : AV} {x : Value} (h : Rep (ghost0 W) v x) (h1 : x.oneCell' = true) : Flat W [v] [x] :=
  ⟨rfl, fun i u y e1 e2 => by
    cases i with
    | zero => cases e1; cases e2; exact ⟨h, h1⟩
    | succ n => simp at e1⟩
theorem Flat.app {W : World} {us vs : List AV} {cs ds : List Value} (h : Flat W us cs) (k : Flat W vs ds) : Flat W (us ++ vs) (cs ++ ds) := by
  refine ⟨by rw [List.length_append, List.length_append, h.1, k.1], fun i v x e1 e2 => ?_⟩
  by_cases q : i < us.length
  · rw [List.getElem?_append_left q] at e1
    rw [List.getElem?_append_left (by rw [h.1]; exact q)] at e2
    exact h.2 i v x e1 e2
  · rw [List.getElem?_append_right (by omega)] at e1
    rw [List.getElem?_append_right (by rw [h.1]; omega), h.1] at e2
    exact k.2 _ v x e1 e2

/-- Whatever is read as that type, with so much fuel, is borne by a value of the Lean type. -/
def Reads (P : Program) (N : Nat) (t : TypeId) {α : Type} (enc : α → List AV) (wt : α → Nat) (ok : α → Prop) : Prop :=
  ∀ (H : Type) (e : TypeId × Value → H) (W : World) cs d ps, DataW.trod e P W 0 (fun _ => true) true N t cs = some (d, ps) → ∃ x : α, Flat W (enc x) cs ∧ wt x ≤ Rows.uptoBulk d ∧ ok x
theorem reads_bool {P : Program} {t : TypeId} (ht : P.underlying t = some .bool) (N : Nat) : Reads P N t (fun b : Bool => [.bool b]) (fun _ => 1) (fun _ => True) := by
  intro H e W cs d ps h
  obtain ⟨b, rfl, hx⟩ := DataW.trod_bool ht h
  cases hx
  exact ⟨b, .one (.bool b) rfl, by simp [Rows.uptoBulk], trivial⟩
theorem reads_int {P : Program} {t : TypeId} {k : IntKind} (ht : P.underlying t = some (.int k)) (N : Nat) : Reads P N t (fun n : Int => [.int k n]) (fun _ => 1) (fun n => k.min ≤ n ∧ n ≤ k.max) := by
  intro H e W cs d ps h
  obtain ⟨b, rfl, hx, hw⟩ := DataW.trod_int ht h
  cases hx
  exact ⟨b, .one (.int k b) rfl, by simp [Rows.uptoBulk], by simpa [Lit.wf] using hw⟩
theorem reads_str {P : Program} {t : TypeId} (ht : P.underlying t = some .string) (N : Nat) : Reads P N t (fun s : ByteArray => [.str s]) (fun s => s.size + 1) (fun _ => True) := by
  intro H e W cs d ps h
  obtain ⟨b, rfl, hx, hw⟩ := DataW.trod_string ht h
  cases hx
  exact ⟨b, .one (.str b) rfl, by simp [Rows.uptoBulk, Array.length_toList], trivial⟩
theorem bulk_one {H : Type} (d : DataW H) : 1 ≤ Rows.uptoBulk d := by
  cases d with
  | lit l => cases l <;> simp [Rows.uptoBulk]
  | nil => simp [Rows.uptoBulk]
  | ptr d => simp [Rows.uptoBulk]
  | slice elems spare => simp [Rows.uptoBulk]
  | agg parts => simp [Rows.uptoBulk]
  | iface t d => simp [Rows.uptoBulk]
  | map entries => simp [Rows.uptoBulk]
  | held h => simp [Rows.uptoBulk]
theorem bulk_app {H : Type} (l r : List (DataW H)) : Rows.uptoBulkAll (l ++ r) = Rows.uptoBulkAll l + Rows.uptoBulkAll r := by
  induction l with
  | nil => simp [Rows.uptoBulkAll]
  | cons x l ih => simp only [List.cons_append, Rows.uptoBulkAll, ih]; omega
theorem cells_at {W : World} {a : Addr} {n : Nat} {cs : List Value} (h : W.cells? 0 a n = some cs) : cs.length = n ∧ ∀ i x, cs[i]? = some x → W.cell? (a.add i) = some x := by
  obtain ⟨_, h2, h3⟩ := World.cells?_some h
  refine ⟨h2, fun i x hx => ?_⟩
  have hi : i < n := by rw [← h2]; exact (List.getElem?_eq_some_iff.1 hx).1
  have := h3 i hi
  rw [hx] at this
  exact this
theorem reads_slice {P : Program} {t e : TypeId} {α : Type} {enc : α → List AV} {wt : α → Nat} {ok : α → Prop} {sz : Nat} (ht : P.underlying t = some (.slice e)) (hc : P.cellsOf e = sz) (h0 : 0 < sz) (N : Nat)
    (h : ∀ n, n < N → Reads P n e enc wt ok) : Reads P N t (fun xs : List α => [kslice sz (xs.map enc)]) (fun xs => (xs.map wt).sum + 1) (fun xs => ∀ x ∈ xs, ok x) := by
  intro H en W cs d ps hd
  rcases DataW.trod_slice ht hd with ⟨rfl, hx⟩ | ⟨a, len, cap, elems, rest, n, rfl, rfl, hx, _, hl, _, hlen, hel, _⟩
  · cases hx
    exact ⟨[], .one (.sliceNil trivial fun _ => rfl) rfl, by simp [Rows.uptoBulk], fun x hx => by cases hx⟩
  cases hx
  rw [hc] at hel
  have key : ∀ k, k ≤ len → ∃ xs : List α, xs.length = k ∧ (∀ (i : Nat) x, xs[i]? = some x → ok x ∧ ∃ ci, W.cells? 0 (a.add (i * sz)) sz = some ci ∧ Flat W (enc x) ci) ∧ (xs.map wt).sum ≤ Rows.uptoBulkAll ((elems.take k).map (·.1)) := by
    intro k
    induction k with
    | zero => intro _; exact ⟨[], rfl, fun i x hx => by simp at hx, by simp⟩
    | succ k ih =>
      intro hk
      obtain ⟨xs, h1, h2, h3⟩ := ih (by omega)
      have hk' : k < elems.length := by omega
      have he := hel k (by omega)
      rw [List.getElem?_eq_getElem hk'] at he
      obtain ⟨ci, hci, hdd⟩ := Option.bind_eq_some_iff.1 he
      obtain ⟨x, x1, x2, x3⟩ := h n (by omega) H en W ci elems[k].1 elems[k].2 hdd
      refine ⟨xs ++ [x], by simp [h1], fun i y hy => ?_, ?_⟩
      · by_cases q : i < xs.length
        · rw [List.getElem?_append_left q] at hy
          exact h2 i y hy
        · rw [List.getElem?_append_right (by omega)] at hy
          have : i = k := by
            have := (List.getElem?_eq_some_iff.1 hy).1
            simp at this
            omega
          subst this
          simp [h1] at hy
          subst hy
          exact ⟨x3, ci, hci, x1⟩
      · rw [List.take_add_one, List.getElem?_eq_getElem hk', List.map_append, List.map_append, bulk_app, List.sum_append]
        simp only [Option.toList_some, List.map_cons, List.map_nil, List.sum_cons, List.sum_nil, Rows.uptoBulkAll]
        omega
  obtain ⟨xs, h1, h2, h3⟩ := key len (Nat.le_refl _)
  have htake : elems.take len = elems := List.take_of_length_le (by omega)
  rw [htake] at h3
  refine ⟨xs, .one ?_ rfl, by simp only [Rows.uptoBulk]; omega, fun x hx => ?_⟩
  · refine rep_k ?_
    have hlm : (xs.map enc).length = len := by simp [h1]
    cases hxs : xs with
    | nil =>
      rw [hxs] at h1
      subst h1
      exact .sliceNil trivial fun e => by cases e
    | cons x0 xr =>
      rw [← hxs]
      have hx0 : xs[0]? = some x0 := by rw [hxs]; rfl
      have hspot : a.spot = none := by
        obtain ⟨_, ci, hci, _⟩ := h2 0 x0 hx0
        obtain ⟨c1, c2⟩ := cells_at hci
        have hx : ci[0]? = some (ci[0]'(by omega)) := by rw [List.getElem?_eq_getElem]
        have := c2 0 _ hx
        rw [Nat.zero_mul] at this
        unfold Addr.add at this
        rw [if_pos rfl, if_pos rfl] at this
        unfold World.cell? at this
        cases hs : a.spot with
        | none => rfl
        | some s =>
          rw [hs] at this
          split at this
          · simp at this
          · cases this
      obtain ⟨b, o, s⟩ := a
      simp only at hspot
      subst hspot
      have hcell : ∀ (i j : Nat) x v, xs[i]? = some x → (enc x)[j]? = some v → ∃ y, W.cell? ⟨b, o + (i * sz + j), none⟩ = some y ∧ y.oneCell' = true ∧ Rep (ghost0 W) v y := by
        intro i j x v hx hv
        obtain ⟨_, ci, hci, hf⟩ := h2 i x hx
        obtain ⟨c1, c2⟩ := cells_at hci
        have hj : j < ci.length := by rw [hf.1]; exact (List.getElem?_eq_some_iff.1 hv).1
        have hy := List.getElem?_eq_getElem hj
        obtain ⟨r1, r2⟩ := hf.2 j v _ hv hy
        have := c2 j _ hy
        rw [addr_add, addr_add, Nat.add_assoc] at this
        exact ⟨_, this, r2, r1⟩
      have hsz : ∀ (i : Nat) x, xs[i]? = some x → (enc x).length = sz := by
        intro i x hx
        obtain ⟨_, ci, hci, hf⟩ := h2 i x hx
        rw [← hf.1, (cells_at hci).1]
      have hrep := Rep.slice (g := ghost0 W) (sz := sz) (els := xs.map enc) (tok := .unk) (b := b) (o := o) (cap := cap) (fun k => (W.cell? ⟨b, o + k, none⟩).getD undef) (fun k hk => by
          rw [hlm] at hk
          have hi : k / sz < xs.length := by rw [h1]; exact Nat.div_lt_of_lt_mul (by rw [Nat.mul_comm]; exact hk)
          have hj : k % sz < (enc xs[k / sz]).length := by rw [hsz _ _ (List.getElem?_eq_getElem hi)]; exact Nat.mod_lt _ h0
          obtain ⟨y, y1, y2, _⟩ := hcell (k / sz) (k % sz) _ _ (List.getElem?_eq_getElem hi) (List.getElem?_eq_getElem hj)
          rw [Nat.div_add_mod' k sz] at y1
          rw [ghost0_I y1 y2, y1]
          rfl) (fun i e he => by
          rw [List.getElem?_map] at he
          obtain ⟨x, hx, rfl⟩ := Option.map_eq_some_iff.1 he
          exact Nat.le_of_eq (hsz i x hx)) (fun i j e v he hv => by
          rw [List.getElem?_map] at he
          obtain ⟨x, hx, rfl⟩ := Option.map_eq_some_iff.1 he
          obtain ⟨y, y1, y2, y3⟩ := hcell i j x v hx hv
          rw [y1]
          exact y3) (by rw [hlm]; exact hl) trivial
      rw [hlm] at hrep
      exact hrep
  · obtain ⟨i, hi⟩ := List.getElem?_of_mem hx
    exact (h2 i x hi).1

/-! From an answer to the row's word -/
theorem below_trodAll {H : Type} {enc : TypeId × Value → H} {P : Program} (hl : laidOutB P = true) {W W' : World} (hb : Below W.heap.size W W') :
    ∀ {ts : List TypeId} {vs : List Value} {ds : List (DataW H)} {ps : List MemPlace}, (ts.all fun t => P.readableRec t && decide (t < P.types.size)) = true → (∀ p ∈ ps, p.block < W.heap.size) →
      DataW.TrodAll enc P W 0 (fun _ => true) true ts vs ds ps → DataW.TrodAll enc P W' 0 (fun b => decide (b < W.heap.size)) true ts vs ds ps
  | [], _, _, _, _, _, h => by
    obtain ⟨rfl, rfl, rfl⟩ := trodAll_nil h
    exact rfl
  | t :: ts, _, _, _, hr, hlt, h => by
    obtain ⟨v, vs1, d, ds1, a, b, rfl, rfl, rfl, h1, h2⟩ := trodAll_cons h
    simp only [List.all_cons, Bool.and_eq_true, decide_eq_true_eq] at hr
    exact ⟨a, b, Below.trod hl hr.1.1 hr.1.2 h1 hb (fun x hx => hlt x (by simp [hx])), below_trodAll hl hb hr.2 (fun x hx => hlt x (by simp [hx])) h2, rfl⟩
/-- A law's specification: true, and the arguments as they were. -/
structure SaysTrue (s : ChangeSpec) (n : Nat) : Prop where
  vars : s.vars = []
  fn : ∀ (H : Type) (ds : List (DataW H)), ds.length = n → (s.fn H ds).results = [.lit (.bool true)] ∧ (s.fn H ds).args = ds ∧ (s.fn H ds).vars = []
theorem trodAll_length {H : Type} {enc : TypeId × Value → H} {P : Program} {W : World} {b : Nat} {sp : Nat → Bool} {held : Bool} : ∀ {ts : List TypeId} {vs : List Value} {ds : List (DataW H)} {ps : List MemPlace}, DataW.TrodAll enc P W b sp held ts vs ds ps → ds.length = ts.length
  | [], _, _, _, h => by obtain ⟨_, rfl, _⟩ := trodAll_nil h; rfl
  | _ :: _, _, _, _, h => by
    obtain ⟨_, _, _, _, _, _, _, rfl, _, _, h2⟩ := trodAll_cons h
    simp [trodAll_length h2]
theorem post_true {H : Type} {enc : TypeId × Value → H} {P : Program} {f : Func} {s : ChangeSpec} {W W' : World} {args : Array Value} {ds gs : List (DataW H)} {before : List MemPlace} {t : TypeId} (hl : laidOutB P = true)
    (hW : DataW.Whole enc P f.params.toList s.vars false W args.toList ds gs before) (hs : SaysTrue s f.params.toList.length) (hr : (f.params.toList.all fun t => P.readableRec t && decide (t < P.types.size)) = true) (hb : Below W.heap.size W W')
    (hres : f.resultTypes = #[t]) (ht : P.underlying t = some .bool) : s.post enc P f false true false false W args (.bool true) W' := by
  have hlt := hW.lt
  have hW' := hW
  obtain ⟨p, q, hA, hV, rfl, _, _⟩ := hW
  rw [hs.vars] at hV
  obtain ⟨rfl, rfl⟩ := trodVars_none hV
  obtain ⟨s1, s2, s3⟩ := hs.fn H ds (trodAll_length hA)
  refine ⟨ds, [], p ++ [], [], p, [], hW', ?_, ?_, ?_, Below.frame hb _, fun h => by cases h⟩
  · rw [List.append_nil, s1, hres]
    exact trodAll_cons_mk (shut_bool ht _) trodAll_mk0
  · rw [List.append_nil, s2]
    exact below_trodAll hl hb hr (fun x hx => hlt x (by simp [hx])) hA
  · rw [List.append_nil, s3, hs.vars]
    rfl
theorem contract_of {H : Type} {enc : TypeId × Value → H} {S : Seat} {fid : FuncId} {f : Func} {s : ChangeSpec} {W : World} {args : Array Value} {ds gs : List (DataW H)} {before : List MemPlace} {t : TypeId} {vs : List AV} {h' : AHeap} (hl : laidOutB S.P = true)
    (hW : DataW.Whole enc S.P f.params.toList s.vars false W args.toList ds gs before) (hs : SaysTrue s f.params.toList.length) (hr : (f.params.toList.all fun t => S.P.readableRec t && decide (t < S.P.types.size)) = true)
    (hres : f.resultTypes = #[t]) (ht : S.P.underlying t = some .bool) (hb : S.base W) (hg : ∀ k, S.gl k = none) (hR : RepL (ghost0 W) vs args) (ac : AC S fid vs heap0 (Pure1 (.bool true) h')) :
    Calls S.P fid args W fun e W' => ∃ v, e = .returned v ∧ s.post enc S.P f false true false false W args v W' := by
  refine (ac W (ghost0 W) W args (start hb hg) hR).mono fun e W' ⟨r, h', g', hle, inv, hend, hr'⟩ => ?_
  obtain ⟨rfl, _⟩ := hr'
  cases e with
  | returned x =>
    have hx : Rep g' (.bool true) x := hend
    cases hx
    exact ⟨_, rfl, post_true hl hW hs hr inv.below hres ht⟩
  | panicked ps => exact hend.elim
  | _ => exact hend.elim
end Go.Proofs.YtajknofacjiddaaDoor.Abs

/- What the layer's laws are given: their arguments as trees, functions and values; a world to begin with. -/
namespace Go.Proofs.YtajknofacjiddaaDoor.Abs
open Go Go.RowKit
set_option linter.unusedSimpArgs false
set_option linter.unusedVariables false
set_option maxRecDepth 100000
theorem laidOut : laidOutB Tryd.prog = true := by kernel_rfl
theorem own : ownKnob Tryd.prog.godebug = none := by kernel_rfl

theorem cells_u {k : Nat} {n : Nat} (h : Tryd.prog.cellsOf k = n) : sd.P.cellsOf k = n := h
theorem c1u5 : Tryd.prog.cellsOf 5 = 1 := by kernel_rfl
theorem c1u3 : Tryd.prog.cellsOf 3 = 1 := by kernel_rfl
theorem c1u9 : Tryd.prog.cellsOf 9 = 1 := by kernel_rfl
theorem c1u4 : Tryd.prog.cellsOf 4 = 1 := by kernel_rfl
theorem c1u30 : Tryd.prog.cellsOf 30 = 1 := by kernel_rfl
theorem c1u39 : Tryd.prog.cellsOf 39 = 1 := by kernel_rfl
theorem c1u43 : Tryd.prog.cellsOf 43 = 1 := by kernel_rfl
theorem c4u32 : Tryd.prog.cellsOf 32 = 4 := by kernel_rfl
theorem c2u65 : Tryd.prog.cellsOf 65 = 2 := by kernel_rfl
theorem c7u41 : Tryd.prog.cellsOf 41 = 7 := by kernel_rfl
theorem c3u54 : Tryd.prog.cellsOf 54 = 3 := by kernel_rfl

mutual
/-- What is known of a tree that is read. -/
def Node.ints : Node → Prop
  | .mk k n s ks => (0 ≤ k ∧ k ≤ 255 ∧ -9223372036854775808 ≤ n ∧ n ≤ 9223372036854775807) ∧ intsL ks
def intsL : List Node → Prop
  | [] => True
  | x :: xs => x.ints ∧ intsL xs
end
mutual
def Node.wt : Node → Nat
  | .mk _ _ s ks => s.size + 1 + (wts ks) + 1
def wts : List Node → Nat
  | [] => 0
  | x :: xs => x.wt + wts xs
end
theorem wts_eq (ks : List Node) : wts ks = (ks.map Node.wt).sum := by
  induction ks with
  | nil => rfl
  | cons x xs ih => simp [wts, ih]
theorem intsL_of {ks : List Node} (h : ∀ x ∈ ks, x.ints) : intsL ks := by
  induction ks with
  | nil => trivial
  | cons x xs ih => exact ⟨h x (by simp), ih fun y hy => h y (by simp [hy])⟩
theorem reads_node : ∀ N, Reads Tryd.prog N 32 Node.enc Node.wt Node.ints := by
  intro N
  induction N using Nat.strongRecOn with
  | _ N ih =>
  intro H e W cs d ps h
  obtain ⟨xs, n, rfl, hx, hl, hlen, hf⟩ := DataW.trod_struct (P := Tryd.prog) (t := 32) Tryd.underlying32 h
  rw [c4u32] at hl
  match xs, hlen, cs, hl with
  | [y0, y1, y2, y3], _, [a, b, c, k], _ =>
    cases hx
    have h0 := hf 0 _ rfl
    have h1 := hf 1 _ rfl
    have h2 := hf 2 _ rfl
    have h3 := hf 3 _ rfl
    simp only [c1u5, c1u3, c1u9, c1u30, List.drop_succ_cons, List.drop_zero, List.take_succ_cons, List.take_zero, List.getElem?_cons_zero, List.getElem?_cons_succ] at h0 h1 h2 h3
    obtain ⟨q0, f0, _, i0⟩ := reads_int (P := Tryd.prog) (t := 5) Tryd.underlying5 n H e W _ _ _ h0
    obtain ⟨q1, f1, _, i1⟩ := reads_int (P := Tryd.prog) (t := 3) Tryd.underlying3 n H e W _ _ _ h1
    obtain ⟨q2, f2, b2, _⟩ := reads_str (P := Tryd.prog) (t := 9) Tryd.underlying9 n H e W _ _ _ h2
    obtain ⟨q3, f3, b3, i3⟩ := reads_slice (P := Tryd.prog) (t := 30) Tryd.underlying30 c4u32 (by decide) n (fun m hm => ih m (by omega)) H e W _ _ _ h3
    refine ⟨.mk q0 q1 q2 q3, ?_, ?_, ?_⟩
    · unfold Node.enc
      rw [encs_eq]
      exact f0.app (f1.app (f2.app f3))
    · simp only [Node.wt, wts_eq, List.map_cons, List.map_nil, Rows.uptoBulk, Rows.uptoBulkAll]
      have := bulk_one y0.1
      have := bulk_one y1.1
      have b2' : q2.size + 1 ≤ Rows.uptoBulk y2.1 := b2
      have b3' : (q3.map Node.wt).sum + 1 ≤ Rows.uptoBulk y3.1 := b3
      omega
    · unfold Node.ints
      rw [show IntKind.u8.min = 0 by decide +kernel, show IntKind.u8.max = 255 by decide +kernel] at i0
      rw [show IntKind.i64.min = -9223372036854775808 by decide +kernel, show IntKind.i64.max = 9223372036854775807 by decide +kernel] at i1
      exact ⟨⟨i0.1, i0.2, i1.1, i1.2⟩, intsL_of i3⟩
theorem reads_param (N : Nat) : Reads Tryd.prog N 65 Param.enc (fun p => p.name.size + 1) (fun _ => True) := by
  intro H e W cs d ps h
  obtain ⟨xs, n, rfl, hx, hl, hlen, hf⟩ := DataW.trod_struct (P := Tryd.prog) (t := 65) Tryd.underlying65 h
  rw [c2u65] at hl
  match xs, hlen, cs, hl with
  | [y0, y1], _, [a, b], _ =>
    cases hx
    have h0 := hf 0 _ rfl
    have h1 := hf 1 _ rfl
    simp only [c1u4, c1u9, List.drop_succ_cons, List.drop_zero, List.take_succ_cons, List.take_zero, List.getElem?_cons_zero, List.getElem?_cons_succ] at h0 h1
    obtain ⟨q0, f0, b0, _⟩ := reads_str (P := Tryd.prog) (t := 9) Tryd.underlying9 n H e W _ _ _ h0
    obtain ⟨q1, f1, _, _⟩ := reads_bool (P := Tryd.prog) (t := 4) Tryd.underlying4 n H e W _ _ _ h1
    refine ⟨⟨q0, q1⟩, f0.app f1, ?_, trivial⟩
    have b0' : q0.size + 1 ≤ Rows.uptoBulk y0.1 := b0
    simp only [List.map_cons, List.map_nil, Rows.uptoBulk, Rows.uptoBulkAll]
    omega
def Fn.wt (f : Fn) : Nat := f.name.size + 1 + ((f.params.map fun p => p.name.size + 1).sum + 1) + f.body.wt
theorem reads_fn (N : Nat) : Reads Tryd.prog N 41 Fn.enc Fn.wt (fun f => f.body.ints) := by
  intro H e W cs d ps h
  obtain ⟨xs, n, rfl, hx, hl, hlen, hf⟩ := DataW.trod_struct (P := Tryd.prog) (t := 41) Tryd.underlying41 h
  rw [c7u41] at hl
  match xs, hlen, cs, hl with
  | [y0, y1, y2, y3], _, [a, b, c, k, l, m, o], _ =>
    cases hx
    have h0 := hf 0 _ rfl
    have h1 := hf 1 _ rfl
    have h2 := hf 2 _ rfl
    have h3 := hf 3 _ rfl
    simp only [c1u4, c1u9, c1u39, c4u32, List.drop_succ_cons, List.drop_zero, List.take_succ_cons, List.take_zero, List.getElem?_cons_zero, List.getElem?_cons_succ] at h0 h1 h2 h3
    obtain ⟨q0, f0, b0, _⟩ := reads_str (P := Tryd.prog) (t := 9) Tryd.underlying9 n H e W _ _ _ h0
    obtain ⟨q1, f1, b1, _⟩ := reads_slice (P := Tryd.prog) (t := 39) Tryd.underlying39 c2u65 (by decide) n (fun m _ => reads_param m) H e W _ _ _ h1
    obtain ⟨q2, f2, _, _⟩ := reads_bool (P := Tryd.prog) (t := 4) Tryd.underlying4 n H e W _ _ _ h2
    obtain ⟨q3, f3, b3, i3⟩ := reads_node n H e W _ _ _ h3
    refine ⟨⟨q0, q1, q2, q3⟩, f0.app (f1.app (f2.app f3)), ?_, i3⟩
    have b0' : q0.size + 1 ≤ Rows.uptoBulk y0.1 := b0
    have b1' : (q1.map fun p => p.name.size + 1).sum + 1 ≤ Rows.uptoBulk y1.1 := b1
    simp only [Fn.wt, List.map_cons, List.map_nil, Rows.uptoBulk, Rows.uptoBulkAll]
    omega
theorem reads_lib (N : Nat) : Reads Tryd.prog N 22 (fun l : List Fn => [vlib l]) (fun l => (l.map Fn.wt).sum + 1) (fun l => ∀ f ∈ l, f.body.ints) :=
  reads_slice (P := Tryd.prog) (t := 22) Tryd.underlying22 c7u41 (by decide) N fun m _ => reads_fn m
theorem ones {α : Type} (l : List α) : (l.map fun _ => 1).sum = l.length := by
  induction l with
  | nil => rfl
  | cons x xs ih => simp only [List.map_cons, List.sum_cons, List.length_cons, ih]; omega
/-- A value of the layer. -/
structure Val where
  list : Bool
  n : Int
  l : List Int
def Val.enc (v : Val) : List AV := [.bool v.list, .int .i64 v.n, vints v.l]
theorem reads_val (N : Nat) : Reads Tryd.prog N 54 Val.enc (fun v => v.l.length) (fun _ => True) := by
  intro H e W cs d ps h
  obtain ⟨xs, n, rfl, hx, hl, hlen, hf⟩ := DataW.trod_struct (P := Tryd.prog) (t := 54) Tryd.underlying54 h
  rw [c3u54] at hl
  match xs, hlen, cs, hl with
  | [y0, y1, y2], _, [a, b, c], _ =>
    cases hx
    have h0 := hf 0 _ rfl
    have h1 := hf 1 _ rfl
    have h2 := hf 2 _ rfl
    simp only [c1u4, c1u3, c1u43, List.drop_succ_cons, List.drop_zero, List.take_succ_cons, List.take_zero, List.getElem?_cons_zero, List.getElem?_cons_succ] at h0 h1 h2
    obtain ⟨q0, f0, _, _⟩ := reads_bool (P := Tryd.prog) (t := 4) Tryd.underlying4 n H e W _ _ _ h0
    obtain ⟨q1, f1, _, _⟩ := reads_int (P := Tryd.prog) (t := 3) Tryd.underlying3 n H e W _ _ _ h1
    obtain ⟨q2, f2, b2, _⟩ := reads_slice (P := Tryd.prog) (t := 43) Tryd.underlying43 c1u3 (by decide) n (fun m _ => reads_int (P := Tryd.prog) (t := 3) Tryd.underlying3 m) H e W _ _ _ h2
    refine ⟨⟨q0, q1, q2⟩, f0.app (f1.app f2), ?_, trivial⟩
    have b2' : (q2.map fun _ => 1).sum + 1 ≤ Rows.uptoBulk y2.1 := b2
    have := ones q2
    simp only [List.map_cons, List.map_nil, Rows.uptoBulk, Rows.uptoBulkAll]
    omega

/-- The library's table of white space lies there. -/
theorem base_of {W : World} (h : laidMetH Tryd.prog [("unicode.White_Space", Rows.laid_unicode_White_Space), ("strings.asciiSpace", Rows.laid_strings_asciiSpace)] W) : base0 W := by
  have h1 := laidMetH.filter (fun x => x.1 == "strings.asciiSpace") h
  have e : ([("unicode.White_Space", Rows.laid_unicode_White_Space), ("strings.asciiSpace", Rows.laid_strings_asciiSpace)] : List (String × DataW Unit)).filter (fun x => x.1 == "strings.asciiSpace") = [("strings.asciiSpace", Go.Lib.tabData .u8 Go.Lib.asciiSpaceTab)] := by kernel_rfl
  rw [e] at h1
  exact Go.Lib.tabIs_of_head (rest := []) (g := 0) (t := 92) (e := 5) (n := 256) (by kernel_rfl) (by kernel_rfl) Tryd.underlying92 Tryd.underlying5 c1u5 (by kernel_rfl) h1

/-- A world for the witness: the two tables as they are laid. -/
noncomputable def laidWorld (os : Os) : World :=
  let N := (World.settled Tryd.prog os).heap.size
  let w0 := World.holding Tryd.prog os ⟨#[.cells (Go.Lib.whiteT.map fun (z : Nat) => Value.int .u16 (z : Int)).toArray 107, .cells #[.slice (some ⟨N, 0, none⟩) 7 7, .slice none 0 0, .int .i64 2] 104], #[], []⟩
  let put (h : Array Obj) (g : Nat) (cs : Array Value) : Array Obj := h.modify g fun
    | .cells _ t frozen => .cells cs t frozen
    | o => o
  { w0 with heap := put (put w0.heap 0 (Go.Lib.asciiSpaceTab.map fun z => Value.int .u8 z).toArray) 1 #[.pointer (some ⟨N + 1, 0, none⟩)] }
theorem laid_met (os : Os) (args : Array Value) : laidMet Tryd.prog [("unicode.White_Space", Rows.laid_unicode_White_Space), ("strings.asciiSpace", Rows.laid_strings_asciiSpace)] ((laidWorld os).forCall (fun _ _ => 0) ⟨#[], args, []⟩).memory :=
  laidMet_of_run' 10 (by kernel_rfl) (by kernel_rfl)
end Go.Proofs.YtajknofacjiddaaDoor.Abs

/- Values that are equal. -/
namespace Go.Proofs.YtajknofacjiddaaDoor.Abs
open Go Go.RowKit
set_option linter.unusedSimpArgs false
set_option linter.unusedVariables false
set_option maxHeartbeats 4000000
set_option maxRecDepth 100000
theorem venc_eq (v : Val) : v.enc = [.bool v.list, .int .i64 v.n, kslice 1 (v.l.map fun b => [.int .i64 b])] := rfl
theorem ac42 (xs ys : List Int) (hl : xs.length ≤ 1048576) (hl2 : ys.length ≤ 1048576) (h : AHeap) : AC sd 42 [vints xs, vints ys] h (Pure1 (.bool (decide (xs = ys))) h) := by
  refine AC.pure Tryd.func42 rfl Tryd.ntmps42 (by show 2 ≤ 26; decide) ?_
  refine Ev.sound 100 _ _ _ _ ?_
  simp only [argFr, vints]
  by_cases hle : xs.length = ys.length
  case neg =>
    have d1 : decide ((xs.length : Int) = ys.length) = false := decide_eq_false (by omega)
    have hn : decide (xs = ys) = false := decide_eq_false (fun e => hle (by rw [e]))
    simp only [wy, Nat.reduceAdd, Nat.reduceEqDiff, Nat.reduceLT, Nat.reduceMul, Nat.reduceLeDiff, Int.reduceEq, ↓reduceIte, reduceCtorEq, ne_eq, implies_true, if_true, if_false, ite_not, eq_self, Tryd.ntmps42, List.length_map, d1]
    exact Leave.pures rfl (by simp only [wy, Nat.reduceAdd, Nat.reduceEqDiff, Nat.reduceLT, Nat.reduceMul, Nat.reduceLeDiff, Int.reduceEq, ↓reduceIte, reduceCtorEq, ne_eq, implies_true, if_true, if_false, ite_not, eq_self, oneOf, hn] <;> rfl) (Ext.refl _) rfl
  have d1 : decide ((xs.length : Int) = ys.length) = true := decide_eq_true (by omega)
  simp only [wy, Nat.reduceAdd, Nat.reduceEqDiff, Nat.reduceLT, Nat.reduceMul, Nat.reduceLeDiff, Int.reduceEq, ↓reduceIte, reduceCtorEq, ne_eq, implies_true, if_true, if_false, ite_not, eq_self, Tryd.ntmps42, List.length_map, d1]
  refine Stop.round (σ := Nat) (fun k => xs.length - k) (fun k => [(0, kslice 1 (xs.map fun b => [.int .i64 b])), (1, kslice 1 (ys.map fun b => [.int .i64 b])), (12, .int .i64 xs.length), (13, .int .i64 k)]) (fun k h1 => k ≤ xs.length ∧ h1 = h ∧ (xs = ys ↔ xs.drop k = ys.drop k)) 0 ⟨Nat.zero_le _, rfl, Iff.rfl⟩ ?_ ?_
  · simp only [wy, Nat.reduceAdd, Nat.reduceEqDiff, Nat.reduceLT, Nat.reduceMul, Nat.reduceLeDiff, Int.reduceEq, ↓reduceIte, reduceCtorEq, ne_eq, implies_true, if_true, if_false, ite_not, eq_self, Tryd.ntmps42, Int.ofNat_zero, Int.natCast_zero]
  rintro k _ ⟨hk, rfl, hp⟩ next
  refine Ev.sound 100 _ _ _ _ ?_
  rcases turn xs k hk with ⟨y, hy, hmem, hlt, c1, c2⟩ | ⟨rfl, c1⟩
  · obtain ⟨z, hz, _, hlt2, c3, _⟩ : ∃ z, ys[k]? = some z ∧ z ∈ ys ∧ k < ys.length ∧ ((k : Int) < (ys.length : Int)) = True ∧ (0 ≤ (k : Int)) = True := by
      rcases turn ys k (by omega) with h | h
      · exact h
      · omega
    have w1 := wrap_succ k (by omega)
    rw [drop_eq_turn hy hz] at hp
    simp only [wy, Nat.reduceAdd, Nat.reduceEqDiff, Nat.reduceLT, Nat.reduceMul, Nat.reduceLeDiff, Int.reduceEq, ↓reduceIte, reduceCtorEq, ne_eq, implies_true, if_true, if_false, ite_not, eq_self, Tryd.ntmps42, c1, c2]
    refine Stop.drawn [(0, 0), (1, 0), (2, 0), (3, 0), (4, 0), (5, 0), (6, 0), (7, 0), (8, 0)] [[], [], [0, 1], [0, 1, 2], [], [], [4, 5], [4, 5, 6], [0, 1, 2, 3, 4, 5, 6, 7]] 90 (by kernel_rfl) ?_
    simp only [wy, Nat.reduceAdd, Nat.reduceEqDiff, Nat.reduceLT, Nat.reduceMul, Nat.reduceLeDiff, Int.reduceEq, ↓reduceIte, reduceCtorEq, ne_eq, implies_true, if_true, if_false, ite_not, eq_self, Tryd.ntmps42, c1, c2, c3, List.length_map, getD_map (fun b : Int => [AV.int .i64 b]) hy, getD_map (fun b : Int => [AV.int .i64 b]) hz]
    by_cases q : y = z
    · simp only [wy, Nat.reduceAdd, Nat.reduceEqDiff, Nat.reduceLT, Nat.reduceMul, Nat.reduceLeDiff, Int.reduceEq, ↓reduceIte, reduceCtorEq, ne_eq, implies_true, if_true, if_false, ite_not, eq_self, Tryd.ntmps42, decide_eq_true q, w1]
      exact next (k + 1) _ _ (by omega) ⟨hlt, rfl, by rw [hp]; simp [q]⟩ (by simp only [wy, Nat.reduceAdd, Nat.reduceEqDiff, Nat.reduceLT, Nat.reduceMul, Nat.reduceLeDiff, Int.reduceEq, ↓reduceIte, reduceCtorEq, ne_eq, implies_true, if_true, if_false, ite_not, eq_self, Tryd.ntmps42])
    · have hn : decide (xs = ys) = false := decide_eq_false (fun e => q (hp.1 e).1)
      simp only [wy, Nat.reduceAdd, Nat.reduceEqDiff, Nat.reduceLT, Nat.reduceMul, Nat.reduceLeDiff, Int.reduceEq, ↓reduceIte, reduceCtorEq, ne_eq, implies_true, if_true, if_false, ite_not, eq_self, Tryd.ntmps42, decide_eq_false q]
      exact Leave.pures rfl (by simp only [wy, Nat.reduceAdd, Nat.reduceEqDiff, Nat.reduceLT, Nat.reduceMul, Nat.reduceLeDiff, Int.reduceEq, ↓reduceIte, reduceCtorEq, ne_eq, implies_true, if_true, if_false, ite_not, eq_self, oneOf, hn] <;> rfl) (Ext.refl _) rfl
  · rw [List.drop_length, hle, List.drop_length] at hp
    have hn : decide (xs = ys) = true := decide_eq_true (hp.2 rfl)
    simp only [wy, Nat.reduceAdd, Nat.reduceEqDiff, Nat.reduceLT, Nat.reduceMul, Nat.reduceLeDiff, Int.reduceEq, ↓reduceIte, reduceCtorEq, ne_eq, implies_true, if_true, if_false, ite_not, eq_self, Tryd.ntmps42, c1]
    exact Leave.pures rfl (by simp only [wy, Nat.reduceAdd, Nat.reduceEqDiff, Nat.reduceLT, Nat.reduceMul, Nat.reduceLeDiff, Int.reduceEq, ↓reduceIte, reduceCtorEq, ne_eq, implies_true, if_true, if_false, ite_not, eq_self, oneOf, hn] <;> rfl) (Ext.refl _) rfl
def eqVal (a b : Val) : Bool := if a.list = true ∨ b.list = true then a.list && b.list && decide (a.l = b.l) else decide (a.n = b.n)
theorem ac27 (a b : Val) (ha : a.l.length ≤ 1048576) (hb : b.l.length ≤ 1048576) (h : AHeap) : AC sd 27 [.agg a.enc, .agg b.enc] h (Pure1 (.bool (eqVal a b)) h) := by
  refine AC.pure Tryd.func27 rfl Tryd.ntmps27 (by show 2 ≤ 29; decide) ?_
  refine Ev.sound 100 _ _ _ _ ?_
  simp only [argFr, venc_eq]
  have hh : ∀ u v, Ext h ((h.alloc u).alloc v) := fun u v => ((Ext.refl h).alloc u).alloc v
  have hn : eqVal a b = if a.list = true ∨ b.list = true then a.list && b.list && decide (a.l = b.l) else decide (a.n = b.n) := rfl
  cases a1 : a.list <;> cases b1 : b.list <;> simp only [a1, b1, Bool.false_eq_true, or_false, or_true, if_true, if_false, false_or, true_or, Bool.and_true, Bool.true_and, Bool.and_false, Bool.false_and] at hn
  · simp only [wy, Nat.reduceAdd, Nat.reduceEqDiff, Nat.reduceLT, Nat.reduceMul, Nat.reduceLeDiff, Int.reduceEq, ↓reduceIte, reduceCtorEq, ne_eq, implies_true, if_true, if_false, ite_not, eq_self, Tryd.ntmps27]
    exact Leave.pures rfl (by simp only [wy, Nat.reduceAdd, Nat.reduceEqDiff, Nat.reduceLT, Nat.reduceMul, Nat.reduceLeDiff, Int.reduceEq, ↓reduceIte, reduceCtorEq, ne_eq, implies_true, if_true, if_false, ite_not, eq_self, oneOf, hn] <;> rfl) (hh _ _) rfl
  · simp only [wy, Nat.reduceAdd, Nat.reduceEqDiff, Nat.reduceLT, Nat.reduceMul, Nat.reduceLeDiff, Int.reduceEq, ↓reduceIte, reduceCtorEq, ne_eq, implies_true, if_true, if_false, ite_not, eq_self, Tryd.ntmps27]
    exact Leave.pures rfl (by simp only [wy, Nat.reduceAdd, Nat.reduceEqDiff, Nat.reduceLT, Nat.reduceMul, Nat.reduceLeDiff, Int.reduceEq, ↓reduceIte, reduceCtorEq, ne_eq, implies_true, if_true, if_false, ite_not, eq_self, oneOf, hn] <;> rfl) (hh _ _) rfl
  · simp only [wy, Nat.reduceAdd, Nat.reduceEqDiff, Nat.reduceLT, Nat.reduceMul, Nat.reduceLeDiff, Int.reduceEq, ↓reduceIte, reduceCtorEq, ne_eq, implies_true, if_true, if_false, ite_not, eq_self, Tryd.ntmps27]
    exact Leave.pures rfl (by simp only [wy, Nat.reduceAdd, Nat.reduceEqDiff, Nat.reduceLT, Nat.reduceMul, Nat.reduceLeDiff, Int.reduceEq, ↓reduceIte, reduceCtorEq, ne_eq, implies_true, if_true, if_false, ite_not, eq_self, oneOf, hn] <;> rfl) (hh _ _) rfl
  · simp only [wy, Nat.reduceAdd, Nat.reduceEqDiff, Nat.reduceLT, Nat.reduceMul, Nat.reduceLeDiff, Int.reduceEq, ↓reduceIte, reduceCtorEq, ne_eq, implies_true, if_true, if_false, ite_not, eq_self, Tryd.ntmps27]
    refine Stop.fact (ac42 a.l b.l ha hb _) rfl (by first | rfl | simp only [wy, Nat.reduceAdd, Nat.reduceEqDiff, Nat.reduceLT, Nat.reduceMul, Nat.reduceLeDiff, Int.reduceEq, ↓reduceIte, reduceCtorEq, ne_eq, implies_true, if_true, if_false, ite_not, eq_self, Tryd.ntmps27, vints, fgt_ints]) (by simp only [wy, Nat.reduceAdd, Nat.reduceEqDiff, Nat.reduceLT, Nat.reduceMul, Nat.reduceLeDiff, Int.reduceEq, ↓reduceIte, reduceCtorEq, ne_eq, implies_true, if_true, if_false, ite_not, eq_self, Tryd.ntmps27]) (caps := []) (by simp only [wy, Nat.reduceAdd, Nat.reduceEqDiff, Nat.reduceLT, Nat.reduceMul, Nat.reduceLeDiff, Int.reduceEq, ↓reduceIte, reduceCtorEq, ne_eq, implies_true, if_true, if_false, ite_not, eq_self, vints, fgt_ints]) en_42 (by simp only [wy, Nat.reduceAdd, Nat.reduceEqDiff, Nat.reduceLT, Nat.reduceMul, Nat.reduceLeDiff, Int.reduceEq, ↓reduceIte, reduceCtorEq, ne_eq, implies_true, if_true, if_false, ite_not, eq_self, vints, fgt_ints] <;> rfl) (Ev.sound 100 _ _ _ _ ?_)
    simp only [wy, Nat.reduceAdd, Nat.reduceEqDiff, Nat.reduceLT, Nat.reduceMul, Nat.reduceLeDiff, Int.reduceEq, ↓reduceIte, reduceCtorEq, ne_eq, implies_true, if_true, if_false, ite_not, eq_self, Tryd.ntmps27]
    exact Leave.pures rfl (by simp only [wy, Nat.reduceAdd, Nat.reduceEqDiff, Nat.reduceLT, Nat.reduceMul, Nat.reduceLeDiff, Int.reduceEq, ↓reduceIte, reduceCtorEq, ne_eq, implies_true, if_true, if_false, ite_not, eq_self, oneOf, hn] <;> rfl) (hh _ _) rfl
theorem ac28 (a b : Val) (ha : a.l.length ≤ 1048576) (hb : b.l.length ≤ 1048576) (h : AHeap) : AC sd 28 [.agg a.enc, .agg b.enc] h (Pure1 (.bool (eqVal a b)) h) := by
  refine AC.pure Tryd.func28 rfl Tryd.ntmps28 (by show 2 ≤ 53; decide) ?_
  refine Ev.sound 100 _ _ _ _ ?_
  simp only [argFr, venc_eq]
  have hh : ∀ u v, Ext h ((h.alloc u).alloc v) := fun u v => ((Ext.refl h).alloc u).alloc v
  have hn : eqVal a b = if a.list = true ∨ b.list = true then a.list && b.list && decide (a.l = b.l) else decide (a.n = b.n) := rfl
  cases a1 : a.list <;> cases b1 : b.list <;> simp only [a1, b1, Bool.false_eq_true, or_false, or_true, if_true, if_false, false_or, true_or, Bool.and_true, Bool.true_and, Bool.and_false, Bool.false_and] at hn
  · simp only [wy, Nat.reduceAdd, Nat.reduceEqDiff, Nat.reduceLT, Nat.reduceMul, Nat.reduceLeDiff, Int.reduceEq, ↓reduceIte, reduceCtorEq, ne_eq, implies_true, if_true, if_false, ite_not, eq_self, Tryd.ntmps28]
    exact Leave.pures rfl (by simp only [wy, Nat.reduceAdd, Nat.reduceEqDiff, Nat.reduceLT, Nat.reduceMul, Nat.reduceLeDiff, Int.reduceEq, ↓reduceIte, reduceCtorEq, ne_eq, implies_true, if_true, if_false, ite_not, eq_self, oneOf, hn] <;> rfl) (hh _ _) rfl
  · simp only [wy, Nat.reduceAdd, Nat.reduceEqDiff, Nat.reduceLT, Nat.reduceMul, Nat.reduceLeDiff, Int.reduceEq, ↓reduceIte, reduceCtorEq, ne_eq, implies_true, if_true, if_false, ite_not, eq_self, Tryd.ntmps28]
    exact Leave.pures rfl (by simp only [wy, Nat.reduceAdd, Nat.reduceEqDiff, Nat.reduceLT, Nat.reduceMul, Nat.reduceLeDiff, Int.reduceEq, ↓reduceIte, reduceCtorEq, ne_eq, implies_true, if_true, if_false, ite_not, eq_self, oneOf, hn] <;> rfl) (hh _ _) rfl
  · simp only [wy, Nat.reduceAdd, Nat.reduceEqDiff, Nat.reduceLT, Nat.reduceMul, Nat.reduceLeDiff, Int.reduceEq, ↓reduceIte, reduceCtorEq, ne_eq, implies_true, if_true, if_false, ite_not, eq_self, Tryd.ntmps28]
    exact Leave.pures rfl (by simp only [wy, Nat.reduceAdd, Nat.reduceEqDiff, Nat.reduceLT, Nat.reduceMul, Nat.reduceLeDiff, Int.reduceEq, ↓reduceIte, reduceCtorEq, ne_eq, implies_true, if_true, if_false, ite_not, eq_self, oneOf, hn] <;> rfl) (hh _ _) rfl
  · simp only [wy, Nat.reduceAdd, Nat.reduceEqDiff, Nat.reduceLT, Nat.reduceMul, Nat.reduceLeDiff, Int.reduceEq, ↓reduceIte, reduceCtorEq, ne_eq, implies_true, if_true, if_false, ite_not, eq_self, Tryd.ntmps28]
    by_cases hle : a.l.length = b.l.length
    case neg =>
      have d1 : decide ((a.l.length : Int) = b.l.length) = false := decide_eq_false (by omega)
      have hq : decide (a.l = b.l) = false := decide_eq_false (fun e => hle (by rw [e]))
      rw [hq] at hn
      simp only [wy, Nat.reduceAdd, Nat.reduceEqDiff, Nat.reduceLT, Nat.reduceMul, Nat.reduceLeDiff, Int.reduceEq, ↓reduceIte, reduceCtorEq, ne_eq, implies_true, if_true, if_false, ite_not, eq_self, Tryd.ntmps28, List.length_map, d1]
      exact Leave.pures rfl (by simp only [wy, Nat.reduceAdd, Nat.reduceEqDiff, Nat.reduceLT, Nat.reduceMul, Nat.reduceLeDiff, Int.reduceEq, ↓reduceIte, reduceCtorEq, ne_eq, implies_true, if_true, if_false, ite_not, eq_self, oneOf, hn] <;> rfl) (hh _ _) rfl
    have d1 : decide ((a.l.length : Int) = b.l.length) = true := decide_eq_true (by omega)
    simp only [wy, Nat.reduceAdd, Nat.reduceEqDiff, Nat.reduceLT, Nat.reduceMul, Nat.reduceLeDiff, Int.reduceEq, ↓reduceIte, reduceCtorEq, ne_eq, implies_true, if_true, if_false, ite_not, eq_self, Tryd.ntmps28, List.length_map, d1]
    refine Stop.round (σ := Nat) (fun k => a.l.length - k) (fun k => [(2, .ptr h.next 0), (3, .ptr (h.next + 1) 0), (5, .int .i64 k)])
      (fun k h1 => k ≤ a.l.length ∧ h1 = ((h.alloc (.cells [.bool true, .int .i64 a.n, kslice 1 (a.l.map fun b => [.int .i64 b])])).alloc (.cells [.bool true, .int .i64 b.n, kslice 1 (b.l.map fun b => [.int .i64 b])])) ∧ (a.l = b.l ↔ a.l.drop k = b.l.drop k)) 0 ⟨Nat.zero_le _, rfl, Iff.rfl⟩ ?_ ?_
    · simp only [wy, Nat.reduceAdd, Nat.reduceEqDiff, Nat.reduceLT, Nat.reduceMul, Nat.reduceLeDiff, Int.reduceEq, ↓reduceIte, reduceCtorEq, ne_eq, implies_true, if_true, if_false, ite_not, eq_self, Tryd.ntmps28, Int.ofNat_zero, Int.natCast_zero]
    rintro k _ ⟨hk, rfl, hp⟩ next
    refine Ev.sound 100 _ _ _ _ ?_
    rcases turn a.l k hk with ⟨y, hy, hmem, hlt, c1, c2⟩ | ⟨rfl, c1⟩
    · obtain ⟨z, hz, _, hlt2, c3, _⟩ : ∃ z, b.l[k]? = some z ∧ z ∈ b.l ∧ k < b.l.length ∧ ((k : Int) < (b.l.length : Int)) = True ∧ (0 ≤ (k : Int)) = True := by
        rcases turn b.l k (by omega) with h | h
        · exact h
        · omega
      have w1 := wrap_succ k (by omega)
      rw [drop_eq_turn hy hz] at hp
      simp only [wy, Nat.reduceAdd, Nat.reduceEqDiff, Nat.reduceLT, Nat.reduceMul, Nat.reduceLeDiff, Int.reduceEq, ↓reduceIte, reduceCtorEq, ne_eq, implies_true, if_true, if_false, ite_not, eq_self, Tryd.ntmps28, c1, c2, List.length_map]
      refine Stop.drawn [(0, 0), (1, 0), (2, 0), (3, 0), (4, 0), (5, 0), (6, 0), (7, 0), (8, 0), (9, 0), (10, 0)] [[], [0], [], [0, 1, 2], [0, 1, 2, 3], [], [5], [], [5, 6, 7], [5, 6, 7, 8], [0, 1, 2, 3, 4, 5, 6, 7, 8, 9]] 90 (by kernel_rfl) ?_
      simp only [wy, Nat.reduceAdd, Nat.reduceEqDiff, Nat.reduceLT, Nat.reduceMul, Nat.reduceLeDiff, Int.reduceEq, ↓reduceIte, reduceCtorEq, ne_eq, implies_true, if_true, if_false, ite_not, eq_self, Tryd.ntmps28, c1, c2, c3, List.length_map, getD_map (fun b : Int => [AV.int .i64 b]) hy, getD_map (fun b : Int => [AV.int .i64 b]) hz]
      by_cases q : y = z
      · simp only [wy, Nat.reduceAdd, Nat.reduceEqDiff, Nat.reduceLT, Nat.reduceMul, Nat.reduceLeDiff, Int.reduceEq, ↓reduceIte, reduceCtorEq, ne_eq, implies_true, if_true, if_false, ite_not, eq_self, Tryd.ntmps28, decide_eq_true q, w1]
        exact next (k + 1) _ _ (by omega) ⟨hlt, rfl, by rw [hp]; simp [q]⟩ (by simp only [wy, Nat.reduceAdd, Nat.reduceEqDiff, Nat.reduceLT, Nat.reduceMul, Nat.reduceLeDiff, Int.reduceEq, ↓reduceIte, reduceCtorEq, ne_eq, implies_true, if_true, if_false, ite_not, eq_self, Tryd.ntmps28])
      · have hq : decide (a.l = b.l) = false := decide_eq_false (fun e => q (hp.1 e).1)
        rw [hq] at hn
        simp only [wy, Nat.reduceAdd, Nat.reduceEqDiff, Nat.reduceLT, Nat.reduceMul, Nat.reduceLeDiff, Int.reduceEq, ↓reduceIte, reduceCtorEq, ne_eq, implies_true, if_true, if_false, ite_not, eq_self, Tryd.ntmps28, decide_eq_false q]
        exact Leave.pures rfl (by simp only [wy, Nat.reduceAdd, Nat.reduceEqDiff, Nat.reduceLT, Nat.reduceMul, Nat.reduceLeDiff, Int.reduceEq, ↓reduceIte, reduceCtorEq, ne_eq, implies_true, if_true, if_false, ite_not, eq_self, oneOf, hn] <;> rfl) (hh _ _) rfl
    · rw [List.drop_length, hle, List.drop_length] at hp
      have hq : decide (a.l = b.l) = true := decide_eq_true (hp.2 rfl)
      rw [hq] at hn
      simp only [wy, Nat.reduceAdd, Nat.reduceEqDiff, Nat.reduceLT, Nat.reduceMul, Nat.reduceLeDiff, Int.reduceEq, ↓reduceIte, reduceCtorEq, ne_eq, implies_true, if_true, if_false, ite_not, eq_self, Tryd.ntmps28, c1, List.length_map]
      exact Leave.pures rfl (by simp only [wy, Nat.reduceAdd, Nat.reduceEqDiff, Nat.reduceLT, Nat.reduceMul, Nat.reduceLeDiff, Int.reduceEq, ↓reduceIte, reduceCtorEq, ne_eq, implies_true, if_true, if_false, ite_not, eq_self, oneOf, hn] <;> rfl) (hh _ _) rfl
end Go.Proofs.YtajknofacjiddaaDoor.Abs

/- Calls -/
namespace Go.Proofs.YtajknofacjiddaaDoor.Abs
open Go Go.RowKit
set_option linter.unusedSimpArgs false
set_option linter.unusedVariables false
set_option maxHeartbeats 4000000
set_option maxRecDepth 100000
/-- What is still to be run when the loop of that block stands next. -/
def atLoop (id : Nat) : Nat → List Item → List Item
  | n + 1, .code (.seq a b) :: k => atLoop id n (.code a :: .code b :: k)
  | n + 1, .code (.block j c) :: k => if j = id then .code c :: .inBlock j :: k else atLoop id n k
  | n + 1, .code c :: k => atLoop id n k
  | _, k => k
def ownCall (lib : List Fn) (k : Int) (s : ByteArray) : List Int := if k = 85 ∧ 0 ≤ find lib s then [find lib s] else []
mutual
def callsE (lib : List Fn) : Node → List Int
  | .mk k _ s ks => ownCall lib k s ++ callsL lib ks
def callsL (lib : List Fn) : List Node → List Int
  | [] => []
  | x :: xs => callsE lib x ++ callsL lib xs
end
theorem callsL_eq (lib : List Fn) (ks : List Node) : callsL lib ks = ks.flatMap (callsE lib) := by
  induction ks with
  | nil => rfl
  | cons x xs ih => simp [callsL, ih]
theorem calls_eq (lib : List Fn) (x : Node) : callsE lib x = ownCall lib x.kind x.name ++ x.kids.flatMap (callsE lib) := by
  cases x; rw [← callsL_eq]; rfl
theorem own_len (lib : List Fn) (k : Int) (s : ByteArray) : (ownCall lib k s).length ≤ 1 := by
  unfold ownCall; split <;> simp
mutual
theorem calls_len (lib : List Fn) : ∀ x : Node, (callsE lib x).length ≤ x.size
  | .mk k n s ks => by
    simp only [callsE, Node.size, List.length_append]
    have := own_len lib k s
    have := callsL_len lib ks
    omega
theorem callsL_len (lib : List Fn) : ∀ ks : List Node, (callsL lib ks).length ≤ sizes ks
  | [] => Nat.le_refl _
  | x :: xs => by
    simp only [callsL, sizes, List.length_append]
    have := calls_len lib x
    have := callsL_len lib xs
    omega
end
def iels (l : List Int) : List (List AV) := l.map fun i => [.int .i64 i]
/-- The heap with that slice of numbers, of the call's own, in the cell b. -/
def outH (h : AHeap) (b : Nat) (els : List Int) : AHeap := if els = [] then h else (h.newTok els.length).set b (.cells [.slice 1 (iels els) (.tip h.ntok)])
theorem outH_nil (h : AHeap) (b : Nat) : outH h b [] = h := if_pos rfl
theorem outH_ne (h : AHeap) (b : Nat) {els : List Int} (he : els ≠ []) : outH h b els = (h.newTok els.length).set b (.cells [.slice 1 (iels els) (.tip h.ntok)]) := if_neg he
theorem set_alloc_lt (h : AHeap) {b : Nat} (hb : b < h.next) (o p : AObj) : (h.set b o).alloc p = (h.alloc p).set b o := by
  unfold AHeap.set AHeap.alloc
  simp only
  rw [List.set_append_left _ _ hb]
theorem outH_alloc (h : AHeap) {b : Nat} (hb : b < h.next) (els : List Int) (o : AObj) : (outH h b els).alloc o = outH (h.alloc o) b els := by
  by_cases he : els = []
  · subst he; rfl
  · rw [outH_ne _ _ he, outH_ne _ _ he, set_alloc_lt (h.newTok els.length) (show b < (h.newTok els.length).next from hb)]; rfl
theorem outH_next (h : AHeap) (b : Nat) (els : List Int) : (outH h b els).next = h.next := by
  unfold outH; split
  · rfl
  · rw [next_set]; rfl
theorem outH_get (h : AHeap) (b : Nat) (els : List Int) {id : Nat} (hid : id ≠ b) : (outH h b els).get id = h.get id := by
  unfold outH; split
  · rfl
  · rw [get_set, if_neg (fun e => hid e.1)]; rfl
theorem ok_iels (n m : Nat) (l : List Int) : okLL n m (iels l) = true := by
  induction l with
  | nil => rfl
  | cons x xs ih => unfold iels at ih ⊢; rw [List.map_cons]; unfold okLL okL okL AV.ok; rw [ih]; rfl
theorem ok_tip (n m t : Nat) (l : List Int) (ht : t < m) : AObj.ok n m (.cells [.slice 1 (iels l) (.tip t)]) := by
  show ((decide (t < m) && okLL n m (iels l)) && true) = true
  rw [ok_iels, decide_eq_true ht]; rfl
theorem outH_trim {h h1 : AHeap} (x : Ext h h1) (hnt : h1.ntok = h.ntok) {b : Nat} (hb : b < h.next) (els els' : List Int) (hl : els = [] ∨ els' ≠ []) : Trim (outH h b els) (outH h1 b els') (outH h b els') := by
  by_cases he : els' = []
  · subst he
    rcases hl with rfl | hl
    · exact x.trim
    · exact absurd rfl hl
  rw [outH_ne _ _ he, outH_ne _ _ he]
  refine ⟨by rw [outH_next, next_set]; exact Nat.le_refl _, ?_, by rw [ntok_set, ntok_set, ntok_newTok, ntok_newTok]; omega, fun t ht => ?_, fun id o hg => ?_⟩
  · rw [ntok_set, ntok_newTok]
    unfold outH
    split
    · omega
    · rw [ntok_set, ntok_newTok]; exact Nat.le_refl _
  · rw [ntok_set, ntok_newTok] at ht
    rw [tok_set, tok_set, tok_newTok, tok_newTok, hnt]
    split
    · rfl
    · exact (x.tok t (by omega)).symm
  · rw [get_set] at hg
    rw [get_set]
    by_cases e : id = b
    · have hb' : b < (h.newTok els'.length).next := hb
      have hb1 : b < (h1.newTok els'.length).next := by have := x.next; show b < h1.next; omega
      rw [if_pos ⟨e, hb'⟩] at hg
      rw [if_pos ⟨e, hb1⟩, hnt]
      refine ⟨hg, .inr ?_⟩
      cases hg
      rw [ntok_set, ntok_newTok]
      exact ok_tip _ _ _ _ (Nat.lt_succ_self _)
    · rw [if_neg (fun q => e q.1)] at hg ⊢
      rw [get_newTok] at hg ⊢
      have hlt := get_lt h id hg
      refine ⟨by rw [x.get id hlt]; exact hg, .inl ?_⟩
      rw [outH_get _ _ _ e]
      exact hg
theorem fgt_iels (l : List Int) : fgtLL (iels l) = iels l := fgt_ints l
theorem flat_step {lib : List Fn} {ks : List Node} {k : Nat} {y : Node} (hy : ks[k]? = some y) : (ks.take (k + 1)).flatMap (callsE lib) = (ks.take k).flatMap (callsE lib) ++ callsE lib y := by
  rw [take_snoc _ _ _ hy, List.flatMap_append]; simp
theorem flat_le {lib : List Fn} (x : Node) (k : Nat) : ((x.kids.take k).flatMap (callsE lib)).length + (ownCall lib x.kind x.name).length ≤ x.size := by
  have h1 := calls_len lib x
  rw [calls_eq] at h1
  have h2 : (x.kids.flatMap (callsE lib)).length = ((x.kids.take k).flatMap (callsE lib)).length + ((x.kids.drop k).flatMap (callsE lib)).length := by
    rw [← List.length_append, ← List.flatMap_append, List.take_append_drop]
  rw [List.length_append] at h1
  omega
theorem setTok_newTok (h : AHeap) (n n' : Nat) : (h.newTok n).setTok h.ntok n' = h.newTok n' := by
  unfold AHeap.newTok AHeap.setTok AHeap.ntok
  simp [List.set_append_right]
/-- What lies in the cell. -/
def outV (h : AHeap) (els : List Int) : AV := if els = [] then .slice 0 [] .fixed else .slice 1 (iels els) (.tip h.ntok)
theorem outH_out (h : AHeap) {b : Nat} (hb : h.get b = some (.cells [.slice 0 [] .fixed])) (els : List Int) : (outH h b els).get b = some (.cells [outV h els]) := by
  unfold outH outV
  split
  · exact hb
  · rw [get_set, if_pos ⟨rfl, get_lt h b hb⟩]
theorem outH_one (h : AHeap) (b : Nat) (f : Int) : (h.newTok 1).set b (.cells [.slice 1 [[.int .i64 f]] (.tip h.ntok)]) = outH h b [f] := by
  rw [outH_ne _ _ (by simp)]; rfl
theorem outH_push (h : AHeap) (b : Nat) {els : List Int} (he : els ≠ []) (fs : List Int) : ((outH h b els).setTok h.ntok (els.length + fs.length)).set b (.cells [.slice 1 (iels els ++ iels fs) (.tip h.ntok)]) = outH h b (els ++ fs) := by
  rw [outH_ne _ _ he, outH_ne _ _ (by simp [he]), ← set_setTok, set_set, setTok_newTok, List.length_append]
  unfold iels
  rw [List.map_append]
theorem outH_tok (h : AHeap) (b : Nat) {els : List Int} (he : els ≠ []) : (outH h b els).tok h.ntok = els.length := by
  rw [outH_ne _ _ he, tok_set, tok_newTok, if_pos rfl]
theorem outH_ntok (h : AHeap) (b : Nat) {els : List Int} (he : els ≠ []) : (outH h b els).ntok = h.ntok + 1 := by
  rw [outH_ne _ _ he, ntok_set, ntok_newTok]
theorem outH_set (h : AHeap) {b id : Nat} (hi : id ≠ b) (els : List Int) (o : AObj) : (outH h b els).set id o = outH (h.set id o) b els := by
  unfold outH
  split
  · rfl
  · unfold AHeap.set AHeap.newTok AHeap.ntok
    simp only
    rw [List.set_comm _ _ (Ne.symm hi)]
theorem iels_len (l : List Int) : (iels l).length = l.length := by unfold iels; rw [List.length_map]
noncomputable def K37 : List Item := match Tryd.f37.body with | some c => atLoop 0 100 [.code c] | none => []
theorem flat_sz (lib : List Fn) (ks : List Node) : (ks.flatMap (callsE lib)).length ≤ (ks.map Node.size).sum := by
  induction ks with
  | nil => exact Nat.le_refl _
  | cons x xs ih =>
    have := calls_len lib x
    simp only [List.flatMap_cons, List.length_append, List.map_cons, List.sum_cons]
    omega
theorem take_sz (ks : List Node) {k : Nat} {y : Node} (hy : ks[k]? = some y) : ((ks.take k).map Node.size).sum + y.size ≤ (ks.map Node.size).sum := by
  have h1 : (ks.map Node.size).sum = ((ks.take (k + 1)).map Node.size).sum + ((ks.drop (k + 1)).map Node.size).sum := by
    rw [← List.sum_append, ← List.map_append, List.take_append_drop]
  rw [take_snoc _ _ _ hy, List.map_append, List.sum_append] at h1
  simp only [List.map_cons, List.map_nil, List.sum_cons, List.sum_nil] at h1
  omega
theorem ac37 (lib : List Fn) (hlib : LibOk lib) (x : Node) : x.wf → ∀ (h : AHeap) (a b c : Nat) (els : List Int), els.length + x.size ≤ 1099511627776 → h.get a = some (.cells [vlib lib]) → h.get b = some (.cells [.slice 0 [] .fixed]) → h.get c = some (.cells [.func 37 [.ptr a 0, .ptr b 0, .ptr c 0]]) →
    AC sd 37 [.agg x.enc, .ptr a 0, .ptr b 0, .ptr c 0] (outH h b els) (PostH (.tup []) (outH h b (els ++ callsE lib x))) := by
  intro hw h a b c els hle ha hb hc
  refine AC.post Tryd.func37 rfl Tryd.ntmps37 (by show 4 ≤ 34; decide) ?_
  refine Ev.sound 100 _ _ _ _ ?_
  have hl := hlib.len
  have an := get_lt h a ha
  have bn := get_lt h b hb
  have cn := get_lt h c hc
  have hab : a ≠ b := fun e => by rw [e, hb] at ha; cases hq : lib.map Fn.enc <;> simp [vlib, kslice, hq] at ha
  have hcb : c ≠ b := fun e => by rw [e, hb] at hc; cases hc
  have n1 : (a = h.next) = False := by simp; omega
  have n2 : (b = h.next) = False := by simp; omega
  have n3 : (c = h.next) = False := by simp; omega
  simp only [argFr, enc_eq]
  have hga : ∀ els o, (outH (h.alloc o) b els).get a = some (.cells [vlib lib]) := fun els o => by rw [outH_get _ _ _ hab, get_alloc, if_neg (by omega)]; exact ha
  have hgx : ∀ els o, (outH (h.alloc o) b els).get h.next = some o := fun els o => by rw [outH_get _ _ _ (by omega), get_alloc, if_pos rfl]
  simp only [wy, Nat.reduceAdd, Nat.reduceEqDiff, Nat.reduceLT, Nat.reduceMul, Nat.reduceLeDiff, Int.reduceEq, ↓reduceIte, reduceCtorEq, ne_eq, implies_true, if_true, if_false, ite_not, eq_self, Tryd.ntmps37, outH_next, outH_alloc _ bn, hga, hgx, vlib]
  refine Stop.fact (ac20 lib x.name hl _) rfl (by first | rfl | simp only [wy, Nat.reduceAdd, Nat.reduceEqDiff, Nat.reduceLT, Nat.reduceMul, Nat.reduceLeDiff, Int.reduceEq, ↓reduceIte, reduceCtorEq, ne_eq, implies_true, if_true, if_false, ite_not, eq_self, Tryd.ntmps37, vlib, fgt_mapfenc]) (by simp only [wy, Nat.reduceAdd, Nat.reduceEqDiff, Nat.reduceLT, Nat.reduceMul, Nat.reduceLeDiff, Int.reduceEq, ↓reduceIte, reduceCtorEq, ne_eq, implies_true, if_true, if_false, ite_not, eq_self, Tryd.ntmps37]) (caps := []) (by simp only [wy, Nat.reduceAdd, Nat.reduceEqDiff, Nat.reduceLT, Nat.reduceMul, Nat.reduceLeDiff, Int.reduceEq, ↓reduceIte, reduceCtorEq, ne_eq, implies_true, if_true, if_false, ite_not, eq_self, vlib, fgt_mapfenc]) en_20 (by simp only [wy, Nat.reduceAdd, Nat.reduceEqDiff, Nat.reduceLT, Nat.reduceMul, Nat.reduceLeDiff, Int.reduceEq, ↓reduceIte, reduceCtorEq, ne_eq, implies_true, if_true, if_false, ite_not, eq_self, vlib, fgt_mapfenc] <;> rfl) (Ev.sound 100 _ _ _ _ ?_)
  have hx0 : Ext h (h.alloc (.cells [.int .u8 x.kind, .int .i64 x.num, .str x.name, kslice 4 (x.kids.map Node.enc)])) := (Ext.refl h).alloc _
  generalize hb0 : h.alloc (.cells [.int .u8 x.kind, .int .i64 x.num, .str x.name, kslice 4 (x.kids.map Node.enc)]) = h0 at hx0 ⊢
  have hga : ∀ {h1}, Ext h0 h1 → ∀ els, (outH h1 b els).get a = some (.cells [vlib lib]) := fun {h1} hx els => by rw [outH_get _ _ _ hab, hx.get _ (by have := hx0.next; omega), hx0.get _ an]; exact ha
  have hgx : ∀ {h1}, Ext h0 h1 → ∀ els, (outH h1 b els).get h.next = some (.cells [.int .u8 x.kind, .int .i64 x.num, .str x.name, kslice 4 (x.kids.map Node.enc)]) := fun {h1} hx els => by
    rw [outH_get _ _ _ (by omega), hx.get _ (by rw [← hb0, next_alloc]; omega), ← hb0, get_alloc, if_pos rfl]
  have hgc : ∀ {h1}, Ext h0 h1 → ∀ els, (outH h1 b els).get c = some (.cells [.func 37 [.ptr a 0, .ptr b 0, .ptr c 0]]) := fun {h1} hx els => by rw [outH_get _ _ _ hcb, hx.get _ (by have := hx0.next; omega), hx0.get _ cn]; exact hc
  have hgb : ∀ {h1}, Ext h0 h1 → h1.get b = some (.cells [.slice 0 [] .fixed]) := fun {h1} hx => by rw [hx.get _ (by have := hx0.next; omega), hx0.get _ bn]; exact hb
  have hn0 : h0.next = h.next + 1 := by rw [← hb0, next_alloc]
  have ht0 : h0.ntok = h.ntok := by rw [← hb0]; rfl
  have hcall := calls_eq lib x
  -- the part from the loop on
  have rest : ∀ fr : Fr, fr.Has [(1, .ptr a 0), (2, .ptr b 0), (3, .ptr c 0), (24, kslice 4 (x.kids.map Node.enc)), (25, .int .i64 x.kids.length), (26, .int .i64 0)] → Stop sd Tryd.f37 (fun r h' => Dropped (outH h b els) (PostH (.tup []) (outH h b (els ++ callsE lib x))) r.fgt h') K37 [] fr (outH h0 b (els ++ ownCall lib x.kind x.name)) := by
    intro fr hfr
    obtain ⟨k, hK⟩ : ∃ k, K37 = k := ⟨_, rfl⟩
    have hK2 := hK
    simp only [K37, Tryd.f37, atLoop, Nat.reduceEqDiff, if_false, if_true, ↓reduceIte] at hK2
    rw [hK, ← hK2]
    clear hK hK2
    have hlen := hw.len
    have hfl := flat_le (lib := lib) x
    refine Stop.round (σ := Nat) (fun k => x.kids.length - k) (fun k => [(1, .ptr a 0), (2, .ptr b 0), (3, .ptr c 0), (24, kslice 4 (x.kids.map Node.enc)), (25, .int .i64 x.kids.length), (26, .int .i64 k)])
      (fun k h1 => k ≤ x.kids.length ∧ ∃ hb, Ext h0 hb ∧ hb.ntok = h0.ntok ∧ h1 = outH hb b (els ++ ownCall lib x.kind x.name ++ (x.kids.take k).flatMap (callsE lib))) 0 ⟨Nat.zero_le _, h0, Ext.refl _, rfl, by simp⟩ hfr ?_
    rintro k h1 ⟨hk, hb, hx, hnt, rfl⟩ next
    refine Ev.sound 100 _ _ _ _ ?_
    have hbb : b < hb.next := by have := hx.next; omega
    rcases turn x.kids k hk with ⟨y, hy, hmem, hlt, c1, c2⟩ | ⟨hkk, c1⟩
    · have w1 := wrap_succ k (by omega)
      have hgy : ∀ els o, (outH (hb.alloc o) b els).get hb.next = some o := fun els o => by rw [outH_get _ _ _ (by omega), get_alloc, if_pos rfl]
      have hsz := kid_size hmem
      have hx2 : ∀ o, Ext h0 (hb.alloc o) := fun o => hx.alloc o
      have hlt2 : (hb.next < hb.next + 1) = True := by simp
      simp only [wy, Nat.reduceAdd, Nat.reduceEqDiff, Nat.reduceLT, Nat.reduceMul, Nat.reduceLeDiff, Int.reduceEq, ↓reduceIte, reduceCtorEq, ne_eq, implies_true, if_true, if_false, ite_not, eq_self, Tryd.ntmps37, c1, c2, List.length_map, getD_map Node.enc hy, enc_eq y, outH_next, outH_alloc _ hbb, hgy, hgc (hx2 _), hlt2, outH_set _ (show hb.next ≠ b by omega)]
      have hg1 : ∀ {id o}, h0.get id = some o → ∀ o', (hb.alloc o').get id = some o := fun {id o} hg o' => by rw [(hx.alloc o').get _ (get_lt h0 _ hg)]; exact hg
      refine Stop.post (ac37 lib hlib y (hw.kid hmem) (hb.alloc (.cells [.int .u8 y.kind, .int .i64 y.num, .str y.name, kslice 4 (y.kids.map Node.enc)])) a b c _ ?_ (hg1 (by rw [hx0.get _ an]; exact ha) _) (hg1 (hgb (Ext.refl _)) _) (hg1 (by rw [hx0.get _ cn]; exact hc) _))
        rfl rfl (by simp only [wy, Nat.reduceAdd, Nat.reduceEqDiff, Nat.reduceLT, Nat.reduceMul, Nat.reduceLeDiff, Int.reduceEq, ↓reduceIte, reduceCtorEq, ne_eq, implies_true, if_true, if_false, ite_not, eq_self, Tryd.ntmps37]) (caps := [.ptr a 0, .ptr b 0, .ptr c 0]) (by simp only [wy, Nat.reduceAdd, Nat.reduceEqDiff, Nat.reduceLT, Nat.reduceMul, Nat.reduceLeDiff, Int.reduceEq, ↓reduceIte, reduceCtorEq, ne_eq, implies_true, if_true, if_false, ite_not, eq_self, Tryd.ntmps37]) en_37 (by simp only [wy, Nat.reduceAdd, Nat.reduceEqDiff, Nat.reduceLT, Nat.reduceMul, Nat.reduceLeDiff, Int.reduceEq, ↓reduceIte, reduceCtorEq, ne_eq, implies_true, if_true, if_false, ite_not, eq_self, Tryd.ntmps37, enc_eq y, fgt_mapenc] <;> rfl) (Ev.sound 100 _ _ _ _ ?_)
      · have h1 := flat_sz lib (x.kids.take k)
        have h2 := take_sz x.kids hy
        have h3 := own_len lib x.kind x.name
        have h4 := size_eq x
        simp only [List.length_append]
        omega
      simp only [wy, Nat.reduceAdd, Nat.reduceEqDiff, Nat.reduceLT, Nat.reduceMul, Nat.reduceLeDiff, Int.reduceEq, ↓reduceIte, reduceCtorEq, ne_eq, implies_true, if_true, if_false, ite_not, eq_self, Tryd.ntmps37, w1]
      exact next (k + 1) _ _ (by omega) ⟨hlt, hb.alloc _, hx.alloc _, hnt, by rw [flat_step hy, ← List.append_assoc]⟩ (by simp only [wy, Nat.reduceAdd, Nat.reduceEqDiff, Nat.reduceLT, Nat.reduceMul, Nat.reduceLeDiff, Int.reduceEq, ↓reduceIte, reduceCtorEq, ne_eq, implies_true, if_true, if_false, ite_not, eq_self, Tryd.ntmps37])
    · rw [hkk, List.take_length] at *
      simp only [wy, Nat.reduceAdd, Nat.reduceEqDiff, Nat.reduceLT, Nat.reduceMul, Nat.reduceLeDiff, Int.reduceEq, ↓reduceIte, reduceCtorEq, ne_eq, implies_true, if_true, if_false, ite_not, eq_self, Tryd.ntmps37, c1]
      refine Leave.post rfl (by simp only [wy, Nat.reduceAdd, Nat.reduceEqDiff, Nat.reduceLT, Nat.reduceMul, Nat.reduceLeDiff, Int.reduceEq, ↓reduceIte, reduceCtorEq, ne_eq, implies_true, if_true, if_false, ite_not, eq_self, Tryd.ntmps37, oneOf]) (v := .tup []) ?_ rfl
      rw [hcall, ← List.append_assoc]
      refine outH_trim (hx0.trans hx) (by rw [hnt, ht0]) bn _ _ ?_
      by_cases he : els = []
      · exact .inl he
      · exact .inr (by simp [he])
  by_cases k85 : x.kind = 85 ∧ 0 ≤ find lib x.name
  · have ho : ownCall lib x.kind x.name = [find lib x.name] := if_pos k85
    rw [ho] at rest
    by_cases he : els = []
    · subst he
      have hgn : (outH h0 b []).get b = some (.cells [.slice 0 [] .fixed]) := hgb (Ext.refl _)
      have bn0 : (b < h0.next) = True := by simp; omega
      have hgx0 := hgx (Ext.refl _) []
      rw [outH_nil] at hgn hgx0
      have n4 : (h.next = b) = False := by simp; omega
      simp only [wy, Nat.reduceAdd, Nat.reduceEqDiff, Nat.reduceLT, Nat.reduceMul, Nat.reduceLeDiff, Int.reduceEq, ↓reduceIte, reduceCtorEq, ne_eq, implies_true, if_true, if_false, ite_not, eq_self, Tryd.ntmps37, hgx0, decide_eq_true k85.1, decide_eq_true k85.2, hgn, outH_nil, bn0, n4]
      simp only [List.nil_append] at rest
      rw [← outH_one] at rest
      exact rest _ (by simp only [wy, Nat.reduceAdd, Nat.reduceEqDiff, Nat.reduceLT, Nat.reduceMul, Nat.reduceLeDiff, Int.reduceEq, ↓reduceIte, reduceCtorEq, ne_eq, implies_true, if_true, if_false, ite_not, eq_self, Tryd.ntmps37, List.length_map])
    · have hgn := outH_out h0 (hgb (Ext.refl _)) els
      unfold outV at hgn
      rw [if_neg he] at hgn
      have bn0 : (b < h0.next) = True := by simp; omega
      have n4 : (h.next = b) = False := by simp; omega
      have t1 := outH_tok h0 b he
      have t2 := outH_ntok h0 b he
      have t3 : (h0.ntok < h0.ntok + 1) = True := by simp
      simp only [wy, Nat.reduceAdd, Nat.reduceEqDiff, Nat.reduceLT, Nat.reduceMul, Nat.reduceLeDiff, Int.reduceEq, ↓reduceIte, reduceCtorEq, ne_eq, implies_true, if_true, if_false, ite_not, eq_self, Tryd.ntmps37, hgx (Ext.refl _), decide_eq_true k85.1, decide_eq_true k85.2, hgn, outH_next, bn0, n4, t1, t2, t3, iels_len]
      rw [← outH_push h0 b he [find lib x.name]] at rest
      exact ⟨by omega, rest _ (by simp only [wy, Nat.reduceAdd, Nat.reduceEqDiff, Nat.reduceLT, Nat.reduceMul, Nat.reduceLeDiff, Int.reduceEq, ↓reduceIte, reduceCtorEq, ne_eq, implies_true, if_true, if_false, ite_not, eq_self, Tryd.ntmps37, List.length_map])⟩
  · have ho : ownCall lib x.kind x.name = [] := if_neg k85
    rw [ho, List.append_nil] at rest
    by_cases k1 : x.kind = 85
    · have k2 : ¬ 0 ≤ find lib x.name := fun e => k85 ⟨k1, e⟩
      simp only [wy, Nat.reduceAdd, Nat.reduceEqDiff, Nat.reduceLT, Nat.reduceMul, Nat.reduceLeDiff, Int.reduceEq, ↓reduceIte, reduceCtorEq, ne_eq, implies_true, if_true, if_false, ite_not, eq_self, Tryd.ntmps37, hgx (Ext.refl _), decide_eq_true k1, decide_eq_false k2]
      exact rest _ (by simp only [wy, Nat.reduceAdd, Nat.reduceEqDiff, Nat.reduceLT, Nat.reduceMul, Nat.reduceLeDiff, Int.reduceEq, ↓reduceIte, reduceCtorEq, ne_eq, implies_true, if_true, if_false, ite_not, eq_self, Tryd.ntmps37, List.length_map])
    · simp only [wy, Nat.reduceAdd, Nat.reduceEqDiff, Nat.reduceLT, Nat.reduceMul, Nat.reduceLeDiff, Int.reduceEq, ↓reduceIte, reduceCtorEq, ne_eq, implies_true, if_true, if_false, ite_not, eq_self, Tryd.ntmps37, hgx (Ext.refl _), decide_eq_false k1]
      exact rest _ (by simp only [wy, Nat.reduceAdd, Nat.reduceEqDiff, Nat.reduceLT, Nat.reduceMul, Nat.reduceLeDiff, Int.reduceEq, ↓reduceIte, reduceCtorEq, ne_eq, implies_true, if_true, if_false, ite_not, eq_self, Tryd.ntmps37, List.length_map])
 termination_by x.size
 decreasing_by exact kid_size hmem
end Go.Proofs.YtajknofacjiddaaDoor.Abs
