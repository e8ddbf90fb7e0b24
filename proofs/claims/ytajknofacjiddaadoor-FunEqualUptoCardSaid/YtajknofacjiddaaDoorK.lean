/- The keywords. -/
import Derived.Test.YtajknofacjiddaaDoorF2
import Derived.Test.YtajknofacjiddaaDoorShelfP
import Derived.Lib.SmallJoins
namespace Go.Proofs.YtajknofacjiddaaDoor.Abs
open Go Go.RowKit
set_option linter.unusedSimpArgs false
set_option linter.unusedVariables false
set_option maxHeartbeats 4000000
set_option maxRecDepth 100000
theorem Inv.tab {w0 : World} {h : AHeap} {g : Ghost} {w : World} (i : Inv sd w0 h g w) : Lib.TabIs Tryd.prog w "strings.asciiSpace" .u8 Lib.asciiSpaceTab := Joins.tab_stays (g := 0) (by kernel_rfl) i.base i.below (Nat.le_refl _)
def words : List ByteArray := [⟨#[105, 110, 116]⟩, ⟨#[97, 114, 114, 97, 121]⟩, ⟨#[115, 116, 97, 99, 107]⟩, ⟨#[112, 114, 111, 99]⟩, ⟨#[109, 97, 105, 110]⟩, ⟨#[112, 117, 115, 104]⟩, ⟨#[112, 111, 112]⟩, ⟨#[114, 101, 97, 100]⟩, ⟨#[117, 110, 114, 101, 97, 100]⟩, ⟨#[119, 114, 105, 116, 101]⟩, ⟨#[117, 110, 119, 114, 105, 116, 101]⟩, ⟨#[99, 97, 108, 108]⟩, ⟨#[117, 110, 99, 97, 108, 108]⟩, ⟨#[105, 102]⟩, ⟨#[101, 108, 115, 101]⟩, ⟨#[102, 105]⟩, ⟨#[102, 114, 111, 109]⟩, ⟨#[108, 111, 111, 112]⟩, ⟨#[117, 110, 116, 105, 108]⟩, ⟨#[108, 111, 99, 97, 108]⟩, ⟨#[100, 101, 108, 111, 99, 97, 108]⟩, ⟨#[116, 111, 112]⟩, ⟨#[115, 105, 122, 101]⟩]
def kwText : ByteArray := ⟨#[105, 110, 116, 32, 97, 114, 114, 97, 121, 32, 115, 116, 97, 99, 107, 32, 112, 114, 111, 99, 32, 109, 97, 105, 110, 32, 112, 117, 115, 104, 32, 112, 111, 112, 32, 114, 101, 97, 100, 32, 117, 110, 114, 101, 97, 100, 32, 119, 114, 105, 116, 101, 32, 117, 110, 119, 114, 105, 116, 101, 32, 99, 97, 108, 108, 32, 117, 110, 99, 97, 108, 108, 32, 105, 102, 32, 101, 108, 115, 101, 32, 102, 105, 32, 102, 114, 111, 109, 32, 108, 111, 111, 112, 32, 117, 110, 116, 105, 108, 32, 108, 111, 99, 97, 108, 32, 100, 101, 108, 111, 99, 97, 108, 32, 116, 111, 112, 32, 115, 105, 122, 101]⟩
theorem fields_words : (Lib.fields kwText.data.toList).map (fun l => Value.string ⟨l.toArray⟩) = words.map Value.string := by
  have : (Lib.fields kwText.data.toList) = words.map (fun s => s.data.toList) := by decide +kernel
  rw [this, List.map_map]
  rfl
/-- A row of strings in a block of its own. -/
theorem rep_strs {g : Ghost} {b : Nat} (ws : List ByteArray) (hI : ∀ (k : Nat) s, ws[k]? = some s → g.I b k = some (.string s)) : Rep g (vstrs ws) (.slice (some ⟨b, 0, none⟩) ws.length ws.length) := by
  refine rep_k ?_
  have := Rep.slice (g := g) (sz := 1) (els := ws.map fun s => [AV.str s]) (tok := .unk) (b := b) (o := 0) (cap := ws.length) (fun k => .string (ws.getD k .empty)) (fun i hi => ?_) (fun i e he => ?_) (fun i j e v he hv => ?_) (by simp) trivial
  · rw [List.length_map] at this
    exact this
  · simp only [List.length_map, Nat.mul_one] at hi
    rw [Nat.zero_add, hI i ws[i] (List.getElem?_eq_getElem hi)]
    simp [hi]
  · obtain ⟨s, _, rfl⟩ := map_get he
    exact Nat.le_refl _
  · obtain ⟨s, hs, rfl⟩ := map_get he
    cases j with
    | zero => cases hv; simp only [Nat.mul_one, Nat.add_zero, List.getD_eq_getElem?_getD, hs]; exact .str s
    | succ j => simp at hv
theorem ac62 (h : AHeap) : AC sd 62 [.str kwText] h (Pure1 (vstrs words) h) := by
  intro w0 g w xs inv hargs
  obtain rfl : xs = #[.string kwText] := by
    obtain ⟨x, hx, hr⟩ := hargs.get (i := 0) rfl
    have hs := hargs.1
    cases hr
    refine Array.ext (by simpa using hs) fun i h1 h2 => ?_
    have : i = 0 := by simp at h2; omega
    subst this
    rw [Array.getElem?_eq_getElem h1] at hx
    simpa using hx
  refine (Tryd.strings_Fields kwText w (by decide +kernel) ?_ inv.tab).mono ?_
  · intro j b hb
    have : ∀ b ∈ kwText.data.toList, b.toNat < 128 := by decide +kernel
    exact this b (List.mem_of_getElem? hb)
  rintro e w' ⟨rfl, rfl⟩
  have hlen : (Lib.fields kwText.data.toList).length = words.length := by
    have := congrArg List.length fields_words
    simpa using this
  obtain ⟨le, inv'⟩ := inv.newImm (NewBlk.alloc w (.cells ((Lib.fields kwText.data.toList).map fun l => Value.string ⟨l.toArray⟩).toArray 9)) (fun k y hk => by
    rw [fields_words] at hk
    simp only [List.getElem?_toArray, List.getElem?_map, Option.map_eq_some_iff] at hk
    obtain ⟨s, _, rfl⟩ := hk
    rfl)
  refine ⟨.ret (vstrs words), h, _, le, inv', ?_, rfl, rfl⟩
  rw [hlen]
  refine rep_strs words fun k s hs => ?_
  show (if w.heap.size = w.heap.size then _ else _) = _
  rw [if_pos rfl, fields_words]
  simp [hs]
def kwB (s : ByteArray) : Bool := words.any fun w => decide (w = s)
def kwF (s : ByteArray) : Option AV := if kwB s then some (.bool true) else none
def KwPost (h : AHeap) : Post := fun r h' => ∃ clk es, r = .ret (.map h.next) ∧ h' = h.alloc (.map clk es) ∧ KMap es kwF
theorem ac59 (h : AHeap) : AC sd 59 [] h (KwPost h) := by
  refine AC.enter Tryd.func59 rfl (Nat.zero_le _) ?_
  refine Ev.sound 100 _ _ _ _ ?_
  simp only [argFr]
  simp only [wev, wab, wty, wls, Nat.reduceAdd, Nat.reduceEqDiff, Nat.reduceLT, Nat.reduceMul, Nat.reduceLeDiff, Int.reduceEq, ↓reduceIte, reduceCtorEq, ne_eq, true_implies, false_implies, implies_true, not_true_eq_false, not_false_eq_true, true_and, and_true, decide_true, decide_false, if_true, if_false, Nat.add_zero, Nat.zero_add, decide_eq_true_eq, decide_eq_false_iff_not, ite_not, Bool.true_eq_false, Bool.false_eq_true, Bool.not_eq_true, Bool.not_eq_false, Bool.not_true, Bool.not_false, Tryd.ntmps59]
  refine Stop.fact (ac62 _) rfl rfl (by simp only [wev, wab, wty, wls, Nat.reduceAdd, Nat.reduceEqDiff, Nat.reduceLT, Nat.reduceMul, Nat.reduceLeDiff, Int.reduceEq, ↓reduceIte, reduceCtorEq, ne_eq, true_implies, false_implies, implies_true, not_true_eq_false, not_false_eq_true, true_and, and_true, decide_true, decide_false, if_true, if_false, Nat.add_zero, Nat.zero_add, decide_eq_true_eq, decide_eq_false_iff_not, ite_not, Bool.true_eq_false, Bool.false_eq_true, Bool.not_eq_true, Bool.not_eq_false, Bool.not_true, Bool.not_false, Tryd.ntmps59]) (caps := []) (by simp only [wev, wab, wty, wls, Nat.reduceAdd, Nat.reduceEqDiff, Nat.reduceLT, Nat.reduceMul, Nat.reduceLeDiff, Int.reduceEq, ↓reduceIte, reduceCtorEq, ne_eq, true_implies, false_implies, implies_true, not_true_eq_false, not_false_eq_true, true_and, and_true, decide_true, decide_false, if_true, if_false, Nat.add_zero, Nat.zero_add, decide_eq_true_eq, decide_eq_false_iff_not, ite_not, Bool.true_eq_false, Bool.false_eq_true, Bool.not_eq_true, Bool.not_eq_false, Bool.not_true, Bool.not_false]) en_62 rfl ?_
  refine Ev.sound 100 _ _ _ _ ?_
  simp only [wev, wab, wty, wls, Nat.reduceAdd, Nat.reduceEqDiff, Nat.reduceLT, Nat.reduceMul, Nat.reduceLeDiff, Int.reduceEq, ↓reduceIte, reduceCtorEq, ne_eq, true_implies, false_implies, implies_true, not_true_eq_false, not_false_eq_true, true_and, and_true, decide_true, decide_false, if_true, if_false, Nat.add_zero, Nat.zero_add, decide_eq_true_eq, decide_eq_false_iff_not, ite_not, Bool.true_eq_false, Bool.false_eq_true, Bool.not_eq_true, Bool.not_eq_false, Bool.not_true, Bool.not_false, Tryd.ntmps59, vstrs]
  refine Stop.round (σ := Nat) (fun k => words.length - k) (fun k => [(1, .map h.next), (5, kslice 1 (words.map fun s => [.str s])), (6, .int .i64 words.length), (7, .int .i64 k)]) (fun k h1 => k ≤ words.length ∧ ∃ clk es, h1 = h.alloc (.map clk es) ∧ KMap es fun s => if (words.take k).any (fun w => decide (w = s)) then some (.bool true) else none) 0 ⟨Nat.zero_le _, 0, [], rfl, .nil⟩ ?_ ?_
  · simp only [wev, wab, wty, wls, Nat.reduceAdd, Nat.reduceEqDiff, Nat.reduceLT, Nat.reduceMul, Nat.reduceLeDiff, Int.reduceEq, ↓reduceIte, reduceCtorEq, ne_eq, true_implies, false_implies, implies_true, not_true_eq_false, not_false_eq_true, true_and, and_true, decide_true, decide_false, if_true, if_false, Nat.add_zero, Nat.zero_add, decide_eq_true_eq, decide_eq_false_iff_not, ite_not, Bool.true_eq_false, Bool.false_eq_true, Bool.not_eq_true, Bool.not_eq_false, Bool.not_true, Bool.not_false, List.length_map, Int.ofNat_zero, Int.natCast_zero]
  rintro k _ ⟨hk, clk, es, rfl, hm⟩ next
  refine Ev.sound 100 _ _ _ _ ?_
  have hlw : words.length = 23 := rfl
  rcases turn words k hk with ⟨y, hy, hmem, hlt, c1, c2⟩ | ⟨rfl, c1⟩
  · have w1 := wrap_succ k (by omega)
    obtain ⟨clk', es', hp, hm', _⟩ := hm.put clk y (.bool true)
    have hp' : amapPut clk es (.str y) (.bool true) = some (.map clk' es') := hp
    simp only [wev, wab, wty, wls, Nat.reduceAdd, Nat.reduceEqDiff, Nat.reduceLT, Nat.reduceMul, Nat.reduceLeDiff, Int.reduceEq, ↓reduceIte, reduceCtorEq, ne_eq, true_implies, false_implies, implies_true, not_true_eq_false, not_false_eq_true, true_and, and_true, decide_true, decide_false, if_true, if_false, Nat.add_zero, Nat.zero_add, decide_eq_true_eq, decide_eq_false_iff_not, ite_not, Bool.true_eq_false, Bool.false_eq_true, Bool.not_eq_true, Bool.not_eq_false, Bool.not_true, Bool.not_false, Tryd.ntmps59, c1, c2, List.length_map, getD_map (fun s => [AV.str s]) hy, Bool.true_eq_false, w1, hp']
    refine next (k + 1) _ _ (by omega) ⟨hlt, clk', es', rfl, ?_⟩ (by simp only [wev, wab, wty, wls, Nat.reduceAdd, Nat.reduceEqDiff, Nat.reduceLT, Nat.reduceMul, Nat.reduceLeDiff, Int.reduceEq, ↓reduceIte, reduceCtorEq, ne_eq, true_implies, false_implies, implies_true, not_true_eq_false, not_false_eq_true, true_and, and_true, decide_true, decide_false, if_true, if_false, Nat.add_zero, Nat.zero_add, decide_eq_true_eq, decide_eq_false_iff_not, ite_not, Bool.true_eq_false, Bool.false_eq_true, Bool.not_eq_true, Bool.not_eq_false, Bool.not_true, Bool.not_false])
    have e : (fun s => if (words.take (k + 1)).any (fun w => decide (w = s)) then some (AV.bool true) else none) = kupd (fun s => if (words.take k).any (fun w => decide (w = s)) then some (AV.bool true) else none) y (some (.bool true)) := by
      funext s
      simp only [take_snoc _ _ _ hy, List.any_append]
      unfold kupd
      by_cases q : s = y
      · subst q; simp
      · have hd : decide (y = s) = false := decide_eq_false fun e => q e.symm
        rw [List.any_cons, List.any_nil, if_neg q, hd, Bool.or_false, Bool.or_false]
    rw [e]
    exact hm'
  · simp only [wev, wab, wty, wls, Nat.reduceAdd, Nat.reduceEqDiff, Nat.reduceLT, Nat.reduceMul, Nat.reduceLeDiff, Int.reduceEq, ↓reduceIte, reduceCtorEq, ne_eq, true_implies, false_implies, implies_true, not_true_eq_false, not_false_eq_true, true_and, and_true, decide_true, decide_false, if_true, if_false, Nat.add_zero, Nat.zero_add, decide_eq_true_eq, decide_eq_false_iff_not, ite_not, Bool.true_eq_false, Bool.false_eq_true, Bool.not_eq_true, Bool.not_eq_false, Bool.not_true, Bool.not_false, Tryd.ntmps59, c1, Bool.false_eq_true]
    refine Leave.of ?_
    rw [List.take_length] at hm
    exact ⟨clk, es, rfl, rfl, hm⟩
theorem ac52 (s : ByteArray) (h : AHeap) : AC sd 52 [.str s] h (Pure1 (.bool (kwB s)) h) := by
  refine AC.pure Tryd.func52 rfl Tryd.ntmps52 (by show 1 ≤ 6; decide) ?_
  refine Ev.sound 100 _ _ _ _ ?_
  simp only [argFr]
  simp only [wev, wab, wty, wls, Nat.reduceAdd, Nat.reduceEqDiff, Nat.reduceLT, Nat.reduceMul, Nat.reduceLeDiff, Int.reduceEq, ↓reduceIte, reduceCtorEq, ne_eq, true_implies, false_implies, implies_true, not_true_eq_false, not_false_eq_true, true_and, and_true, decide_true, decide_false, if_true, if_false, Nat.add_zero, Nat.zero_add, decide_eq_true_eq, decide_eq_false_iff_not, ite_not, Bool.true_eq_false, Bool.false_eq_true, Bool.not_eq_true, Bool.not_eq_false, Bool.not_true, Bool.not_false, Tryd.ntmps52]
  refine Stop.call 59 [] _ rfl (by simp only [wev, wab, wty, wls, Nat.reduceAdd, Nat.reduceEqDiff, Nat.reduceLT, Nat.reduceMul, Nat.reduceLeDiff, Int.reduceEq, ↓reduceIte, reduceCtorEq, ne_eq, true_implies, false_implies, implies_true, not_true_eq_false, not_false_eq_true, true_and, and_true, decide_true, decide_false, if_true, if_false, Nat.add_zero, Nat.zero_add, decide_eq_true_eq, decide_eq_false_iff_not, ite_not, Bool.true_eq_false, Bool.false_eq_true, Bool.not_eq_true, Bool.not_eq_false, Bool.not_true, Bool.not_false, Tryd.ntmps52]) (by simp only [wev, wab, wty, wls, Nat.reduceAdd, Nat.reduceEqDiff, Nat.reduceLT, Nat.reduceMul, Nat.reduceLeDiff, Int.reduceEq, ↓reduceIte, reduceCtorEq, ne_eq, true_implies, false_implies, implies_true, not_true_eq_false, not_false_eq_true, true_and, and_true, decide_true, decide_false, if_true, if_false, Nat.add_zero, Nat.zero_add, decide_eq_true_eq, decide_eq_false_iff_not, ite_not, Bool.true_eq_false, Bool.false_eq_true, Bool.not_eq_true, Bool.not_eq_false, Bool.not_true, Bool.not_false]) en_59 (ac59 _) ?_ (fun v h' hq => by obtain ⟨_, _, hq, _⟩ := hq; cases hq)
  rintro v h' ⟨clk, es, hv, rfl, hm⟩
  cases hv
  refine Ev.sound 100 _ _ _ _ ?_
  have hl : lookM (some (.map clk es)) (.str s) false (.bool false) = some (okOf false (.bool false) (kwF s)) := hm.look clk s false (.bool false)
  have hk : okOf false (.bool false) (kwF s) = .bool (kwB s) := by unfold kwF; cases kwB s <;> rfl
  simp only [wev, wab, wty, wls, Nat.reduceAdd, Nat.reduceEqDiff, Nat.reduceLT, Nat.reduceMul, Nat.reduceLeDiff, Int.reduceEq, ↓reduceIte, reduceCtorEq, ne_eq, true_implies, false_implies, implies_true, not_true_eq_false, not_false_eq_true, true_and, and_true, decide_true, decide_false, if_true, if_false, Nat.add_zero, Nat.zero_add, decide_eq_true_eq, decide_eq_false_iff_not, ite_not, Bool.true_eq_false, Bool.false_eq_true, Bool.not_eq_true, Bool.not_eq_false, Bool.not_true, Bool.not_false, Tryd.ntmps52, hl, hk]
  exact Leave.pure rfl (by simp only [wev, wab, wty, wls, Nat.reduceAdd, Nat.reduceEqDiff, Nat.reduceLT, Nat.reduceMul, Nat.reduceLeDiff, Int.reduceEq, ↓reduceIte, reduceCtorEq, ne_eq, true_implies, false_implies, implies_true, not_true_eq_false, not_false_eq_true, true_and, and_true, decide_true, decide_false, if_true, if_false, Nat.add_zero, Nat.zero_add, decide_eq_true_eq, decide_eq_false_iff_not, ite_not, Bool.true_eq_false, Bool.false_eq_true, Bool.not_eq_true, Bool.not_eq_false, Bool.not_true, Bool.not_false]) ((Ext.refl _).alloc _) rfl
end Go.Proofs.YtajknofacjiddaaDoor.Abs
