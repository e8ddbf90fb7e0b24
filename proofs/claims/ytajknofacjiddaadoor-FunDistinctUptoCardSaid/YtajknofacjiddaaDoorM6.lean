/- Part 6 of the reckoning: the abstract machine, its soundness, and the contracts of the functions that the law reaches. -/
import Derived.Test.YtajknofacjiddaaDoorM5
/- The law FunDistinct. -/
namespace Go.Proofs.YtajknofacjiddaaDoor.Abs
open Go Go.RowKit
set_option linter.unusedSimpArgs false
set_option linter.unusedVariables false
set_option maxHeartbeats 4000000
set_option maxRecDepth 100000
theorem runAll_zero {fs : List Typ} {env : Env} (h : (runAll fs env).2 = 0) : ∀ f ∈ fs, (f env).2 = 0 := by
  induction fs with
  | nil => intro f hf; cases hf
  | cons g gs ih =>
    unfold runAll at h
    by_cases h1 : (g env).2 = 0
    · rw [if_neg (by simp [h1])] at h
      by_cases h2 : (runAll gs env).2 = 0
      · intro f hf
        cases hf with
        | head => exact h1
        | tail _ hf => exact ih h2 f hf
      · rw [if_pos h2] at h
        exact absurd h h2
    · rw [if_pos h1] at h
      exact absurd h h1
theorem allE_zero {fs : List Typ} {want : List Bool} {env : Env} (h : allE fs want env = 0) : ∀ f ∈ fs, (f env).2 = 0 := by
  refine runAll_zero ?_
  unfold allE at h
  by_cases h1 : (runAll fs env).2 = 0
  · exact h1
  · rw [if_pos h1] at h; exact h
/-- What a tree without an error says of its parts. -/
theorem chk_parts {lib : List Fn} {x : Node} {env : Env} (hform : formB x = true) (h : (chk lib x env).2 = 0) : (∀ y ∈ x.kids, ∃ e, (chk lib y e).2 = 0) ∧ (x.kind = 85 → ∃ f i, CallOk lib x f i) := by
  obtain ⟨_, hwk⟩ := form_kids hform
  rw [chk_eq] at h
  unfold stepE at h
  have all : ∀ want, allE (x.kids.map (chk lib)) want env = 0 → ∀ y ∈ x.kids, ∃ e, (chk lib y e).2 = 0 := fun want hw y hy => ⟨env, allE_zero hw _ (List.mem_map_of_mem hy)⟩
  have none : ∀ {n}, wantKids x.kind n = some 0 → x.kids.length = n → x.kids = [] := fun hw hn => by
    rw [hn, hw] at hwk
    exact List.eq_nil_of_length_eq_zero (by have := Option.some.inj hwk; omega)
  by_cases k81 : x.kind = 81
  · rw [if_pos k81] at h
    rw [none (by rw [k81]; rfl) rfl]
    exact ⟨fun y hy => (by cases hy), fun e => by omega⟩
  rw [if_neg k81] at h
  by_cases k82 : x.kind = 82
  · rw [if_pos k82] at h
    exact ⟨all _ h, fun e => by omega⟩
  rw [if_neg k82] at h
  by_cases k83 : x.kind = 83
  · rw [if_pos k83] at h
    refine ⟨fun y hy => ⟨env, runAll_zero ?_ _ (List.mem_map_of_mem hy)⟩, fun e => by omega⟩
    unfold branchesE at h
    by_cases h1 : (runAll (x.kids.map (chk lib)) env).2 = 0
    · exact h1
    · rw [if_pos h1] at h; exact h
  rw [if_neg k83] at h
  by_cases k84 : x.kind = 84
  · rw [if_pos k84] at h
    refine ⟨?_, fun e => by omega⟩
    rw [k84] at hwk
    have hl2 : x.kids.length = 2 := (Option.some.inj hwk).symm
    unfold bindE at h
    by_cases h0 : (env x.name).isSome = true
    · rw [if_pos h0] at h; cases h
    rw [if_neg h0] at h
    match hk : x.kids, hl2 with
    | [y0, y1], _ =>
      rw [hk] at h
      simp only [List.map_cons, List.map_nil] at h
      by_cases h1 : (chk lib y0 env).2 = 0
      · rw [if_neg (by simp [h1])] at h
        intro y hy
        rcases List.mem_cons.1 hy with rfl | hy
        · exact ⟨env, h1⟩
        · have := List.mem_singleton.1 hy
          subst this
          exact ⟨_, h⟩
      · rw [if_pos h1] at h
        exact absurd h h1
  rw [if_neg k84] at h
  by_cases k85 : x.kind = 85
  · rw [if_pos k85] at h
    unfold callE at h
    by_cases h0 : find lib x.name < 0
    · rw [if_pos h0] at h; cases h
    rw [if_neg h0] at h
    obtain ⟨i, f, hi, hf, _⟩ := find_at lib x.name (by omega)
    rw [hi, Int.toNat_natCast, hf] at h
    simp only at h
    by_cases h1 : (x.kids.map (chk lib)).length ≠ f.params.length
    · rw [if_pos h1] at h; cases h
    rw [if_neg h1] at h
    exact ⟨all _ h, fun _ => ⟨f, i, hi, hf, by simpa using h1⟩⟩
  rw [if_neg k85] at h
  by_cases k86 : x.kind = 86
  · rw [none (by rw [k86]; rfl) rfl]
    exact ⟨fun y hy => (by cases hy), fun e => by omega⟩
  rw [if_neg k86] at h
  by_cases k87 : x.kind = 87
  · rw [if_pos k87] at h
    exact ⟨all _ h, fun e => by omega⟩
  rw [if_neg k87] at h
  by_cases k88 : x.kind = 88 ∨ x.kind = 90
  · rw [if_pos k88] at h
    exact ⟨all _ h, fun e => by omega⟩
  rw [if_neg k88] at h
  by_cases k89 : x.kind = 89
  · rw [if_pos k89] at h
    exact ⟨all _ h, fun e => by omega⟩
  by_cases k80 : x.kind = 80
  · rw [none (by rw [k80]; rfl) rfl]
    exact ⟨fun y hy => (by cases hy), fun e => by omega⟩
  have k88' : x.kind ≠ 88 := fun e => k88 (.inl e)
  have k90' : x.kind ≠ 90 := fun e => k88 (.inr e)
  unfold wantKids at hwk
  simp [k80, k81, k82, k83, k84, k85, k86, k87, k88', k89, k90'] at hwk
def arityN (lib : List Fn) (k : Int) (s : ByteArray) (n : Nat) : Bool := if k = 85 then (match lib[(find lib s).toNat]? with | some f => decide (0 ≤ find lib s) && decide (f.params.length = n) | none => false) else true
mutual
def arityB (lib : List Fn) : Node → Bool
  | .mk k _ s ks => arityN lib k s ks.length && arityL lib ks
def arityL (lib : List Fn) : List Node → Bool
  | [] => true
  | x :: xs => arityB lib x && arityL lib xs
end
theorem arityL_eq (lib : List Fn) (ks : List Node) : arityL lib ks = ks.all (arityB lib) := by
  induction ks with
  | nil => rfl
  | cons x xs ih => simp [arityL, ih]
theorem arity_eq (lib : List Fn) (x : Node) : arityB lib x = (arityN lib x.kind x.name x.kids.length && x.kids.all (arityB lib)) := by
  cases x; rw [← arityL_eq]; rfl
theorem arity_of {lib : List Fn} (x : Node) : formB x = true → ∀ env, (chk lib x env).2 = 0 → arityB lib x = true := by
  intro hform env h
  obtain ⟨hfk, _⟩ := form_kids hform
  obtain ⟨h1, h2⟩ := chk_parts hform h
  rw [arity_eq, Bool.and_eq_true, List.all_eq_true]
  refine ⟨?_, fun y hy => ?_⟩
  · unfold arityN
    split
    · rename_i k
      obtain ⟨f, i, c1, c2, c3⟩ := h2 k
      rw [c1, Int.toNat_natCast, c2]
      simp [c3]
    · rfl
  · obtain ⟨e, he⟩ := h1 y hy
    exact arity_of y (hfk y hy) e he
 termination_by x.size
 decreasing_by exact kid_size hy
noncomputable def K26 : List Item := match Tryd.f26.body with | some c => atLoop 0 100 [.code c] | none => []
theorem ac26 (lib : List Fn) (hlib : LibOk lib) (x : Node) : x.wf → ∀ h : AHeap, AC sd 26 [vlib lib, .agg x.enc] h (Pure1 (.bool (arityB lib x)) h) := by
  intro hw h
  refine AC.pure Tryd.func26 rfl Tryd.ntmps26 (by show 2 ≤ 43; decide) ?_
  refine Ev.sound 100 _ _ _ _ ?_
  have hl := hlib.len
  have hlen := hw.len
  simp only [argFr, vlib, enc_eq]
  have hh : Ext h (h.alloc (.cells [.int .u8 x.kind, .int .i64 x.num, .str x.name, kslice 4 (x.kids.map Node.enc)])) := (Ext.refl h).alloc _
  have hn := arity_eq lib x
  have hN : arityN lib x.kind x.name x.kids.length = if x.kind = 85 then (match lib[(find lib x.name).toNat]? with | some f => decide (0 ≤ find lib x.name) && decide (f.params.length = x.kids.length) | none => false) else true := rfl
  have main : arityN lib x.kind x.name x.kids.length = true → ∀ fr : Fr, fr.Has [(0, vlib lib), (3, .ptr h.next 0), (6, .int .i64 0)] → Stop sd Tryd.f26 (fun r h' => Dropped h (Pure1 (.bool (arityB lib x)) h) r.fgt h') K26 [] fr (h.alloc (.cells [.int .u8 x.kind, .int .i64 x.num, .str x.name, kslice 4 (x.kids.map Node.enc)])) := by
    intro hN fr hfr
    rw [hN, Bool.true_and] at hn
    obtain ⟨k, hK⟩ : ∃ k, K26 = k := ⟨_, rfl⟩
    have hK2 := hK
    simp only [K26, Tryd.f26, atLoop, Nat.reduceEqDiff, if_false, if_true, ↓reduceIte] at hK2
    rw [hK, ← hK2]
    clear hK hK2
    refine Stop.round (σ := Nat) (fun k => x.kids.length - k) (fun k => [(0, vlib lib), (3, .ptr h.next 0), (6, .int .i64 k)])
      (fun k h1 => k ≤ x.kids.length ∧ h1 = h.alloc (.cells [.int .u8 x.kind, .int .i64 x.num, .str x.name, kslice 4 (x.kids.map Node.enc)]) ∧ arityB lib x = (x.kids.drop k).all (arityB lib)) 0 ⟨Nat.zero_le _, rfl, hn⟩ hfr ?_
    rintro k _ ⟨hk, rfl, hv⟩ next
    refine Ev.sound 100 _ _ _ _ ?_
    rcases turn x.kids k hk with ⟨y, hy, hmem, hlt, c1, c2⟩ | ⟨hkk, c1⟩
    · have w1 := wrap_succ k (by omega)
      rw [drop_turn hy, List.all_cons] at hv
      simp only [wy, Nat.reduceAdd, Nat.reduceEqDiff, Nat.reduceLT, Nat.reduceMul, Nat.reduceLeDiff, Int.reduceEq, ↓reduceIte, reduceCtorEq, ne_eq, implies_true, if_true, if_false, ite_not, eq_self, Tryd.ntmps26, vlib, c1, c2, List.length_map, getD_map Node.enc hy, enc_eq y]
      refine Stop.fact (ac26 lib hlib y (hw.kid hmem) _) rfl (by first | rfl | simp only [wy, Nat.reduceAdd, Nat.reduceEqDiff, Nat.reduceLT, Nat.reduceMul, Nat.reduceLeDiff, Int.reduceEq, ↓reduceIte, reduceCtorEq, ne_eq, implies_true, if_true, if_false, ite_not, eq_self, Tryd.ntmps26, enc_eq, fgt_mapenc, vlib, fgt_mapfenc]) (by simp only [wy, Nat.reduceAdd, Nat.reduceEqDiff, Nat.reduceLT, Nat.reduceMul, Nat.reduceLeDiff, Int.reduceEq, ↓reduceIte, reduceCtorEq, ne_eq, implies_true, if_true, if_false, ite_not, eq_self, Tryd.ntmps26]) (caps := []) (by simp only [wy, Nat.reduceAdd, Nat.reduceEqDiff, Nat.reduceLT, Nat.reduceMul, Nat.reduceLeDiff, Int.reduceEq, ↓reduceIte, reduceCtorEq, ne_eq, implies_true, if_true, if_false, ite_not, eq_self, enc_eq, fgt_mapenc, vlib, fgt_mapfenc]) en_26 (by simp only [wy, Nat.reduceAdd, Nat.reduceEqDiff, Nat.reduceLT, Nat.reduceMul, Nat.reduceLeDiff, Int.reduceEq, ↓reduceIte, reduceCtorEq, ne_eq, implies_true, if_true, if_false, ite_not, eq_self, enc_eq, fgt_mapenc, vlib, fgt_mapfenc] <;> rfl) (Ev.sound 100 _ _ _ _ ?_)
      cases b1 : arityB lib y
      · rw [b1, Bool.false_and] at hv
        simp only [wy, Nat.reduceAdd, Nat.reduceEqDiff, Nat.reduceLT, Nat.reduceMul, Nat.reduceLeDiff, Int.reduceEq, ↓reduceIte, reduceCtorEq, ne_eq, implies_true, if_true, if_false, ite_not, eq_self, Tryd.ntmps26]
        exact Leave.pures rfl (by simp only [wy, Nat.reduceAdd, Nat.reduceEqDiff, Nat.reduceLT, Nat.reduceMul, Nat.reduceLeDiff, Int.reduceEq, ↓reduceIte, reduceCtorEq, ne_eq, implies_true, if_true, if_false, ite_not, eq_self, oneOf, hv] <;> rfl) (hh) rfl
      · rw [b1, Bool.true_and] at hv
        simp only [wy, Nat.reduceAdd, Nat.reduceEqDiff, Nat.reduceLT, Nat.reduceMul, Nat.reduceLeDiff, Int.reduceEq, ↓reduceIte, reduceCtorEq, ne_eq, implies_true, if_true, if_false, ite_not, eq_self, Tryd.ntmps26, w1]
        exact next (k + 1) _ _ (by omega) ⟨hlt, rfl, hv⟩ (by simp only [wy, Nat.reduceAdd, Nat.reduceEqDiff, Nat.reduceLT, Nat.reduceMul, Nat.reduceLeDiff, Int.reduceEq, ↓reduceIte, reduceCtorEq, ne_eq, implies_true, if_true, if_false, ite_not, eq_self, Tryd.ntmps26, vlib])
    · rw [hkk, List.drop_length, List.all_nil] at hv
      simp only [wy, Nat.reduceAdd, Nat.reduceEqDiff, Nat.reduceLT, Nat.reduceMul, Nat.reduceLeDiff, Int.reduceEq, ↓reduceIte, reduceCtorEq, ne_eq, implies_true, if_true, if_false, ite_not, eq_self, Tryd.ntmps26, c1, List.length_map]
      exact Leave.pures rfl (by simp only [wy, Nat.reduceAdd, Nat.reduceEqDiff, Nat.reduceLT, Nat.reduceMul, Nat.reduceLeDiff, Int.reduceEq, ↓reduceIte, reduceCtorEq, ne_eq, implies_true, if_true, if_false, ite_not, eq_self, oneOf, hv] <;> rfl) (hh) rfl
  by_cases k85 : x.kind = 85
  · rw [if_pos k85] at hN
    simp only [wy, Nat.reduceAdd, Nat.reduceEqDiff, Nat.reduceLT, Nat.reduceMul, Nat.reduceLeDiff, Int.reduceEq, ↓reduceIte, reduceCtorEq, ne_eq, implies_true, if_true, if_false, ite_not, eq_self, Tryd.ntmps26, decide_eq_true k85]
    refine Stop.fact (ac20 lib x.name hl _) rfl (by first | rfl | simp only [wy, Nat.reduceAdd, Nat.reduceEqDiff, Nat.reduceLT, Nat.reduceMul, Nat.reduceLeDiff, Int.reduceEq, ↓reduceIte, reduceCtorEq, ne_eq, implies_true, if_true, if_false, ite_not, eq_self, Tryd.ntmps26, vlib, fgt_mapfenc]) (by simp only [wy, Nat.reduceAdd, Nat.reduceEqDiff, Nat.reduceLT, Nat.reduceMul, Nat.reduceLeDiff, Int.reduceEq, ↓reduceIte, reduceCtorEq, ne_eq, implies_true, if_true, if_false, ite_not, eq_self, Tryd.ntmps26]) (caps := []) (by simp only [wy, Nat.reduceAdd, Nat.reduceEqDiff, Nat.reduceLT, Nat.reduceMul, Nat.reduceLeDiff, Int.reduceEq, ↓reduceIte, reduceCtorEq, ne_eq, implies_true, if_true, if_false, ite_not, eq_self, vlib, fgt_mapfenc]) en_20 (by simp only [wy, Nat.reduceAdd, Nat.reduceEqDiff, Nat.reduceLT, Nat.reduceMul, Nat.reduceLeDiff, Int.reduceEq, ↓reduceIte, reduceCtorEq, ne_eq, implies_true, if_true, if_false, ite_not, eq_self, vlib, fgt_mapfenc] <;> rfl) (Ev.sound 100 _ _ _ _ ?_)
    simp only [wy, Nat.reduceAdd, Nat.reduceEqDiff, Nat.reduceLT, Nat.reduceMul, Nat.reduceLeDiff, Int.reduceEq, ↓reduceIte, reduceCtorEq, ne_eq, implies_true, if_true, if_false, ite_not, eq_self, Tryd.ntmps26]
    refine Stop.drawn [(0, 0), (1, 0), (2, 0), (3, 0), (4, 0), (5, 0), (6, 0), (7, 0), (8, 0), (9, 0), (10, 0), (11, 0), (12, 0), (13, 0)] [[], [0], [0, 1], [0, 1, 2], [0, 1, 2], [0, 1, 2, 3, 4], [0, 1, 2, 3, 4, 5], [0, 1, 2, 3, 4, 5, 6], [0, 1, 2, 3, 4, 5, 6, 7], [0, 1, 2], [0, 1, 2, 9], [0, 1, 2, 9, 10], [0, 1, 2, 3, 4, 5, 6, 7, 8, 9, 10, 11], [0, 1, 2, 3, 4, 5, 6, 7, 8, 9, 10, 11, 12]] 90 (by kernel_rfl) ?_
    by_cases a1 : find lib x.name < 0
    · have hN' : arityN lib x.kind x.name x.kids.length = false := by
        rw [hN]; split
        · rw [decide_eq_false (by omega)]; rfl
        · rfl
      rw [hN', Bool.false_and] at hn
      simp only [wy, Nat.reduceAdd, Nat.reduceEqDiff, Nat.reduceLT, Nat.reduceMul, Nat.reduceLeDiff, Int.reduceEq, ↓reduceIte, reduceCtorEq, ne_eq, implies_true, if_true, if_false, ite_not, eq_self, Tryd.ntmps26, decide_eq_true a1]
      exact Leave.pures rfl (by simp only [wy, Nat.reduceAdd, Nat.reduceEqDiff, Nat.reduceLT, Nat.reduceMul, Nat.reduceLeDiff, Int.reduceEq, ↓reduceIte, reduceCtorEq, ne_eq, implies_true, if_true, if_false, ite_not, eq_self, oneOf, hn] <;> rfl) (hh) rfl
    obtain ⟨i, f, hi, hf, _⟩ := find_at lib x.name (by omega)
    rw [hi, Int.toNat_natCast, hf] at hN
    simp only at hN
    have il : i < lib.length := (List.getElem?_eq_some_iff.1 hf).1
    have i1 : (0 ≤ (i : Int)) = True := by simp
    have i2 : ((i : Int) < (lib.length : Int)) = True := by simp; omega
    have i3 : ¬ ((i : Int) < 0) := by omega
    rw [decide_eq_true (by omega), Bool.true_and] at hN
    by_cases a2 : f.params.length = x.kids.length
    · have a2' : decide ((f.params.length : Int) = x.kids.length) = true := decide_eq_true (by omega)
      rw [decide_eq_true a2] at hN
      simp only [wy, Nat.reduceAdd, Nat.reduceEqDiff, Nat.reduceLT, Nat.reduceMul, Nat.reduceLeDiff, Int.reduceEq, ↓reduceIte, reduceCtorEq, ne_eq, implies_true, if_true, if_false, ite_not, eq_self, Tryd.ntmps26, hi, decide_eq_false i3, List.length_map, i1, i2, getD_map Fn.enc hf, fenc_eq f, a2']
      exact main hN _ (by simp only [wy, Nat.reduceAdd, Nat.reduceEqDiff, Nat.reduceLT, Nat.reduceMul, Nat.reduceLeDiff, Int.reduceEq, ↓reduceIte, reduceCtorEq, ne_eq, implies_true, if_true, if_false, ite_not, eq_self, Tryd.ntmps26, vlib])
    · have a2' : decide ((f.params.length : Int) = x.kids.length) = false := decide_eq_false (by omega)
      rw [decide_eq_false a2] at hN
      rw [hN, Bool.false_and] at hn
      simp only [wy, Nat.reduceAdd, Nat.reduceEqDiff, Nat.reduceLT, Nat.reduceMul, Nat.reduceLeDiff, Int.reduceEq, ↓reduceIte, reduceCtorEq, ne_eq, implies_true, if_true, if_false, ite_not, eq_self, Tryd.ntmps26, hi, decide_eq_false i3, List.length_map, i1, i2, getD_map Fn.enc hf, fenc_eq f, a2']
      exact Leave.pures rfl (by simp only [wy, Nat.reduceAdd, Nat.reduceEqDiff, Nat.reduceLT, Nat.reduceMul, Nat.reduceLeDiff, Int.reduceEq, ↓reduceIte, reduceCtorEq, ne_eq, implies_true, if_true, if_false, ite_not, eq_self, oneOf, hn] <;> rfl) (hh) rfl
  · rw [if_neg k85] at hN
    simp only [wy, Nat.reduceAdd, Nat.reduceEqDiff, Nat.reduceLT, Nat.reduceMul, Nat.reduceLeDiff, Int.reduceEq, ↓reduceIte, reduceCtorEq, ne_eq, implies_true, if_true, if_false, ite_not, eq_self, Tryd.ntmps26, decide_eq_false k85]
    exact main hN _ (by simp only [wy, Nat.reduceAdd, Nat.reduceEqDiff, Nat.reduceLT, Nat.reduceMul, Nat.reduceLeDiff, Int.reduceEq, ↓reduceIte, reduceCtorEq, ne_eq, implies_true, if_true, if_false, ite_not, eq_self, Tryd.ntmps26, vlib])
 termination_by x.size
 decreasing_by exact kid_size hmem
/-- What a valid function says. -/
theorem one_zero {lib : List Fn} {i : Nat} {f : Fn} (hf : lib[i]? = some f) (h : oneE lib i f = 0) :
    i < 30 ∧ nameB f.name = true ∧ find lib f.name = i ∧ f.params.length ≤ 8 ∧ (f.params.all fun p => nameB p.name) = true ∧ dupB (pnames f.params) = false ∧ formB f.body = true ∧ f.body.depth ≤ 80 ∧ f.body.size ≤ 2000 ∧ checkE lib f.params f.body = (f.list, 0) := by
  have hfl := find_le hf
  unfold oneE at h
  by_cases a1 : 30 ≤ i
  · rw [if_pos a1] at h; cases h
  rw [if_neg a1] at h
  by_cases a2 : nameB f.name = false
  · rw [if_pos a2] at h; cases h
  rw [if_neg a2] at h
  by_cases a3 : find lib f.name < i
  · rw [if_pos a3] at h; cases h
  rw [if_neg a3] at h
  by_cases a4 : 8 < f.params.length
  · rw [if_pos a4] at h; cases h
  rw [if_neg a4] at h
  by_cases a5 : (f.params.all fun p => nameB p.name) = false
  · rw [if_pos a5] at h; cases h
  rw [if_neg a5] at h
  unfold bodyOne at h
  by_cases a6 : dupB (pnames f.params) = true
  · rw [if_pos a6] at h; cases h
  rw [if_neg a6] at h
  by_cases a7 : formB f.body = false
  · rw [if_pos a7] at h; cases h
  rw [if_neg a7] at h
  by_cases a8 : 80 < f.body.depth
  · rw [if_pos a8] at h; cases h
  rw [if_neg a8] at h
  by_cases a9 : 2000 < f.body.size
  · rw [if_pos a9] at h; cases h
  rw [if_neg a9] at h
  unfold checkOne at h
  by_cases b1 : (checkE lib f.params f.body).2 = 0 ∧ (checkE lib f.params f.body).1 ≠ f.list
  · rw [if_pos b1] at h; cases h
  rw [if_neg b1] at h
  refine ⟨by omega, by simpa using a2, by omega, by omega, by simpa using a5, by simpa using a6, by simpa using a7, by omega, by omega, ?_⟩
  have : (checkE lib f.params f.body).1 = f.list := by
    by_cases e : (checkE lib f.params f.body).1 = f.list
    · exact e
    · exact absurd ⟨h, e⟩ b1
  rw [← this, ← h]
theorem validFrom_zero {lib : List Fn} : ∀ (l : List Fn) (k : Nat), (validFrom lib k l).2 = 0 → validFrom lib k l = (-1, 0) ∧ ∀ (j : Nat) f, l[j]? = some f → oneE lib (k + j) f = 0
  | [], k, _ => ⟨rfl, fun j f h => by simp at h⟩
  | g :: gs, k, h => by
    unfold validFrom at h ⊢
    by_cases e : oneE lib k g = 0
    · rw [if_pos e] at h ⊢
      obtain ⟨h1, h2⟩ := validFrom_zero gs (k + 1) h
      refine ⟨h1, fun j f hj => ?_⟩
      cases j with
      | zero => cases hj; exact e
      | succ j => have := h2 j f hj; rwa [show k + 1 + j = k + (j + 1) by omega] at this
    · rw [if_neg e] at h
      exact absurd h e
theorem valid_zero {lib : List Fn} (h : (validE lib).2 = 0) : validE lib = (-1, 0) ∧ ∀ (j : Nat) f, lib[j]? = some f → oneE lib j f = 0 := by
  obtain ⟨h1, h2⟩ := validFrom_zero lib 0 h
  exact ⟨h1, fun j f hj => by have := h2 j f hj; rwa [Nat.zero_add] at this⟩
theorem ac9 (lib : List Fn) (hlib : LibOk lib) (hok : ∀ f ∈ lib, FnOk f) (h : AHeap) : AC sd 9 [vlib lib] h (Pure1 (.bool true) h) := by
  refine AC.pure Tryd.func9 rfl Tryd.ntmps9 (by show 1 ≤ 75; decide) ?_
  refine Ev.sound 100 _ _ _ _ ?_
  have hl := hlib.len
  simp only [argFr, vlib]
  simp only [wy, Nat.reduceAdd, Nat.reduceEqDiff, Nat.reduceLT, Nat.reduceMul, Nat.reduceLeDiff, Int.reduceEq, ↓reduceIte, reduceCtorEq, ne_eq, implies_true, if_true, if_false, ite_not, eq_self, Tryd.ntmps9]
  refine Stop.fact (ac11 _) rfl (by first | rfl | simp only [wy, Nat.reduceAdd, Nat.reduceEqDiff, Nat.reduceLT, Nat.reduceMul, Nat.reduceLeDiff, Int.reduceEq, ↓reduceIte, reduceCtorEq, ne_eq, implies_true, if_true, if_false, ite_not, eq_self, Tryd.ntmps9]) (by simp only [wy, Nat.reduceAdd, Nat.reduceEqDiff, Nat.reduceLT, Nat.reduceMul, Nat.reduceLeDiff, Int.reduceEq, ↓reduceIte, reduceCtorEq, ne_eq, implies_true, if_true, if_false, ite_not, eq_self, Tryd.ntmps9]) (caps := []) (by simp only [wy, Nat.reduceAdd, Nat.reduceEqDiff, Nat.reduceLT, Nat.reduceMul, Nat.reduceLeDiff, Int.reduceEq, ↓reduceIte, reduceCtorEq, ne_eq, implies_true, if_true, if_false, ite_not, eq_self]) en_11 (by simp only [wy, Nat.reduceAdd, Nat.reduceEqDiff, Nat.reduceLT, Nat.reduceMul, Nat.reduceLeDiff, Int.reduceEq, ↓reduceIte, reduceCtorEq, ne_eq, implies_true, if_true, if_false, ite_not, eq_self] <;> rfl) (Ev.sound 100 _ _ _ _ ?_)
  simp only [wy, Nat.reduceAdd, Nat.reduceEqDiff, Nat.reduceLT, Nat.reduceMul, Nat.reduceLeDiff, Int.reduceEq, ↓reduceIte, reduceCtorEq, ne_eq, implies_true, if_true, if_false, ite_not, eq_self, Tryd.ntmps9]
  refine Stop.fact (ac12 lib hlib hok _) rfl (by first | rfl | simp only [wy, Nat.reduceAdd, Nat.reduceEqDiff, Nat.reduceLT, Nat.reduceMul, Nat.reduceLeDiff, Int.reduceEq, ↓reduceIte, reduceCtorEq, ne_eq, implies_true, if_true, if_false, ite_not, eq_self, Tryd.ntmps9, vlib, fgt_mapfenc]) (by simp only [wy, Nat.reduceAdd, Nat.reduceEqDiff, Nat.reduceLT, Nat.reduceMul, Nat.reduceLeDiff, Int.reduceEq, ↓reduceIte, reduceCtorEq, ne_eq, implies_true, if_true, if_false, ite_not, eq_self, Tryd.ntmps9]) (caps := []) (by simp only [wy, Nat.reduceAdd, Nat.reduceEqDiff, Nat.reduceLT, Nat.reduceMul, Nat.reduceLeDiff, Int.reduceEq, ↓reduceIte, reduceCtorEq, ne_eq, implies_true, if_true, if_false, ite_not, eq_self, vlib, fgt_mapfenc]) en_12 (by simp only [wy, Nat.reduceAdd, Nat.reduceEqDiff, Nat.reduceLT, Nat.reduceMul, Nat.reduceLeDiff, Int.reduceEq, ↓reduceIte, reduceCtorEq, ne_eq, implies_true, if_true, if_false, ite_not, eq_self, vlib, fgt_mapfenc] <;> rfl) (Ev.sound 100 _ _ _ _ ?_)
  simp only [wy, Nat.reduceAdd, Nat.reduceEqDiff, Nat.reduceLT, Nat.reduceMul, Nat.reduceLeDiff, Int.reduceEq, ↓reduceIte, reduceCtorEq, ne_eq, implies_true, if_true, if_false, ite_not, eq_self, Tryd.ntmps9]
  refine EvC.part (fun a1 => ?_) (fun a1 => ?_)
  · simp only [wy, Nat.reduceAdd, Nat.reduceEqDiff, Nat.reduceLT, Nat.reduceMul, Nat.reduceLeDiff, Int.reduceEq, ↓reduceIte, reduceCtorEq, ne_eq, implies_true, if_true, if_false, ite_not, eq_self, Tryd.ntmps9]
    exact Leave.pures rfl (by simp only [wy, Nat.reduceAdd, Nat.reduceEqDiff, Nat.reduceLT, Nat.reduceMul, Nat.reduceLeDiff, Int.reduceEq, ↓reduceIte, reduceCtorEq, ne_eq, implies_true, if_true, if_false, ite_not, eq_self, oneOf] <;> rfl) (Ext.refl _) rfl
  simp only [wy, Nat.reduceAdd, Nat.reduceEqDiff, Nat.reduceLT, Nat.reduceMul, Nat.reduceLeDiff, Int.reduceEq, ↓reduceIte, reduceCtorEq, ne_eq, implies_true, if_true, if_false, ite_not, eq_self, Tryd.ntmps9]
  refine Stop.fact (ac13 lib hlib hok _) rfl (by first | rfl | simp only [wy, Nat.reduceAdd, Nat.reduceEqDiff, Nat.reduceLT, Nat.reduceMul, Nat.reduceLeDiff, Int.reduceEq, ↓reduceIte, reduceCtorEq, ne_eq, implies_true, if_true, if_false, ite_not, eq_self, Tryd.ntmps9, vlib, fgt_mapfenc]) (by simp only [wy, Nat.reduceAdd, Nat.reduceEqDiff, Nat.reduceLT, Nat.reduceMul, Nat.reduceLeDiff, Int.reduceEq, ↓reduceIte, reduceCtorEq, ne_eq, implies_true, if_true, if_false, ite_not, eq_self, Tryd.ntmps9]) (caps := []) (by simp only [wy, Nat.reduceAdd, Nat.reduceEqDiff, Nat.reduceLT, Nat.reduceMul, Nat.reduceLeDiff, Int.reduceEq, ↓reduceIte, reduceCtorEq, ne_eq, implies_true, if_true, if_false, ite_not, eq_self, vlib, fgt_mapfenc]) en_13 (by simp only [wy, Nat.reduceAdd, Nat.reduceEqDiff, Nat.reduceLT, Nat.reduceMul, Nat.reduceLeDiff, Int.reduceEq, ↓reduceIte, reduceCtorEq, ne_eq, implies_true, if_true, if_false, ite_not, eq_self, vlib, fgt_mapfenc] <;> rfl) (Ev.sound 100 _ _ _ _ ?_)
  by_cases hv : (validE lib).2 = 0
  case neg =>
    simp only [wy, Nat.reduceAdd, Nat.reduceEqDiff, Nat.reduceLT, Nat.reduceMul, Nat.reduceLeDiff, Int.reduceEq, ↓reduceIte, reduceCtorEq, ne_eq, implies_true, if_true, if_false, ite_not, eq_self, Tryd.ntmps9, decide_eq_false hv]
    exact Leave.pures rfl (by simp only [wy, Nat.reduceAdd, Nat.reduceEqDiff, Nat.reduceLT, Nat.reduceMul, Nat.reduceLeDiff, Int.reduceEq, ↓reduceIte, reduceCtorEq, ne_eq, implies_true, if_true, if_false, ite_not, eq_self, oneOf] <;> rfl) (Ext.refl _) rfl
  obtain ⟨hv1, hv2⟩ := valid_zero hv
  simp only [wy, Nat.reduceAdd, Nat.reduceEqDiff, Nat.reduceLT, Nat.reduceMul, Nat.reduceLeDiff, Int.reduceEq, ↓reduceIte, reduceCtorEq, ne_eq, implies_true, if_true, if_false, ite_not, eq_self, Tryd.ntmps9, decide_eq_true hv]
  refine Stop.round (σ := Nat) (fun k => lib.length - k) (fun k => [(0, kslice 7 (lib.map Fn.enc)), (5, .int .i64 k)])
    (fun k h1 => k ≤ lib.length ∧ h = h1) 0 ⟨Nat.zero_le _, rfl⟩ (by simp only [wy, Nat.reduceAdd, Nat.reduceEqDiff, Nat.reduceLT, Nat.reduceMul, Nat.reduceLeDiff, Int.reduceEq, ↓reduceIte, reduceCtorEq, ne_eq, implies_true, if_true, if_false, ite_not, eq_self, Tryd.ntmps9, Int.natCast_zero]) ?_
  rintro k _ ⟨hk, rfl⟩ next
  refine Ev.sound 100 _ _ _ _ ?_
  rcases turn lib k hk with ⟨y, hy, hmem, hlt, c1, c2⟩ | ⟨hkk, c1⟩
  · have w1 := wrap_succ k (by omega)
    obtain ⟨o1, o2, o3, o4, o5, o6, o7, o8, o9, o10⟩ := one_zero hy (hv2 k y hy)
    have hok' := hok y hmem
    have har : arityB lib y.body = true := arity_of y.body o7 (envOf y.params) (by
      have := congrArg Prod.snd o10
      unfold checkE at this
      exact this)
    have hty : typeE lib k y.body = (y.list, 0) := by
      unfold typeE
      rw [if_neg (by omega), if_neg (by simp [o7]), Int.toNat_natCast, hy]
      exact o10
    simp only [wy, Nat.reduceAdd, Nat.reduceEqDiff, Nat.reduceLT, Nat.reduceMul, Nat.reduceLeDiff, Int.reduceEq, ↓reduceIte, reduceCtorEq, ne_eq, implies_true, if_true, if_false, ite_not, eq_self, Tryd.ntmps9, c1, c2, List.length_map, getD_map Fn.enc hy, fenc_eq y]
    refine Stop.fact (ac20 lib y.name hl _) rfl (by first | rfl | simp only [wy, Nat.reduceAdd, Nat.reduceEqDiff, Nat.reduceLT, Nat.reduceMul, Nat.reduceLeDiff, Int.reduceEq, ↓reduceIte, reduceCtorEq, ne_eq, implies_true, if_true, if_false, ite_not, eq_self, Tryd.ntmps9, vlib, fgt_mapfenc]) (by simp only [wy, Nat.reduceAdd, Nat.reduceEqDiff, Nat.reduceLT, Nat.reduceMul, Nat.reduceLeDiff, Int.reduceEq, ↓reduceIte, reduceCtorEq, ne_eq, implies_true, if_true, if_false, ite_not, eq_self, Tryd.ntmps9]) (caps := []) (by simp only [wy, Nat.reduceAdd, Nat.reduceEqDiff, Nat.reduceLT, Nat.reduceMul, Nat.reduceLeDiff, Int.reduceEq, ↓reduceIte, reduceCtorEq, ne_eq, implies_true, if_true, if_false, ite_not, eq_self, vlib, fgt_mapfenc]) en_20 (by simp only [wy, Nat.reduceAdd, Nat.reduceEqDiff, Nat.reduceLT, Nat.reduceMul, Nat.reduceLeDiff, Int.reduceEq, ↓reduceIte, reduceCtorEq, ne_eq, implies_true, if_true, if_false, ite_not, eq_self, vlib, fgt_mapfenc] <;> rfl) (Ev.sound 100 _ _ _ _ ?_)
    simp only [wy, Nat.reduceAdd, Nat.reduceEqDiff, Nat.reduceLT, Nat.reduceMul, Nat.reduceLeDiff, Int.reduceEq, ↓reduceIte, reduceCtorEq, ne_eq, implies_true, if_true, if_false, ite_not, eq_self, Tryd.ntmps9, o3, c1, c2, List.length_map, getD_map Fn.enc hy, fenc_eq y]
    refine Stop.fact (ac25 y.name hok'.name _) rfl (by first | rfl | simp only [wy, Nat.reduceAdd, Nat.reduceEqDiff, Nat.reduceLT, Nat.reduceMul, Nat.reduceLeDiff, Int.reduceEq, ↓reduceIte, reduceCtorEq, ne_eq, implies_true, if_true, if_false, ite_not, eq_self, Tryd.ntmps9]) (by simp only [wy, Nat.reduceAdd, Nat.reduceEqDiff, Nat.reduceLT, Nat.reduceMul, Nat.reduceLeDiff, Int.reduceEq, ↓reduceIte, reduceCtorEq, ne_eq, implies_true, if_true, if_false, ite_not, eq_self, Tryd.ntmps9]) (caps := []) (by simp only [wy, Nat.reduceAdd, Nat.reduceEqDiff, Nat.reduceLT, Nat.reduceMul, Nat.reduceLeDiff, Int.reduceEq, ↓reduceIte, reduceCtorEq, ne_eq, implies_true, if_true, if_false, ite_not, eq_self]) en_25 (by simp only [wy, Nat.reduceAdd, Nat.reduceEqDiff, Nat.reduceLT, Nat.reduceMul, Nat.reduceLeDiff, Int.reduceEq, ↓reduceIte, reduceCtorEq, ne_eq, implies_true, if_true, if_false, ite_not, eq_self] <;> rfl) (Ev.sound 100 _ _ _ _ ?_)
    simp only [wy, Nat.reduceAdd, Nat.reduceEqDiff, Nat.reduceLT, Nat.reduceMul, Nat.reduceLeDiff, Int.reduceEq, ↓reduceIte, reduceCtorEq, ne_eq, implies_true, if_true, if_false, ite_not, eq_self, Tryd.ntmps9, o2, c1, c2, List.length_map, getD_map Fn.enc hy, fenc_eq y]
    refine Stop.fact (ac26 lib hlib y.body hok'.body _) rfl (by first | rfl | simp only [wy, Nat.reduceAdd, Nat.reduceEqDiff, Nat.reduceLT, Nat.reduceMul, Nat.reduceLeDiff, Int.reduceEq, ↓reduceIte, reduceCtorEq, ne_eq, implies_true, if_true, if_false, ite_not, eq_self, Tryd.ntmps9, enc_eq, fgt_mapenc, vlib, fgt_mapfenc]) (by simp only [wy, Nat.reduceAdd, Nat.reduceEqDiff, Nat.reduceLT, Nat.reduceMul, Nat.reduceLeDiff, Int.reduceEq, ↓reduceIte, reduceCtorEq, ne_eq, implies_true, if_true, if_false, ite_not, eq_self, Tryd.ntmps9]) (caps := []) (by simp only [wy, Nat.reduceAdd, Nat.reduceEqDiff, Nat.reduceLT, Nat.reduceMul, Nat.reduceLeDiff, Int.reduceEq, ↓reduceIte, reduceCtorEq, ne_eq, implies_true, if_true, if_false, ite_not, eq_self, enc_eq, fgt_mapenc, vlib, fgt_mapfenc]) en_26 (by simp only [wy, Nat.reduceAdd, Nat.reduceEqDiff, Nat.reduceLT, Nat.reduceMul, Nat.reduceLeDiff, Int.reduceEq, ↓reduceIte, reduceCtorEq, ne_eq, implies_true, if_true, if_false, ite_not, eq_self, enc_eq, fgt_mapenc, vlib, fgt_mapfenc] <;> rfl) (Ev.sound 100 _ _ _ _ ?_)
    simp only [wy, Nat.reduceAdd, Nat.reduceEqDiff, Nat.reduceLT, Nat.reduceMul, Nat.reduceLeDiff, Int.reduceEq, ↓reduceIte, reduceCtorEq, ne_eq, implies_true, if_true, if_false, ite_not, eq_self, Tryd.ntmps9, har, c1, c2, List.length_map, getD_map Fn.enc hy, fenc_eq y]
    refine Stop.fact (ac16 lib hlib hok k y.body hok'.body _) rfl (by first | rfl | simp only [wy, Nat.reduceAdd, Nat.reduceEqDiff, Nat.reduceLT, Nat.reduceMul, Nat.reduceLeDiff, Int.reduceEq, ↓reduceIte, reduceCtorEq, ne_eq, implies_true, if_true, if_false, ite_not, eq_self, Tryd.ntmps9, enc_eq, fgt_mapenc, vlib, fgt_mapfenc]) (by simp only [wy, Nat.reduceAdd, Nat.reduceEqDiff, Nat.reduceLT, Nat.reduceMul, Nat.reduceLeDiff, Int.reduceEq, ↓reduceIte, reduceCtorEq, ne_eq, implies_true, if_true, if_false, ite_not, eq_self, Tryd.ntmps9]) (caps := []) (by simp only [wy, Nat.reduceAdd, Nat.reduceEqDiff, Nat.reduceLT, Nat.reduceMul, Nat.reduceLeDiff, Int.reduceEq, ↓reduceIte, reduceCtorEq, ne_eq, implies_true, if_true, if_false, ite_not, eq_self, enc_eq, fgt_mapenc, vlib, fgt_mapfenc]) en_16 (by simp only [wy, Nat.reduceAdd, Nat.reduceEqDiff, Nat.reduceLT, Nat.reduceMul, Nat.reduceLeDiff, Int.reduceEq, ↓reduceIte, reduceCtorEq, ne_eq, implies_true, if_true, if_false, ite_not, eq_self, enc_eq, fgt_mapenc, vlib, fgt_mapfenc] <;> rfl) (Ev.sound 100 _ _ _ _ ?_)
    simp only [wy, Nat.reduceAdd, Nat.reduceEqDiff, Nat.reduceLT, Nat.reduceMul, Nat.reduceLeDiff, Int.reduceEq, ↓reduceIte, reduceCtorEq, ne_eq, implies_true, if_true, if_false, ite_not, eq_self, Tryd.ntmps9, hty, tyv, c1, c2, List.length_map, getD_map Fn.enc hy, fenc_eq y, bne_self_eq_false, beq_self_eq_true, w1]
    exact next (k + 1) _ _ (by omega) ⟨hlt, rfl⟩ (by simp only [wy, Nat.reduceAdd, Nat.reduceEqDiff, Nat.reduceLT, Nat.reduceMul, Nat.reduceLeDiff, Int.reduceEq, ↓reduceIte, reduceCtorEq, ne_eq, implies_true, if_true, if_false, ite_not, eq_self, Tryd.ntmps9])
  · simp only [wy, Nat.reduceAdd, Nat.reduceEqDiff, Nat.reduceLT, Nat.reduceMul, Nat.reduceLeDiff, Int.reduceEq, ↓reduceIte, reduceCtorEq, ne_eq, implies_true, if_true, if_false, ite_not, eq_self, Tryd.ntmps9, c1, List.length_map]
    exact Leave.pures rfl (by simp only [wy, Nat.reduceAdd, Nat.reduceEqDiff, Nat.reduceLT, Nat.reduceMul, Nat.reduceLeDiff, Int.reduceEq, ↓reduceIte, reduceCtorEq, ne_eq, implies_true, if_true, if_false, ite_not, eq_self, oneOf] <;> rfl) (Ext.refl _) rfl
end Go.Proofs.YtajknofacjiddaaDoor.Abs
