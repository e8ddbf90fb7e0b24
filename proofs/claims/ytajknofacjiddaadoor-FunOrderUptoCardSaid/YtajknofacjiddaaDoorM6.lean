/- Part 6 of the reckoning: the abstract machine, its soundness, and the contracts of the functions that the law reaches. -/
import Derived.Test.YtajknofacjiddaaDoorM5
/- The law FunDistinct. -/
namespace Go.Proofs.YtajknofacjiddaaDoor.Abs
open Go Go.RowKit
set_option linter.unusedSimpArgs false
set_option linter.unusedVariables false
set_option maxHeartbeats 4000000
set_option maxRecDepth 100000
theorem runAll_zero {fs : List Typ} {env : Env} (h : (runAll fs env).2 = 0) : ∀ f ∈ fs, (f env).2 = 0 := by
  induction fs with
  | nil => intro f hf; cases hf
  | cons g gs ih =>
    unfold runAll at h
    by_cases h1 : (g env).2 = 0
    · rw [if_neg (by simp [h1])] at h
      by_cases h2 : (runAll gs env).2 = 0
      · intro f hf
        cases hf with
        | head => exact h1
        | tail _ hf => exact ih h2 f hf
      · rw [if_pos h2] at h
        exact absurd h h2
    · rw [if_pos h1] at h
      exact absurd h h1
theorem allE_zero {fs : List Typ} {want : List Bool} {env : Env} (h : allE fs want env = 0) : ∀ f ∈ fs, (f env).2 = 0 := by
  refine runAll_zero ?_
  unfold allE at h
  by_cases h1 : (runAll fs env).2 = 0
  · exact h1
  · rw [if_pos h1] at h; exact h
/-- What a tree without an error says of its parts. -/
theorem chk_parts {lib : List Fn} {x : Node} {env : Env} (hform : formB x = true) (h : (chk lib x env).2 = 0) : (∀ y ∈ x.kids, ∃ e, (chk lib y e).2 = 0) ∧ (x.kind = 85 → ∃ f i, CallOk lib x f i) := by
  obtain ⟨_, hwk⟩ := form_kids hform
  rw [chk_eq] at h
  unfold stepE at h
  have all : ∀ want, allE (x.kids.map (chk lib)) want env = 0 → ∀ y ∈ x.kids, ∃ e, (chk lib y e).2 = 0 := fun want hw y hy => ⟨env, allE_zero hw _ (List.mem_map_of_mem hy)⟩
  have none : ∀ {n}, wantKids x.kind n = some 0 → x.kids.length = n → x.kids = [] := fun hw hn => by
    rw [hn, hw] at hwk
    exact List.eq_nil_of_length_eq_zero (by have := Option.some.inj hwk; omega)
  by_cases k81 : x.kind = 81
  · rw [if_pos k81] at h
    rw [none (by rw [k81]; rfl) rfl]
    exact ⟨fun y hy => (by cases hy), fun e => by omega⟩
  rw [if_neg k81] at h
  by_cases k82 : x.kind = 82
  · rw [if_pos k82] at h
    exact ⟨all _ h, fun e => by omega⟩
  rw [if_neg k82] at h
  by_cases k83 : x.kind = 83
  · rw [if_pos k83] at h
    refine ⟨fun y hy => ⟨env, runAll_zero ?_ _ (List.mem_map_of_mem hy)⟩, fun e => by omega⟩
    unfold branchesE at h
    by_cases h1 : (runAll (x.kids.map (chk lib)) env).2 = 0
    · exact h1
    · rw [if_pos h1] at h; exact h
  rw [if_neg k83] at h
  by_cases k84 : x.kind = 84
  · rw [if_pos k84] at h
    refine ⟨?_, fun e => by omega⟩
    rw [k84] at hwk
    have hl2 : x.kids.length = 2 := (Option.some.inj hwk).symm
    unfold bindE at h
    by_cases h0 : (env x.name).isSome = true
    · rw [if_pos h0] at h; cases h
    rw [if_neg h0] at h
    match hk : x.kids, hl2 with
    | [y0, y1], _ =>
      rw [hk] at h
      simp only [List.map_cons, List.map_nil] at h
      by_cases h1 : (chk lib y0 env).2 = 0
      · rw [if_neg (by simp [h1])] at h
        intro y hy
        rcases List.mem_cons.1 hy with rfl | hy
        · exact ⟨env, h1⟩
        · have := List.mem_singleton.1 hy
          subst this
          exact ⟨_, h⟩
      · rw [if_pos h1] at h
        exact absurd h h1
  rw [if_neg k84] at h
  by_cases k85 : x.kind = 85
  · rw [if_pos k85] at h
    unfold callE at h
    by_cases h0 : find lib x.name < 0
    · rw [if_pos h0] at h; cases h
    rw [if_neg h0] at h
    obtain ⟨i, f, hi, hf, _⟩ := find_at lib x.name (by omega)
    rw [hi, Int.toNat_natCast, hf] at h
    simp only at h
    by_cases h1 : (x.kids.map (chk lib)).length ≠ f.params.length
    · rw [if_pos h1] at h; cases h
    rw [if_neg h1] at h
    exact ⟨all _ h, fun _ => ⟨f, i, hi, hf, by simpa using h1⟩⟩
  rw [if_neg k85] at h
  by_cases k86 : x.kind = 86
  · rw [none (by rw [k86]; rfl) rfl]
    exact ⟨fun y hy => (by cases hy), fun e => by omega⟩
  rw [if_neg k86] at h
  by_cases k87 : x.kind = 87
  · rw [if_pos k87] at h
    exact ⟨all _ h, fun e => by omega⟩
  rw [if_neg k87] at h
  by_cases k88 : x.kind = 88 ∨ x.kind = 90
  · rw [if_pos k88] at h
    exact ⟨all _ h, fun e => by omega⟩
  rw [if_neg k88] at h
  by_cases k89 : x.kind = 89
  · rw [if_pos k89] at h
    exact ⟨all _ h, fun e => by omega⟩
  by_cases k80 : x.kind = 80
  · rw [none (by rw [k80]; rfl) rfl]
    exact ⟨fun y hy => (by cases hy), fun e => by omega⟩
  have k88' : x.kind ≠ 88 := fun e => k88 (.inl e)
  have k90' : x.kind ≠ 90 := fun e => k88 (.inr e)
  unfold wantKids at hwk
  simp [k80, k81, k82, k83, k84, k85, k86, k87, k88', k89, k90'] at hwk
def arityN (lib : List Fn) (k : Int) (s : ByteArray) (n : Nat) : Bool := if k = 85 then (match lib[(find lib s).toNat]? with | some f => decide (0 ≤ find lib s) && decide (f.params.length = n) | none => false) else true
mutual
def arityB (lib : List Fn) : Node → Bool
  | .mk k _ s ks => arityN lib k s ks.length && arityL lib ks
def arityL (lib : List Fn) : List Node → Bool
  | [] => true
  | x :: xs => arityB lib x && arityL lib xs
end
theorem arityL_eq (lib : List Fn) (ks : List Node) : arityL lib ks = ks.all (arityB lib) := by
  induction ks with
  | nil => rfl
  | cons x xs ih => simp [arityL, ih]
theorem arity_eq (lib : List Fn) (x : Node) : arityB lib x = (arityN lib x.kind x.name x.kids.length && x.kids.all (arityB lib)) := by
  cases x; rw [← arityL_eq]; rfl
theorem arity_of {lib : List Fn} (x : Node) : formB x = true → ∀ env, (chk lib x env).2 = 0 → arityB lib x = true := by
  intro hform env h
  obtain ⟨hfk, _⟩ := form_kids hform
  obtain ⟨h1, h2⟩ := chk_parts hform h
  rw [arity_eq, Bool.and_eq_true, List.all_eq_true]
  refine ⟨?_, fun y hy => ?_⟩
  · unfold arityN
    split
    · rename_i k
      obtain ⟨f, i, c1, c2, c3⟩ := h2 k
      rw [c1, Int.toNat_natCast, c2]
      simp [c3]
    · rfl
  · obtain ⟨e, he⟩ := h1 y hy
    exact arity_of y (hfk y hy) e he
 termination_by x.size
 decreasing_by exact kid_size hy
noncomputable def K26 : List Item := match Tryd.f26.body with | some c => atLoop 0 100 [.code c] | none => []
theorem ac26 (lib : List Fn) (hlib : LibOk lib) (x : Node) : x.wf → ∀ h : AHeap, AC sd 26 [vlib lib, .agg x.enc] h (Pure1 (.bool (arityB lib x)) h) := by
  intro hw h
  refine AC.pure Tryd.func26 rfl Tryd.ntmps26 (by show 2 ≤ 43; decide) ?_
  refine Ev.sound 100 _ _ _ _ ?_
  have hl := hlib.len
  have hlen := hw.len
  simp only [argFr, vlib, enc_eq]
  have hh : Ext h (h.alloc (.cells [.int .u8 x.kind, .int .i64 x.num, .str x.name, kslice 4 (x.kids.map Node.enc)])) := (Ext.refl h).alloc _
  have hn := arity_eq lib x
  have hN : arityN lib x.kind x.name x.kids.length = if x.kind = 85 then (match lib[(find lib x.name).toNat]? with | some f => decide (0 ≤ find lib x.name) && decide (f.params.length = x.kids.length) | none => false) else true := rfl
  have main : arityN lib x.kind x.name x.kids.length = true → ∀ fr : Fr, fr.Has [(0, vlib lib), (3, .ptr h.next 0), (6, .int .i64 0)] → Stop sd Tryd.f26 (fun r h' => Dropped h (Pure1 (.bool (arityB lib x)) h) r.fgt h') K26 [] fr (h.alloc (.cells [.int .u8 x.kind, .int .i64 x.num, .str x.name, kslice 4 (x.kids.map Node.enc)])) := by
    intro hN fr hfr
    rw [hN, Bool.true_and] at hn
    obtain ⟨k, hK⟩ : ∃ k, K26 = k := ⟨_, rfl⟩
    have hK2 := hK
    simp only [K26, Tryd.f26, atLoop, Nat.reduceEqDiff, if_false, if_true, ↓reduceIte] at hK2
    rw [hK, ← hK2]
    clear hK hK2
    refine Stop.round (σ := Nat) (fun k => x.kids.length - k) (fun k => [(0, vlib lib), (3, .ptr h.next 0), (6, .int .i64 k)])
      (fun k h1 => k ≤ x.kids.length ∧ h1 = h.alloc (.cells [.int .u8 x.kind, .int .i64 x.num, .str x.name, kslice 4 (x.kids.map Node.enc)]) ∧ arityB lib x = (x.kids.drop k).all (arityB lib)) 0 ⟨Nat.zero_le _, rfl, hn⟩ hfr ?_
    rintro k _ ⟨hk, rfl, hv⟩ next
    refine Ev.sound 100 _ _ _ _ ?_
    rcases turn x.kids k hk with ⟨y, hy, hmem, hlt, c1, c2⟩ | ⟨hkk, c1⟩
    · have w1 := wrap_succ k (by omega)
      rw [drop_turn hy, List.all_cons] at hv
      simp only [wy, Nat.reduceAdd, Nat.reduceEqDiff, Nat.reduceLT, Nat.reduceMul, Nat.reduceLeDiff, Int.reduceEq, ↓reduceIte, reduceCtorEq, ne_eq, implies_true, if_true, if_false, ite_not, eq_self, Tryd.ntmps26, vlib, c1, c2, List.length_map, getD_map Node.enc hy, enc_eq y]
      refine Stop.fact (ac26 lib hlib y (hw.kid hmem) _) rfl (by first | rfl | simp only [wy, Nat.reduceAdd, Nat.reduceEqDiff, Nat.reduceLT, Nat.reduceMul, Nat.reduceLeDiff, Int.reduceEq, ↓reduceIte, reduceCtorEq, ne_eq, implies_true, if_true, if_false, ite_not, eq_self, Tryd.ntmps26, enc_eq, fgt_mapenc, vlib, fgt_mapfenc]) (by simp only [wy, Nat.reduceAdd, Nat.reduceEqDiff, Nat.reduceLT, Nat.reduceMul, Nat.reduceLeDiff, Int.reduceEq, ↓reduceIte, reduceCtorEq, ne_eq, implies_true, if_true, if_false, ite_not, eq_self, Tryd.ntmps26]) (caps := []) (by simp only [wy, Nat.reduceAdd, Nat.reduceEqDiff, Nat.reduceLT, Nat.reduceMul, Nat.reduceLeDiff, Int.reduceEq, ↓reduceIte, reduceCtorEq, ne_eq, implies_true, if_true, if_false, ite_not, eq_self, enc_eq, fgt_mapenc, vlib, fgt_mapfenc]) en_26 (by simp only [wy, Nat.reduceAdd, Nat.reduceEqDiff, Nat.reduceLT, Nat.reduceMul, Nat.reduceLeDiff, Int.reduceEq, ↓reduceIte, reduceCtorEq, ne_eq, implies_true, if_true, if_false, ite_not, eq_self, enc_eq, fgt_mapenc, vlib, fgt_mapfenc] <;> rfl) (Ev.sound 100 _ _ _ _ ?_)
      cases b1 : arityB lib y
      · rw [b1, Bool.false_and] at hv
        simp only [wy, Nat.reduceAdd, Nat.reduceEqDiff, Nat.reduceLT, Nat.reduceMul, Nat.reduceLeDiff, Int.reduceEq, ↓reduceIte, reduceCtorEq, ne_eq, implies_true, if_true, if_false, ite_not, eq_self, Tryd.ntmps26]
        exact Leave.pures rfl (by simp only [wy, Nat.reduceAdd, Nat.reduceEqDiff, Nat.reduceLT, Nat.reduceMul, Nat.reduceLeDiff, Int.reduceEq, ↓reduceIte, reduceCtorEq, ne_eq, implies_true, if_true, if_false, ite_not, eq_self, oneOf, hv] <;> rfl) (hh) rfl
      · rw [b1, Bool.true_and] at hv
        simp only [wy, Nat.reduceAdd, Nat.reduceEqDiff, Nat.reduceLT, Nat.reduceMul, Nat.reduceLeDiff, Int.reduceEq, ↓reduceIte, reduceCtorEq, ne_eq, implies_true, if_true, if_false, ite_not, eq_self, Tryd.ntmps26, w1]
        exact next (k + 1) _ _ (by omega) ⟨hlt, rfl, hv⟩ (by simp only [wy, Nat.reduceAdd, Nat.reduceEqDiff, Nat.reduceLT, Nat.reduceMul, Nat.reduceLeDiff, Int.reduceEq, ↓reduceIte, reduceCtorEq, ne_eq, implies_true, if_true, if_false, ite_not, eq_self, Tryd.ntmps26, vlib])
    · rw [hkk, List.drop_length, List.all_nil] at hv
      simp only [wy, Nat.reduceAdd, Nat.reduceEqDiff, Nat.reduceLT, Nat.reduceMul, Nat.reduceLeDiff, Int.reduceEq, ↓reduceIte, reduceCtorEq, ne_eq, implies_true, if_true, if_false, ite_not, eq_self, Tryd.ntmps26, c1, List.length_map]
      exact Leave.pures rfl (by simp only [wy, Nat.reduceAdd, Nat.reduceEqDiff, Nat.reduceLT, Nat.reduceMul, Nat.reduceLeDiff, Int.reduceEq, ↓reduceIte, reduceCtorEq, ne_eq, implies_true, if_true, if_false, ite_not, eq_self, oneOf, hv] <;> rfl) (hh) rfl
  by_cases k85 : x.kind = 85
  · rw [if_pos k85] at hN
    simp only [wy, Nat.reduceAdd, Nat.reduceEqDiff, Nat.reduceLT, Nat.reduceMul, Nat.reduceLeDiff, Int.reduceEq, ↓reduceIte, reduceCtorEq, ne_eq, implies_true, if_true, if_false, ite_not, eq_self, Tryd.ntmps26, decide_eq_true k85]
    refine Stop.fact (ac20 lib x.name hl _) rfl (by first | rfl | simp only [wy, Nat.reduceAdd, Nat.reduceEqDiff, Nat.reduceLT, Nat.reduceMul, Nat.reduceLeDiff, Int.reduceEq, ↓reduceIte, reduceCtorEq, ne_eq, implies_true, if_true, if_false, ite_not, eq_self, Tryd.ntmps26, vlib, fgt_mapfenc]) (by simp only [wy, Nat.reduceAdd, Nat.reduceEqDiff, Nat.reduceLT, Nat.reduceMul, Nat.reduceLeDiff, Int.reduceEq, ↓reduceIte, reduceCtorEq, ne_eq, implies_true, if_true, if_false, ite_not, eq_self, Tryd.ntmps26]) (caps := []) (by simp only [wy, Nat.reduceAdd, Nat.reduceEqDiff, Nat.reduceLT, Nat.reduceMul, Nat.reduceLeDiff, Int.reduceEq, ↓reduceIte, reduceCtorEq, ne_eq, implies_true, if_true, if_false, ite_not, eq_self, vlib, fgt_mapfenc]) en_20 (by simp only [wy, Nat.reduceAdd, Nat.reduceEqDiff, Nat.reduceLT, Nat.reduceMul, Nat.reduceLeDiff, Int.reduceEq, ↓reduceIte, reduceCtorEq, ne_eq, implies_true, if_true, if_false, ite_not, eq_self, vlib, fgt_mapfenc] <;> rfl) (Ev.sound 100 _ _ _ _ ?_)
    simp only [wy, Nat.reduceAdd, Nat.reduceEqDiff, Nat.reduceLT, Nat.reduceMul, Nat.reduceLeDiff, Int.reduceEq, ↓reduceIte, reduceCtorEq, ne_eq, implies_true, if_true, if_false, ite_not, eq_self, Tryd.ntmps26]
    refine Stop.drawn [(0, 0), (1, 0), (2, 0), (3, 0), (4, 0), (5, 0), (6, 0), (7, 0), (8, 0), (9, 0), (10, 0), (11, 0), (12, 0), (13, 0)] [[], [0], [0, 1], [0, 1, 2], [0, 1, 2], [0, 1, 2, 3, 4], [0, 1, 2, 3, 4, 5], [0, 1, 2, 3, 4, 5, 6], [0, 1, 2, 3, 4, 5, 6, 7], [0, 1, 2], [0, 1, 2, 9], [0, 1, 2, 9, 10], [0, 1, 2, 3, 4, 5, 6, 7, 8, 9, 10, 11], [0, 1, 2, 3, 4, 5, 6, 7, 8, 9, 10, 11, 12]] 90 (by kernel_rfl) ?_
    by_cases a1 : find lib x.name < 0
    · have hN' : arityN lib x.kind x.name x.kids.length = false := by
        rw [hN]; split
        · rw [decide_eq_false (by omega)]; rfl
        · rfl
      rw [hN', Bool.false_and] at hn
      simp only [wy, Nat.reduceAdd, Nat.reduceEqDiff, Nat.reduceLT, Nat.reduceMul, Nat.reduceLeDiff, Int.reduceEq, ↓reduceIte, reduceCtorEq, ne_eq, implies_true, if_true, if_false, ite_not, eq_self, Tryd.ntmps26, decide_eq_true a1]
      exact Leave.pures rfl (by simp only [wy, Nat.reduceAdd, Nat.reduceEqDiff, Nat.reduceLT, Nat.reduceMul, Nat.reduceLeDiff, Int.reduceEq, ↓reduceIte, reduceCtorEq, ne_eq, implies_true, if_true, if_false, ite_not, eq_self, oneOf, hn] <;> rfl) (hh) rfl
    obtain ⟨i, f, hi, hf, _⟩ := find_at lib x.name (by omega)
    rw [hi, Int.toNat_natCast, hf] at hN
    simp only at hN
    have il : i < lib.length := (List.getElem?_eq_some_iff.1 hf).1
    have i1 : (0 ≤ (i : Int)) = True := by simp
    have i2 : ((i : Int) < (lib.length : Int)) = True := by simp; omega
    have i3 : ¬ ((i : Int) < 0) := by omega
    rw [decide_eq_true (by omega), Bool.true_and] at hN
    by_cases a2 : f.params.length = x.kids.length
    · have a2' : decide ((f.params.length : Int) = x.kids.length) = true := decide_eq_true (by omega)
      rw [decide_eq_true a2] at hN
      simp only [wy, Nat.reduceAdd, Nat.reduceEqDiff, Nat.reduceLT, Nat.reduceMul, Nat.reduceLeDiff, Int.reduceEq, ↓reduceIte, reduceCtorEq, ne_eq, implies_true, if_true, if_false, ite_not, eq_self, Tryd.ntmps26, hi, decide_eq_false i3, List.length_map, i1, i2, getD_map Fn.enc hf, fenc_eq f, a2']
      exact main hN _ (by simp only [wy, Nat.reduceAdd, Nat.reduceEqDiff, Nat.reduceLT, Nat.reduceMul, Nat.reduceLeDiff, Int.reduceEq, ↓reduceIte, reduceCtorEq, ne_eq, implies_true, if_true, if_false, ite_not, eq_self, Tryd.ntmps26, vlib])
    · have a2' : decide ((f.params.length : Int) = x.kids.length) = false := decide_eq_false (by omega)
      rw [decide_eq_false a2] at hN
      rw [hN, Bool.false_and] at hn
      simp only [wy, Nat.reduceAdd, Nat.reduceEqDiff, Nat.reduceLT, Nat.reduceMul, Nat.reduceLeDiff, Int.reduceEq, ↓reduceIte, reduceCtorEq, ne_eq, implies_true, if_true, if_false, ite_not, eq_self, Tryd.ntmps26, hi, decide_eq_false i3, List.length_map, i1, i2, getD_map Fn.enc hf, fenc_eq f, a2']
      exact Leave.pures rfl (by simp only [wy, Nat.reduceAdd, Nat.reduceEqDiff, Nat.reduceLT, Nat.reduceMul, Nat.reduceLeDiff, Int.reduceEq, ↓reduceIte, reduceCtorEq, ne_eq, implies_true, if_true, if_false, ite_not, eq_self, oneOf, hn] <;> rfl) (hh) rfl
  · rw [if_neg k85] at hN
    simp only [wy, Nat.reduceAdd, Nat.reduceEqDiff, Nat.reduceLT, Nat.reduceMul, Nat.reduceLeDiff, Int.reduceEq, ↓reduceIte, reduceCtorEq, ne_eq, implies_true, if_true, if_false, ite_not, eq_self, Tryd.ntmps26, decide_eq_false k85]
    exact main hN _ (by simp only [wy, Nat.reduceAdd, Nat.reduceEqDiff, Nat.reduceLT, Nat.reduceMul, Nat.reduceLeDiff, Int.reduceEq, ↓reduceIte, reduceCtorEq, ne_eq, implies_true, if_true, if_false, ite_not, eq_self, Tryd.ntmps26, vlib])
 termination_by x.size
 decreasing_by exact kid_size hmem
/-- What a valid function says. -/
theorem one_zero {lib : List Fn} {i : Nat} {f : Fn} (hf : lib[i]? = some f) (h : oneE lib i f = 0) :
    i < 30 ∧ nameB f.name = true ∧ find lib f.name = i ∧ f.params.length ≤ 8 ∧ (f.params.all fun p => nameB p.name) = true ∧ dupB (pnames f.params) = false ∧ formB f.body = true ∧ f.body.depth ≤ 80 ∧ f.body.size ≤ 2000 ∧ checkE lib f.params f.body = (f.list, 0) := by
  have hfl := find_le hf
  unfold oneE at h
  by_cases a1 : 30 ≤ i
  · rw [if_pos a1] at h; cases h
  rw [if_neg a1] at h
  by_cases a2 : nameB f.name = false
  · rw [if_pos a2] at h; cases h
  rw [if_neg a2] at h
  by_cases a3 : find lib f.name < i
  · rw [if_pos a3] at h; cases h
  rw [if_neg a3] at h
  by_cases a4 : 8 < f.params.length
  · rw [if_pos a4] at h; cases h
  rw [if_neg a4] at h
  by_cases a5 : (f.params.all fun p => nameB p.name) = false
  · rw [if_pos a5] at h; cases h
  rw [if_neg a5] at h
  unfold bodyOne at h
  by_cases a6 : dupB (pnames f.params) = true
  · rw [if_pos a6] at h; cases h
  rw [if_neg a6] at h
  by_cases a7 : formB f.body = false
  · rw [if_pos a7] at h; cases h
  rw [if_neg a7] at h
  by_cases a8 : 80 < f.body.depth
  · rw [if_pos a8] at h; cases h
  rw [if_neg a8] at h
  by_cases a9 : 2000 < f.body.size
  · rw [if_pos a9] at h; cases h
  rw [if_neg a9] at h
  unfold checkOne at h
  by_cases b1 : (checkE lib f.params f.body).2 = 0 ∧ (checkE lib f.params f.body).1 ≠ f.list
  · rw [if_pos b1] at h; cases h
  rw [if_neg b1] at h
  refine ⟨by omega, by simpa using a2, by omega, by omega, by simpa using a5, by simpa using a6, by simpa using a7, by omega, by omega, ?_⟩
  have : (checkE lib f.params f.body).1 = f.list := by
    by_cases e : (checkE lib f.params f.body).1 = f.list
    · exact e
    · exact absurd ⟨h, e⟩ b1
  rw [← this, ← h]
theorem validFrom_zero {lib : List Fn} : ∀ (l : List Fn) (k : Nat), (validFrom lib k l).2 = 0 → validFrom lib k l = (-1, 0) ∧ ∀ (j : Nat) f, l[j]? = some f → oneE lib (k + j) f = 0
  | [], k, _ => ⟨rfl, fun j f h => by simp at h⟩
  | g :: gs, k, h => by
    unfold validFrom at h ⊢
    by_cases e : oneE lib k g = 0
    · rw [if_pos e] at h ⊢
      obtain ⟨h1, h2⟩ := validFrom_zero gs (k + 1) h
      refine ⟨h1, fun j f hj => ?_⟩
      cases j with
      | zero => cases hj; exact e
      | succ j => have := h2 j f hj; rwa [show k + 1 + j = k + (j + 1) by omega] at this
    · rw [if_neg e] at h
      exact absurd h e
theorem valid_zero {lib : List Fn} (h : (validE lib).2 = 0) : validE lib = (-1, 0) ∧ ∀ (j : Nat) f, lib[j]? = some f → oneE lib j f = 0 := by
  obtain ⟨h1, h2⟩ := validFrom_zero lib 0 h
  exact ⟨h1, fun j f hj => by have := h2 j f hj; rwa [Nat.zero_add] at this⟩
theorem ac9 (lib : List Fn) (hlib : LibOk lib) (hok : ∀ f ∈ lib, FnOk f) (h : AHeap) : AC sd 9 [vlib lib] h (Pure1 (.bool true) h) := by
  refine AC.pure Tryd.func9 rfl Tryd.ntmps9 (by show 1 ≤ 75; decide) ?_
  refine Ev.sound 100 _ _ _ _ ?_
  have hl := hlib.len
  simp only [argFr, vlib]
  simp only [wy, Nat.reduceAdd, Nat.reduceEqDiff, Nat.reduceLT, Nat.reduceMul, Nat.reduceLeDiff, Int.reduceEq, ↓reduceIte, reduceCtorEq, ne_eq, implies_true, if_true, if_false, ite_not, eq_self, Tryd.ntmps9]
  refine Stop.fact (ac11 _) rfl (by first | rfl | simp only [wy, Nat.reduceAdd, Nat.reduceEqDiff, Nat.reduceLT, Nat.reduceMul, Nat.reduceLeDiff, Int.reduceEq, ↓reduceIte, reduceCtorEq, ne_eq, implies_true, if_true, if_false, ite_not, eq_self, Tryd.ntmps9]) (by simp only [wy, Nat.reduceAdd, Nat.reduceEqDiff, Nat.reduceLT, Nat.reduceMul, Nat.reduceLeDiff, Int.reduceEq, ↓reduceIte, reduceCtorEq, ne_eq, implies_true, if_true, if_false, ite_not, eq_self, Tryd.ntmps9]) (caps := []) (by simp only [wy, Nat.reduceAdd, Nat.reduceEqDiff, Nat.reduceLT, Nat.reduceMul, Nat.reduceLeDiff, Int.reduceEq, ↓reduceIte, reduceCtorEq, ne_eq, implies_true, if_true, if_false, ite_not, eq_self]) en_11 (by simp only [wy, Nat.reduceAdd, Nat.reduceEqDiff, Nat.reduceLT, Nat.reduceMul, Nat.reduceLeDiff, Int.reduceEq, ↓reduceIte, reduceCtorEq, ne_eq, implies_true, if_true, if_false, ite_not, eq_self] <;> rfl) (Ev.sound 100 _ _ _ _ ?_)
  simp only [wy, Nat.reduceAdd, Nat.reduceEqDiff, Nat.reduceLT, Nat.reduceMul, Nat.reduceLeDiff, Int.reduceEq, ↓reduceIte, reduceCtorEq, ne_eq, implies_true, if_true, if_false, ite_not, eq_self, Tryd.ntmps9]
  refine Stop.fact (ac12 lib hlib hok _) rfl (by first | rfl | simp only [wy, Nat.reduceAdd, Nat.reduceEqDiff, Nat.reduceLT, Nat.reduceMul, Nat.reduceLeDiff, Int.reduceEq, ↓reduceIte, reduceCtorEq, ne_eq, implies_true, if_true, if_false, ite_not, eq_self, Tryd.ntmps9, vlib, fgt_mapfenc]) (by simp only [wy, Nat.reduceAdd, Nat.reduceEqDiff, Nat.reduceLT, Nat.reduceMul, Nat.reduceLeDiff, Int.reduceEq, ↓reduceIte, reduceCtorEq, ne_eq, implies_true, if_true, if_false, ite_not, eq_self, Tryd.ntmps9]) (caps := []) (by simp only [wy, Nat.reduceAdd, Nat.reduceEqDiff, Nat.reduceLT, Nat.reduceMul, Nat.reduceLeDiff, Int.reduceEq, ↓reduceIte, reduceCtorEq, ne_eq, implies_true, if_true, if_false, ite_not, eq_self, vlib, fgt_mapfenc]) en_12 (by simp only [wy, Nat.reduceAdd, Nat.reduceEqDiff, Nat.reduceLT, Nat.reduceMul, Nat.reduceLeDiff, Int.reduceEq, ↓reduceIte, reduceCtorEq, ne_eq, implies_true, if_true, if_false, ite_not, eq_self, vlib, fgt_mapfenc] <;> rfl) (Ev.sound 100 _ _ _ _ ?_)
  simp only [wy, Nat.reduceAdd, Nat.reduceEqDiff, Nat.reduceLT, Nat.reduceMul, Nat.reduceLeDiff, Int.reduceEq, ↓reduceIte, reduceCtorEq, ne_eq, implies_true, if_true, if_false, ite_not, eq_self, Tryd.ntmps9]
  refine EvC.part (fun a1 => ?_) (fun a1 => ?_)
  · simp only [wy, Nat.reduceAdd, Nat.reduceEqDiff, Nat.reduceLT, Nat.reduceMul, Nat.reduceLeDiff, Int.reduceEq, ↓reduceIte, reduceCtorEq, ne_eq, implies_true, if_true, if_false, ite_not, eq_self, Tryd.ntmps9]
    exact Leave.pures rfl (by simp only [wy, Nat.reduceAdd, Nat.reduceEqDiff, Nat.reduceLT, Nat.reduceMul, Nat.reduceLeDiff, Int.reduceEq, ↓reduceIte, reduceCtorEq, ne_eq, implies_true, if_true, if_false, ite_not, eq_self, oneOf] <;> rfl) (Ext.refl _) rfl
  simp only [wy, Nat.reduceAdd, Nat.reduceEqDiff, Nat.reduceLT, Nat.reduceMul, Nat.reduceLeDiff, Int.reduceEq, ↓reduceIte, reduceCtorEq, ne_eq, implies_true, if_true, if_false, ite_not, eq_self, Tryd.ntmps9]
  refine Stop.fact (ac13 lib hlib hok _) rfl (by first | rfl | simp only [wy, Nat.reduceAdd, Nat.reduceEqDiff, Nat.reduceLT, Nat.reduceMul, Nat.reduceLeDiff, Int.reduceEq, ↓reduceIte, reduceCtorEq, ne_eq, implies_true, if_true, if_false, ite_not, eq_self, Tryd.ntmps9, vlib, fgt_mapfenc]) (by simp only [wy, Nat.reduceAdd, Nat.reduceEqDiff, Nat.reduceLT, Nat.reduceMul, Nat.reduceLeDiff, Int.reduceEq, ↓reduceIte, reduceCtorEq, ne_eq, implies_true, if_true, if_false, ite_not, eq_self, Tryd.ntmps9]) (caps := []) (by simp only [wy, Nat.reduceAdd, Nat.reduceEqDiff, Nat.reduceLT, Nat.reduceMul, Nat.reduceLeDiff, Int.reduceEq, ↓reduceIte, reduceCtorEq, ne_eq, implies_true, if_true, if_false, ite_not, eq_self, vlib, fgt_mapfenc]) en_13 (by simp only [wy, Nat.reduceAdd, Nat.reduceEqDiff, Nat.reduceLT, Nat.reduceMul, Nat.reduceLeDiff, Int.reduceEq, ↓reduceIte, reduceCtorEq, ne_eq, implies_true, if_true, if_false, ite_not, eq_self, vlib, fgt_mapfenc] <;> rfl) (Ev.sound 100 _ _ _ _ ?_)
  by_cases hv : (validE lib).2 = 0
  case neg =>
    simp only [wy, Nat.reduceAdd, Nat.reduceEqDiff, Nat.reduceLT, Nat.reduceMul, Nat.reduceLeDiff, Int.reduceEq, ↓reduceIte, reduceCtorEq, ne_eq, implies_true, if_true, if_false, ite_not, eq_self, Tryd.ntmps9, decide_eq_false hv]
    exact Leave.pures rfl (by simp only [wy, Nat.reduceAdd, Nat.reduceEqDiff, Nat.reduceLT, Nat.reduceMul, Nat.reduceLeDiff, Int.reduceEq, ↓reduceIte, reduceCtorEq, ne_eq, implies_true, if_true, if_false, ite_not, eq_self, oneOf] <;> rfl) (Ext.refl _) rfl
  obtain ⟨hv1, hv2⟩ := valid_zero hv
  simp only [wy, Nat.reduceAdd, Nat.reduceEqDiff, Nat.reduceLT, Nat.reduceMul, Nat.reduceLeDiff, Int.reduceEq, ↓reduceIte, reduceCtorEq, ne_eq, implies_true, if_true, if_false, ite_not, eq_self, Tryd.ntmps9, decide_eq_true hv]
  refine Stop.round (σ := Nat) (fun k => lib.length - k) (fun k => [(0, kslice 7 (lib.map Fn.enc)), (5, .int .i64 k)])
    (fun k h1 => k ≤ lib.length ∧ h = h1) 0 ⟨Nat.zero_le _, rfl⟩ (by simp only [wy, Nat.reduceAdd, Nat.reduceEqDiff, Nat.reduceLT, Nat.reduceMul, Nat.reduceLeDiff, Int.reduceEq, ↓reduceIte, reduceCtorEq, ne_eq, implies_true, if_true, if_false, ite_not, eq_self, Tryd.ntmps9, Int.natCast_zero]) ?_
  rintro k _ ⟨hk, rfl⟩ next
  refine Ev.sound 100 _ _ _ _ ?_
  rcases turn lib k hk with ⟨y, hy, hmem, hlt, c1, c2⟩ | ⟨hkk, c1⟩
  · have w1 := wrap_succ k (by omega)
    obtain ⟨o1, o2, o3, o4, o5, o6, o7, o8, o9, o10⟩ := one_zero hy (hv2 k y hy)
    have hok' := hok y hmem
    have har : arityB lib y.body = true := arity_of y.body o7 (envOf y.params) (by
      have := congrArg Prod.snd o10
      unfold checkE at this
      exact this)
    have hty : typeE lib k y.body = (y.list, 0) := by
      unfold typeE
      rw [if_neg (by omega), if_neg (by simp [o7]), Int.toNat_natCast, hy]
      exact o10
    simp only [wy, Nat.reduceAdd, Nat.reduceEqDiff, Nat.reduceLT, Nat.reduceMul, Nat.reduceLeDiff, Int.reduceEq, ↓reduceIte, reduceCtorEq, ne_eq, implies_true, if_true, if_false, ite_not, eq_self, Tryd.ntmps9, c1, c2, List.length_map, getD_map Fn.enc hy, fenc_eq y]
    refine Stop.fact (ac20 lib y.name hl _) rfl (by first | rfl | simp only [wy, Nat.reduceAdd, Nat.reduceEqDiff, Nat.reduceLT, Nat.reduceMul, Nat.reduceLeDiff, Int.reduceEq, ↓reduceIte, reduceCtorEq, ne_eq, implies_true, if_true, if_false, ite_not, eq_self, Tryd.ntmps9, vlib, fgt_mapfenc]) (by simp only [wy, Nat.reduceAdd, Nat.reduceEqDiff, Nat.reduceLT, Nat.reduceMul, Nat.reduceLeDiff, Int.reduceEq, ↓reduceIte, reduceCtorEq, ne_eq, implies_true, if_true, if_false, ite_not, eq_self, Tryd.ntmps9]) (caps := []) (by simp only [wy, Nat.reduceAdd, Nat.reduceEqDiff, Nat.reduceLT, Nat.reduceMul, Nat.reduceLeDiff, Int.reduceEq, ↓reduceIte, reduceCtorEq, ne_eq, implies_true, if_true, if_false, ite_not, eq_self, vlib, fgt_mapfenc]) en_20 (by simp only [wy, Nat.reduceAdd, Nat.reduceEqDiff, Nat.reduceLT, Nat.reduceMul, Nat.reduceLeDiff, Int.reduceEq, ↓reduceIte, reduceCtorEq, ne_eq, implies_true, if_true, if_false, ite_not, eq_self, vlib, fgt_mapfenc] <;> rfl) (Ev.sound 100 _ _ _ _ ?_)
    simp only [wy, Nat.reduceAdd, Nat.reduceEqDiff, Nat.reduceLT, Nat.reduceMul, Nat.reduceLeDiff, Int.reduceEq, ↓reduceIte, reduceCtorEq, ne_eq, implies_true, if_true, if_false, ite_not, eq_self, Tryd.ntmps9, o3, c1, c2, List.length_map, getD_map Fn.enc hy, fenc_eq y]
    refine Stop.fact (ac25 y.name hok'.name _) rfl (by first | rfl | simp only [wy, Nat.reduceAdd, Nat.reduceEqDiff, Nat.reduceLT, Nat.reduceMul, Nat.reduceLeDiff, Int.reduceEq, ↓reduceIte, reduceCtorEq, ne_eq, implies_true, if_true, if_false, ite_not, eq_self, Tryd.ntmps9]) (by simp only [wy, Nat.reduceAdd, Nat.reduceEqDiff, Nat.reduceLT, Nat.reduceMul, Nat.reduceLeDiff, Int.reduceEq, ↓reduceIte, reduceCtorEq, ne_eq, implies_true, if_true, if_false, ite_not, eq_self, Tryd.ntmps9]) (caps := []) (by simp only [wy, Nat.reduceAdd, Nat.reduceEqDiff, Nat.reduceLT, Nat.reduceMul, Nat.reduceLeDiff, Int.reduceEq, ↓reduceIte, reduceCtorEq, ne_eq, implies_true, if_true, if_false, ite_not, eq_self]) en_25 (by simp only [wy, Nat.reduceAdd, Nat.reduceEqDiff, Nat.reduceLT, Nat.reduceMul, Nat.reduceLeDiff, Int.reduceEq, ↓reduceIte, reduceCtorEq, ne_eq, implies_true, if_true, if_false, ite_not, eq_self] <;> rfl) (Ev.sound 100 _ _ _ _ ?_)
    simp only [wy, Nat.reduceAdd, Nat.reduceEqDiff, Nat.reduceLT, Nat.reduceMul, Nat.reduceLeDiff, Int.reduceEq, ↓reduceIte, reduceCtorEq, ne_eq, implies_true, if_true, if_false, ite_not, eq_self, Tryd.ntmps9, o2, c1, c2, List.length_map, getD_map Fn.enc hy, fenc_eq y]
    refine Stop.fact (ac26 lib hlib y.body hok'.body _) rfl (by first | rfl | simp only [wy, Nat.reduceAdd, Nat.reduceEqDiff, Nat.reduceLT, Nat.reduceMul, Nat.reduceLeDiff, Int.reduceEq, ↓reduceIte, reduceCtorEq, ne_eq, implies_true, if_true, if_false, ite_not, eq_self, Tryd.ntmps9, enc_eq, fgt_mapenc, vlib, fgt_mapfenc]) (by simp only [wy, Nat.reduceAdd, Nat.reduceEqDiff, Nat.reduceLT, Nat.reduceMul, Nat.reduceLeDiff, Int.reduceEq, ↓reduceIte, reduceCtorEq, ne_eq, implies_true, if_true, if_false, ite_not, eq_self, Tryd.ntmps9]) (caps := []) (by simp only [wy, Nat.reduceAdd, Nat.reduceEqDiff, Nat.reduceLT, Nat.reduceMul, Nat.reduceLeDiff, Int.reduceEq, ↓reduceIte, reduceCtorEq, ne_eq, implies_true, if_true, if_false, ite_not, eq_self, enc_eq, fgt_mapenc, vlib, fgt_mapfenc]) en_26 (by simp only [wy, Nat.reduceAdd, Nat.reduceEqDiff, Nat.reduceLT, Nat.reduceMul, Nat.reduceLeDiff, Int.reduceEq, ↓reduceIte, reduceCtorEq, ne_eq, implies_true, if_true, if_false, ite_not, eq_self, enc_eq, fgt_mapenc, vlib, fgt_mapfenc] <;> rfl) (Ev.sound 100 _ _ _ _ ?_)
    simp only [wy, Nat.reduceAdd, Nat.reduceEqDiff, Nat.reduceLT, Nat.reduceMul, Nat.reduceLeDiff, Int.reduceEq, ↓reduceIte, reduceCtorEq, ne_eq, implies_true, if_true, if_false, ite_not, eq_self, Tryd.ntmps9, har, c1, c2, List.length_map, getD_map Fn.enc hy, fenc_eq y]
    refine Stop.fact (ac16 lib hlib hok k y.body hok'.body _) rfl (by first | rfl | simp only [wy, Nat.reduceAdd, Nat.reduceEqDiff, Nat.reduceLT, Nat.reduceMul, Nat.reduceLeDiff, Int.reduceEq, ↓reduceIte, reduceCtorEq, ne_eq, implies_true, if_true, if_false, ite_not, eq_self, Tryd.ntmps9, enc_eq, fgt_mapenc, vlib, fgt_mapfenc]) (by simp only [wy, Nat.reduceAdd, Nat.reduceEqDiff, Nat.reduceLT, Nat.reduceMul, Nat.reduceLeDiff, Int.reduceEq, ↓reduceIte, reduceCtorEq, ne_eq, implies_true, if_true, if_false, ite_not, eq_self, Tryd.ntmps9]) (caps := []) (by simp only [wy, Nat.reduceAdd, Nat.reduceEqDiff, Nat.reduceLT, Nat.reduceMul, Nat.reduceLeDiff, Int.reduceEq, ↓reduceIte, reduceCtorEq, ne_eq, implies_true, if_true, if_false, ite_not, eq_self, enc_eq, fgt_mapenc, vlib, fgt_mapfenc]) en_16 (by simp only [wy, Nat.reduceAdd, Nat.reduceEqDiff, Nat.reduceLT, Nat.reduceMul, Nat.reduceLeDiff, Int.reduceEq, ↓reduceIte, reduceCtorEq, ne_eq, implies_true, if_true, if_false, ite_not, eq_self, enc_eq, fgt_mapenc, vlib, fgt_mapfenc] <;> rfl) (Ev.sound 100 _ _ _ _ ?_)
    simp only [wy, Nat.reduceAdd, Nat.reduceEqDiff, Nat.reduceLT, Nat.reduceMul, Nat.reduceLeDiff, Int.reduceEq, ↓reduceIte, reduceCtorEq, ne_eq, implies_true, if_true, if_false, ite_not, eq_self, Tryd.ntmps9, hty, tyv, c1, c2, List.length_map, getD_map Fn.enc hy, fenc_eq y, bne_self_eq_false, beq_self_eq_true, w1]
    exact next (k + 1) _ _ (by omega) ⟨hlt, rfl⟩ (by simp only [wy, Nat.reduceAdd, Nat.reduceEqDiff, Nat.reduceLT, Nat.reduceMul, Nat.reduceLeDiff, Int.reduceEq, ↓reduceIte, reduceCtorEq, ne_eq, implies_true, if_true, if_false, ite_not, eq_self, Tryd.ntmps9])
  · simp only [wy, Nat.reduceAdd, Nat.reduceEqDiff, Nat.reduceLT, Nat.reduceMul, Nat.reduceLeDiff, Int.reduceEq, ↓reduceIte, reduceCtorEq, ne_eq, implies_true, if_true, if_false, ite_not, eq_self, Tryd.ntmps9, c1, List.length_map]
    exact Leave.pures rfl (by simp only [wy, Nat.reduceAdd, Nat.reduceEqDiff, Nat.reduceLT, Nat.reduceMul, Nat.reduceLeDiff, Int.reduceEq, ↓reduceIte, reduceCtorEq, ne_eq, implies_true, if_true, if_false, ite_not, eq_self, oneOf] <;> rfl) (Ext.refl _) rfl
end Go.Proofs.YtajknofacjiddaaDoor.Abs

/- The law FunPrefix. -/
namespace Go.Proofs.YtajknofacjiddaaDoor.Abs
open Go Go.RowKit
set_option linter.unusedSimpArgs false
set_option linter.unusedVariables false
set_option maxHeartbeats 4000000
set_option maxRecDepth 100000
theorem pos_app {α : Type} (p : α → Bool) (a : α) : ∀ (l : List α) (k : Nat), (0 ≤ pos p k l → pos p k (l ++ [a]) = pos p k l) ∧ (pos p k l < 0 → pos p k (l ++ [a]) = if p a = true then ((k + l.length : Nat) : Int) else -1)
  | [], k => by
    refine ⟨fun h => ?_, fun _ => ?_⟩
    · unfold pos at h; omega
    · simp only [List.nil_append, pos, List.length_nil, Nat.add_zero]
  | b :: l, k => by
    obtain ⟨h1, h2⟩ := pos_app p a l (k + 1)
    simp only [List.cons_append, pos, List.length_cons]
    by_cases q : p b = true
    · rw [if_pos q, if_pos q]
      exact ⟨fun _ => rfl, fun h => by omega⟩
    · rw [if_neg q, if_neg q]
      refine ⟨h1, fun h => ?_⟩
      rw [h2 h, show k + 1 + l.length = k + (l.length + 1) by omega]
theorem find_app (lib : List Fn) (g : Fn) (s : ByteArray) : find (lib ++ [g]) s = if 0 ≤ find lib s then find lib s else if g.name = s then (lib.length : Int) else -1 := by
  obtain ⟨h1, h2⟩ := pos_app (fun f : Fn => decide (f.name = s)) g lib 0
  unfold find
  by_cases q : 0 ≤ pos (fun f : Fn => decide (f.name = s)) 0 lib
  · rw [if_pos q, h1 q]
  · rw [if_neg q, h2 (by omega), Nat.zero_add]
    simp only [decide_eq_true_eq]
theorem find_neg (lib : List Fn) (s : ByteArray) (h : find lib s < 0) : find lib s = -1 := by
  unfold find at h ⊢
  rcases pos_ge (fun f : Fn => decide (f.name = s)) lib 0 with q | q
  · exact q
  · omega
mutual
/-- Two libraries find the same functions in that tree. -/
def Agree (lib more : List Fn) : Node → Prop
  | .mk k _ s ks => (k = 85 → find more s = find lib s) ∧ AgreeL lib more ks
def AgreeL (lib more : List Fn) : List Node → Prop
  | [] => True
  | x :: xs => Agree lib more x ∧ AgreeL lib more xs
end
theorem agreeL_of {lib more : List Fn} {ks : List Node} (h : ∀ y ∈ ks, Agree lib more y) : AgreeL lib more ks := by
  induction ks with
  | nil => trivial
  | cons x xs ih => exact ⟨h x (by simp), ih fun y hy => h y (by simp [hy])⟩
theorem agree_of {lib more : List Fn} {x : Node} (h1 : x.kind = 85 → find more x.name = find lib x.name) (h2 : ∀ y ∈ x.kids, Agree lib more y) : Agree lib more x := by
  cases x; exact ⟨h1, agreeL_of h2⟩
mutual
theorem chk_agree {lib more : List Fn} (hs : ∀ (i : Nat) f, lib[i]? = some f → more[i]? = some f) : ∀ x : Node, Agree lib more x → chk more x = chk lib x
  | .mk k n s ks => fun h => by
    unfold chk
    rw [chks_agree hs ks h.2]
    funext env
    unfold stepE
    by_cases k85 : k = 85
    · have hf := h.1 k85
      have hcall : ∀ fs, callE more s fs env = callE lib s fs env := fun fs => by
        unfold callE
        rw [hf]
        by_cases q : find lib s < 0
        · rw [if_pos q, if_pos q]
        · obtain ⟨i, f, h1, h2, _⟩ := find_at lib s (by omega)
          rw [if_neg q, if_neg q, h1, Int.toNat_natCast, h2, hs i f h2]
      rw [hcall]
    · simp only [if_neg k85]
theorem chks_agree {lib more : List Fn} (hs : ∀ (i : Nat) f, lib[i]? = some f → more[i]? = some f) : ∀ ks : List Node, AgreeL lib more ks → chks more ks = chks lib ks
  | [] => fun _ => rfl
  | x :: xs => fun h => by
    unfold chks
    rw [chk_agree hs x h.1, chks_agree hs xs h.2]
end
theorem app_sub (lib : List Fn) (g : Fn) : ∀ (i : Nat) f, lib[i]? = some f → (lib ++ [g])[i]? = some f := fun i f h => by
  rw [List.getElem?_append_left (List.getElem?_eq_some_iff.1 h).1]; exact h
theorem agree_arity {lib : List Fn} (g : Fn) (x : Node) : arityB lib x = true → Agree lib (lib ++ [g]) x := by
  intro h
  rw [arity_eq, Bool.and_eq_true, List.all_eq_true] at h
  refine agree_of (fun k => ?_) fun y hy => agree_arity g y (h.2 y hy)
  have h1 := h.1
  unfold arityN at h1
  rw [if_pos k] at h1
  rw [find_app]
  split at h1
  · rw [Bool.and_eq_true, decide_eq_true_eq] at h1
    rw [if_pos h1.1]
  · cases h1
 termination_by x.size
 decreasing_by exact kid_size hy
theorem agree_calls {lib : List Fn} {g p : Fn} (hg : g.name = p.name) (x : Node) : (∀ c ∈ callsE (lib ++ [p]) x, c ≠ (lib.length : Int)) → Agree lib (lib ++ [g]) x := by
  intro h
  rw [calls_eq] at h
  refine agree_of (fun k => ?_) fun y hy => agree_calls hg y fun c hc => h c (List.mem_append_right _ (List.mem_flatMap.2 ⟨y, hy, hc⟩))
  have hf := find_app lib p x.name
  rw [find_app, hg]
  by_cases q : 0 ≤ find lib x.name
  · rw [if_pos q]
  · rw [if_neg q] at hf ⊢
    by_cases e : p.name = x.name
    · rw [if_pos e] at hf
      have : (lib.length : Int) ∈ ownCall (lib ++ [p]) x.kind x.name := by
        unfold ownCall
        rw [hf, if_pos ⟨k, by omega⟩]
        simp
      exact absurd rfl (h _ (List.mem_append_left _ this))
    · rw [if_neg e, find_neg lib _ (by omega)]
 termination_by x.size
 decreasing_by exact kid_size hy
theorem checkE_agree {lib more : List Fn} (hs : ∀ (i : Nat) f, lib[i]? = some f → more[i]? = some f) {x : Node} (h : Agree lib more x) (ps : List Param) : checkE more ps x = checkE lib ps x := by
  unfold checkE
  rw [chk_agree hs x h]
theorem one_agree {lib : List Fn} {g f : Fn} {k : Nat} (hf : lib[k]? = some f) (h : Agree lib (lib ++ [g]) f.body) : oneE (lib ++ [g]) k f = oneE lib k f := by
  have hfl := find_le hf
  have e1 : find (lib ++ [g]) f.name = find lib f.name := by rw [find_app, if_pos hfl.1]
  unfold oneE bodyOne checkOne
  rw [e1, checkE_agree (app_sub lib g) h]
theorem validFrom_ne {lib : List Fn} : ∀ (l : List Fn) (k : Nat), (validFrom lib k l).2 ≠ 0 → ∃ j, j < l.length ∧ (validFrom lib k l).1 = ((k + j : Nat) : Int)
  | [], k, h => absurd rfl h
  | g :: gs, k, h => by
    unfold validFrom at h ⊢
    by_cases e : oneE lib k g = 0
    · rw [if_pos e] at h ⊢
      obtain ⟨j, h1, h2⟩ := validFrom_ne gs (k + 1) h
      exact ⟨j + 1, by simp; omega, by rw [h2]; congr 1; omega⟩
    · rw [if_neg e]
      exact ⟨0, by simp, rfl⟩
theorem validFrom_app {lib more : List Fn} {g : Fn} : ∀ (l : List Fn) (k : Nat), (∀ (j : Nat) f, l[j]? = some f → oneE more (k + j) f = oneE lib (k + j) f) →
    ((validFrom lib k l).2 ≠ 0 → validFrom more k (l ++ [g]) = validFrom lib k l) ∧ ((validFrom lib k l).2 = 0 → validFrom more k (l ++ [g]) = validFrom more (k + l.length) [g])
  | [], k, _ => ⟨fun h => absurd rfl h, fun _ => rfl⟩
  | f :: fs, k, h => by
    have h0 := h 0 f rfl
    rw [Nat.add_zero] at h0
    obtain ⟨h1, h2⟩ := validFrom_app (lib := lib) (more := more) (g := g) fs (k + 1) (fun j f' hj => by have := h (j + 1) f' hj; rwa [show k + (j + 1) = k + 1 + j by omega] at this)
    simp only [List.cons_append, List.length_cons]
    rw [validFrom, validFrom, h0]
    by_cases e : oneE lib k f = 0
    · rw [if_pos e, if_pos e]
      refine ⟨h1, fun q => ?_⟩
      rw [h2 q, show k + 1 + fs.length = k + (fs.length + 1) by omega]
    · rw [if_neg e, if_neg e]
      exact ⟨fun _ => rfl, fun q => absurd q e⟩
def sZ : ByteArray := ⟨#[122, 122, 122, 122, 122, 122, 122, 122, 122, 122, 122, 122]⟩
def zFn : Fn := ⟨sZ, [], false, .mk 80 7 ⟨#[]⟩ []⟩
def pFn : Fn := ⟨sZ, [], false, .mk 0 0 ⟨#[]⟩ []⟩
theorem one_z {lib : List Fn} (hl : lib.length < 30) (hz : find lib sZ < 0) : oneE (lib ++ [zFn]) lib.length zFn = 0 := by
  have h1 : nameB sZ = true := by decide +kernel
  have h2 : find (lib ++ [zFn]) zFn.name = lib.length := by rw [find_app, if_neg (by show ¬ 0 ≤ find lib sZ; omega), if_pos rfl]
  have h3 : checkE (lib ++ [zFn]) zFn.params zFn.body = (false, 0) := by
    refine checkE_ok ?_
    rw [chk_eq]
    rfl
  unfold oneE
  rw [if_neg (by omega), if_neg (by show ¬ nameB sZ = false; simp [h1]), if_neg (by rw [h2]; omega), if_neg (by decide), if_neg (by decide)]
  unfold bodyOne
  rw [if_neg (by decide), if_neg (by decide +kernel), if_neg (by decide), if_neg (by decide)]
  unfold checkOne
  rw [h3]
  rfl
def mentionsE (lib : List Fn) : Bool := lib.any fun f => (callsE (lib ++ [pFn]) f.body).any fun c => decide (c = (lib.length : Int))
theorem prefix_law {lib : List Fn} (hl : lib.length < 30) (hz : find lib sZ < 0) :
    ((validE lib).2 = 0 → validE lib = (-1, 0) ∧ validE (lib ++ [zFn]) = (-1, 0)) ∧ ((validE lib).2 ≠ 0 → (0 ≤ (validE lib).1 ∧ (validE lib).1 < (lib.length : Int)) ∧ (mentionsE lib = false → validE (lib ++ [zFn]) = validE lib)) := by
  refine ⟨fun h => ?_, fun h => ⟨?_, fun hm => ?_⟩⟩
  · obtain ⟨h1, h2⟩ := valid_zero h
    refine ⟨h1, ?_⟩
    have := (validFrom_app (lib := lib) (more := lib ++ [zFn]) (g := zFn) lib 0 (fun j f hj => by
      rw [Nat.zero_add]
      obtain ⟨_, _, _, _, _, _, o7, _, _, o10⟩ := one_zero hj (h2 j f hj)
      exact one_agree hj (agree_arity zFn f.body (arity_of f.body o7 (envOf f.params) (by
        have := congrArg Prod.snd o10
        unfold checkE at this
        exact this))))).2 h
    unfold validE
    rw [this, Nat.zero_add]
    unfold validFrom
    rw [if_pos (one_z hl hz)]
    rfl
  · obtain ⟨j, h1, h2⟩ := validFrom_ne lib 0 h
    unfold validE
    rw [h2]
    omega
  · refine (validFrom_app (lib := lib) (more := lib ++ [zFn]) (g := zFn) lib 0 (fun j f hj => ?_)).1 h
    rw [Nat.zero_add]
    refine one_agree hj (agree_calls (g := zFn) (p := pFn) rfl f.body fun c hc e => ?_)
    unfold mentionsE at hm
    rw [List.any_eq_false] at hm
    have := hm f (List.mem_of_getElem? hj)
    simp only [List.any_eq_true, decide_eq_true_eq, not_exists, not_and] at this
    exact this c hc e
theorem fgt_fsnoc (lib : List Fn) (a b c d e f g : AV) (x : Fn) (hx : fgtL [a, b, c, d, e, f, g] = x.enc) : fgtLL (lib.map Fn.enc ++ [[a, b, c, d, e, f, g]]) = (lib ++ [x]).map Fn.enc := by
  have h1 := fgt_mapfenc lib
  rw [fgtLL_eq] at h1 ⊢
  rw [List.map_append, List.map_append, h1]
  simp only [List.map_cons, List.map_nil, hx]
theorem app_ok {lib : List Fn} (hlib : LibOk lib) (hl : lib.length < 1048576) {x : Fn} (hx : x.params.length ≤ 1048576) : LibOk (lib ++ [x]) :=
  ⟨by simp; omega, fun f hf => by rcases List.mem_append.1 hf with h | h; exact hlib.params f h; rw [List.mem_singleton.1 h]; exact hx⟩
theorem z_ok : FnOk zFn := ⟨by decide +kernel, by decide, fun p hp => (by cases hp), ⟨by decide +kernel, by simp only [Node.names, namesL, zFn]; decide +kernel⟩⟩
theorem p_ok : FnOk pFn := ⟨by decide +kernel, by decide, fun p hp => (by cases hp), ⟨by decide +kernel, by simp only [Node.names, namesL, pFn]; decide +kernel⟩⟩
theorem app_fns {lib : List Fn} (hok : ∀ f ∈ lib, FnOk f) {x : Fn} (hx : FnOk x) : ∀ f ∈ lib ++ [x], FnOk f := fun f hf => by
  rcases List.mem_append.1 hf with h | h
  · exact hok f h
  · rw [List.mem_singleton.1 h]; exact hx
theorem ac24 (lib : List Fn) (hlib : LibOk lib) (hok : ∀ f ∈ lib, FnOk f) (hl : lib.length < 30) (h : AHeap) : AC sd 24 [vlib lib] h (Pure1 (.bool (mentionsE lib)) h) := by
  refine AC.pure Tryd.func24 rfl Tryd.ntmps24 (by show 1 ≤ 32; decide) ?_
  refine Ev.sound 100 _ _ _ _ ?_
  simp only [argFr, vlib]
  have hl2 : (lib.length + 1) * 112 ≤ 140737488355328 := by omega
  simp only [wy, Nat.reduceAdd, Nat.reduceEqDiff, Nat.reduceLT, Nat.reduceMul, Nat.reduceLeDiff, Int.reduceEq, ↓reduceIte, reduceCtorEq, ne_eq, implies_true, if_true, if_false, ite_not, eq_self, Tryd.ntmps24, List.length_map]
  refine ⟨by omega, by omega, ?_⟩
  have hv : (AV.slice 7 (lib.map Fn.enc ++ [[.str ⟨#[122, 122, 122, 122, 122, 122, 122, 122, 122, 122, 122, 122]⟩, .slice 0 [] .fixed, .bool false, .int .u8 0, .int .i64 0, .str .empty, .slice 0 [] .fixed]]) (.tip h.ntok)).fgt = vlib (lib ++ [pFn]) := by
    rw [fgt_slice, fgt_fsnoc lib _ _ _ _ _ _ _ pFn rfl]; rfl
  generalize AV.slice 7 (lib.map Fn.enc ++ [[.str ⟨#[122, 122, 122, 122, 122, 122, 122, 122, 122, 122, 122, 122]⟩, .slice 0 [] .fixed, .bool false, .int .u8 0, .int .i64 0, .str .empty, .slice 0 [] .fixed]]) (.tip h.ntok) = V at hv ⊢
  have hx : Ext h ((h.newTok lib.length).setTok h.ntok (lib.length + 1)) := ((Ext.refl h).newTok _).setTok (Nat.le_refl _) _
  generalize (h.newTok lib.length).setTok h.ntok (lib.length + 1) = H at hx ⊢
  have hlp := app_ok hlib (by omega) (x := pFn) (by decide)
  have hop := app_fns hok p_ok
  refine Stop.round (σ := Nat) (fun k => lib.length - k) (fun k => [(0, kslice 7 (lib.map Fn.enc)), (3, V), (4, .int .i64 k)])
    (fun k h1 => k ≤ lib.length ∧ H = h1 ∧ mentionsE lib = (lib.drop k).any fun f => (callsE (lib ++ [pFn]) f.body).any fun c => decide (c = (lib.length : Int))) 0 ⟨Nat.zero_le _, rfl, rfl⟩ (by simp only [wy, Nat.reduceAdd, Nat.reduceEqDiff, Nat.reduceLT, Nat.reduceMul, Nat.reduceLeDiff, Int.reduceEq, ↓reduceIte, reduceCtorEq, ne_eq, implies_true, if_true, if_false, ite_not, eq_self, Tryd.ntmps24, Int.natCast_zero]) ?_
  rintro k _ ⟨hk, rfl, hv2⟩ next
  refine Ev.sound 100 _ _ _ _ ?_
  rcases turn lib k hk with ⟨y, hy, hmem, hlt, c1, c2⟩ | ⟨hkk, c1⟩
  · have w1 := wrap_succ k (by omega)
    have hca : callsAt (lib ++ [pFn]) k = callsE (lib ++ [pFn]) y.body := by
      unfold callsAt
      rw [if_neg (by simp; omega), Int.toNat_natCast, app_sub lib pFn k y hy]
    have hcl := calls_len (lib ++ [pFn]) y.body
    have hsz := (hok y hmem).body.size
    rw [drop_turn hy, List.any_cons] at hv2
    simp only [wy, Nat.reduceAdd, Nat.reduceEqDiff, Nat.reduceLT, Nat.reduceMul, Nat.reduceLeDiff, Int.reduceEq, ↓reduceIte, reduceCtorEq, ne_eq, implies_true, if_true, if_false, ite_not, eq_self, Tryd.ntmps24, c1, List.length_map]
    refine Stop.fact (ac19 (lib ++ [pFn]) hlp hop k _) rfl rfl (by simp only [wy, Nat.reduceAdd, Nat.reduceEqDiff, Nat.reduceLT, Nat.reduceMul, Nat.reduceLeDiff, Int.reduceEq, ↓reduceIte, reduceCtorEq, ne_eq, implies_true, if_true, if_false, ite_not, eq_self, Tryd.ntmps24]) (caps := []) (by simp only [wy, Nat.reduceAdd, Nat.reduceEqDiff, Nat.reduceLT, Nat.reduceMul, Nat.reduceLeDiff, Int.reduceEq, ↓reduceIte, reduceCtorEq, ne_eq, implies_true, if_true, if_false, ite_not, eq_self, Tryd.ntmps24]) en_19 (by simp only [wy, Nat.reduceAdd, Nat.reduceEqDiff, Nat.reduceLT, Nat.reduceMul, Nat.reduceLeDiff, Int.reduceEq, ↓reduceIte, reduceCtorEq, ne_eq, implies_true, if_true, if_false, ite_not, eq_self, Tryd.ntmps24, hv]) (Ev.sound 100 _ _ _ _ ?_)
    rw [hca]
    generalize callsE (lib ++ [pFn]) y.body = cs at *
    simp only [wy, Nat.reduceAdd, Nat.reduceEqDiff, Nat.reduceLT, Nat.reduceMul, Nat.reduceLeDiff, Int.reduceEq, ↓reduceIte, reduceCtorEq, ne_eq, implies_true, if_true, if_false, ite_not, eq_self, Tryd.ntmps24, vints, List.length_map]
    refine Stop.round (σ := Nat) (fun j => cs.length - j) (fun j => [(0, kslice 7 (lib.map Fn.enc)), (3, V), (4, .int .i64 k), (21, kslice 1 (cs.map fun b => [.int .i64 b])), (22, .int .i64 cs.length), (23, .int .i64 j)])
      (fun j h1 => j ≤ cs.length ∧ H = h1 ∧ (cs.any fun c => decide (c = (lib.length : Int))) = (cs.drop j).any fun c => decide (c = (lib.length : Int))) 0 ⟨Nat.zero_le _, rfl, rfl⟩ (by simp only [wy, Nat.reduceAdd, Nat.reduceEqDiff, Nat.reduceLT, Nat.reduceMul, Nat.reduceLeDiff, Int.reduceEq, ↓reduceIte, reduceCtorEq, ne_eq, implies_true, if_true, if_false, ite_not, eq_self, Tryd.ntmps24, Int.natCast_zero]) ?_
    rintro j _ ⟨hj, rfl, hv3⟩ next2
    refine Ev.sound 100 _ _ _ _ ?_
    rcases turn cs j hj with ⟨z, hz, hm2, hlt2, d1, d2⟩ | ⟨hjj, d1⟩
    · have w2 := wrap_succ j (by omega)
      rw [drop_turn hz, List.any_cons] at hv3
      simp only [wy, Nat.reduceAdd, Nat.reduceEqDiff, Nat.reduceLT, Nat.reduceMul, Nat.reduceLeDiff, Int.reduceEq, ↓reduceIte, reduceCtorEq, ne_eq, implies_true, if_true, if_false, ite_not, eq_self, Tryd.ntmps24, d1, d2, List.length_map, getD_map (fun b : Int => [AV.int .i64 b]) hz]
      by_cases e : z = (lib.length : Int)
      · rw [decide_eq_true e, Bool.true_or] at hv3
        rw [hv3, Bool.true_or] at hv2
        simp only [wy, Nat.reduceAdd, Nat.reduceEqDiff, Nat.reduceLT, Nat.reduceMul, Nat.reduceLeDiff, Int.reduceEq, ↓reduceIte, reduceCtorEq, ne_eq, implies_true, if_true, if_false, ite_not, eq_self, Tryd.ntmps24, decide_eq_true e]
        exact Leave.pures rfl (by simp only [wy, Nat.reduceAdd, Nat.reduceEqDiff, Nat.reduceLT, Nat.reduceMul, Nat.reduceLeDiff, Int.reduceEq, ↓reduceIte, reduceCtorEq, ne_eq, implies_true, if_true, if_false, ite_not, eq_self, oneOf, hv2] <;> rfl) (hx) rfl
      · rw [decide_eq_false e, Bool.false_or] at hv3
        simp only [wy, Nat.reduceAdd, Nat.reduceEqDiff, Nat.reduceLT, Nat.reduceMul, Nat.reduceLeDiff, Int.reduceEq, ↓reduceIte, reduceCtorEq, ne_eq, implies_true, if_true, if_false, ite_not, eq_self, Tryd.ntmps24, decide_eq_false e, w2]
        exact next2 (j + 1) _ _ (by omega) ⟨hlt2, rfl, hv3⟩ (by simp only [wy, Nat.reduceAdd, Nat.reduceEqDiff, Nat.reduceLT, Nat.reduceMul, Nat.reduceLeDiff, Int.reduceEq, ↓reduceIte, reduceCtorEq, ne_eq, implies_true, if_true, if_false, ite_not, eq_self, Tryd.ntmps24])
    · rw [hjj, List.drop_length, List.any_nil] at hv3
      rw [hv3, Bool.false_or] at hv2
      simp only [wy, Nat.reduceAdd, Nat.reduceEqDiff, Nat.reduceLT, Nat.reduceMul, Nat.reduceLeDiff, Int.reduceEq, ↓reduceIte, reduceCtorEq, ne_eq, implies_true, if_true, if_false, ite_not, eq_self, Tryd.ntmps24, d1, w1]
      exact next (k + 1) _ _ (by omega) ⟨hlt, rfl, hv2⟩ (by simp only [wy, Nat.reduceAdd, Nat.reduceEqDiff, Nat.reduceLT, Nat.reduceMul, Nat.reduceLeDiff, Int.reduceEq, ↓reduceIte, reduceCtorEq, ne_eq, implies_true, if_true, if_false, ite_not, eq_self, Tryd.ntmps24])
  · rw [hkk, List.drop_length, List.any_nil] at hv2
    simp only [wy, Nat.reduceAdd, Nat.reduceEqDiff, Nat.reduceLT, Nat.reduceMul, Nat.reduceLeDiff, Int.reduceEq, ↓reduceIte, reduceCtorEq, ne_eq, implies_true, if_true, if_false, ite_not, eq_self, Tryd.ntmps24, c1, List.length_map]
    exact Leave.pures rfl (by simp only [wy, Nat.reduceAdd, Nat.reduceEqDiff, Nat.reduceLT, Nat.reduceMul, Nat.reduceLeDiff, Int.reduceEq, ↓reduceIte, reduceCtorEq, ne_eq, implies_true, if_true, if_false, ite_not, eq_self, oneOf, hv2] <;> rfl) (hx) rfl
theorem ac8 (lib : List Fn) (hlib : LibOk lib) (hok : ∀ f ∈ lib, FnOk f) (h : AHeap) : AC sd 8 [vlib lib] h (Pure1 (.bool true) h) := by
  refine AC.pure Tryd.func8 rfl Tryd.ntmps8 (by show 1 ≤ 69; decide) ?_
  refine Ev.sound 100 _ _ _ _ ?_
  have hl := hlib.len
  simp only [argFr, vlib]
  simp only [wy, Nat.reduceAdd, Nat.reduceEqDiff, Nat.reduceLT, Nat.reduceMul, Nat.reduceLeDiff, Int.reduceEq, ↓reduceIte, reduceCtorEq, ne_eq, implies_true, if_true, if_false, ite_not, eq_self, Tryd.ntmps8]
  refine Stop.fact (ac11 _) rfl (by first | rfl | simp only [wy, Nat.reduceAdd, Nat.reduceEqDiff, Nat.reduceLT, Nat.reduceMul, Nat.reduceLeDiff, Int.reduceEq, ↓reduceIte, reduceCtorEq, ne_eq, implies_true, if_true, if_false, ite_not, eq_self, Tryd.ntmps8]) (by simp only [wy, Nat.reduceAdd, Nat.reduceEqDiff, Nat.reduceLT, Nat.reduceMul, Nat.reduceLeDiff, Int.reduceEq, ↓reduceIte, reduceCtorEq, ne_eq, implies_true, if_true, if_false, ite_not, eq_self, Tryd.ntmps8]) (caps := []) (by simp only [wy, Nat.reduceAdd, Nat.reduceEqDiff, Nat.reduceLT, Nat.reduceMul, Nat.reduceLeDiff, Int.reduceEq, ↓reduceIte, reduceCtorEq, ne_eq, implies_true, if_true, if_false, ite_not, eq_self]) en_11 (by simp only [wy, Nat.reduceAdd, Nat.reduceEqDiff, Nat.reduceLT, Nat.reduceMul, Nat.reduceLeDiff, Int.reduceEq, ↓reduceIte, reduceCtorEq, ne_eq, implies_true, if_true, if_false, ite_not, eq_self] <;> rfl) (Ev.sound 100 _ _ _ _ ?_)
  simp only [wy, Nat.reduceAdd, Nat.reduceEqDiff, Nat.reduceLT, Nat.reduceMul, Nat.reduceLeDiff, Int.reduceEq, ↓reduceIte, reduceCtorEq, ne_eq, implies_true, if_true, if_false, ite_not, eq_self, Tryd.ntmps8]
  refine Stop.fact (ac12 lib hlib hok _) rfl (by first | rfl | simp only [wy, Nat.reduceAdd, Nat.reduceEqDiff, Nat.reduceLT, Nat.reduceMul, Nat.reduceLeDiff, Int.reduceEq, ↓reduceIte, reduceCtorEq, ne_eq, implies_true, if_true, if_false, ite_not, eq_self, Tryd.ntmps8, vlib, fgt_mapfenc]) (by simp only [wy, Nat.reduceAdd, Nat.reduceEqDiff, Nat.reduceLT, Nat.reduceMul, Nat.reduceLeDiff, Int.reduceEq, ↓reduceIte, reduceCtorEq, ne_eq, implies_true, if_true, if_false, ite_not, eq_self, Tryd.ntmps8]) (caps := []) (by simp only [wy, Nat.reduceAdd, Nat.reduceEqDiff, Nat.reduceLT, Nat.reduceMul, Nat.reduceLeDiff, Int.reduceEq, ↓reduceIte, reduceCtorEq, ne_eq, implies_true, if_true, if_false, ite_not, eq_self, vlib, fgt_mapfenc]) en_12 (by simp only [wy, Nat.reduceAdd, Nat.reduceEqDiff, Nat.reduceLT, Nat.reduceMul, Nat.reduceLeDiff, Int.reduceEq, ↓reduceIte, reduceCtorEq, ne_eq, implies_true, if_true, if_false, ite_not, eq_self, vlib, fgt_mapfenc] <;> rfl) (Ev.sound 100 _ _ _ _ ?_)
  cases a1 : greatE lib
  case true =>
    simp only [wy, Nat.reduceAdd, Nat.reduceEqDiff, Nat.reduceLT, Nat.reduceMul, Nat.reduceLeDiff, Int.reduceEq, ↓reduceIte, reduceCtorEq, ne_eq, implies_true, if_true, if_false, ite_not, eq_self, Tryd.ntmps8]
    exact Leave.pures rfl (by simp only [wy, Nat.reduceAdd, Nat.reduceEqDiff, Nat.reduceLT, Nat.reduceMul, Nat.reduceLeDiff, Int.reduceEq, ↓reduceIte, reduceCtorEq, ne_eq, implies_true, if_true, if_false, ite_not, eq_self, oneOf] <;> rfl) (Ext.refl _) rfl
  by_cases a2 : 30 ≤ lib.length
  · have a2' : decide ((30 : Int) ≤ lib.length) = true := decide_eq_true (by omega)
    simp only [wy, Nat.reduceAdd, Nat.reduceEqDiff, Nat.reduceLT, Nat.reduceMul, Nat.reduceLeDiff, Int.reduceEq, ↓reduceIte, reduceCtorEq, ne_eq, implies_true, if_true, if_false, ite_not, eq_self, Tryd.ntmps8, List.length_map, a2']
    exact Leave.pures rfl (by simp only [wy, Nat.reduceAdd, Nat.reduceEqDiff, Nat.reduceLT, Nat.reduceMul, Nat.reduceLeDiff, Int.reduceEq, ↓reduceIte, reduceCtorEq, ne_eq, implies_true, if_true, if_false, ite_not, eq_self, oneOf] <;> rfl) (Ext.refl _) rfl
  have a2' : decide ((30 : Int) ≤ lib.length) = false := decide_eq_false (by omega)
  simp only [wy, Nat.reduceAdd, Nat.reduceEqDiff, Nat.reduceLT, Nat.reduceMul, Nat.reduceLeDiff, Int.reduceEq, ↓reduceIte, reduceCtorEq, ne_eq, implies_true, if_true, if_false, ite_not, eq_self, Tryd.ntmps8, List.length_map, a2']
  refine Stop.fact (ac13 lib hlib hok _) rfl (by first | rfl | simp only [wy, Nat.reduceAdd, Nat.reduceEqDiff, Nat.reduceLT, Nat.reduceMul, Nat.reduceLeDiff, Int.reduceEq, ↓reduceIte, reduceCtorEq, ne_eq, implies_true, if_true, if_false, ite_not, eq_self, Tryd.ntmps8, vlib, fgt_mapfenc]) (by simp only [wy, Nat.reduceAdd, Nat.reduceEqDiff, Nat.reduceLT, Nat.reduceMul, Nat.reduceLeDiff, Int.reduceEq, ↓reduceIte, reduceCtorEq, ne_eq, implies_true, if_true, if_false, ite_not, eq_self, Tryd.ntmps8]) (caps := []) (by simp only [wy, Nat.reduceAdd, Nat.reduceEqDiff, Nat.reduceLT, Nat.reduceMul, Nat.reduceLeDiff, Int.reduceEq, ↓reduceIte, reduceCtorEq, ne_eq, implies_true, if_true, if_false, ite_not, eq_self, vlib, fgt_mapfenc]) en_13 (by simp only [wy, Nat.reduceAdd, Nat.reduceEqDiff, Nat.reduceLT, Nat.reduceMul, Nat.reduceLeDiff, Int.reduceEq, ↓reduceIte, reduceCtorEq, ne_eq, implies_true, if_true, if_false, ite_not, eq_self, vlib, fgt_mapfenc] <;> rfl) (Ev.sound 100 _ _ _ _ ?_)
  simp only [wy, Nat.reduceAdd, Nat.reduceEqDiff, Nat.reduceLT, Nat.reduceMul, Nat.reduceLeDiff, Int.reduceEq, ↓reduceIte, reduceCtorEq, ne_eq, implies_true, if_true, if_false, ite_not, eq_self, Tryd.ntmps8, List.length_map]
  refine ⟨by omega, by omega, ?_⟩
  have hv : (AV.slice 7 (lib.map Fn.enc ++ [[.str ⟨#[122, 122, 122, 122, 122, 122, 122, 122, 122, 122, 122, 122]⟩, .slice 0 [] .fixed, .bool false, .int .u8 80, .int .i64 7, .str .empty, .slice 0 [] .fixed]]) (.tip h.ntok)).fgt = vlib (lib ++ [zFn]) := by
    rw [fgt_slice, fgt_fsnoc lib _ _ _ _ _ _ _ zFn rfl]; rfl
  generalize AV.slice 7 (lib.map Fn.enc ++ [[.str ⟨#[122, 122, 122, 122, 122, 122, 122, 122, 122, 122, 122, 122]⟩, .slice 0 [] .fixed, .bool false, .int .u8 80, .int .i64 7, .str .empty, .slice 0 [] .fixed]]) (.tip h.ntok) = V at hv ⊢
  have hx : Ext h ((h.newTok lib.length).setTok h.ntok (lib.length + 1)) := ((Ext.refl h).newTok _).setTok (Nat.le_refl _) _
  generalize (h.newTok lib.length).setTok h.ntok (lib.length + 1) = H at hx ⊢
  have hlp := app_ok hlib (by omega) (x := zFn) (by decide)
  have hop := app_fns hok z_ok
  refine Stop.fact (ac20 lib sZ hl _) rfl (by first | rfl | simp only [wy, Nat.reduceAdd, Nat.reduceEqDiff, Nat.reduceLT, Nat.reduceMul, Nat.reduceLeDiff, Int.reduceEq, ↓reduceIte, reduceCtorEq, ne_eq, implies_true, if_true, if_false, ite_not, eq_self, Tryd.ntmps8, vlib, fgt_mapfenc]) (by simp only [wy, Nat.reduceAdd, Nat.reduceEqDiff, Nat.reduceLT, Nat.reduceMul, Nat.reduceLeDiff, Int.reduceEq, ↓reduceIte, reduceCtorEq, ne_eq, implies_true, if_true, if_false, ite_not, eq_self, Tryd.ntmps8]) (caps := []) (by simp only [wy, Nat.reduceAdd, Nat.reduceEqDiff, Nat.reduceLT, Nat.reduceMul, Nat.reduceLeDiff, Int.reduceEq, ↓reduceIte, reduceCtorEq, ne_eq, implies_true, if_true, if_false, ite_not, eq_self, vlib, fgt_mapfenc]) en_20 (by simp only [wy, Nat.reduceAdd, Nat.reduceEqDiff, Nat.reduceLT, Nat.reduceMul, Nat.reduceLeDiff, Int.reduceEq, ↓reduceIte, reduceCtorEq, ne_eq, implies_true, if_true, if_false, ite_not, eq_self, vlib, fgt_mapfenc] <;> rfl) (Ev.sound 100 _ _ _ _ ?_)
  by_cases a3 : 0 ≤ find lib sZ
  · simp only [wy, Nat.reduceAdd, Nat.reduceEqDiff, Nat.reduceLT, Nat.reduceMul, Nat.reduceLeDiff, Int.reduceEq, ↓reduceIte, reduceCtorEq, ne_eq, implies_true, if_true, if_false, ite_not, eq_self, Tryd.ntmps8, decide_eq_true a3]
    exact Leave.pures rfl (by simp only [wy, Nat.reduceAdd, Nat.reduceEqDiff, Nat.reduceLT, Nat.reduceMul, Nat.reduceLeDiff, Int.reduceEq, ↓reduceIte, reduceCtorEq, ne_eq, implies_true, if_true, if_false, ite_not, eq_self, oneOf] <;> rfl) (hx) rfl
  simp only [wy, Nat.reduceAdd, Nat.reduceEqDiff, Nat.reduceLT, Nat.reduceMul, Nat.reduceLeDiff, Int.reduceEq, ↓reduceIte, reduceCtorEq, ne_eq, implies_true, if_true, if_false, ite_not, eq_self, Tryd.ntmps8, decide_eq_false a3]
  refine Stop.fact (ac13 (lib ++ [zFn]) hlp hop _) rfl rfl (by simp only [wy, Nat.reduceAdd, Nat.reduceEqDiff, Nat.reduceLT, Nat.reduceMul, Nat.reduceLeDiff, Int.reduceEq, ↓reduceIte, reduceCtorEq, ne_eq, implies_true, if_true, if_false, ite_not, eq_self, Tryd.ntmps8]) (caps := []) (by simp only [wy, Nat.reduceAdd, Nat.reduceEqDiff, Nat.reduceLT, Nat.reduceMul, Nat.reduceLeDiff, Int.reduceEq, ↓reduceIte, reduceCtorEq, ne_eq, implies_true, if_true, if_false, ite_not, eq_self, Tryd.ntmps8]) en_13 (by simp only [wy, Nat.reduceAdd, Nat.reduceEqDiff, Nat.reduceLT, Nat.reduceMul, Nat.reduceLeDiff, Int.reduceEq, ↓reduceIte, reduceCtorEq, ne_eq, implies_true, if_true, if_false, ite_not, eq_self, Tryd.ntmps8, hv]) (Ev.sound 100 _ _ _ _ ?_)
  obtain ⟨p1, p2⟩ := prefix_law (lib := lib) (by omega) (by omega)
  by_cases hv0 : (validE lib).2 = 0
  · obtain ⟨q1, q2⟩ := p1 hv0
    simp only [wy, Nat.reduceAdd, Nat.reduceEqDiff, Nat.reduceLT, Nat.reduceMul, Nat.reduceLeDiff, Int.reduceEq, ↓reduceIte, reduceCtorEq, ne_eq, implies_true, if_true, if_false, ite_not, eq_self, Tryd.ntmps8, q1, q2]
    exact Leave.pures rfl (by simp only [wy, Nat.reduceAdd, Nat.reduceEqDiff, Nat.reduceLT, Nat.reduceMul, Nat.reduceLeDiff, Int.reduceEq, ↓reduceIte, reduceCtorEq, ne_eq, implies_true, if_true, if_false, ite_not, eq_self, oneOf] <;> rfl) (hx) rfl
  obtain ⟨⟨q1, q2⟩, q3⟩ := p2 hv0
  have q1' : ¬ (validE lib).1 < 0 := by omega
  have q2' : ¬ (lib.length : Int) ≤ (validE lib).1 := by omega
  simp only [wy, Nat.reduceAdd, Nat.reduceEqDiff, Nat.reduceLT, Nat.reduceMul, Nat.reduceLeDiff, Int.reduceEq, ↓reduceIte, reduceCtorEq, ne_eq, implies_true, if_true, if_false, ite_not, eq_self, Tryd.ntmps8, decide_eq_false hv0, decide_eq_false q1', decide_eq_false q2', List.length_map]
  refine Stop.fact (ac24 lib hlib hok (by omega) _) rfl (by first | rfl | simp only [wy, Nat.reduceAdd, Nat.reduceEqDiff, Nat.reduceLT, Nat.reduceMul, Nat.reduceLeDiff, Int.reduceEq, ↓reduceIte, reduceCtorEq, ne_eq, implies_true, if_true, if_false, ite_not, eq_self, Tryd.ntmps8, vlib, fgt_mapfenc]) (by simp only [wy, Nat.reduceAdd, Nat.reduceEqDiff, Nat.reduceLT, Nat.reduceMul, Nat.reduceLeDiff, Int.reduceEq, ↓reduceIte, reduceCtorEq, ne_eq, implies_true, if_true, if_false, ite_not, eq_self, Tryd.ntmps8]) (caps := []) (by simp only [wy, Nat.reduceAdd, Nat.reduceEqDiff, Nat.reduceLT, Nat.reduceMul, Nat.reduceLeDiff, Int.reduceEq, ↓reduceIte, reduceCtorEq, ne_eq, implies_true, if_true, if_false, ite_not, eq_self, vlib, fgt_mapfenc]) en_24 (by simp only [wy, Nat.reduceAdd, Nat.reduceEqDiff, Nat.reduceLT, Nat.reduceMul, Nat.reduceLeDiff, Int.reduceEq, ↓reduceIte, reduceCtorEq, ne_eq, implies_true, if_true, if_false, ite_not, eq_self, vlib, fgt_mapfenc] <;> rfl) (Ev.sound 100 _ _ _ _ ?_)
  cases hm : mentionsE lib
  · have q4 := q3 hm
    simp only [wy, Nat.reduceAdd, Nat.reduceEqDiff, Nat.reduceLT, Nat.reduceMul, Nat.reduceLeDiff, Int.reduceEq, ↓reduceIte, reduceCtorEq, ne_eq, implies_true, if_true, if_false, ite_not, eq_self, Tryd.ntmps8, q4]
    exact Leave.pures rfl (by simp only [wy, Nat.reduceAdd, Nat.reduceEqDiff, Nat.reduceLT, Nat.reduceMul, Nat.reduceLeDiff, Int.reduceEq, ↓reduceIte, reduceCtorEq, ne_eq, implies_true, if_true, if_false, ite_not, eq_self, oneOf] <;> rfl) (hx) rfl
  · simp only [wy, Nat.reduceAdd, Nat.reduceEqDiff, Nat.reduceLT, Nat.reduceMul, Nat.reduceLeDiff, Int.reduceEq, ↓reduceIte, reduceCtorEq, ne_eq, implies_true, if_true, if_false, ite_not, eq_self, Tryd.ntmps8]
    exact Leave.pures rfl (by simp only [wy, Nat.reduceAdd, Nat.reduceEqDiff, Nat.reduceLT, Nat.reduceMul, Nat.reduceLeDiff, Int.reduceEq, ↓reduceIte, reduceCtorEq, ne_eq, implies_true, if_true, if_false, ite_not, eq_self, oneOf] <;> rfl) (hx) rfl
end Go.Proofs.YtajknofacjiddaaDoor.Abs

/- The law FunOrder. -/
namespace Go.Proofs.YtajknofacjiddaaDoor.Abs
open Go Go.RowKit
set_option linter.unusedSimpArgs false
set_option linter.unusedVariables false
set_option maxHeartbeats 4000000
set_option maxRecDepth 100000
theorem modn {a n : Nat} (h : a < 2 * n) : a % n = if a < n then a else a - n := by
  split
  · exact Nat.mod_eq_of_lt ‹_›
  · rw [Nat.mod_eq_sub_mod (by omega), Nat.mod_eq_of_lt (by omega)]
def turnL (lib : List Fn) (k : Nat) : List Fn := lib.drop k ++ lib.take k
theorem turn_len {lib : List Fn} {k : Nat} (hk : k ≤ lib.length) : (turnL lib k).length = lib.length := by unfold turnL; simp; omega
theorem turn_get {lib : List Fn} {k j : Nat} (hk : k < lib.length) (hj : j < lib.length) : (turnL lib k)[j]? = lib[if j + k < lib.length then j + k else j + k - lib.length]? := by
  unfold turnL
  split
  · rw [List.getElem?_append_left (by simp; omega), List.getElem?_drop, Nat.add_comm]
  · rw [List.getElem?_append_right (by simp; omega), List.length_drop, List.getElem?_take, if_pos (by omega)]
    congr 1
    omega
/-- Where the function of that number has gone. -/
def rot (n k : Nat) (c : Int) : Int := if c < k then c + n - k else c - k
def Distinct (lib : List Fn) : Prop := ∀ (i : Nat) f, lib[i]? = some f → find lib f.name = i
theorem find_turn {lib : List Fn} (hd : Distinct lib) {k : Nat} (hk : k < lib.length) (s : ByteArray) : find (turnL lib k) s = if find lib s < 0 then -1 else rot lib.length k (find lib s) := by
  have hlen := turn_len (lib := lib) (k := k) (by omega)
  by_cases q : find lib s < 0
  · rw [if_pos q]
    by_cases e : find (turnL lib k) s < 0
    · exact find_neg _ _ e
    · obtain ⟨j, f, h1, h2, h3⟩ := find_at (turnL lib k) s (by omega)
      have hj : j < lib.length := by rw [← hlen]; exact (List.getElem?_eq_some_iff.1 h2).1
      rw [turn_get hk hj] at h2
      have := find_le h2
      rw [h3] at this
      omega
  · rw [if_neg q]
    obtain ⟨i, f, h1, h2, h3⟩ := find_at lib s (by omega)
    have hi : i < lib.length := (List.getElem?_eq_some_iff.1 h2).1
    rw [h1]
    obtain ⟨j, hj, hrot, hback⟩ : ∃ j : Nat, j < lib.length ∧ rot lib.length k i = (j : Int) ∧ (if j + k < lib.length then j + k else j + k - lib.length) = i := by
      unfold rot
      by_cases c : i < k
      · exact ⟨i + lib.length - k, by omega, by rw [if_pos (by omega)]; omega, by rw [if_neg (by omega)]; omega⟩
      · exact ⟨i - k, by omega, by rw [if_neg (by omega)]; omega, by rw [if_pos (by omega)]; omega⟩
    have hg := turn_get (lib := lib) hk hj
    rw [hback, h2] at hg
    have hle := find_le hg
    rw [h3] at hle
    obtain ⟨j', f', g1, g2, g3⟩ := find_at (turnL lib k) s hle.1
    have hj' : j' < lib.length := by rw [← hlen]; exact (List.getElem?_eq_some_iff.1 g2).1
    rw [turn_get hk hj'] at g2
    have := hd _ f' g2
    rw [g3, h1] at this
    rw [g1, hrot]
    split at this <;> split at hback <;> omega
theorem turn_at {lib : List Fn} {k i : Nat} {f : Fn} (hk : k < lib.length) (h : lib[i]? = some f) : (turnL lib k)[(rot lib.length k i).toNat]? = some f := by
  have hi : i < lib.length := (List.getElem?_eq_some_iff.1 h).1
  unfold rot
  by_cases c : i < k
  · rw [if_pos (by omega), show ((i : Int) + lib.length - k).toNat = i + lib.length - k by omega, turn_get hk (by omega), if_neg (by omega), show i + lib.length - k + k - lib.length = i by omega, h]
  · rw [if_neg (by omega), show ((i : Int) - k).toNat = i - k by omega, turn_get hk (by omega), if_pos (by omega), show i - k + k = i by omega, h]
mutual
theorem chk_call {lib more : List Fn} (hc : ∀ s fs env, callE more s fs env = callE lib s fs env) : ∀ x : Node, chk more x = chk lib x
  | .mk k n s ks => by
    unfold chk
    rw [chks_call hc ks]
    funext env
    unfold stepE
    rw [hc]
theorem chks_call {lib more : List Fn} (hc : ∀ s fs env, callE more s fs env = callE lib s fs env) : ∀ ks : List Node, chks more ks = chks lib ks
  | [] => rfl
  | x :: xs => by
    unfold chks
    rw [chk_call hc x, chks_call hc xs]
end
theorem chk_turn {lib : List Fn} (hd : Distinct lib) {k : Nat} (hk : k < lib.length) (x : Node) : chk (turnL lib k) x = chk lib x := by
  refine chk_call (fun s fs env => ?_) x
  unfold callE
  rw [find_turn hd hk]
  by_cases q : find lib s < 0
  · rw [if_pos q, if_pos q, if_pos (by decide)]
  · obtain ⟨i, f, h1, h2, _⟩ := find_at lib s (by omega)
    have hi : i < lib.length := (List.getElem?_eq_some_iff.1 h2).1
    rw [if_neg q, if_neg q, if_neg (by rw [h1]; unfold rot; split <;> omega), h1, turn_at hk h2, Int.toNat_natCast, h2]
theorem one_mk {lib : List Fn} {i : Nat} {f : Fn} (h1 : i < 30) (h2 : nameB f.name = true) (h3 : find lib f.name = i) (h4 : f.params.length ≤ 8) (h5 : (f.params.all fun p => nameB p.name) = true) (h6 : dupB (pnames f.params) = false) (h7 : formB f.body = true) (h8 : f.body.depth ≤ 80)
    (h9 : f.body.size ≤ 2000) (h10 : checkE lib f.params f.body = (f.list, 0)) : oneE lib i f = 0 := by
  unfold oneE
  rw [if_neg (by omega), if_neg (by simp [h2]), if_neg (by omega), if_neg (by omega), if_neg (by simp [h5])]
  unfold bodyOne
  rw [if_neg (by simp [h6]), if_neg (by simp [h7]), if_neg (by omega), if_neg (by omega)]
  unfold checkOne
  rw [h10]
  simp
theorem validFrom_all {lib : List Fn} : ∀ (l : List Fn) (k : Nat), (∀ (j : Nat) f, l[j]? = some f → oneE lib (k + j) f = 0) → validFrom lib k l = (-1, 0)
  | [], k, _ => rfl
  | g :: gs, k, h => by
    unfold validFrom
    have h0 := h 0 g rfl
    rw [Nat.add_zero] at h0
    rw [if_pos h0]
    exact validFrom_all gs (k + 1) fun j f hj => by have := h (j + 1) f hj; rwa [show k + (j + 1) = k + 1 + j by omega] at this
theorem valid_turn {lib : List Fn} (hv : ∀ (j : Nat) f, lib[j]? = some f → oneE lib j f = 0) {k : Nat} (hk : k < lib.length) : validE (turnL lib k) = (-1, 0) := by
  have hd : Distinct lib := fun i f hf => (one_zero hf (hv i f hf)).2.2.1
  have hn : lib.length ≤ 30 := by
    have h1 := List.getElem?_eq_getElem (show lib.length - 1 < lib.length by omega)
    have := (one_zero h1 (hv _ _ h1)).1
    omega
  refine validFrom_all _ 0 fun j f hj => ?_
  rw [Nat.zero_add]
  have hjl : j < lib.length := by rw [← turn_len (lib := lib) (k := k) (by omega)]; exact (List.getElem?_eq_some_iff.1 hj).1
  rw [turn_get hk hjl] at hj
  obtain ⟨o1, o2, o3, o4, o5, o6, o7, o8, o9, o10⟩ := one_zero hj (hv _ f hj)
  refine one_mk (by omega) o2 ?_ o4 o5 o6 o7 o8 o9 ?_
  · rw [find_turn hd hk, o3, if_neg (by omega)]
    unfold rot
    split <;> split <;> omega
  · unfold checkE at o10 ⊢
    rw [chk_turn hd hk]
    exact o10
theorem calls_turn {lib : List Fn} (hd : Distinct lib) {k : Nat} (hk : k < lib.length) (x : Node) : callsE (turnL lib k) x = (callsE lib x).map (rot lib.length k) := by
  rw [calls_eq, calls_eq lib, List.map_append, List.map_flatMap]
  congr 1
  · unfold ownCall
    rw [find_turn hd hk]
    by_cases q : find lib x.name < 0
    · rw [if_pos q, if_neg (by omega), if_neg (by omega)]; rfl
    · rw [if_neg q]
      obtain ⟨i, f, h1, h2, _⟩ := find_at lib x.name (by omega)
      have hi : i < lib.length := (List.getElem?_eq_some_iff.1 h2).1
      have h0 : 0 ≤ rot lib.length k (find lib x.name) := by rw [h1]; unfold rot; split <;> omega
      by_cases e : x.kind = 85
      · rw [if_pos ⟨e, h0⟩, if_pos ⟨e, by omega⟩]; rfl
      · rw [if_neg (fun q => e q.1), if_neg (fun q => e q.1)]; rfl
  · have : ∀ ks : List Node, (∀ y ∈ ks, callsE (turnL lib k) y = (callsE lib y).map (rot lib.length k)) → ks.flatMap (callsE (turnL lib k)) = ks.flatMap fun a => (callsE lib a).map (rot lib.length k) := by
      intro ks h
      induction ks with
      | nil => rfl
      | cons y ys ih => rw [List.flatMap_cons, List.flatMap_cons, h y (by simp), ih fun z hz => h z (by simp [hz])]
    exact this x.kids fun y hy => calls_turn hd hk y
 termination_by x.size
 decreasing_by exact kid_size hy
theorem calls_range {lib : List Fn} (x : Node) : ∀ c ∈ callsE lib x, 0 ≤ c ∧ c < (lib.length : Int) := by
  intro c hc
  rw [calls_eq] at hc
  rcases List.mem_append.1 hc with h | h
  · unfold ownCall at h
    split at h
    · rename_i q
      have := List.mem_singleton.1 h
      subst this
      obtain ⟨i, f, h1, h2, _⟩ := find_at lib x.name q.2
      have hi : i < lib.length := (List.getElem?_eq_some_iff.1 h2).1
      omega
    · cases h
  · obtain ⟨y, hy, hc'⟩ := List.mem_flatMap.1 h
    exact calls_range y c hc'
 termination_by x.size
 decreasing_by exact kid_size hy
theorem aslice_from {S : Seat} {t e : TypeId} {d : TypeDesc} {sz : Nat} (hu : S.P.underlying t = some (.slice e)) (he : S.P.underlying e = some d) (hc : S.P.cellsOf e = sz) (els : List (List AV)) (hne : els ≠ []) (k : Nat) (hk : k ≤ els.length) (q : IntKind) :
    aslice S t (kslice sz els) (some (.int q k)) none none = some (.slice sz (els.drop k) .unk) := by
  have hks : kslice sz els = .slice sz els .unk := by cases els with | nil => exact absurd rfl hne | cons a l => rfl
  rw [hks]
  unfold aslice abnd
  simp only [Int.natCast_nonneg, if_true, Int.toNat_natCast, hu, he, hc]
  simp [hk, List.take_of_length_le]
theorem aslice_to {S : Seat} {t e : TypeId} {d : TypeDesc} {sz : Nat} (hu : S.P.underlying t = some (.slice e)) (he : S.P.underlying e = some d) (hc : S.P.cellsOf e = sz) (els : List (List AV)) (hne : els ≠ []) (k : Nat) (hk : k ≤ els.length) (q : IntKind) :
    aslice S t (kslice sz els) none (some (.int q k)) none = some (.slice sz (els.take k) .unk) := by
  have hks : kslice sz els = .slice sz els .unk := by cases els with | nil => exact absurd rfl hne | cons a l => rfl
  rw [hks]
  unfold aslice abnd
  simp only [Int.natCast_nonneg, if_true, Int.toNat_natCast, hu, he, hc]
  simp [hk]
theorem turn_ok {lib : List Fn} (hlib : LibOk lib) {k : Nat} (hk : k ≤ lib.length) : LibOk (turnL lib k) :=
  ⟨by rw [turn_len hk]; exact hlib.len, fun f hf => hlib.params f (by unfold turnL at hf; rcases List.mem_append.1 hf with h | h; exact List.mem_of_mem_drop h; exact List.mem_of_mem_take h)⟩
theorem turn_fns {lib : List Fn} (hok : ∀ f ∈ lib, FnOk f) (k : Nat) : ∀ f ∈ turnL lib k, FnOk f := fun f hf => hok f (by unfold turnL at hf; rcases List.mem_append.1 hf with h | h; exact List.mem_of_mem_drop h; exact List.mem_of_mem_take h)
theorem ac6 (lib : List Fn) (hlib : LibOk lib) (hok : ∀ f ∈ lib, FnOk f) (m : Nat) (hm : m ≤ 255) (h : AHeap) : AC sd 6 [vlib lib, .int .u8 m] h (Pure1 (.bool true) h) := by
  refine AC.pure Tryd.func6 rfl Tryd.ntmps6 (by show 2 ≤ 93; decide) ?_
  refine Ev.sound 100 _ _ _ _ ?_
  have hl := hlib.len
  simp only [argFr, vlib]
  simp only [wy, Nat.reduceAdd, Nat.reduceEqDiff, Nat.reduceLT, Nat.reduceMul, Nat.reduceLeDiff, Int.reduceEq, ↓reduceIte, reduceCtorEq, ne_eq, implies_true, if_true, if_false, ite_not, eq_self, Tryd.ntmps6]
  refine Stop.fact (ac11 _) rfl (by first | rfl | simp only [wy, Nat.reduceAdd, Nat.reduceEqDiff, Nat.reduceLT, Nat.reduceMul, Nat.reduceLeDiff, Int.reduceEq, ↓reduceIte, reduceCtorEq, ne_eq, implies_true, if_true, if_false, ite_not, eq_self, Tryd.ntmps6]) (by simp only [wy, Nat.reduceAdd, Nat.reduceEqDiff, Nat.reduceLT, Nat.reduceMul, Nat.reduceLeDiff, Int.reduceEq, ↓reduceIte, reduceCtorEq, ne_eq, implies_true, if_true, if_false, ite_not, eq_self, Tryd.ntmps6]) (caps := []) (by simp only [wy, Nat.reduceAdd, Nat.reduceEqDiff, Nat.reduceLT, Nat.reduceMul, Nat.reduceLeDiff, Int.reduceEq, ↓reduceIte, reduceCtorEq, ne_eq, implies_true, if_true, if_false, ite_not, eq_self]) en_11 (by simp only [wy, Nat.reduceAdd, Nat.reduceEqDiff, Nat.reduceLT, Nat.reduceMul, Nat.reduceLeDiff, Int.reduceEq, ↓reduceIte, reduceCtorEq, ne_eq, implies_true, if_true, if_false, ite_not, eq_self] <;> rfl) (Ev.sound 100 _ _ _ _ ?_)
  simp only [wy, Nat.reduceAdd, Nat.reduceEqDiff, Nat.reduceLT, Nat.reduceMul, Nat.reduceLeDiff, Int.reduceEq, ↓reduceIte, reduceCtorEq, ne_eq, implies_true, if_true, if_false, ite_not, eq_self, Tryd.ntmps6]
  refine Stop.fact (ac12 lib hlib hok _) rfl (by first | rfl | simp only [wy, Nat.reduceAdd, Nat.reduceEqDiff, Nat.reduceLT, Nat.reduceMul, Nat.reduceLeDiff, Int.reduceEq, ↓reduceIte, reduceCtorEq, ne_eq, implies_true, if_true, if_false, ite_not, eq_self, Tryd.ntmps6, vlib, fgt_mapfenc]) (by simp only [wy, Nat.reduceAdd, Nat.reduceEqDiff, Nat.reduceLT, Nat.reduceMul, Nat.reduceLeDiff, Int.reduceEq, ↓reduceIte, reduceCtorEq, ne_eq, implies_true, if_true, if_false, ite_not, eq_self, Tryd.ntmps6]) (caps := []) (by simp only [wy, Nat.reduceAdd, Nat.reduceEqDiff, Nat.reduceLT, Nat.reduceMul, Nat.reduceLeDiff, Int.reduceEq, ↓reduceIte, reduceCtorEq, ne_eq, implies_true, if_true, if_false, ite_not, eq_self, vlib, fgt_mapfenc]) en_12 (by simp only [wy, Nat.reduceAdd, Nat.reduceEqDiff, Nat.reduceLT, Nat.reduceMul, Nat.reduceLeDiff, Int.reduceEq, ↓reduceIte, reduceCtorEq, ne_eq, implies_true, if_true, if_false, ite_not, eq_self, vlib, fgt_mapfenc] <;> rfl) (Ev.sound 100 _ _ _ _ ?_)
  cases a1 : greatE lib
  case true =>
    simp only [wy, Nat.reduceAdd, Nat.reduceEqDiff, Nat.reduceLT, Nat.reduceMul, Nat.reduceLeDiff, Int.reduceEq, ↓reduceIte, reduceCtorEq, ne_eq, implies_true, if_true, if_false, ite_not, eq_self, Tryd.ntmps6]
    exact Leave.pures rfl (by simp only [wy, Nat.reduceAdd, Nat.reduceEqDiff, Nat.reduceLT, Nat.reduceMul, Nat.reduceLeDiff, Int.reduceEq, ↓reduceIte, reduceCtorEq, ne_eq, implies_true, if_true, if_false, ite_not, eq_self, oneOf] <;> rfl) (Ext.refl _) rfl
  by_cases a2 : lib.length = 0
  · have a2' : decide ((lib.length : Int) = 0) = true := decide_eq_true (by omega)
    simp only [wy, Nat.reduceAdd, Nat.reduceEqDiff, Nat.reduceLT, Nat.reduceMul, Nat.reduceLeDiff, Int.reduceEq, ↓reduceIte, reduceCtorEq, ne_eq, implies_true, if_true, if_false, ite_not, eq_self, Tryd.ntmps6, List.length_map, a2']
    exact Leave.pures rfl (by simp only [wy, Nat.reduceAdd, Nat.reduceEqDiff, Nat.reduceLT, Nat.reduceMul, Nat.reduceLeDiff, Int.reduceEq, ↓reduceIte, reduceCtorEq, ne_eq, implies_true, if_true, if_false, ite_not, eq_self, oneOf] <;> rfl) (Ext.refl _) rfl
  have a2' : decide ((lib.length : Int) = 0) = false := decide_eq_false (by omega)
  simp only [wy, Nat.reduceAdd, Nat.reduceEqDiff, Nat.reduceLT, Nat.reduceMul, Nat.reduceLeDiff, Int.reduceEq, ↓reduceIte, reduceCtorEq, ne_eq, implies_true, if_true, if_false, ite_not, eq_self, Tryd.ntmps6, List.length_map, a2']
  refine Stop.fact (ac13 lib hlib hok _) rfl (by first | rfl | simp only [wy, Nat.reduceAdd, Nat.reduceEqDiff, Nat.reduceLT, Nat.reduceMul, Nat.reduceLeDiff, Int.reduceEq, ↓reduceIte, reduceCtorEq, ne_eq, implies_true, if_true, if_false, ite_not, eq_self, Tryd.ntmps6, vlib, fgt_mapfenc]) (by simp only [wy, Nat.reduceAdd, Nat.reduceEqDiff, Nat.reduceLT, Nat.reduceMul, Nat.reduceLeDiff, Int.reduceEq, ↓reduceIte, reduceCtorEq, ne_eq, implies_true, if_true, if_false, ite_not, eq_self, Tryd.ntmps6]) (caps := []) (by simp only [wy, Nat.reduceAdd, Nat.reduceEqDiff, Nat.reduceLT, Nat.reduceMul, Nat.reduceLeDiff, Int.reduceEq, ↓reduceIte, reduceCtorEq, ne_eq, implies_true, if_true, if_false, ite_not, eq_self, vlib, fgt_mapfenc]) en_13 (by simp only [wy, Nat.reduceAdd, Nat.reduceEqDiff, Nat.reduceLT, Nat.reduceMul, Nat.reduceLeDiff, Int.reduceEq, ↓reduceIte, reduceCtorEq, ne_eq, implies_true, if_true, if_false, ite_not, eq_self, vlib, fgt_mapfenc] <;> rfl) (Ev.sound 100 _ _ _ _ ?_)
  by_cases hv : (validE lib).2 = 0
  case neg =>
    simp only [wy, Nat.reduceAdd, Nat.reduceEqDiff, Nat.reduceLT, Nat.reduceMul, Nat.reduceLeDiff, Int.reduceEq, ↓reduceIte, reduceCtorEq, ne_eq, implies_true, if_true, if_false, ite_not, eq_self, Tryd.ntmps6, decide_eq_false hv]
    exact Leave.pures rfl (by simp only [wy, Nat.reduceAdd, Nat.reduceEqDiff, Nat.reduceLT, Nat.reduceMul, Nat.reduceLeDiff, Int.reduceEq, ↓reduceIte, reduceCtorEq, ne_eq, implies_true, if_true, if_false, ite_not, eq_self, oneOf] <;> rfl) (Ext.refl _) rfl
  obtain ⟨hv1, hv2⟩ := valid_zero hv
  have hd : Distinct lib := fun i f hf => (one_zero hf (hv2 i f hf)).2.2.1
  have hk : m % lib.length < lib.length := Nat.mod_lt _ (by omega)
  have e1 : IntKind.i64.wrap (m : Int) = (m : Int) := i64_id (by omega) (by omega)
  have e2 : ((m : Int).tmod (lib.length : Int)) = ((m % lib.length : Nat) : Int) := (Int.ofNat_tmod m lib.length).symm
  have e3 : ((lib.length : Int) = 0) = False := eq_false (by omega)
  simp only [wy, Nat.reduceAdd, Nat.reduceEqDiff, Nat.reduceLT, Nat.reduceMul, Nat.reduceLeDiff, Int.reduceEq, ↓reduceIte, reduceCtorEq, ne_eq, implies_true, if_true, if_false, ite_not, eq_self, Tryd.ntmps6, decide_eq_true hv, List.length_map, e1, e2, e3]
  refine Stop.drawn [(0, 0), (1, 0), (2, 0), (3, 0), (5, 0), (6, 0), (7, 0), (4, 1), (8, 1), (9, 0)] [[], [], [], [1, 2], [0, 1, 2, 3], [], [], [5, 6], [0, 1, 2, 3, 4, 5, 6, 7], [0, 1, 2, 3, 4, 5, 6, 7, 8]] 90 (by kernel_rfl) ?_
  generalize m % lib.length = k at *
  have hne : lib.map Fn.enc ≠ [] := by intro e; have := congrArg List.length e; rw [List.length_map, List.length_nil] at this; exact a2 this
  have s1 := aslice_from (S := sd) (t := 22) Tryd.underlying22 Tryd.underlying41 c7u41 (lib.map Fn.enc) hne k (by rw [List.length_map]; omega) .i64
  have s2 := aslice_to (S := sd) (t := 22) Tryd.underlying22 Tryd.underlying41 c7u41 (lib.map Fn.enc) hne k (by rw [List.length_map]; omega) .i64
  simp only [wy, Nat.reduceAdd, Nat.reduceEqDiff, Nat.reduceLT, Nat.reduceMul, Nat.reduceLeDiff, Int.reduceEq, ↓reduceIte, reduceCtorEq, ne_eq, implies_true, if_true, if_false, ite_not, eq_self, Tryd.ntmps6, s1, s2, List.length_drop, List.length_take, List.length_map]
  refine ⟨by omega, by omega, ?_⟩
  have hfv : (AV.slice 7 ((lib.map Fn.enc).drop k ++ (lib.map Fn.enc).take k) (.tip h.ntok)).fgt = vlib (turnL lib k) := by
    rw [fgt_slice, ← List.map_drop, ← List.map_take, ← List.map_append, fgt_mapfenc]; rfl
  generalize AV.slice 7 ((lib.map Fn.enc).drop k ++ (lib.map Fn.enc).take k) (.tip h.ntok) = V at hfv ⊢
  have hx : Ext h ((h.newTok (lib.length - k)).setTok h.ntok (lib.length - k + min k lib.length)) := ((Ext.refl h).newTok _).setTok (Nat.le_refl _) _
  generalize (h.newTok (lib.length - k)).setTok h.ntok (lib.length - k + min k lib.length) = H at hx ⊢
  have hlt := turn_ok hlib (k := k) (by omega)
  have hot := turn_fns hok k
  have hvt := valid_turn hv2 hk
  refine Stop.fact (ac13 (turnL lib k) hlt hot _) rfl rfl (by simp only [wy, Nat.reduceAdd, Nat.reduceEqDiff, Nat.reduceLT, Nat.reduceMul, Nat.reduceLeDiff, Int.reduceEq, ↓reduceIte, reduceCtorEq, ne_eq, implies_true, if_true, if_false, ite_not, eq_self, Tryd.ntmps6]) (caps := []) (by simp only [wy, Nat.reduceAdd, Nat.reduceEqDiff, Nat.reduceLT, Nat.reduceMul, Nat.reduceLeDiff, Int.reduceEq, ↓reduceIte, reduceCtorEq, ne_eq, implies_true, if_true, if_false, ite_not, eq_self, Tryd.ntmps6]) en_13 (by simp only [wy, Nat.reduceAdd, Nat.reduceEqDiff, Nat.reduceLT, Nat.reduceMul, Nat.reduceLeDiff, Int.reduceEq, ↓reduceIte, reduceCtorEq, ne_eq, implies_true, if_true, if_false, ite_not, eq_self, Tryd.ntmps6, hfv]) (Ev.sound 100 _ _ _ _ ?_)
  simp only [wy, Nat.reduceAdd, Nat.reduceEqDiff, Nat.reduceLT, Nat.reduceMul, Nat.reduceLeDiff, Int.reduceEq, ↓reduceIte, reduceCtorEq, ne_eq, implies_true, if_true, if_false, ite_not, eq_self, Tryd.ntmps6, hvt]
  refine Stop.round (σ := Nat) (fun f => lib.length - f) (fun f => [(0, kslice 7 (lib.map Fn.enc)), (7, .int .i64 lib.length), (8, .int .i64 k), (9, V), (12, .int .i64 f)])
    (fun f h1 => f ≤ lib.length ∧ H = h1) 0 ⟨Nat.zero_le _, rfl⟩ (by simp only [wy, Nat.reduceAdd, Nat.reduceEqDiff, Nat.reduceLT, Nat.reduceMul, Nat.reduceLeDiff, Int.reduceEq, ↓reduceIte, reduceCtorEq, ne_eq, implies_true, if_true, if_false, ite_not, eq_self, Tryd.ntmps6, Int.natCast_zero]) ?_
  rintro f _ ⟨hf, rfl⟩ next
  refine Ev.sound 100 _ _ _ _ ?_
  by_cases c : f < lib.length
  case neg =>
    have c1 : ((f : Int) < (lib.length : Int)) = False := eq_false (by omega)
    simp only [wy, Nat.reduceAdd, Nat.reduceEqDiff, Nat.reduceLT, Nat.reduceMul, Nat.reduceLeDiff, Int.reduceEq, ↓reduceIte, reduceCtorEq, ne_eq, implies_true, if_true, if_false, ite_not, eq_self, Tryd.ntmps6, c1]
    exact Leave.pures rfl (by simp only [wy, Nat.reduceAdd, Nat.reduceEqDiff, Nat.reduceLT, Nat.reduceMul, Nat.reduceLeDiff, Int.reduceEq, ↓reduceIte, reduceCtorEq, ne_eq, implies_true, if_true, if_false, ite_not, eq_self, oneOf] <;> rfl) (hx) rfl
  have c1 : ((f : Int) < (lib.length : Int)) = True := eq_true (by omega)
  have w1 := wrap_succ f (by omega)
  have w2 : IntKind.i64.wrap ((f : Int) + (k : Int)) = ((f + k : Nat) : Int) := wrap_add f k (by omega)
  have w3 : (((f + k : Nat) : Int).tmod (lib.length : Int)) = (((if f + k < lib.length then f + k else f + k - lib.length) : Nat) : Int) := by
    rw [← Int.ofNat_tmod, modn (by omega)]
  have hg := turn_get (lib := lib) hk c
  simp only [wy, Nat.reduceAdd, Nat.reduceEqDiff, Nat.reduceLT, Nat.reduceMul, Nat.reduceLeDiff, Int.reduceEq, ↓reduceIte, reduceCtorEq, ne_eq, implies_true, if_true, if_false, ite_not, eq_self, Tryd.ntmps6, c1, w2, w3, e3]
  generalize (if f + k < lib.length then f + k else f + k - lib.length) = p at *
  obtain ⟨y, hy⟩ : ∃ y, (turnL lib k)[f]? = some y := ⟨_, List.getElem?_eq_getElem (by rw [turn_len (by omega)]; exact c)⟩
  rw [hy] at hg
  have hp : p < lib.length := (List.getElem?_eq_some_iff.1 hg.symm).1
  have hmem := List.mem_of_getElem? hg.symm
  have ca : callsAt lib p = callsE lib y.body := by
    unfold callsAt
    rw [if_neg (by omega), Int.toNat_natCast, ← hg]
  have cb : callsAt (turnL lib k) f = (callsE lib y.body).map (rot lib.length k) := by
    unfold callsAt
    rw [if_neg (by rw [turn_len (by omega)]; omega), Int.toNat_natCast, hy]
    exact calls_turn hd hk y.body
  have hcl := calls_len lib y.body
  have hsz := (hok y hmem).body.size
  have hrg := calls_range (lib := lib) y.body
  refine Stop.fact (ac19 lib hlib hok p _) rfl (by first | rfl | simp only [wy, Nat.reduceAdd, Nat.reduceEqDiff, Nat.reduceLT, Nat.reduceMul, Nat.reduceLeDiff, Int.reduceEq, ↓reduceIte, reduceCtorEq, ne_eq, implies_true, if_true, if_false, ite_not, eq_self, Tryd.ntmps6, vlib, fgt_mapfenc]) (by simp only [wy, Nat.reduceAdd, Nat.reduceEqDiff, Nat.reduceLT, Nat.reduceMul, Nat.reduceLeDiff, Int.reduceEq, ↓reduceIte, reduceCtorEq, ne_eq, implies_true, if_true, if_false, ite_not, eq_self, Tryd.ntmps6]) (caps := []) (by simp only [wy, Nat.reduceAdd, Nat.reduceEqDiff, Nat.reduceLT, Nat.reduceMul, Nat.reduceLeDiff, Int.reduceEq, ↓reduceIte, reduceCtorEq, ne_eq, implies_true, if_true, if_false, ite_not, eq_self, vlib, fgt_mapfenc]) en_19 (by simp only [wy, Nat.reduceAdd, Nat.reduceEqDiff, Nat.reduceLT, Nat.reduceMul, Nat.reduceLeDiff, Int.reduceEq, ↓reduceIte, reduceCtorEq, ne_eq, implies_true, if_true, if_false, ite_not, eq_self, vlib, fgt_mapfenc] <;> rfl) (Ev.sound 100 _ _ _ _ ?_)
  rw [ca]
  simp only [wy, Nat.reduceAdd, Nat.reduceEqDiff, Nat.reduceLT, Nat.reduceMul, Nat.reduceLeDiff, Int.reduceEq, ↓reduceIte, reduceCtorEq, ne_eq, implies_true, if_true, if_false, ite_not, eq_self, Tryd.ntmps6]
  refine Stop.fact (ac19 (turnL lib k) hlt hot f _) rfl rfl (by simp only [wy, Nat.reduceAdd, Nat.reduceEqDiff, Nat.reduceLT, Nat.reduceMul, Nat.reduceLeDiff, Int.reduceEq, ↓reduceIte, reduceCtorEq, ne_eq, implies_true, if_true, if_false, ite_not, eq_self, Tryd.ntmps6]) (caps := []) (by simp only [wy, Nat.reduceAdd, Nat.reduceEqDiff, Nat.reduceLT, Nat.reduceMul, Nat.reduceLeDiff, Int.reduceEq, ↓reduceIte, reduceCtorEq, ne_eq, implies_true, if_true, if_false, ite_not, eq_self, Tryd.ntmps6]) en_19 (by simp only [wy, Nat.reduceAdd, Nat.reduceEqDiff, Nat.reduceLT, Nat.reduceMul, Nat.reduceLeDiff, Int.reduceEq, ↓reduceIte, reduceCtorEq, ne_eq, implies_true, if_true, if_false, ite_not, eq_self, Tryd.ntmps6, hfv]) (Ev.sound 100 _ _ _ _ ?_)
  rw [cb]
  generalize callsE lib y.body = cs at *
  simp only [wy, Nat.reduceAdd, Nat.reduceEqDiff, Nat.reduceLT, Nat.reduceMul, Nat.reduceLeDiff, Int.reduceEq, ↓reduceIte, reduceCtorEq, ne_eq, implies_true, if_true, if_false, ite_not, eq_self, Tryd.ntmps6, vints, List.length_map]
  refine Stop.round (σ := Nat) (fun j => cs.length - j) (fun j => [(0, kslice 7 (lib.map Fn.enc)), (7, .int .i64 lib.length), (8, .int .i64 k), (9, V), (12, .int .i64 f), (13, kslice 1 (cs.map fun b => [.int .i64 b])), (14, kslice 1 ((cs.map (rot lib.length k)).map fun b => [.int .i64 b])), (15, .int .i64 j)])
    (fun j h1 => j ≤ cs.length ∧ H = h1) 0 ⟨Nat.zero_le _, rfl⟩ (by simp only [wy, Nat.reduceAdd, Nat.reduceEqDiff, Nat.reduceLT, Nat.reduceMul, Nat.reduceLeDiff, Int.reduceEq, ↓reduceIte, reduceCtorEq, ne_eq, implies_true, if_true, if_false, ite_not, eq_self, Tryd.ntmps6, Int.natCast_zero]) ?_
  rintro j _ ⟨hj, rfl⟩ next2
  refine Ev.sound 100 _ _ _ _ ?_
  rcases turn cs j hj with ⟨z, hz, hm2, hlt2, d1, d2⟩ | ⟨hjj, d1⟩
  · have v1 := wrap_succ j (by omega)
    obtain ⟨r1, r2⟩ := hrg z hm2
    have hz2 : (cs.map (rot lib.length k))[j]? = some (rot lib.length k z) := by rw [List.getElem?_map, hz]; rfl
    have hr0 : 0 ≤ rot lib.length k z ∧ rot lib.length k z < lib.length := by unfold rot; split <;> omega
    have v2 : IntKind.i64.wrap (rot lib.length k z + (k : Int)) = rot lib.length k z + k := i64_id (by omega) (by omega)
    have v3 : (rot lib.length k z + (k : Int)).tmod (lib.length : Int) = z := by
      have : rot lib.length k z + (k : Int) = (((rot lib.length k z).toNat + k : Nat) : Int) := by omega
      rw [this, ← Int.ofNat_tmod, modn (by omega)]
      unfold rot at hr0 ⊢
      split <;> split at hr0 <;> split <;> omega
    simp only [wy, Nat.reduceAdd, Nat.reduceEqDiff, Nat.reduceLT, Nat.reduceMul, Nat.reduceLeDiff, Int.reduceEq, ↓reduceIte, reduceCtorEq, ne_eq, implies_true, if_true, if_false, ite_not, eq_self, Tryd.ntmps6, d1, List.length_map]
    refine Stop.drawn [(0, 0), (1, 0), (2, 0), (3, 0), (4, 0), (5, 0), (6, 0), (7, 0), (8, 0), (9, 0), (10, 0), (11, 0), (12, 0)] [[], [], [0, 1], [0, 1, 2], [], [], [4, 5], [4, 5, 6], [], [4, 5, 6, 7, 8], [], [4, 5, 6, 7, 8, 9, 10], [0, 1, 2, 3, 4, 5, 6, 7, 8, 9, 10, 11]] 90 (by kernel_rfl) ?_
    simp only [wy, Nat.reduceAdd, Nat.reduceEqDiff, Nat.reduceLT, Nat.reduceMul, Nat.reduceLeDiff, Int.reduceEq, ↓reduceIte, reduceCtorEq, ne_eq, implies_true, if_true, if_false, ite_not, eq_self, Tryd.ntmps6, d1, d2, e3, List.length_map, getD_map (fun b : Int => [AV.int .i64 b]) hz, getD_map (fun b : Int => [AV.int .i64 b]) hz2, v1, v2, v3]
    exact next2 (j + 1) _ _ (by omega) ⟨hlt2, rfl⟩ (by simp only [wy, Nat.reduceAdd, Nat.reduceEqDiff, Nat.reduceLT, Nat.reduceMul, Nat.reduceLeDiff, Int.reduceEq, ↓reduceIte, reduceCtorEq, ne_eq, implies_true, if_true, if_false, ite_not, eq_self, Tryd.ntmps6])
  · simp only [wy, Nat.reduceAdd, Nat.reduceEqDiff, Nat.reduceLT, Nat.reduceMul, Nat.reduceLeDiff, Int.reduceEq, ↓reduceIte, reduceCtorEq, ne_eq, implies_true, if_true, if_false, ite_not, eq_self, Tryd.ntmps6, d1, w1, List.length_map]
    exact next (f + 1) _ _ (by omega) ⟨c, rfl⟩ (by simp only [wy, Nat.reduceAdd, Nat.reduceEqDiff, Nat.reduceLT, Nat.reduceMul, Nat.reduceLeDiff, Int.reduceEq, ↓reduceIte, reduceCtorEq, ne_eq, implies_true, if_true, if_false, ite_not, eq_self, Tryd.ntmps6])
theorem ac6' (lib : List Fn) (hlib : LibOk lib) (hok : ∀ f ∈ lib, FnOk f) (x : Int) (hx : IntKind.u8.min ≤ x ∧ x ≤ IntKind.u8.max) (h : AHeap) : AC sd 6 [vlib lib, .int .u8 x] h (Pure1 (.bool true) h) := by
  rw [show IntKind.u8.min = 0 by decide +kernel, show IntKind.u8.max = 255 by decide +kernel] at hx
  obtain ⟨m, rfl⟩ : ∃ m : Nat, x = m := ⟨x.toNat, by omega⟩
  exact ac6 lib hlib hok m (by omega) h
end Go.Proofs.YtajknofacjiddaaDoor.Abs
