/- Part 6 of the reckoning: the abstract machine, its soundness, and the contracts of the functions that the law reaches. -/
import Derived.Test.YtajknofacjiddaaDoorM5
/- The law FunDistinct. -/
namespace Go.Proofs.YtajknofacjiddaaDoor.Abs
open Go Go.RowKit
set_option linter.unusedSimpArgs false
set_option linter.unusedVariables false
set_option maxHeartbeats 4000000
set_option maxRecDepth 100000
theorem runAll_zero {fs : List Typ} {env : Env} (h : (runAll fs env).2 = 0) : ∀ f ∈ fs, (f env).2 = 0 := by
  induction fs with
  | nil => intro f hf; cases hf
  | cons g gs ih =>
    unfold runAll at h
    by_cases h1 : (g env).2 = 0
    · rw [if_neg (by simp [h1])] at h
      by_cases h2 : (runAll gs env).2 = 0
      · intro f hf
        cases hf with
        | head => exact h1
        | tail _ hf => exact ih h2 f hf
      · rw [if_pos h2] at h
        exact absurd h h2
    · rw [if_pos h1] at h
      exact absurd h h1
theorem allE_zero {fs : List Typ} {want : List Bool} {env : Env} (h : allE fs want env = 0) : ∀ f ∈ fs, (f env).2 = 0 := by
  refine runAll_zero ?_
  unfold allE at h
  by_cases h1 : (runAll fs env).2 = 0
  · exact h1
  · rw [if_pos h1] at h; exact h
/-- What a tree without an error says of its parts. -/
theorem chk_parts {lib : List Fn} {x : Node} {env : Env} (hform : formB x = true) (h : (chk lib x env).2 = 0) : (∀ y ∈ x.kids, ∃ e, (chk lib y e).2 = 0) ∧ (x.kind = 85 → ∃ f i, CallOk lib x f i) := by
  obtain ⟨_, hwk⟩ := form_kids hform
  rw [chk_eq] at h
  unfold stepE at h
  have all : ∀ want, allE (x.kids.map (chk lib)) want env = 0 → ∀ y ∈ x.kids, ∃ e, (chk lib y e).2 = 0 := fun want hw y hy => ⟨env, allE_zero hw _ (List.mem_map_of_mem hy)⟩
  have none : ∀ {n}, wantKids x.kind n = some 0 → x.kids.length = n → x.kids = [] := fun hw hn => by
    rw [hn, hw] at hwk
    exact List.eq_nil_of_length_eq_zero (by have := Option.some.inj hwk; omega)
  by_cases k81 : x.kind = 81
  · rw [if_pos k81] at h
    rw [none (by rw [k81]; rfl) rfl]
    exact ⟨fun y hy => (by cases hy), fun e => by omega⟩
  rw [if_neg k81] at h
  by_cases k82 : x.kind = 82
  · rw [if_pos k82] at h
    exact ⟨all _ h, fun e => by omega⟩
  rw [if_neg k82] at h
  by_cases k83 : x.kind = 83
  · rw [if_pos k83] at h
    refine ⟨fun y hy => ⟨env, runAll_zero ?_ _ (List.mem_map_of_mem hy)⟩, fun e => by omega⟩
    unfold branchesE at h
    by_cases h1 : (runAll (x.kids.map (chk lib)) env).2 = 0
    · exact h1
    · rw [if_pos h1] at h; exact h
  rw [if_neg k83] at h
  by_cases k84 : x.kind = 84
  · rw [if_pos k84] at h
    refine ⟨?_, fun e => by omega⟩
    rw [k84] at hwk
    have hl2 : x.kids.length = 2 := (Option.some.inj hwk).symm
    unfold bindE at h
    by_cases h0 : (env x.name).isSome = true
    · rw [if_pos h0] at h; cases h
    rw [if_neg h0] at h
    match hk : x.kids, hl2 with
    | [y0, y1], _ =>
      rw [hk] at h
      simp only [List.map_cons, List.map_nil] at h
      by_cases h1 : (chk lib y0 env).2 = 0
      · rw [if_neg (by simp [h1])] at h
        intro y hy
        rcases List.mem_cons.1 hy with rfl | hy
        · exact ⟨env, h1⟩
        · have := List.mem_singleton.1 hy
          subst this
          exact ⟨_, h⟩
      · rw [if_pos h1] at h
        exact absurd h h1
  rw [if_neg k84] at h
  by_cases k85 : x.kind = 85
  · rw [if_pos k85] at h
    unfold callE at h
    by_cases h0 : find lib x.name < 0
    · rw [if_pos h0] at h; cases h
    rw [if_neg h0] at h
    obtain ⟨i, f, hi, hf, _⟩ := find_at lib x.name (by omega)
    rw [hi, Int.toNat_natCast, hf] at h
    simp only at h
    by_cases h1 : (x.kids.map (chk lib)).length ≠ f.params.length
    · rw [if_pos h1] at h; cases h
    rw [if_neg h1] at h
    exact ⟨all _ h, fun _ => ⟨f, i, hi, hf, by simpa using h1⟩⟩
  rw [if_neg k85] at h
  by_cases k86 : x.kind = 86
  · rw [none (by rw [k86]; rfl) rfl]
    exact ⟨fun y hy => (by cases hy), fun e => by omega⟩
  rw [if_neg k86] at h
  by_cases k87 : x.kind = 87
  · rw [if_pos k87] at h
    exact ⟨all _ h, fun e => by omega⟩
  rw [if_neg k87] at h
  by_cases k88 : x.kind = 88 ∨ x.kind = 90
  · rw [if_pos k88] at h
    exact ⟨all _ h, fun e => by omega⟩
  rw [if_neg k88] at h
  by_cases k89 : x.kind = 89
  · rw [if_pos k89] at h
    exact ⟨all _ h, fun e => by omega⟩
  by_cases k80 : x.kind = 80
  · rw [none (by rw [k80]; rfl) rfl]
    exact ⟨fun y hy => (by cases hy), fun e => by omega⟩
  have k88' : x.kind ≠ 88 := fun e => k88 (.inl e)
  have k90' : x.kind ≠ 90 := fun e => k88 (.inr e)
  unfold wantKids at hwk
  simp [k80, k81, k82, k83, k84, k85, k86, k87, k88', k89, k90'] at hwk
def arityN (lib : List Fn) (k : Int) (s : ByteArray) (n : Nat) : Bool := if k = 85 then (match lib[(find lib s).toNat]? with | some f => decide (0 ≤ find lib s) && decide (f.params.length = n) | none => false) else true
mutual
def arityB (lib : List Fn) : Node → Bool
  | .mk k _ s ks => arityN lib k s ks.length && arityL lib ks
def arityL (lib : List Fn) : List Node → Bool
  | [] => true
  | x :: xs => arityB lib x && arityL lib xs
end
theorem arityL_eq (lib : List Fn) (ks : List Node) : arityL lib ks = ks.all (arityB lib) := by
  induction ks with
  | nil => rfl
  | cons x xs ih => simp [arityL, ih]
theorem arity_eq (lib : List Fn) (x : Node) : arityB lib x = (arityN lib x.kind x.name x.kids.length && x.kids.all (arityB lib)) := by
  cases x; rw [← arityL_eq]; rfl
theorem arity_of {lib : List Fn} (x : Node) : formB x = true → ∀ env, (chk lib x env).2 = 0 → arityB lib x = true := by
  intro hform env h
  obtain ⟨hfk, _⟩ := form_kids hform
  obtain ⟨h1, h2⟩ := chk_parts hform h
  rw [arity_eq, Bool.and_eq_true, List.all_eq_true]
  refine ⟨?_, fun y hy => ?_⟩
  · unfold arityN
    split
    · rename_i k
      obtain ⟨f, i, c1, c2, c3⟩ := h2 k
      rw [c1, Int.toNat_natCast, c2]
      simp [c3]
    · rfl
  · obtain ⟨e, he⟩ := h1 y hy
    exact arity_of y (hfk y hy) e he
 termination_by x.size
 decreasing_by exact kid_size hy
noncomputable def K26 : List Item := match Tryd.f26.body with | some c => atLoop 0 100 [.code c] | none => []
theorem ac26 (lib : List Fn) (hlib : LibOk lib) (x : Node) : x.wf → ∀ h : AHeap, AC sd 26 [vlib lib, .agg x.enc] h (Pure1 (.bool (arityB lib x)) h) := by
  intro hw h
  refine AC.pure Tryd.func26 rfl Tryd.ntmps26 (by show 2 ≤ 43; decide) ?_
  refine Ev.sound 100 _ _ _ _ ?_
  have hl := hlib.len
  have hlen := hw.len
  simp only [argFr, vlib, enc_eq]
  have hh : Ext h (h.alloc (.cells [.int .u8 x.kind, .int .i64 x.num, .str x.name, kslice 4 (x.kids.map Node.enc)])) := (Ext.refl h).alloc _
  have hn := arity_eq lib x
  have hN : arityN lib x.kind x.name x.kids.length = if x.kind = 85 then (match lib[(find lib x.name).toNat]? with | some f => decide (0 ≤ find lib x.name) && decide (f.params.length = x.kids.length) | none => false) else true := rfl
  have main : arityN lib x.kind x.name x.kids.length = true → ∀ fr : Fr, fr.Has [(0, vlib lib), (3, .ptr h.next 0), (6, .int .i64 0)] → Stop sd Tryd.f26 (fun r h' => Dropped h (Pure1 (.bool (arityB lib x)) h) r.fgt h') K26 [] fr (h.alloc (.cells [.int .u8 x.kind, .int .i64 x.num, .str x.name, kslice 4 (x.kids.map Node.enc)])) := by
    intro hN fr hfr
    rw [hN, Bool.true_and] at hn
    obtain ⟨k, hK⟩ : ∃ k, K26 = k := ⟨_, rfl⟩
    have hK2 := hK
    simp only [K26, Tryd.f26, atLoop, Nat.reduceEqDiff, if_false, if_true, ↓reduceIte] at hK2
    rw [hK, ← hK2]
    clear hK hK2
    refine Stop.round (σ := Nat) (fun k => x.kids.length - k) (fun k => [(0, vlib lib), (3, .ptr h.next 0), (6, .int .i64 k)])
      (fun k h1 => k ≤ x.kids.length ∧ h1 = h.alloc (.cells [.int .u8 x.kind, .int .i64 x.num, .str x.name, kslice 4 (x.kids.map Node.enc)]) ∧ arityB lib x = (x.kids.drop k).all (arityB lib)) 0 ⟨Nat.zero_le _, rfl, hn⟩ hfr ?_
    rintro k _ ⟨hk, rfl, hv⟩ next
    refine Ev.sound 100 _ _ _ _ ?_
    rcases turn x.kids k hk with ⟨y, hy, hmem, hlt, c1, c2⟩ | ⟨hkk, c1⟩
    · have w1 := wrap_succ k (by omega)
      rw [drop_turn hy, List.all_cons] at hv
      simp only [wy, Nat.reduceAdd, Nat.reduceEqDiff, Nat.reduceLT, Nat.reduceMul, Nat.reduceLeDiff, Int.reduceEq, ↓reduceIte, reduceCtorEq, ne_eq, implies_true, if_true, if_false, ite_not, eq_self, Tryd.ntmps26, vlib, c1, c2, List.length_map, getD_map Node.enc hy, enc_eq y]
      refine Stop.fact (ac26 lib hlib y (hw.kid hmem) _) rfl (by first | rfl | simp only [wy, Nat.reduceAdd, Nat.reduceEqDiff, Nat.reduceLT, Nat.reduceMul, Nat.reduceLeDiff, Int.reduceEq, ↓reduceIte, reduceCtorEq, ne_eq, implies_true, if_true, if_false, ite_not, eq_self, Tryd.ntmps26, enc_eq, fgt_mapenc, vlib, fgt_mapfenc]) (by simp only [wy, Nat.reduceAdd, Nat.reduceEqDiff, Nat.reduceLT, Nat.reduceMul, Nat.reduceLeDiff, Int.reduceEq, ↓reduceIte, reduceCtorEq, ne_eq, implies_true, if_true, if_false, ite_not, eq_self, Tryd.ntmps26]) (caps := []) (by simp only [wy, Nat.reduceAdd, Nat.reduceEqDiff, Nat.reduceLT, Nat.reduceMul, Nat.reduceLeDiff, Int.reduceEq, ↓reduceIte, reduceCtorEq, ne_eq, implies_true, if_true, if_false, ite_not, eq_self, enc_eq, fgt_mapenc, vlib, fgt_mapfenc]) en_26 (by simp only [wy, Nat.reduceAdd, Nat.reduceEqDiff, Nat.reduceLT, Nat.reduceMul, Nat.reduceLeDiff, Int.reduceEq, ↓reduceIte, reduceCtorEq, ne_eq, implies_true, if_true, if_false, ite_not, eq_self, enc_eq, fgt_mapenc, vlib, fgt_mapfenc] <;> rfl) (Ev.sound 100 _ _ _ _ ?_)
      cases b1 : arityB lib y
      · rw [b1, Bool.false_and] at hv
        simp only [wy, Nat.reduceAdd, Nat.reduceEqDiff, Nat.reduceLT, Nat.reduceMul, Nat.reduceLeDiff, Int.reduceEq, ↓reduceIte, reduceCtorEq, ne_eq, implies_true, if_true, if_false, ite_not, eq_self, Tryd.ntmps26]
        exact Leave.pures rfl (by simp only [wy, Nat.reduceAdd, Nat.reduceEqDiff, Nat.reduceLT, Nat.reduceMul, Nat.reduceLeDiff, Int.reduceEq, ↓reduceIte, reduceCtorEq, ne_eq, implies_true, if_true, if_false, ite_not, eq_self, oneOf, hv] <;> rfl) (hh) rfl
      · rw [b1, Bool.true_and] at hv
        simp only [wy, Nat.reduceAdd, Nat.reduceEqDiff, Nat.reduceLT, Nat.reduceMul, Nat.reduceLeDiff, Int.reduceEq, ↓reduceIte, reduceCtorEq, ne_eq, implies_true, if_true, if_false, ite_not, eq_self, Tryd.ntmps26, w1]
        exact next (k + 1) _ _ (by omega) ⟨hlt, rfl, hv⟩ (by simp only [wy, Nat.reduceAdd, Nat.reduceEqDiff, Nat.reduceLT, Nat.reduceMul, Nat.reduceLeDiff, Int.reduceEq, ↓reduceIte, reduceCtorEq, ne_eq, implies_true, if_true, if_false, ite_not, eq_self, Tryd.ntmps26, vlib])
    · rw [hkk, List.drop_length, List.all_nil] at hv
      simp only [wy, Nat.reduceAdd, Nat.reduceEqDiff, Nat.reduceLT, Nat.reduceMul, Nat.reduceLeDiff, Int.reduceEq, ↓reduceIte, reduceCtorEq, ne_eq, implies_true, if_true, if_false, ite_not, eq_self, Tryd.ntmps26, c1, List.length_map]
      exact Leave.pures rfl (by simp only [wy, Nat.reduceAdd, Nat.reduceEqDiff, Nat.reduceLT, Nat.reduceMul, Nat.reduceLeDiff, Int.reduceEq, ↓reduceIte, reduceCtorEq, ne_eq, implies_true, if_true, if_false, ite_not, eq_self, oneOf, hv] <;> rfl) (hh) rfl
  by_cases k85 : x.kind = 85
  · rw [if_pos k85] at hN
    simp only [wy, Nat.reduceAdd, Nat.reduceEqDiff, Nat.reduceLT, Nat.reduceMul, Nat.reduceLeDiff, Int.reduceEq, ↓reduceIte, reduceCtorEq, ne_eq, implies_true, if_true, if_false, ite_not, eq_self, Tryd.ntmps26, decide_eq_true k85]
    refine Stop.fact (ac20 lib x.name hl _) rfl (by first | rfl | simp only [wy, Nat.reduceAdd, Nat.reduceEqDiff, Nat.reduceLT, Nat.reduceMul, Nat.reduceLeDiff, Int.reduceEq, ↓reduceIte, reduceCtorEq, ne_eq, implies_true, if_true, if_false, ite_not, eq_self, Tryd.ntmps26, vlib, fgt_mapfenc]) (by simp only [wy, Nat.reduceAdd, Nat.reduceEqDiff, Nat.reduceLT, Nat.reduceMul, Nat.reduceLeDiff, Int.reduceEq, ↓reduceIte, reduceCtorEq, ne_eq, implies_true, if_true, if_false, ite_not, eq_self, Tryd.ntmps26]) (caps := []) (by simp only [wy, Nat.reduceAdd, Nat.reduceEqDiff, Nat.reduceLT, Nat.reduceMul, Nat.reduceLeDiff, Int.reduceEq, ↓reduceIte, reduceCtorEq, ne_eq, implies_true, if_true, if_false, ite_not, eq_self, vlib, fgt_mapfenc]) en_20 (by simp only [wy, Nat.reduceAdd, Nat.reduceEqDiff, Nat.reduceLT, Nat.reduceMul, Nat.reduceLeDiff, Int.reduceEq, ↓reduceIte, reduceCtorEq, ne_eq, implies_true, if_true, if_false, ite_not, eq_self, vlib, fgt_mapfenc] <;> rfl) (Ev.sound 100 _ _ _ _ ?_)
    simp only [wy, Nat.reduceAdd, Nat.reduceEqDiff, Nat.reduceLT, Nat.reduceMul, Nat.reduceLeDiff, Int.reduceEq, ↓reduceIte, reduceCtorEq, ne_eq, implies_true, if_true, if_false, ite_not, eq_self, Tryd.ntmps26]
    refine Stop.drawn [(0, 0), (1, 0), (2, 0), (3, 0), (4, 0), (5, 0), (6, 0), (7, 0), (8, 0), (9, 0), (10, 0), (11, 0), (12, 0), (13, 0)] [[], [0], [0, 1], [0, 1, 2], [0, 1, 2], [0, 1, 2, 3, 4], [0, 1, 2, 3, 4, 5], [0, 1, 2, 3, 4, 5, 6], [0, 1, 2, 3, 4, 5, 6, 7], [0, 1, 2], [0, 1, 2, 9], [0, 1, 2, 9, 10], [0, 1, 2, 3, 4, 5, 6, 7, 8, 9, 10, 11], [0, 1, 2, 3, 4, 5, 6, 7, 8, 9, 10, 11, 12]] 90 (by kernel_rfl) ?_
    by_cases a1 : find lib x.name < 0
    · have hN' : arityN lib x.kind x.name x.kids.length = false := by
        rw [hN]; split
        · rw [decide_eq_false (by omega)]; rfl
        · rfl
      rw [hN', Bool.false_and] at hn
      simp only [wy, Nat.reduceAdd, Nat.reduceEqDiff, Nat.reduceLT, Nat.reduceMul, Nat.reduceLeDiff, Int.reduceEq, ↓reduceIte, reduceCtorEq, ne_eq, implies_true, if_true, if_false, ite_not, eq_self, Tryd.ntmps26, decide_eq_true a1]
      exact Leave.pures rfl (by simp only [wy, Nat.reduceAdd, Nat.reduceEqDiff, Nat.reduceLT, Nat.reduceMul, Nat.reduceLeDiff, Int.reduceEq, ↓reduceIte, reduceCtorEq, ne_eq, implies_true, if_true, if_false, ite_not, eq_self, oneOf, hn] <;> rfl) (hh) rfl
    obtain ⟨i, f, hi, hf, _⟩ := find_at lib x.name (by omega)
    rw [hi, Int.toNat_natCast, hf] at hN
    simp only at hN
    have il : i < lib.length := (List.getElem?_eq_some_iff.1 hf).1
    have i1 : (0 ≤ (i : Int)) = True := by simp
    have i2 : ((i : Int) < (lib.length : Int)) = True := by simp; omega
    have i3 : ¬ ((i : Int) < 0) := by omega
    rw [decide_eq_true (by omega), Bool.true_and] at hN
    by_cases a2 : f.params.length = x.kids.length
    · have a2' : decide ((f.params.length : Int) = x.kids.length) = true := decide_eq_true (by omega)
      rw [decide_eq_true a2] at hN
      simp only [wy, Nat.reduceAdd, Nat.reduceEqDiff, Nat.reduceLT, Nat.reduceMul, Nat.reduceLeDiff, Int.reduceEq, ↓reduceIte, reduceCtorEq, ne_eq, implies_true, if_true, if_false, ite_not, eq_self, Tryd.ntmps26, hi, decide_eq_false i3, List.length_map, i1, i2, getD_map Fn.enc hf, fenc_eq f, a2']
      exact main hN _ (by simp only [wy, Nat.reduceAdd, Nat.reduceEqDiff, Nat.reduceLT, Nat.reduceMul, Nat.reduceLeDiff, Int.reduceEq, ↓reduceIte, reduceCtorEq, ne_eq, implies_true, if_true, if_false, ite_not, eq_self, Tryd.ntmps26, vlib])
    · have a2' : decide ((f.params.length : Int) = x.kids.length) = false := decide_eq_false (by omega)
      rw [decide_eq_false a2] at hN
      rw [hN, Bool.false_and] at hn
      simp only [wy, Nat.reduceAdd, Nat.reduceEqDiff, Nat.reduceLT, Nat.reduceMul, Nat.reduceLeDiff, Int.reduceEq, ↓reduceIte, reduceCtorEq, ne_eq, implies_true, if_true, if_false, ite_not, eq_self, Tryd.ntmps26, hi, decide_eq_false i3, List.length_map, i1, i2, getD_map Fn.enc hf, fenc_eq f, a2']
      exact Leave.pures rfl (by simp only [wy, Nat.reduceAdd, Nat.reduceEqDiff, Nat.reduceLT, Nat.reduceMul, Nat.reduceLeDiff, Int.reduceEq, ↓reduceIte, reduceCtorEq, ne_eq, implies_true, if_true, if_false, ite_not, eq_self, oneOf, hn] <;> rfl) (hh) rfl
  · rw [if_neg k85] at hN
    simp only [wy, Nat.reduceAdd, Nat.reduceEqDiff, Nat.reduceLT, Nat.reduceMul, Nat.reduceLeDiff, Int.reduceEq, ↓reduceIte, reduceCtorEq, ne_eq, implies_true, if_true, if_false, ite_not, eq_self, Tryd.ntmps26, decide_eq_false k85]
    exact main hN _ (by simp only [wy, Nat.reduceAdd, Nat.reduceEqDiff, Nat.reduceLT, Nat.reduceMul, Nat.reduceLeDiff, Int.reduceEq, ↓reduceIte, reduceCtorEq, ne_eq, implies_true, if_true, if_false, ite_not, eq_self, Tryd.ntmps26, vlib])
 termination_by x.size
 decreasing_by exact kid_size hmem
/-- What a valid function says. -/
theorem one_zero {lib : List Fn} {i : Nat} {f : Fn} (hf : lib[i]? = some f) (h : oneE lib i f = 0) :
    i < 30 ∧ nameB f.name = true ∧ find lib f.name = i ∧ f.params.length ≤ 8 ∧ (f.params.all fun p => nameB p.name) = true ∧ dupB (pnames f.params) = false ∧ formB f.body = true ∧ f.body.depth ≤ 80 ∧ f.body.size ≤ 2000 ∧ checkE lib f.params f.body = (f.list, 0) := by
  have hfl := find_le hf
  unfold oneE at h
  by_cases a1 : 30 ≤ i
  · rw [if_pos a1] at h; cases h
  rw [if_neg a1] at h
  by_cases a2 : nameB f.name = false
  · rw [if_pos a2] at h; cases h
  rw [if_neg a2] at h
  by_cases a3 : find lib f.name < i
  · rw [if_pos a3] at h; cases h
  rw [if_neg a3] at h
  by_cases a4 : 8 < f.params.length
  · rw [if_pos a4] at h; cases h
  rw [if_neg a4] at h
  by_cases a5 : (f.params.all fun p => nameB p.name) = false
  · rw [if_pos a5] at h; cases h
  rw [if_neg a5] at h
  unfold bodyOne at h
  by_cases a6 : dupB (pnames f.params) = true
  · rw [if_pos a6] at h; cases h
  rw [if_neg a6] at h
  by_cases a7 : formB f.body = false
  · rw [if_pos a7] at h; cases h
  rw [if_neg a7] at h
  by_cases a8 : 80 < f.body.depth
  · rw [if_pos a8] at h; cases h
  rw [if_neg a8] at h
  by_cases a9 : 2000 < f.body.size
  · rw [if_pos a9] at h; cases h
  rw [if_neg a9] at h
  unfold checkOne at h
  by_cases b1 : (checkE lib f.params f.body).2 = 0 ∧ (checkE lib f.params f.body).1 ≠ f.list
  · rw [if_pos b1] at h; cases h
  rw [if_neg b1] at h
  refine ⟨by omega, by simpa using a2, by omega, by omega, by simpa using a5, by simpa using a6, by simpa using a7, by omega, by omega, ?_⟩
  have : (checkE lib f.params f.body).1 = f.list := by
    by_cases e : (checkE lib f.params f.body).1 = f.list
    · exact e
    · exact absurd ⟨h, e⟩ b1
  rw [← this, ← h]
theorem validFrom_zero {lib : List Fn} : ∀ (l : List Fn) (k : Nat), (validFrom lib k l).2 = 0 → validFrom lib k l = (-1, 0) ∧ ∀ (j : Nat) f, l[j]? = some f → oneE lib (k + j) f = 0
  | [], k, _ => ⟨rfl, fun j f h => by simp at h⟩
  | g :: gs, k, h => by
    unfold validFrom at h ⊢
    by_cases e : oneE lib k g = 0
    · rw [if_pos e] at h ⊢
      obtain ⟨h1, h2⟩ := validFrom_zero gs (k + 1) h
      refine ⟨h1, fun j f hj => ?_⟩
      cases j with
      | zero => cases hj; exact e
      | succ j => have := h2 j f hj; rwa [show k + 1 + j = k + (j + 1) by omega] at this
    · rw [if_neg e] at h
      exact absurd h e
theorem valid_zero {lib : List Fn} (h : (validE lib).2 = 0) : validE lib = (-1, 0) ∧ ∀ (j : Nat) f, lib[j]? = some f → oneE lib j f = 0 := by
  obtain ⟨h1, h2⟩ := validFrom_zero lib 0 h
  exact ⟨h1, fun j f hj => by have := h2 j f hj; rwa [Nat.zero_add] at this⟩
theorem ac9 (lib : List Fn) (hlib : LibOk lib) (hok : ∀ f ∈ lib, FnOk f) (h : AHeap) : AC sd 9 [vlib lib] h (Pure1 (.bool true) h) := by
  refine AC.pure Tryd.func9 rfl Tryd.ntmps9 (by show 1 ≤ 75; decide) ?_
  refine Ev.sound 100 _ _ _ _ ?_
  have hl := hlib.len
  simp only [argFr, vlib]
  simp only [wy, Nat.reduceAdd, Nat.reduceEqDiff, Nat.reduceLT, Nat.reduceMul, Nat.reduceLeDiff, Int.reduceEq, ↓reduceIte, reduceCtorEq, ne_eq, implies_true, if_true, if_false, ite_not, eq_self, Tryd.ntmps9]
  refine Stop.fact (ac11 _) rfl (by first | rfl | simp only [wy, Nat.reduceAdd, Nat.reduceEqDiff, Nat.reduceLT, Nat.reduceMul, Nat.reduceLeDiff, Int.reduceEq, ↓reduceIte, reduceCtorEq, ne_eq, implies_true, if_true, if_false, ite_not, eq_self, Tryd.ntmps9]) (by simp only [wy, Nat.reduceAdd, Nat.reduceEqDiff, Nat.reduceLT, Nat.reduceMul, Nat.reduceLeDiff, Int.reduceEq, ↓reduceIte, reduceCtorEq, ne_eq, implies_true, if_true, if_false, ite_not, eq_self, Tryd.ntmps9]) (caps := []) (by simp only [wy, Nat.reduceAdd, Nat.reduceEqDiff, Nat.reduceLT, Nat.reduceMul, Nat.reduceLeDiff, Int.reduceEq, ↓reduceIte, reduceCtorEq, ne_eq, implies_true, if_true, if_false, ite_not, eq_self]) en_11 (by simp only [wy, Nat.reduceAdd, Nat.reduceEqDiff, Nat.reduceLT, Nat.reduceMul, Nat.reduceLeDiff, Int.reduceEq, ↓reduceIte, reduceCtorEq, ne_eq, implies_true, if_true, if_false, ite_not, eq_self] <;> rfl) (Ev.sound 100 _ _ _ _ ?_)
  simp only [wy, Nat.reduceAdd, Nat.reduceEqDiff, Nat.reduceLT, Nat.reduceMul, Nat.reduceLeDiff, Int.reduceEq, ↓reduceIte, reduceCtorEq, ne_eq, implies_true, if_true, if_false, ite_not, eq_self, Tryd.ntmps9]
  refine Stop.fact (ac12 lib hlib hok _) rfl (by first | rfl | simp only [wy, Nat.reduceAdd, Nat.reduceEqDiff, Nat.reduceLT, Nat.reduceMul, Nat.reduceLeDiff, Int.reduceEq, ↓reduceIte, reduceCtorEq, ne_eq, implies_true, if_true, if_false, ite_not, eq_self, Tryd.ntmps9, vlib, fgt_mapfenc]) (by simp only [wy, Nat.reduceAdd, Nat.reduceEqDiff, Nat.reduceLT, Nat.reduceMul, Nat.reduceLeDiff, Int.reduceEq, ↓reduceIte, reduceCtorEq, ne_eq, implies_true, if_true, if_false, ite_not, eq_self, Tryd.ntmps9]) (caps := []) (by simp only [wy, Nat.reduceAdd, Nat.reduceEqDiff, Nat.reduceLT, Nat.reduceMul, Nat.reduceLeDiff, Int.reduceEq, ↓reduceIte, reduceCtorEq, ne_eq, implies_true, if_true, if_false, ite_not, eq_self, vlib, fgt_mapfenc]) en_12 (by simp only [wy, Nat.reduceAdd, Nat.reduceEqDiff, Nat.reduceLT, Nat.reduceMul, Nat.reduceLeDiff, Int.reduceEq, ↓reduceIte, reduceCtorEq, ne_eq, implies_true, if_true, if_false, ite_not, eq_self, vlib, fgt_mapfenc] <;> rfl) (Ev.sound 100 _ _ _ _ ?_)
  simp only [wy, Nat.reduceAdd, Nat.reduceEqDiff, Nat.reduceLT, Nat.reduceMul, Nat.reduceLeDiff, Int.reduceEq, ↓reduceIte, reduceCtorEq, ne_eq, implies_true, if_true, if_false, ite_not, eq_self, Tryd.ntmps9]
  refine EvC.part (fun a1 => ?_) (fun a1 => ?_)
  · simp only [wy, Nat.reduceAdd, Nat.reduceEqDiff, Nat.reduceLT, Nat.reduceMul, Nat.reduceLeDiff, Int.reduceEq, ↓reduceIte, reduceCtorEq, ne_eq, implies_true, if_true, if_false, ite_not, eq_self, Tryd.ntmps9]
    exact Leave.pures rfl (by simp only [wy, Nat.reduceAdd, Nat.reduceEqDiff, Nat.reduceLT, Nat.reduceMul, Nat.reduceLeDiff, Int.reduceEq, ↓reduceIte, reduceCtorEq, ne_eq, implies_true, if_true, if_false, ite_not, eq_self, oneOf] <;> rfl) (Ext.refl _) rfl
  simp only [wy, Nat.reduceAdd, Nat.reduceEqDiff, Nat.reduceLT, Nat.reduceMul, Nat.reduceLeDiff, Int.reduceEq, ↓reduceIte, reduceCtorEq, ne_eq, implies_true, if_true, if_false, ite_not, eq_self, Tryd.ntmps9]
  refine Stop.fact (ac13 lib hlib hok _) rfl (by first | rfl | simp only [wy, Nat.reduceAdd, Nat.reduceEqDiff, Nat.reduceLT, Nat.reduceMul, Nat.reduceLeDiff, Int.reduceEq, ↓reduceIte, reduceCtorEq, ne_eq, implies_true, if_true, if_false, ite_not, eq_self, Tryd.ntmps9, vlib, fgt_mapfenc]) (by simp only [wy, Nat.reduceAdd, Nat.reduceEqDiff, Nat.reduceLT, Nat.reduceMul, Nat.reduceLeDiff, Int.reduceEq, ↓reduceIte, reduceCtorEq, ne_eq, implies_true, if_true, if_false, ite_not, eq_self, Tryd.ntmps9]) (caps := []) (by simp only [wy, Nat.reduceAdd, Nat.reduceEqDiff, Nat.reduceLT, Nat.reduceMul, Nat.reduceLeDiff, Int.reduceEq, ↓reduceIte, reduceCtorEq, ne_eq, implies_true, if_true, if_false, ite_not, eq_self, vlib, fgt_mapfenc]) en_13 (by simp only [wy, Nat.reduceAdd, Nat.reduceEqDiff, Nat.reduceLT, Nat.reduceMul, Nat.reduceLeDiff, Int.reduceEq, ↓reduceIte, reduceCtorEq, ne_eq, implies_true, if_true, if_false, ite_not, eq_self, vlib, fgt_mapfenc] <;> rfl) (Ev.sound 100 _ _ _ _ ?_)
  by_cases hv : (validE lib).2 = 0
  case neg =>
    simp only [wy, Nat.reduceAdd, Nat.reduceEqDiff, Nat.reduceLT, Nat.reduceMul, Nat.reduceLeDiff, Int.reduceEq, ↓reduceIte, reduceCtorEq, ne_eq, implies_true, if_true, if_false, ite_not, eq_self, Tryd.ntmps9, decide_eq_false hv]
    exact Leave.pures rfl (by simp only [wy, Nat.reduceAdd, Nat.reduceEqDiff, Nat.reduceLT, Nat.reduceMul, Nat.reduceLeDiff, Int.reduceEq, ↓reduceIte, reduceCtorEq, ne_eq, implies_true, if_true, if_false, ite_not, eq_self, oneOf] <;> rfl) (Ext.refl _) rfl
  obtain ⟨hv1, hv2⟩ := valid_zero hv
  simp only [wy, Nat.reduceAdd, Nat.reduceEqDiff, Nat.reduceLT, Nat.reduceMul, Nat.reduceLeDiff, Int.reduceEq, ↓reduceIte, reduceCtorEq, ne_eq, implies_true, if_true, if_false, ite_not, eq_self, Tryd.ntmps9, decide_eq_true hv]
  refine Stop.round (σ := Nat) (fun k => lib.length - k) (fun k => [(0, kslice 7 (lib.map Fn.enc)), (5, .int .i64 k)])
    (fun k h1 => k ≤ lib.length ∧ h = h1) 0 ⟨Nat.zero_le _, rfl⟩ (by simp only [wy, Nat.reduceAdd, Nat.reduceEqDiff, Nat.reduceLT, Nat.reduceMul, Nat.reduceLeDiff, Int.reduceEq, ↓reduceIte, reduceCtorEq, ne_eq, implies_true, if_true, if_false, ite_not, eq_self, Tryd.ntmps9, Int.natCast_zero]) ?_
  rintro k _ ⟨hk, rfl⟩ next
  refine Ev.sound 100 _ _ _ _ ?_
  rcases turn lib k hk with ⟨y, hy, hmem, hlt, c1, c2⟩ | ⟨hkk, c1⟩
  · have w1 := wrap_succ k (by omega)
    obtain ⟨o1, o2, o3, o4, o5, o6, o7, o8, o9, o10⟩ := one_zero hy (hv2 k y hy)
    have hok' := hok y hmem
    have har : arityB lib y.body = true := arity_of y.body o7 (envOf y.params) (by
      have := congrArg Prod.snd o10
      unfold checkE at this
      exact this)
    have hty : typeE lib k y.body = (y.list, 0) := by
      unfold typeE
      rw [if_neg (by omega), if_neg (by simp [o7]), Int.toNat_natCast, hy]
      exact o10
    simp only [wy, Nat.reduceAdd, Nat.reduceEqDiff, Nat.reduceLT, Nat.reduceMul, Nat.reduceLeDiff, Int.reduceEq, ↓reduceIte, reduceCtorEq, ne_eq, implies_true, if_true, if_false, ite_not, eq_self, Tryd.ntmps9, c1, c2, List.length_map, getD_map Fn.enc hy, fenc_eq y]
    refine Stop.fact (ac20 lib y.name hl _) rfl (by first | rfl | simp only [wy, Nat.reduceAdd, Nat.reduceEqDiff, Nat.reduceLT, Nat.reduceMul, Nat.reduceLeDiff, Int.reduceEq, ↓reduceIte, reduceCtorEq, ne_eq, implies_true, if_true, if_false, ite_not, eq_self, Tryd.ntmps9, vlib, fgt_mapfenc]) (by simp only [wy, Nat.reduceAdd, Nat.reduceEqDiff, Nat.reduceLT, Nat.reduceMul, Nat.reduceLeDiff, Int.reduceEq, ↓reduceIte, reduceCtorEq, ne_eq, implies_true, if_true, if_false, ite_not, eq_self, Tryd.ntmps9]) (caps := []) (by simp only [wy, Nat.reduceAdd, Nat.reduceEqDiff, Nat.reduceLT, Nat.reduceMul, Nat.reduceLeDiff, Int.reduceEq, ↓reduceIte, reduceCtorEq, ne_eq, implies_true, if_true, if_false, ite_not, eq_self, vlib, fgt_mapfenc]) en_20 (by simp only [wy, Nat.reduceAdd, Nat.reduceEqDiff, Nat.reduceLT, Nat.reduceMul, Nat.reduceLeDiff, Int.reduceEq, ↓reduceIte, reduceCtorEq, ne_eq, implies_true, if_true, if_false, ite_not, eq_self, vlib, fgt_mapfenc] <;> rfl) (Ev.sound 100 _ _ _ _ ?_)
    simp only [wy, Nat.reduceAdd, Nat.reduceEqDiff, Nat.reduceLT, Nat.reduceMul, Nat.reduceLeDiff, Int.reduceEq, ↓reduceIte, reduceCtorEq, ne_eq, implies_true, if_true, if_false, ite_not, eq_self, Tryd.ntmps9, o3, c1, c2, List.length_map, getD_map Fn.enc hy, fenc_eq y]
    refine Stop.fact (ac25 y.name hok'.name _) rfl (by first | rfl | simp only [wy, Nat.reduceAdd, Nat.reduceEqDiff, Nat.reduceLT, Nat.reduceMul, Nat.reduceLeDiff, Int.reduceEq, ↓reduceIte, reduceCtorEq, ne_eq, implies_true, if_true, if_false, ite_not, eq_self, Tryd.ntmps9]) (by simp only [wy, Nat.reduceAdd, Nat.reduceEqDiff, Nat.reduceLT, Nat.reduceMul, Nat.reduceLeDiff, Int.reduceEq, ↓reduceIte, reduceCtorEq, ne_eq, implies_true, if_true, if_false, ite_not, eq_self, Tryd.ntmps9]) (caps := []) (by simp only [wy, Nat.reduceAdd, Nat.reduceEqDiff, Nat.reduceLT, Nat.reduceMul, Nat.reduceLeDiff, Int.reduceEq, ↓reduceIte, reduceCtorEq, ne_eq, implies_true, if_true, if_false, ite_not, eq_self]) en_25 (by simp only [wy, Nat.reduceAdd, Nat.reduceEqDiff, Nat.reduceLT, Nat.reduceMul, Nat.reduceLeDiff, Int.reduceEq, ↓reduceIte, reduceCtorEq, ne_eq, implies_true, if_true, if_false, ite_not, eq_self] <;> rfl) (Ev.sound 100 _ _ _ _ ?_)
    simp only [wy, Nat.reduceAdd, Nat.reduceEqDiff, Nat.reduceLT, Nat.reduceMul, Nat.reduceLeDiff, Int.reduceEq, ↓reduceIte, reduceCtorEq, ne_eq, implies_true, if_true, if_false, ite_not, eq_self, Tryd.ntmps9, o2, c1, c2, List.length_map, getD_map Fn.enc hy, fenc_eq y]
    refine Stop.fact (ac26 lib hlib y.body hok'.body _) rfl (by first | rfl | simp only [wy, Nat.reduceAdd, Nat.reduceEqDiff, Nat.reduceLT, Nat.reduceMul, Nat.reduceLeDiff, Int.reduceEq, ↓reduceIte, reduceCtorEq, ne_eq, implies_true, if_true, if_false, ite_not, eq_self, Tryd.ntmps9, enc_eq, fgt_mapenc, vlib, fgt_mapfenc]) (by simp only [wy, Nat.reduceAdd, Nat.reduceEqDiff, Nat.reduceLT, Nat.reduceMul, Nat.reduceLeDiff, Int.reduceEq, ↓reduceIte, reduceCtorEq, ne_eq, implies_true, if_true, if_false, ite_not, eq_self, Tryd.ntmps9]) (caps := []) (by simp only [wy, Nat.reduceAdd, Nat.reduceEqDiff, Nat.reduceLT, Nat.reduceMul, Nat.reduceLeDiff, Int.reduceEq, ↓reduceIte, reduceCtorEq, ne_eq, implies_true, if_true, if_false, ite_not, eq_self, enc_eq, fgt_mapenc, vlib, fgt_mapfenc]) en_26 (by simp only [wy, Nat.reduceAdd, Nat.reduceEqDiff, Nat.reduceLT, Nat.reduceMul, Nat.reduceLeDiff, Int.reduceEq, ↓reduceIte, reduceCtorEq, ne_eq, implies_true, if_true, if_false, ite_not, eq_self, enc_eq, fgt_mapenc, vlib, fgt_mapfenc] <;> rfl) (Ev.sound 100 _ _ _ _ ?_)
    simp only [wy, Nat.reduceAdd, Nat.reduceEqDiff, Nat.reduceLT, Nat.reduceMul, Nat.reduceLeDiff, Int.reduceEq, ↓reduceIte, reduceCtorEq, ne_eq, implies_true, if_true, if_false, ite_not, eq_self, Tryd.ntmps9, har, c1, c2, List.length_map, getD_map Fn.enc hy, fenc_eq y]
    refine Stop.fact (ac16 lib hlib hok k y.body hok'.body _) rfl (by first | rfl | simp only [wy, Nat.reduceAdd, Nat.reduceEqDiff, Nat.reduceLT, Nat.reduceMul, Nat.reduceLeDiff, Int.reduceEq, ↓reduceIte, reduceCtorEq, ne_eq, implies_true, if_true, if_false, ite_not, eq_self, Tryd.ntmps9, enc_eq, fgt_mapenc, vlib, fgt_mapfenc]) (by simp only [wy, Nat.reduceAdd, Nat.reduceEqDiff, Nat.reduceLT, Nat.reduceMul, Nat.reduceLeDiff, Int.reduceEq, ↓reduceIte, reduceCtorEq, ne_eq, implies_true, if_true, if_false, ite_not, eq_self, Tryd.ntmps9]) (caps := []) (by simp only [wy, Nat.reduceAdd, Nat.reduceEqDiff, Nat.reduceLT, Nat.reduceMul, Nat.reduceLeDiff, Int.reduceEq, ↓reduceIte, reduceCtorEq, ne_eq, implies_true, if_true, if_false, ite_not, eq_self, enc_eq, fgt_mapenc, vlib, fgt_mapfenc]) en_16 (by simp only [wy, Nat.reduceAdd, Nat.reduceEqDiff, Nat.reduceLT, Nat.reduceMul, Nat.reduceLeDiff, Int.reduceEq, ↓reduceIte, reduceCtorEq, ne_eq, implies_true, if_true, if_false, ite_not, eq_self, enc_eq, fgt_mapenc, vlib, fgt_mapfenc] <;> rfl) (Ev.sound 100 _ _ _ _ ?_)
    simp only [wy, Nat.reduceAdd, Nat.reduceEqDiff, Nat.reduceLT, Nat.reduceMul, Nat.reduceLeDiff, Int.reduceEq, ↓reduceIte, reduceCtorEq, ne_eq, implies_true, if_true, if_false, ite_not, eq_self, Tryd.ntmps9, hty, tyv, c1, c2, List.length_map, getD_map Fn.enc hy, fenc_eq y, bne_self_eq_false, beq_self_eq_true, w1]
    exact next (k + 1) _ _ (by omega) ⟨hlt, rfl⟩ (by simp only [wy, Nat.reduceAdd, Nat.reduceEqDiff, Nat.reduceLT, Nat.reduceMul, Nat.reduceLeDiff, Int.reduceEq, ↓reduceIte, reduceCtorEq, ne_eq, implies_true, if_true, if_false, ite_not, eq_self, Tryd.ntmps9])
  · simp only [wy, Nat.reduceAdd, Nat.reduceEqDiff, Nat.reduceLT, Nat.reduceMul, Nat.reduceLeDiff, Int.reduceEq, ↓reduceIte, reduceCtorEq, ne_eq, implies_true, if_true, if_false, ite_not, eq_self, Tryd.ntmps9, c1, List.length_map]
    exact Leave.pures rfl (by simp only [wy, Nat.reduceAdd, Nat.reduceEqDiff, Nat.reduceLT, Nat.reduceMul, Nat.reduceLeDiff, Int.reduceEq, ↓reduceIte, reduceCtorEq, ne_eq, implies_true, if_true, if_false, ite_not, eq_self, oneOf] <;> rfl) (Ext.refl _) rfl
end Go.Proofs.YtajknofacjiddaaDoor.Abs

/- The law FunWraps. -/
namespace Go.Proofs.YtajknofacjiddaaDoor.Abs
open Go Go.RowKit
set_option linter.unusedSimpArgs false
set_option linter.unusedVariables false
set_option maxHeartbeats 4000000
set_option maxRecDepth 100000
def sW : ByteArray := ⟨#[122, 122, 122, 122]⟩
mutual
def letB : Node → Bool
  | .mk k _ s ks => (decide (k = 84) && decide (s = sW)) || letL ks
def letL : List Node → Bool
  | [] => false
  | x :: xs => letB x || letL xs
end
theorem letL_eq (ks : List Node) : letL ks = ks.any letB := by
  induction ks with
  | nil => rfl
  | cons x xs ih => simp [letL, ih]
theorem let_eq (x : Node) : letB x = ((decide (x.kind = 84) && decide (x.name = sW)) || x.kids.any letB) := by
  cases x; rw [← letL_eq]; rfl
noncomputable def K40 : List Item := match Tryd.f40.body with | some c => atLoop 0 100 [.code c] | none => []
theorem ac40 (x : Node) : x.wf → ∀ h : AHeap, AC sd 40 [.agg x.enc] h (Pure1 (.bool (letB x)) h) := by
  intro hw h
  refine AC.pure Tryd.func40 rfl Tryd.ntmps40 (by show 1 ≤ 25; decide) ?_
  refine Ev.sound 100 _ _ _ _ ?_
  have hlen := hw.len
  simp only [argFr, enc_eq]
  have hh : Ext h (h.alloc (.cells [.int .u8 x.kind, .int .i64 x.num, .str x.name, kslice 4 (x.kids.map Node.enc)])) := (Ext.refl h).alloc _
  have hn := let_eq x
  have hsw : sW = ⟨#[122, 122, 122, 122]⟩ := rfl
  have main : (decide (x.kind = 84) && decide (x.name = sW)) = false → ∀ fr : Fr, fr.Has [(1, .ptr h.next 0), (3, .int .i64 0)] → Stop sd Tryd.f40 (fun r h' => Dropped h (Pure1 (.bool (letB x)) h) r.fgt h') K40 [] fr (h.alloc (.cells [.int .u8 x.kind, .int .i64 x.num, .str x.name, kslice 4 (x.kids.map Node.enc)])) := by
    intro hN fr hfr
    rw [hN, Bool.false_or] at hn
    obtain ⟨k, hK⟩ : ∃ k, K40 = k := ⟨_, rfl⟩
    have hK2 := hK
    simp only [K40, Tryd.f40, atLoop, Nat.reduceEqDiff, if_false, if_true, ↓reduceIte] at hK2
    rw [hK, ← hK2]
    clear hK hK2
    refine Stop.round (σ := Nat) (fun k => x.kids.length - k) (fun k => [(1, .ptr h.next 0), (3, .int .i64 k)])
      (fun k h1 => k ≤ x.kids.length ∧ h1 = h.alloc (.cells [.int .u8 x.kind, .int .i64 x.num, .str x.name, kslice 4 (x.kids.map Node.enc)]) ∧ letB x = (x.kids.drop k).any letB) 0 ⟨Nat.zero_le _, rfl, hn⟩ hfr ?_
    rintro k _ ⟨hk, rfl, hv⟩ next
    refine Ev.sound 100 _ _ _ _ ?_
    rcases turn x.kids k hk with ⟨y, hy, hmem, hlt, c1, c2⟩ | ⟨hkk, c1⟩
    · have w1 := wrap_succ k (by omega)
      rw [drop_turn hy, List.any_cons] at hv
      simp only [wy, Nat.reduceAdd, Nat.reduceEqDiff, Nat.reduceLT, Nat.reduceMul, Nat.reduceLeDiff, Int.reduceEq, ↓reduceIte, reduceCtorEq, ne_eq, implies_true, if_true, if_false, ite_not, eq_self, Tryd.ntmps40, c1, c2, List.length_map, getD_map Node.enc hy, enc_eq y]
      refine Stop.fact (ac40 y (hw.kid hmem) _) rfl (by first | rfl | simp only [wy, Nat.reduceAdd, Nat.reduceEqDiff, Nat.reduceLT, Nat.reduceMul, Nat.reduceLeDiff, Int.reduceEq, ↓reduceIte, reduceCtorEq, ne_eq, implies_true, if_true, if_false, ite_not, eq_self, Tryd.ntmps40, enc_eq, fgt_mapenc]) (by simp only [wy, Nat.reduceAdd, Nat.reduceEqDiff, Nat.reduceLT, Nat.reduceMul, Nat.reduceLeDiff, Int.reduceEq, ↓reduceIte, reduceCtorEq, ne_eq, implies_true, if_true, if_false, ite_not, eq_self, Tryd.ntmps40]) (caps := []) (by simp only [wy, Nat.reduceAdd, Nat.reduceEqDiff, Nat.reduceLT, Nat.reduceMul, Nat.reduceLeDiff, Int.reduceEq, ↓reduceIte, reduceCtorEq, ne_eq, implies_true, if_true, if_false, ite_not, eq_self, enc_eq, fgt_mapenc]) en_40 (by simp only [wy, Nat.reduceAdd, Nat.reduceEqDiff, Nat.reduceLT, Nat.reduceMul, Nat.reduceLeDiff, Int.reduceEq, ↓reduceIte, reduceCtorEq, ne_eq, implies_true, if_true, if_false, ite_not, eq_self, enc_eq, fgt_mapenc] <;> rfl) (Ev.sound 100 _ _ _ _ ?_)
      cases b1 : letB y
      · rw [b1, Bool.false_or] at hv
        simp only [wy, Nat.reduceAdd, Nat.reduceEqDiff, Nat.reduceLT, Nat.reduceMul, Nat.reduceLeDiff, Int.reduceEq, ↓reduceIte, reduceCtorEq, ne_eq, implies_true, if_true, if_false, ite_not, eq_self, Tryd.ntmps40, w1]
        exact next (k + 1) _ _ (by omega) ⟨hlt, rfl, hv⟩ (by simp only [wy, Nat.reduceAdd, Nat.reduceEqDiff, Nat.reduceLT, Nat.reduceMul, Nat.reduceLeDiff, Int.reduceEq, ↓reduceIte, reduceCtorEq, ne_eq, implies_true, if_true, if_false, ite_not, eq_self, Tryd.ntmps40])
      · rw [b1, Bool.true_or] at hv
        simp only [wy, Nat.reduceAdd, Nat.reduceEqDiff, Nat.reduceLT, Nat.reduceMul, Nat.reduceLeDiff, Int.reduceEq, ↓reduceIte, reduceCtorEq, ne_eq, implies_true, if_true, if_false, ite_not, eq_self, Tryd.ntmps40]
        exact Leave.pures rfl (by simp only [wy, Nat.reduceAdd, Nat.reduceEqDiff, Nat.reduceLT, Nat.reduceMul, Nat.reduceLeDiff, Int.reduceEq, ↓reduceIte, reduceCtorEq, ne_eq, implies_true, if_true, if_false, ite_not, eq_self, oneOf, hv] <;> rfl) (hh) rfl
    · rw [hkk, List.drop_length, List.any_nil] at hv
      simp only [wy, Nat.reduceAdd, Nat.reduceEqDiff, Nat.reduceLT, Nat.reduceMul, Nat.reduceLeDiff, Int.reduceEq, ↓reduceIte, reduceCtorEq, ne_eq, implies_true, if_true, if_false, ite_not, eq_self, Tryd.ntmps40, c1, List.length_map]
      exact Leave.pures rfl (by simp only [wy, Nat.reduceAdd, Nat.reduceEqDiff, Nat.reduceLT, Nat.reduceMul, Nat.reduceLeDiff, Int.reduceEq, ↓reduceIte, reduceCtorEq, ne_eq, implies_true, if_true, if_false, ite_not, eq_self, oneOf, hv] <;> rfl) (hh) rfl
  by_cases k84 : x.kind = 84
  · by_cases ks : x.name = sW
    · rw [decide_eq_true k84, decide_eq_true ks] at hn
      have ks' : decide (x.name = (⟨#[122, 122, 122, 122]⟩ : ByteArray)) = true := decide_eq_true ks
      simp only [wy, Nat.reduceAdd, Nat.reduceEqDiff, Nat.reduceLT, Nat.reduceMul, Nat.reduceLeDiff, Int.reduceEq, ↓reduceIte, reduceCtorEq, ne_eq, implies_true, if_true, if_false, ite_not, eq_self, Tryd.ntmps40, decide_eq_true k84, ks']
      exact Leave.pures rfl (by rw [hn]; rfl) hh rfl
    · have ks' : decide (x.name = (⟨#[122, 122, 122, 122]⟩ : ByteArray)) = false := decide_eq_false ks
      simp only [wy, Nat.reduceAdd, Nat.reduceEqDiff, Nat.reduceLT, Nat.reduceMul, Nat.reduceLeDiff, Int.reduceEq, ↓reduceIte, reduceCtorEq, ne_eq, implies_true, if_true, if_false, ite_not, eq_self, Tryd.ntmps40, decide_eq_true k84, ks']
      exact main (by rw [decide_eq_false ks, Bool.and_false]) _ (by simp only [wy, Nat.reduceAdd, Nat.reduceEqDiff, Nat.reduceLT, Nat.reduceMul, Nat.reduceLeDiff, Int.reduceEq, ↓reduceIte, reduceCtorEq, ne_eq, implies_true, if_true, if_false, ite_not, eq_self, Tryd.ntmps40])
  · simp only [wy, Nat.reduceAdd, Nat.reduceEqDiff, Nat.reduceLT, Nat.reduceMul, Nat.reduceLeDiff, Int.reduceEq, ↓reduceIte, reduceCtorEq, ne_eq, implies_true, if_true, if_false, ite_not, eq_self, Tryd.ntmps40, decide_eq_false k84]
    exact main (by rw [decide_eq_false k84, Bool.false_and]) _ (by simp only [wy, Nat.reduceAdd, Nat.reduceEqDiff, Nat.reduceLT, Nat.reduceMul, Nat.reduceLeDiff, Int.reduceEq, ↓reduceIte, reduceCtorEq, ne_eq, implies_true, if_true, if_false, ite_not, eq_self, Tryd.ntmps40])
 termination_by x.size
 decreasing_by exact kid_size hmem
def boundB (f : Fn) (x : Node) : Bool := (f.params.any fun p => decide (p.name = sW)) || letB x
theorem ac23 (lib : List Fn) (hlib : LibOk lib) (i : Nat) (f : Fn) (hf : lib[i]? = some f) (x : Node) (hx : x.wf) (h : AHeap) : AC sd 23 [vlib lib, .int .i64 i, .agg x.enc] h (Pure1 (.bool (boundB f x)) h) := by
  refine AC.pure Tryd.func23 rfl Tryd.ntmps23 (by show 3 ≤ 25; decide) ?_
  refine Ev.sound 100 _ _ _ _ ?_
  simp only [argFr, vlib, enc_eq]
  have hi : i < lib.length := (List.getElem?_eq_some_iff.1 hf).1
  have hp := hlib.params f (List.mem_of_getElem? hf)
  have i1 : (0 ≤ (i : Int)) = True := by simp
  have i2 : ((i : Int) < (lib.length : Int)) = True := by simp; omega
  have hn : boundB f x = ((f.params.any fun p => decide (p.name = sW)) || letB x) := rfl
  simp only [wy, Nat.reduceAdd, Nat.reduceEqDiff, Nat.reduceLT, Nat.reduceMul, Nat.reduceLeDiff, Int.reduceEq, ↓reduceIte, reduceCtorEq, ne_eq, implies_true, if_true, if_false, ite_not, eq_self, Tryd.ntmps23, i1, i2, List.length_map, getD_map Fn.enc hf, fenc_eq f]
  refine Stop.round (σ := Nat) (fun k => f.params.length - k) (fun k => [(5, .ptr h.next 0), (13, kslice 2 (f.params.map Param.enc)), (14, .int .i64 f.params.length), (15, .int .i64 k)])
    (fun k h1 => k ≤ f.params.length ∧ Ext (h.alloc (.cells [.int .u8 x.kind, .int .i64 x.num, .str x.name, kslice 4 (x.kids.map Node.enc)])) h1 ∧ boundB f x = (((f.params.drop k).any fun p => decide (p.name = sW)) || letB x)) 0 ⟨Nat.zero_le _, Ext.refl _, hn⟩ (by simp only [wy, Nat.reduceAdd, Nat.reduceEqDiff, Nat.reduceLT, Nat.reduceMul, Nat.reduceLeDiff, Int.reduceEq, ↓reduceIte, reduceCtorEq, ne_eq, implies_true, if_true, if_false, ite_not, eq_self, Tryd.ntmps23, Int.natCast_zero]) ?_
  rintro k h1 ⟨hk, hxt, hv⟩ next
  refine Ev.sound 100 _ _ _ _ ?_
  have hb1 : h1.get h.next = some (.cells [.int .u8 x.kind, .int .i64 x.num, .str x.name, kslice 4 (x.kids.map Node.enc)]) := by rw [hxt.get _ (by simp only [wy, Nat.reduceAdd, Nat.reduceEqDiff, Nat.reduceLT, Nat.reduceMul, Nat.reduceLeDiff, Int.reduceEq, ↓reduceIte, reduceCtorEq, ne_eq, implies_true, if_true, if_false, ite_not, eq_self, Tryd.ntmps23])]; simp only [wy, Nat.reduceAdd, Nat.reduceEqDiff, Nat.reduceLT, Nat.reduceMul, Nat.reduceLeDiff, Int.reduceEq, ↓reduceIte, reduceCtorEq, ne_eq, implies_true, if_true, if_false, ite_not, eq_self, Tryd.ntmps23]
  have hh : Ext h h1 := ((Ext.refl h).alloc _).trans hxt
  rcases turn f.params k hk with ⟨y, hy, hmem, hlt, c1, c2⟩ | ⟨hkk, c1⟩
  · have w1 := wrap_succ k (by omega)
    rw [drop_turn hy, List.any_cons] at hv
    by_cases e : y.name = sW
    · have e' : decide (y.name = (⟨#[122, 122, 122, 122]⟩ : ByteArray)) = true := decide_eq_true e
      rw [decide_eq_true e, Bool.true_or, Bool.true_or] at hv
      simp only [wy, Nat.reduceAdd, Nat.reduceEqDiff, Nat.reduceLT, Nat.reduceMul, Nat.reduceLeDiff, Int.reduceEq, ↓reduceIte, reduceCtorEq, ne_eq, implies_true, if_true, if_false, ite_not, eq_self, Tryd.ntmps23, c1, c2, List.length_map, getD_map Param.enc hy, penc_eq, e']
      exact Leave.pures rfl (by simp only [wy, Nat.reduceAdd, Nat.reduceEqDiff, Nat.reduceLT, Nat.reduceMul, Nat.reduceLeDiff, Int.reduceEq, ↓reduceIte, reduceCtorEq, ne_eq, implies_true, if_true, if_false, ite_not, eq_self, oneOf, hv] <;> rfl) (hh.alloc _) rfl
    · have e' : decide (y.name = (⟨#[122, 122, 122, 122]⟩ : ByteArray)) = false := decide_eq_false e
      rw [decide_eq_false e, Bool.false_or] at hv
      simp only [wy, Nat.reduceAdd, Nat.reduceEqDiff, Nat.reduceLT, Nat.reduceMul, Nat.reduceLeDiff, Int.reduceEq, ↓reduceIte, reduceCtorEq, ne_eq, implies_true, if_true, if_false, ite_not, eq_self, Tryd.ntmps23, c1, c2, List.length_map, getD_map Param.enc hy, penc_eq, e', w1]
      exact next (k + 1) _ _ (by omega) ⟨hlt, hxt.alloc _, hv⟩ (by simp only [wy, Nat.reduceAdd, Nat.reduceEqDiff, Nat.reduceLT, Nat.reduceMul, Nat.reduceLeDiff, Int.reduceEq, ↓reduceIte, reduceCtorEq, ne_eq, implies_true, if_true, if_false, ite_not, eq_self, Tryd.ntmps23])
  · rw [hkk, List.drop_length, List.any_nil, Bool.false_or] at hv
    simp only [wy, Nat.reduceAdd, Nat.reduceEqDiff, Nat.reduceLT, Nat.reduceMul, Nat.reduceLeDiff, Int.reduceEq, ↓reduceIte, reduceCtorEq, ne_eq, implies_true, if_true, if_false, ite_not, eq_self, Tryd.ntmps23, c1, hb1]
    refine Stop.fact (ac40 x hx _) rfl (by first | rfl | simp only [wy, Nat.reduceAdd, Nat.reduceEqDiff, Nat.reduceLT, Nat.reduceMul, Nat.reduceLeDiff, Int.reduceEq, ↓reduceIte, reduceCtorEq, ne_eq, implies_true, if_true, if_false, ite_not, eq_self, Tryd.ntmps23, enc_eq, fgt_mapenc]) (by simp only [wy, Nat.reduceAdd, Nat.reduceEqDiff, Nat.reduceLT, Nat.reduceMul, Nat.reduceLeDiff, Int.reduceEq, ↓reduceIte, reduceCtorEq, ne_eq, implies_true, if_true, if_false, ite_not, eq_self, Tryd.ntmps23]) (caps := []) (by simp only [wy, Nat.reduceAdd, Nat.reduceEqDiff, Nat.reduceLT, Nat.reduceMul, Nat.reduceLeDiff, Int.reduceEq, ↓reduceIte, reduceCtorEq, ne_eq, implies_true, if_true, if_false, ite_not, eq_self, enc_eq, fgt_mapenc]) en_40 (by simp only [wy, Nat.reduceAdd, Nat.reduceEqDiff, Nat.reduceLT, Nat.reduceMul, Nat.reduceLeDiff, Int.reduceEq, ↓reduceIte, reduceCtorEq, ne_eq, implies_true, if_true, if_false, ite_not, eq_self, enc_eq, fgt_mapenc] <;> rfl) (Ev.sound 100 _ _ _ _ ?_)
    simp only [wy, Nat.reduceAdd, Nat.reduceEqDiff, Nat.reduceLT, Nat.reduceMul, Nat.reduceLeDiff, Int.reduceEq, ↓reduceIte, reduceCtorEq, ne_eq, implies_true, if_true, if_false, ite_not, eq_self, Tryd.ntmps23]
    exact Leave.pures rfl (by simp only [wy, Nat.reduceAdd, Nat.reduceEqDiff, Nat.reduceLT, Nat.reduceMul, Nat.reduceLeDiff, Int.reduceEq, ↓reduceIte, reduceCtorEq, ne_eq, implies_true, if_true, if_false, ite_not, eq_self, oneOf, hv] <;> rfl) (hh) rfl
theorem runAll_congr {fs gs : List Typ} {e e' : Env} (h : fs.map (fun f => f e) = gs.map fun g => g e') : runAll fs e = runAll gs e' := by
  induction fs generalizing gs with
  | nil => cases gs with
    | nil => rfl
    | cons g gs => cases h
  | cons f fs ih => cases gs with
    | nil => cases h
    | cons g gs =>
      simp only [List.map_cons, List.cons.injEq] at h
      unfold runAll
      rw [h.1, ih h.2]
theorem chk_weak {lib : List Fn} (x : Node) : letB x = false → ∀ e e' : Env, (∀ t, t ≠ sW → e' t = e t) → e sW = none → (chk lib x e).2 = 0 → chk lib x e' = chk lib x e := by
  intro hl e e' he hs h
  rw [let_eq, Bool.or_eq_false_iff, List.any_eq_false] at hl
  obtain ⟨hl1, hl2⟩ := hl
  have kid : ∀ y ∈ x.kids, ∀ d d' : Env, (∀ t, t ≠ sW → d' t = d t) → d sW = none → (chk lib y d).2 = 0 → chk lib y d' = chk lib y d := fun y hy => chk_weak y (by simpa using hl2 y hy)
  have all : ∀ want, allE (x.kids.map (chk lib)) want e = 0 → allE (x.kids.map (chk lib)) want e' = allE (x.kids.map (chk lib)) want e := fun want hw => by
    have hr : runAll (x.kids.map (chk lib)) e' = runAll (x.kids.map (chk lib)) e := runAll_congr (by
      rw [List.map_map, List.map_map]
      exact List.map_congr_left fun y hy => kid y hy e e' he hs (allE_zero hw _ (List.mem_map_of_mem hy)))
    unfold allE
    rw [hr]
  rw [chk_eq] at h ⊢
  unfold stepE at h ⊢
  by_cases k81 : x.kind = 81
  · rw [if_pos k81] at h
    simp only [if_pos k81]
    cases q : e x.name with
    | none => rw [q] at h; cases h
    | some b => rw [he x.name (fun n => by rw [n, hs] at q; cases q), q]
  rw [if_neg k81] at h
  simp only [if_neg k81]
  by_cases k82 : x.kind = 82
  · rw [if_pos k82] at h
    simp only [if_pos k82]
    rw [all _ h]
  rw [if_neg k82] at h
  simp only [if_neg k82]
  by_cases k83 : x.kind = 83
  · rw [if_pos k83] at h
    simp only [if_pos k83]
    have h0 : (runAll (x.kids.map (chk lib)) e).2 = 0 := by
      unfold branchesE at h
      by_cases q : (runAll (x.kids.map (chk lib)) e).2 = 0
      · exact q
      · rw [if_pos q] at h; exact absurd h q
    have hr : runAll (x.kids.map (chk lib)) e' = runAll (x.kids.map (chk lib)) e := runAll_congr (by
      rw [List.map_map, List.map_map]
      exact List.map_congr_left fun y hy => kid y hy e e' he hs (runAll_zero h0 _ (List.mem_map_of_mem hy)))
    unfold branchesE
    rw [hr]
  rw [if_neg k83] at h
  simp only [if_neg k83]
  by_cases k84 : x.kind = 84
  · rw [if_pos k84] at h
    simp only [if_pos k84]
    have hne : x.name ≠ sW := fun q => by simp [k84, q] at hl1
    unfold bindE at h ⊢
    rw [he x.name hne]
    by_cases q : (e x.name).isSome = true
    · rw [if_pos q] at h; cases h
    rw [if_neg q] at h
    rw [if_neg q, if_neg q]
    match hk : x.kids with
    | [] => rfl
    | [_] => rfl
    | _ :: _ :: _ :: _ => rfl
    | [y0, y1] =>
      rw [hk] at h
      simp only [List.map_cons, List.map_nil] at h ⊢
      by_cases q0 : (chk lib y0 e).2 = 0
      · have e0 := kid y0 (by rw [hk]; simp) e e' he hs q0
        rw [if_neg (by simp [q0])] at h
        have q0' : ¬ (chk lib y0 e).2 ≠ 0 := by simp [q0]
        rw [e0, if_neg q0', if_neg q0']
        refine kid y1 (by rw [hk]; simp) _ _ (fun t ht => ?_) ?_ h
        · unfold envPut; rw [he t ht]
        · unfold envPut; rw [if_neg (fun q => hne q.symm), hs]
      · rw [if_pos q0] at h; exact absurd h q0
  rw [if_neg k84] at h
  simp only [if_neg k84]
  by_cases k85 : x.kind = 85
  · rw [if_pos k85] at h
    simp only [if_pos k85]
    unfold callE at h ⊢
    by_cases q : find lib x.name < 0
    · rw [if_pos q] at h; cases h
    rw [if_neg q] at h
    rw [if_neg q, if_neg q]
    obtain ⟨i, f, h1, h2, _⟩ := find_at lib x.name (by omega)
    rw [h1, Int.toNat_natCast, h2] at h
    rw [h1, Int.toNat_natCast, h2]
    simp only at h ⊢
    by_cases q1 : (x.kids.map (chk lib)).length ≠ f.params.length
    · rw [if_pos q1] at h; cases h
    rw [if_neg q1] at h
    rw [if_neg q1, if_neg q1, all _ h]
  rw [if_neg k85] at h
  simp only [if_neg k85]
  by_cases k86 : x.kind = 86
  · simp only [if_pos k86]
  rw [if_neg k86] at h
  simp only [if_neg k86]
  by_cases k87 : x.kind = 87
  · rw [if_pos k87] at h
    simp only [if_pos k87]
    rw [all _ h]
  rw [if_neg k87] at h
  simp only [if_neg k87]
  by_cases k88 : x.kind = 88 ∨ x.kind = 90
  · rw [if_pos k88] at h
    simp only [if_pos k88]
    rw [all _ h]
  rw [if_neg k88] at h
  simp only [if_neg k88]
  by_cases k89 : x.kind = 89
  · rw [if_pos k89] at h
    simp only [if_pos k89]
    rw [all _ h]
  simp only [if_neg k89]
 termination_by x.size
 decreasing_by exact kid_size hy
mutual
theorem bigE_size : ∀ (x : Node) (d : Nat), 0 ≤ bigE x d → bigE x d = x.size
  | .mk a b c ks, d, h => by
    unfold bigE at h ⊢
    unfold Node.size
    split at h
    · omega
    · rename_i q
      rw [if_neg q]
      have := bigL_size ks (d - 1) 1 (by omega) h
      omega
theorem bigL_size : ∀ (ks : List Node) (d : Nat) (s : Int), 0 ≤ s → 0 ≤ bigL ks d s → bigL ks d s = s + sizes ks
  | [], d, s, _, h => by unfold bigL sizes; omega
  | x :: xs, d, s, hs, h => by
    unfold bigL at h ⊢
    unfold sizes
    split at h
    · omega
    · rename_i q
      rw [if_neg q]
      have h1 := bigE_size x d (by omega)
      have h2 := bigL_size xs d (s + bigE x d) (by omega) h
      omega
end
end Go.Proofs.YtajknofacjiddaaDoor.Abs

/- The law FunWraps: the wraps. -/
namespace Go.Proofs.YtajknofacjiddaaDoor.Abs
open Go Go.RowKit
set_option linter.unusedSimpArgs false
set_option linter.unusedVariables false
set_option maxHeartbeats 4000000
set_option maxRecDepth 100000
structure Wr where
  kind : Int
  num : Int
  name : ByteArray
  kids : List Node
  raw : List (List AV)
  l : Bool
  o : Bool
def Wr.cells (w : Wr) : List AV := [.int .u8 w.kind, .int .i64 w.num, .str w.name, .slice 4 w.raw .fixed, .bool w.l, .bool w.o]
theorem wcells_eq (w : Wr) : w.cells = [.int .u8 w.kind, .int .i64 w.num, .str w.name, .slice 4 w.raw .fixed, .bool w.l, .bool w.o] := rfl
def Wr.node (w : Wr) : Node := .mk w.kind w.num w.name w.kids
def nNum : Node := .mk 80 3 .empty []
def nNil : Node := .mk 86 0 .empty []
def nVar : Node := .mk 81 0 sW []
def rX (x : Node) : List AV := [.int .u8 x.kind, .int .i64 x.num, .str x.name, kslice 4 (x.kids.map Node.enc)]
def rNum : List AV := [.int .u8 80, .int .i64 3, .str .empty, .slice 0 [] .fixed]
def rNil : List AV := [.int .u8 86, .int .i64 0, .str .empty, .slice 0 [] .fixed]
def rVar : List AV := [.int .u8 81, .int .i64 0, .str sW, .slice 0 [] .fixed]
def ws (b : Bool) (x : Node) : List Wr := [
  ⟨88, 0, .empty, [x], [rX x], false, b⟩, ⟨89, 0, .empty, [x], [rX x], true, b⟩, ⟨90, 0, .empty, [x], [rX x], false, b⟩, ⟨87, 0, .empty, [x, nNil], [rX x, rNil], true, !b⟩,
  ⟨87, 0, .empty, [nNum, x], [rNum, rX x], true, b⟩, ⟨82, 10, .empty, [nNum, x], [rNum, rX x], false, !b⟩, ⟨83, 0, .empty, [nNum, x, x], [rNum, rX x, rX x], b, true⟩,
  ⟨83, 0, .empty, [x, nNum, nNum], [rX x, rNum, rNum], false, !b⟩, ⟨83, 0, .empty, [nNum, x, nNum], [rNum, rX x, rNum], false, !b⟩, ⟨84, 0, sW, [nNum, x], [rNum, rX x], b, true⟩,
  ⟨84, 0, sW, [x, nVar], [rX x, rVar], b, true⟩]
theorem ws_cases {P : Wr → Prop} {b : Bool} {x : Node} (h1 : P ⟨88, 0, .empty, [x], [rX x], false, b⟩) (h2 : P ⟨89, 0, .empty, [x], [rX x], true, b⟩) (h3 : P ⟨90, 0, .empty, [x], [rX x], false, b⟩) (h4 : P ⟨87, 0, .empty, [x, nNil], [rX x, rNil], true, !b⟩)
    (h5 : P ⟨87, 0, .empty, [nNum, x], [rNum, rX x], true, b⟩) (h6 : P ⟨82, 10, .empty, [nNum, x], [rNum, rX x], false, !b⟩) (h7 : P ⟨83, 0, .empty, [nNum, x, x], [rNum, rX x, rX x], b, true⟩) (h8 : P ⟨83, 0, .empty, [x, nNum, nNum], [rX x, rNum, rNum], false, !b⟩)
    (h9 : P ⟨83, 0, .empty, [nNum, x, nNum], [rNum, rX x, rNum], false, !b⟩) (h10 : P ⟨84, 0, sW, [nNum, x], [rNum, rX x], b, true⟩) (h11 : P ⟨84, 0, sW, [x, nVar], [rX x, rVar], b, true⟩) : ∀ w ∈ ws b x, P w := by
  intro w hw
  unfold ws at hw
  simp only [List.mem_cons, List.not_mem_nil, or_false] at hw
  rcases hw with rfl | rfl | rfl | rfl | rfl | rfl | rfl | rfl | rfl | rfl | rfl <;> assumption
theorem fgt_rX (x : Node) : fgtL (rX x) = x.enc := by rw [enc_eq]; unfold rX; simp only [fgtL_cons, fgtL_nil, fgt_int, fgt_str, fgt_k, fgt_mapenc]
theorem ws_fgt (b : Bool) (x : Node) : ∀ w ∈ ws b x, fgtLL w.raw = w.kids.map Node.enc := by
  refine ws_cases ?_ ?_ ?_ ?_ ?_ ?_ ?_ ?_ ?_ ?_ ?_ <;> simp only [fgtLL_cons, fgtLL_nil, List.map_cons, List.map_nil, fgt_rX] <;> rfl
theorem ws_size (b : Bool) (x : Node) : ∀ w ∈ ws b x, w.node.size ≤ 2 * x.size + 3 := by
  refine ws_cases ?_ ?_ ?_ ?_ ?_ ?_ ?_ ?_ ?_ ?_ ?_ <;> simp only [Wr.node, Node.size, sizes, nNum, nNil, nVar] <;> omega
theorem ws_names (b : Bool) (x : Node) (hx : x.names) : ∀ w ∈ ws b x, w.node.names := by
  have e1 : ByteArray.empty.size ≤ 1099511627776 := by decide +kernel
  have e2 : sW.size ≤ 1099511627776 := by decide +kernel
  refine ws_cases ?_ ?_ ?_ ?_ ?_ ?_ ?_ ?_ ?_ ?_ ?_ <;> simp only [Wr.node, Node.names, namesL, nNum, nNil, nVar, e1, e2, hx, and_self, and_true, true_and]
theorem ws_form (b : Bool) (x : Node) (hx : formB x = true) : ∀ w ∈ ws b x, formB w.node = true := by
  have f1 : formB nNum = true := by decide +kernel
  have f2 : formB nNil = true := by decide +kernel
  have f3 : formB nVar = true := by decide +kernel
  have f4 : nameB sW = true := by decide +kernel
  have f5 : ByteArray.empty = (⟨#[]⟩ : ByteArray) := rfl
  refine ws_cases ?_ ?_ ?_ ?_ ?_ ?_ ?_ ?_ ?_ ?_ ?_ <;> (rw [formB_eq]; simp [Wr.node, Node.kids, nodeB, wantKids, fieldsB, Node.kind, Node.num, Node.name, f1, f2, f3, f4, f5, hx])
theorem ws_type {lib : List Fn} {ps : List Param} {x : Node} {b : Bool} (h : chk lib x (envOf ps) = (b, 0)) (hw : envOf ps sW = none) (hl : letB x = false) : ∀ w ∈ ws b x, checkE lib ps w.node = if w.o = true then (w.l, 0) else (false, 7) := by
  have hp : ∀ c, chk lib x (envPut (envOf ps) sW c) = (b, 0) := fun c => by
    rw [← h]
    exact chk_weak x hl _ _ (fun t ht => if_neg ht) hw (by rw [h])
  have hs : ∀ c, envPut (envOf ps) sW c sW = some c := fun c => if_pos rfl
  have g1 : ∀ e, chk lib nNum e = (false, 0) := fun e => rfl
  have g2 : ∀ e, chk lib nNil e = (true, 0) := fun e => rfl
  have g3 : ∀ c, chk lib nVar (envPut (envOf ps) sW c) = (c, 0) := fun c => by
    rw [chk_eq]
    simp [stepE, nVar, Node.kind, Node.name, hs]
  cases b <;> refine ws_cases ?_ ?_ ?_ ?_ ?_ ?_ ?_ ?_ ?_ ?_ ?_ <;>
    (unfold checkE Wr.node; rw [chk_eq]; simp [stepE, Node.kind, Node.name, Node.kids, allE, runAll, branchesE, bindE, h, hp, g1, g2, g3, hw])
theorem env_none {ps : List Param} (h : (ps.any fun p => decide (p.name = sW)) = false) : envOf ps sW = none := by
  have hs := see_env ps sW
  unfold seeE at hs
  have : ps.reverse.find? (fun p => decide (p.name = sW)) = none := by
    rw [List.find?_eq_none]
    intro p hp
    rw [List.any_eq_false] at h
    exact h p (List.mem_reverse.1 hp)
  rw [this] at hs
  cases q : envOf ps sW with
  | none => rfl
  | some b => rw [q] at hs; cases hs
theorem ac7 (lib : List Fn) (hlib : LibOk lib) (hok : ∀ f ∈ lib, FnOk f) (i : Int) (x : Node) (hx : x.wf) (h : AHeap) : AC sd 7 [vlib lib, .int .i64 i, .agg x.enc] h (Pure1 (.bool true) h) := by
  refine AC.pure Tryd.func7 rfl Tryd.ntmps7 (by show 3 ≤ 155; decide) ?_
  refine Ev.sound 150 _ _ _ _ ?_
  have hh : Ext h (h.alloc (.cells [.int .u8 x.kind, .int .i64 x.num, .str x.name, kslice 4 (x.kids.map Node.enc)])) := (Ext.refl h).alloc _
  have hc20 : ((20 : Nat) : Int) = 20 := rfl
  simp only [argFr, vlib, enc_eq]
  simp only [wy, Nat.reduceAdd, Nat.reduceEqDiff, Nat.reduceLT, Nat.reduceMul, Nat.reduceLeDiff, Int.reduceEq, ↓reduceIte, reduceCtorEq, ne_eq, implies_true, if_true, if_false, ite_not, eq_self, Tryd.ntmps7]
  refine Stop.fact (ac11 _) rfl (by first | rfl | simp only [wy, Nat.reduceAdd, Nat.reduceEqDiff, Nat.reduceLT, Nat.reduceMul, Nat.reduceLeDiff, Int.reduceEq, ↓reduceIte, reduceCtorEq, ne_eq, implies_true, if_true, if_false, ite_not, eq_self, Tryd.ntmps7]) (by simp only [wy, Nat.reduceAdd, Nat.reduceEqDiff, Nat.reduceLT, Nat.reduceMul, Nat.reduceLeDiff, Int.reduceEq, ↓reduceIte, reduceCtorEq, ne_eq, implies_true, if_true, if_false, ite_not, eq_self, Tryd.ntmps7]) (caps := []) (by simp only [wy, Nat.reduceAdd, Nat.reduceEqDiff, Nat.reduceLT, Nat.reduceMul, Nat.reduceLeDiff, Int.reduceEq, ↓reduceIte, reduceCtorEq, ne_eq, implies_true, if_true, if_false, ite_not, eq_self]) en_11 (by simp only [wy, Nat.reduceAdd, Nat.reduceEqDiff, Nat.reduceLT, Nat.reduceMul, Nat.reduceLeDiff, Int.reduceEq, ↓reduceIte, reduceCtorEq, ne_eq, implies_true, if_true, if_false, ite_not, eq_self] <;> rfl) (Ev.sound 100 _ _ _ _ ?_)
  simp only [wy, Nat.reduceAdd, Nat.reduceEqDiff, Nat.reduceLT, Nat.reduceMul, Nat.reduceLeDiff, Int.reduceEq, ↓reduceIte, reduceCtorEq, ne_eq, implies_true, if_true, if_false, ite_not, eq_self, Tryd.ntmps7]
  refine Stop.fact (ac12 lib hlib hok _) rfl (by first | rfl | simp only [wy, Nat.reduceAdd, Nat.reduceEqDiff, Nat.reduceLT, Nat.reduceMul, Nat.reduceLeDiff, Int.reduceEq, ↓reduceIte, reduceCtorEq, ne_eq, implies_true, if_true, if_false, ite_not, eq_self, Tryd.ntmps7, vlib, fgt_mapfenc]) (by simp only [wy, Nat.reduceAdd, Nat.reduceEqDiff, Nat.reduceLT, Nat.reduceMul, Nat.reduceLeDiff, Int.reduceEq, ↓reduceIte, reduceCtorEq, ne_eq, implies_true, if_true, if_false, ite_not, eq_self, Tryd.ntmps7]) (caps := []) (by simp only [wy, Nat.reduceAdd, Nat.reduceEqDiff, Nat.reduceLT, Nat.reduceMul, Nat.reduceLeDiff, Int.reduceEq, ↓reduceIte, reduceCtorEq, ne_eq, implies_true, if_true, if_false, ite_not, eq_self, vlib, fgt_mapfenc]) en_12 (by simp only [wy, Nat.reduceAdd, Nat.reduceEqDiff, Nat.reduceLT, Nat.reduceMul, Nat.reduceLeDiff, Int.reduceEq, ↓reduceIte, reduceCtorEq, ne_eq, implies_true, if_true, if_false, ite_not, eq_self, vlib, fgt_mapfenc] <;> rfl) (Ev.sound 100 _ _ _ _ ?_)
  cases a1 : greatE lib
  case true =>
    simp only [wy, Nat.reduceAdd, Nat.reduceEqDiff, Nat.reduceLT, Nat.reduceMul, Nat.reduceLeDiff, Int.reduceEq, ↓reduceIte, reduceCtorEq, ne_eq, implies_true, if_true, if_false, ite_not, eq_self, Tryd.ntmps7]
    exact Leave.pures rfl (by simp only [wy, Nat.reduceAdd, Nat.reduceEqDiff, Nat.reduceLT, Nat.reduceMul, Nat.reduceLeDiff, Int.reduceEq, ↓reduceIte, reduceCtorEq, ne_eq, implies_true, if_true, if_false, ite_not, eq_self, oneOf] <;> rfl) (hh) rfl
  simp only [wy, Nat.reduceAdd, Nat.reduceEqDiff, Nat.reduceLT, Nat.reduceMul, Nat.reduceLeDiff, Int.reduceEq, ↓reduceIte, reduceCtorEq, ne_eq, implies_true, if_true, if_false, ite_not, eq_self, Tryd.ntmps7]
  refine Stop.fact (ac15 x hx 20 (by decide) _) rfl (by first | rfl | simp only [wy, Nat.reduceAdd, Nat.reduceEqDiff, Nat.reduceLT, Nat.reduceMul, Nat.reduceLeDiff, Int.reduceEq, ↓reduceIte, reduceCtorEq, ne_eq, implies_true, if_true, if_false, ite_not, eq_self, Tryd.ntmps7, enc_eq, fgt_mapenc, hc20]) (by simp only [wy, Nat.reduceAdd, Nat.reduceEqDiff, Nat.reduceLT, Nat.reduceMul, Nat.reduceLeDiff, Int.reduceEq, ↓reduceIte, reduceCtorEq, ne_eq, implies_true, if_true, if_false, ite_not, eq_self, Tryd.ntmps7]) (caps := []) (by simp only [wy, Nat.reduceAdd, Nat.reduceEqDiff, Nat.reduceLT, Nat.reduceMul, Nat.reduceLeDiff, Int.reduceEq, ↓reduceIte, reduceCtorEq, ne_eq, implies_true, if_true, if_false, ite_not, eq_self, enc_eq, fgt_mapenc, hc20]) en_15 (by simp only [wy, Nat.reduceAdd, Nat.reduceEqDiff, Nat.reduceLT, Nat.reduceMul, Nat.reduceLeDiff, Int.reduceEq, ↓reduceIte, reduceCtorEq, ne_eq, implies_true, if_true, if_false, ite_not, eq_self, enc_eq, fgt_mapenc, hc20] <;> rfl) (Ev.sound 100 _ _ _ _ ?_)
  by_cases b2 : bigE x 20 < 0
  · simp only [wy, Nat.reduceAdd, Nat.reduceEqDiff, Nat.reduceLT, Nat.reduceMul, Nat.reduceLeDiff, Int.reduceEq, ↓reduceIte, reduceCtorEq, ne_eq, implies_true, if_true, if_false, ite_not, eq_self, Tryd.ntmps7, decide_eq_true b2]
    exact Leave.pures rfl (by simp only [wy, Nat.reduceAdd, Nat.reduceEqDiff, Nat.reduceLT, Nat.reduceMul, Nat.reduceLeDiff, Int.reduceEq, ↓reduceIte, reduceCtorEq, ne_eq, implies_true, if_true, if_false, ite_not, eq_self, oneOf] <;> rfl) (hh) rfl
  simp only [wy, Nat.reduceAdd, Nat.reduceEqDiff, Nat.reduceLT, Nat.reduceMul, Nat.reduceLeDiff, Int.reduceEq, ↓reduceIte, reduceCtorEq, ne_eq, implies_true, if_true, if_false, ite_not, eq_self, Tryd.ntmps7, decide_eq_false b2]
  refine Stop.fact (ac15 x hx 20 (by decide) _) rfl (by first | rfl | simp only [wy, Nat.reduceAdd, Nat.reduceEqDiff, Nat.reduceLT, Nat.reduceMul, Nat.reduceLeDiff, Int.reduceEq, ↓reduceIte, reduceCtorEq, ne_eq, implies_true, if_true, if_false, ite_not, eq_self, Tryd.ntmps7, enc_eq, fgt_mapenc, hc20]) (by simp only [wy, Nat.reduceAdd, Nat.reduceEqDiff, Nat.reduceLT, Nat.reduceMul, Nat.reduceLeDiff, Int.reduceEq, ↓reduceIte, reduceCtorEq, ne_eq, implies_true, if_true, if_false, ite_not, eq_self, Tryd.ntmps7]) (caps := []) (by simp only [wy, Nat.reduceAdd, Nat.reduceEqDiff, Nat.reduceLT, Nat.reduceMul, Nat.reduceLeDiff, Int.reduceEq, ↓reduceIte, reduceCtorEq, ne_eq, implies_true, if_true, if_false, ite_not, eq_self, enc_eq, fgt_mapenc, hc20]) en_15 (by simp only [wy, Nat.reduceAdd, Nat.reduceEqDiff, Nat.reduceLT, Nat.reduceMul, Nat.reduceLeDiff, Int.reduceEq, ↓reduceIte, reduceCtorEq, ne_eq, implies_true, if_true, if_false, ite_not, eq_self, enc_eq, fgt_mapenc, hc20] <;> rfl) (Ev.sound 100 _ _ _ _ ?_)
  by_cases b3 : 60 < bigE x 20
  · simp only [wy, Nat.reduceAdd, Nat.reduceEqDiff, Nat.reduceLT, Nat.reduceMul, Nat.reduceLeDiff, Int.reduceEq, ↓reduceIte, reduceCtorEq, ne_eq, implies_true, if_true, if_false, ite_not, eq_self, Tryd.ntmps7, decide_eq_true b3]
    exact Leave.pures rfl (by simp only [wy, Nat.reduceAdd, Nat.reduceEqDiff, Nat.reduceLT, Nat.reduceMul, Nat.reduceLeDiff, Int.reduceEq, ↓reduceIte, reduceCtorEq, ne_eq, implies_true, if_true, if_false, ite_not, eq_self, oneOf] <;> rfl) (hh) rfl
  have hsz := bigE_size x 20 (by omega)
  simp only [wy, Nat.reduceAdd, Nat.reduceEqDiff, Nat.reduceLT, Nat.reduceMul, Nat.reduceLeDiff, Int.reduceEq, ↓reduceIte, reduceCtorEq, ne_eq, implies_true, if_true, if_false, ite_not, eq_self, Tryd.ntmps7, decide_eq_false b3]
  refine Stop.fact (ac16 lib hlib hok i x hx _) rfl (by first | rfl | simp only [wy, Nat.reduceAdd, Nat.reduceEqDiff, Nat.reduceLT, Nat.reduceMul, Nat.reduceLeDiff, Int.reduceEq, ↓reduceIte, reduceCtorEq, ne_eq, implies_true, if_true, if_false, ite_not, eq_self, Tryd.ntmps7, enc_eq, fgt_mapenc, vlib, fgt_mapfenc]) (by simp only [wy, Nat.reduceAdd, Nat.reduceEqDiff, Nat.reduceLT, Nat.reduceMul, Nat.reduceLeDiff, Int.reduceEq, ↓reduceIte, reduceCtorEq, ne_eq, implies_true, if_true, if_false, ite_not, eq_self, Tryd.ntmps7]) (caps := []) (by simp only [wy, Nat.reduceAdd, Nat.reduceEqDiff, Nat.reduceLT, Nat.reduceMul, Nat.reduceLeDiff, Int.reduceEq, ↓reduceIte, reduceCtorEq, ne_eq, implies_true, if_true, if_false, ite_not, eq_self, enc_eq, fgt_mapenc, vlib, fgt_mapfenc]) en_16 (by simp only [wy, Nat.reduceAdd, Nat.reduceEqDiff, Nat.reduceLT, Nat.reduceMul, Nat.reduceLeDiff, Int.reduceEq, ↓reduceIte, reduceCtorEq, ne_eq, implies_true, if_true, if_false, ite_not, eq_self, enc_eq, fgt_mapenc, vlib, fgt_mapfenc] <;> rfl) (Ev.sound 100 _ _ _ _ ?_)
  have hn : typeE lib i x = if i < 0 ∨ (lib.length : Int) ≤ i then (false, 2) else if formB x = false then (false, 3) else match lib[i.toNat]? with | some f => checkE lib f.params x | none => (false, 0) := rfl
  by_cases he : (typeE lib i x).2 = 0
  case neg =>
    have hf1 : (typeE lib i x).1 = false := by
      by_cases r1 : i < 0 ∨ (lib.length : Int) ≤ i
      · rw [if_pos r1] at hn; rw [hn]
      rw [if_neg r1] at hn
      by_cases r2 : formB x = false
      · rw [if_pos r2] at hn; rw [hn]
      rw [if_neg r2] at hn
      split at hn
      · rw [hn] at he ⊢
        unfold checkE at he ⊢
        simp only at he ⊢
        rw [decide_eq_false he, Bool.and_false]
      · rw [hn]
    simp only [wy, Nat.reduceAdd, Nat.reduceEqDiff, Nat.reduceLT, Nat.reduceMul, Nat.reduceLeDiff, Int.reduceEq, ↓reduceIte, reduceCtorEq, ne_eq, implies_true, if_true, if_false, ite_not, eq_self, Tryd.ntmps7, tyv, decide_eq_false he, hf1]
    exact Leave.pures rfl (by simp only [wy, Nat.reduceAdd, Nat.reduceEqDiff, Nat.reduceLT, Nat.reduceMul, Nat.reduceLeDiff, Int.reduceEq, ↓reduceIte, reduceCtorEq, ne_eq, implies_true, if_true, if_false, ite_not, eq_self, oneOf] <;> rfl) (hh) rfl
  have r1 : ¬ (i < 0 ∨ (lib.length : Int) ≤ i) := fun r => by rw [if_pos r] at hn; rw [hn] at he; cases he
  rw [if_neg r1] at hn
  have hform : formB x = true := by
    by_cases r2 : formB x = false
    · rw [if_pos r2] at hn; rw [hn] at he; cases he
    · simpa using r2
  rw [if_neg (by simp [hform])] at hn
  obtain ⟨k, rfl⟩ : ∃ k : Nat, i = k := ⟨i.toNat, by omega⟩
  obtain ⟨f, hf⟩ : ∃ f, lib[k]? = some f := ⟨_, List.getElem?_eq_getElem (by omega)⟩
  rw [Int.toNat_natCast, hf] at hn
  simp only at hn
  obtain ⟨b, hb⟩ : ∃ b, chk lib x (envOf f.params) = (b, 0) := ⟨(chk lib x (envOf f.params)).1, by
    have : (chk lib x (envOf f.params)).2 = 0 := by rw [hn] at he; unfold checkE at he; exact he
    rw [← this]⟩
  rw [checkE_ok hb] at hn
  simp only [wy, Nat.reduceAdd, Nat.reduceEqDiff, Nat.reduceLT, Nat.reduceMul, Nat.reduceLeDiff, Int.reduceEq, ↓reduceIte, reduceCtorEq, ne_eq, implies_true, if_true, if_false, ite_not, eq_self, Tryd.ntmps7, hn, tyv]
  refine Ev.sound 150 _ _ _ _ ?_
  simp only [wy, Nat.reduceAdd, Nat.reduceEqDiff, Nat.reduceLT, Nat.reduceMul, Nat.reduceLeDiff, Int.reduceEq, ↓reduceIte, reduceCtorEq, ne_eq, implies_true, if_true, if_false, ite_not, eq_self, Tryd.ntmps7]
  have hW : ∀ w ∈ ws b x, typeE lib k w.node = checkE lib f.params w.node := fun w hw => by
    unfold typeE
    rw [if_neg r1, if_neg (by rw [ws_form b x hform w hw]; decide), Int.toNat_natCast, hf]
  have hsz2 : x.size ≤ 60 := by omega
  refine Stop.round (σ := Nat) (fun j => 11 - j) (fun j => [(0, kslice 7 (lib.map Fn.enc)), (1, .int .i64 k), (5, .ptr h.next 0), (112, .slice 6 ((ws b x).map Wr.cells) .fixed), (113, .int .i64 (ws b x).length), (114, .int .i64 j)])
    (fun j h1 => j ≤ 11 ∧ Ext (h.alloc (.cells [.int .u8 x.kind, .int .i64 x.num, .str x.name, kslice 4 (x.kids.map Node.enc)])) h1) 0 ⟨Nat.zero_le _, ?_⟩ ?_ ?_
  · exact ((Ext.refl _).alloc _).alloc _
  · simp only [wy, Nat.reduceAdd, Nat.reduceEqDiff, Nat.reduceLT, Nat.reduceMul, Nat.reduceLeDiff, Int.reduceEq, ↓reduceIte, reduceCtorEq, ne_eq, implies_true, if_true, if_false, ite_not, eq_self, Tryd.ntmps7, Int.natCast_zero]
    first | rfl | exact ⟨rfl, rfl⟩ | exact ⟨rfl, rfl, trivial⟩
  rintro j h1 ⟨hj, hxt⟩ next
  refine Ev.sound 150 _ _ _ _ ?_
  have hb1 : h1.get h.next = some (.cells [.int .u8 x.kind, .int .i64 x.num, .str x.name, kslice 4 (x.kids.map Node.enc)]) := by rw [hxt.get _ (by simp only [wy, Nat.reduceAdd, Nat.reduceEqDiff, Nat.reduceLT, Nat.reduceMul, Nat.reduceLeDiff, Int.reduceEq, ↓reduceIte, reduceCtorEq, ne_eq, implies_true, if_true, if_false, ite_not, eq_self, Tryd.ntmps7])]; simp only [wy, Nat.reduceAdd, Nat.reduceEqDiff, Nat.reduceLT, Nat.reduceMul, Nat.reduceLeDiff, Int.reduceEq, ↓reduceIte, reduceCtorEq, ne_eq, implies_true, if_true, if_false, ite_not, eq_self, Tryd.ntmps7]
  have n1 : (h.next = h1.next) = False := by have := get_lt h1 _ hb1; simp; omega
  have hh1 : Ext h h1 := hh.trans hxt
  rcases turn (ws b x) j hj with ⟨w, hw, hmem, hlt, c1, c2⟩ | ⟨hjj, c1⟩
  · have w1 := wrap_succ j (by omega)
    have hlt' : j < 11 := hlt
    have hwf : w.node.wf := ⟨by have := ws_size b x w hmem; omega, ws_names b x hx.names w hmem⟩
    have hfg : fgtL [.int .u8 w.kind, .int .i64 w.num, .str w.name, .slice 4 w.raw .fixed] = w.node.enc := by
      simp only [fgtL_cons, fgtL_nil, fgt_int, fgt_str, fgt_slice, ws_fgt b x w hmem]
      rw [enc_eq]; rfl
    have hfg2 : (AV.agg [.int .u8 w.kind, .int .i64 w.num, .str w.name, .slice 4 w.raw .fixed]).fgt = .agg w.node.enc := by rw [fgt_agg, hfg]
    simp only [wy, Nat.reduceAdd, Nat.reduceEqDiff, Nat.reduceLT, Nat.reduceMul, Nat.reduceLeDiff, Int.reduceEq, ↓reduceIte, reduceCtorEq, ne_eq, implies_true, if_true, if_false, ite_not, eq_self, Tryd.ntmps7, c1, c2, List.length_map, getD_map Wr.cells hw, wcells_eq]
    refine Stop.fact (ac16 lib hlib hok k w.node hwf _) rfl rfl (by simp only [wy, Nat.reduceAdd, Nat.reduceEqDiff, Nat.reduceLT, Nat.reduceMul, Nat.reduceLeDiff, Int.reduceEq, ↓reduceIte, reduceCtorEq, ne_eq, implies_true, if_true, if_false, ite_not, eq_self, Tryd.ntmps7]) (caps := []) (by simp only [wy, Nat.reduceAdd, Nat.reduceEqDiff, Nat.reduceLT, Nat.reduceMul, Nat.reduceLeDiff, Int.reduceEq, ↓reduceIte, reduceCtorEq, ne_eq, implies_true, if_true, if_false, ite_not, eq_self, Tryd.ntmps7]) en_16 (by simp only [List.map_cons, List.map_nil, List.cons_append, List.nil_append, fgtL_cons, fgtL_nil, rho_tmp, get_cons, hfg2]; simp only [wy, Nat.reduceAdd, Nat.reduceEqDiff, Nat.reduceLT, Nat.reduceMul, Nat.reduceLeDiff, Int.reduceEq, ↓reduceIte, reduceCtorEq, ne_eq, implies_true, if_true, if_false, ite_not, eq_self, Tryd.ntmps7, hfg2, fgt_mapfenc, vlib]) (Ev.sound 150 _ _ _ _ ?_)
    simp only [wy, Nat.reduceAdd, Nat.reduceEqDiff, Nat.reduceLT, Nat.reduceMul, Nat.reduceLeDiff, Int.reduceEq, ↓reduceIte, reduceCtorEq, ne_eq, implies_true, if_true, if_false, ite_not, eq_self, Tryd.ntmps7, tyv, n1, hb1]
    refine Stop.fact (ac23 lib hlib k f hf x hx _) rfl (by first | rfl | simp only [wy, Nat.reduceAdd, Nat.reduceEqDiff, Nat.reduceLT, Nat.reduceMul, Nat.reduceLeDiff, Int.reduceEq, ↓reduceIte, reduceCtorEq, ne_eq, implies_true, if_true, if_false, ite_not, eq_self, Tryd.ntmps7, vlib, fgt_mapfenc, enc_eq, fgt_mapenc]) (by simp only [wy, Nat.reduceAdd, Nat.reduceEqDiff, Nat.reduceLT, Nat.reduceMul, Nat.reduceLeDiff, Int.reduceEq, ↓reduceIte, reduceCtorEq, ne_eq, implies_true, if_true, if_false, ite_not, eq_self, Tryd.ntmps7]) (caps := []) (by simp only [wy, Nat.reduceAdd, Nat.reduceEqDiff, Nat.reduceLT, Nat.reduceMul, Nat.reduceLeDiff, Int.reduceEq, ↓reduceIte, reduceCtorEq, ne_eq, implies_true, if_true, if_false, ite_not, eq_self, vlib, fgt_mapfenc, enc_eq, fgt_mapenc]) en_23 (by simp only [wy, Nat.reduceAdd, Nat.reduceEqDiff, Nat.reduceLT, Nat.reduceMul, Nat.reduceLeDiff, Int.reduceEq, ↓reduceIte, reduceCtorEq, ne_eq, implies_true, if_true, if_false, ite_not, eq_self, vlib, fgt_mapfenc, enc_eq, fgt_mapenc] <;> rfl) (Ev.sound 100 _ _ _ _ ?_)
    cases hbd : boundB f x
    case true =>
      simp only [wy, Nat.reduceAdd, Nat.reduceEqDiff, Nat.reduceLT, Nat.reduceMul, Nat.reduceLeDiff, Int.reduceEq, ↓reduceIte, reduceCtorEq, ne_eq, implies_true, if_true, if_false, ite_not, eq_self, Tryd.ntmps7, w1]
      exact next (j + 1) _ _ (by omega) ⟨hlt', hxt.alloc _⟩ (by simp only [wy, Nat.reduceAdd, Nat.reduceEqDiff, Nat.reduceLT, Nat.reduceMul, Nat.reduceLeDiff, Int.reduceEq, ↓reduceIte, reduceCtorEq, ne_eq, implies_true, if_true, if_false, ite_not, eq_self, Tryd.ntmps7])
    unfold boundB at hbd
    rw [Bool.or_eq_false_iff] at hbd
    have hT := hW w hmem
    rw [ws_type hb (env_none hbd.1) hbd.2 w hmem] at hT
    cases ho : w.o
    · rw [ho, if_neg (by decide)] at hT
      simp only [wy, Nat.reduceAdd, Nat.reduceEqDiff, Nat.reduceLT, Nat.reduceMul, Nat.reduceLeDiff, Int.reduceEq, ↓reduceIte, reduceCtorEq, ne_eq, implies_true, if_true, if_false, ite_not, eq_self, Tryd.ntmps7, hT, ho]
      simp only [wy, Nat.reduceAdd, Nat.reduceEqDiff, Nat.reduceLT, Nat.reduceMul, Nat.reduceLeDiff, Int.reduceEq, ↓reduceIte, reduceCtorEq, ne_eq, implies_true, if_true, if_false, ite_not, eq_self, Tryd.ntmps7, hT, ho, w1]
      exact next (j + 1) _ _ (by omega) ⟨hlt', hxt.alloc _⟩ (by simp only [wy, Nat.reduceAdd, Nat.reduceEqDiff, Nat.reduceLT, Nat.reduceMul, Nat.reduceLeDiff, Int.reduceEq, ↓reduceIte, reduceCtorEq, ne_eq, implies_true, if_true, if_false, ite_not, eq_self, Tryd.ntmps7])
    · rw [ho, if_pos rfl] at hT
      cases hl2 : w.l
      · rw [hl2] at hT
        simp only [wy, Nat.reduceAdd, Nat.reduceEqDiff, Nat.reduceLT, Nat.reduceMul, Nat.reduceLeDiff, Int.reduceEq, ↓reduceIte, reduceCtorEq, ne_eq, implies_true, if_true, if_false, ite_not, eq_self, Tryd.ntmps7, hT, ho, hl2, w1]
        exact next (j + 1) _ _ (by omega) ⟨hlt', hxt.alloc _⟩ (by simp only [wy, Nat.reduceAdd, Nat.reduceEqDiff, Nat.reduceLT, Nat.reduceMul, Nat.reduceLeDiff, Int.reduceEq, ↓reduceIte, reduceCtorEq, ne_eq, implies_true, if_true, if_false, ite_not, eq_self, Tryd.ntmps7])
      · rw [hl2] at hT
        simp only [wy, Nat.reduceAdd, Nat.reduceEqDiff, Nat.reduceLT, Nat.reduceMul, Nat.reduceLeDiff, Int.reduceEq, ↓reduceIte, reduceCtorEq, ne_eq, implies_true, if_true, if_false, ite_not, eq_self, Tryd.ntmps7, hT, ho, hl2, w1]
        exact next (j + 1) _ _ (by omega) ⟨hlt', hxt.alloc _⟩ (by simp only [wy, Nat.reduceAdd, Nat.reduceEqDiff, Nat.reduceLT, Nat.reduceMul, Nat.reduceLeDiff, Int.reduceEq, ↓reduceIte, reduceCtorEq, ne_eq, implies_true, if_true, if_false, ite_not, eq_self, Tryd.ntmps7])
  · simp only [wy, Nat.reduceAdd, Nat.reduceEqDiff, Nat.reduceLT, Nat.reduceMul, Nat.reduceLeDiff, Int.reduceEq, ↓reduceIte, reduceCtorEq, ne_eq, implies_true, if_true, if_false, ite_not, eq_self, Tryd.ntmps7, c1]
    exact Leave.pures rfl (by simp only [wy, Nat.reduceAdd, Nat.reduceEqDiff, Nat.reduceLT, Nat.reduceMul, Nat.reduceLeDiff, Int.reduceEq, ↓reduceIte, reduceCtorEq, ne_eq, implies_true, if_true, if_false, ite_not, eq_self, oneOf] <;> rfl) (hh1) rfl
end Go.Proofs.YtajknofacjiddaaDoor.Abs
