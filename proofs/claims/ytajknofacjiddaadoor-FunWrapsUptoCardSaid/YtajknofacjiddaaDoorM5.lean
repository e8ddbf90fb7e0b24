/- Part 5 of the reckoning: the abstract machine, its soundness, and the contracts of the functions that the law reaches. -/
import Derived.Test.YtajknofacjiddaaDoorM4
import Derived.Test.YtajknofacjiddaaDoorM3
/- The reference's Check. -/
namespace Go.Proofs.YtajknofacjiddaaDoor.Abs
open Go Go.RowKit
set_option linter.unusedSimpArgs false
set_option linter.unusedVariables false
set_option maxHeartbeats 4000000
set_option maxRecDepth 100000
noncomputable def K18 : List Item := match Tryd.f18.body with | some c => atLoop 1 100 [.code c] | none => []
theorem find_at (lib : List Fn) (s : ByteArray) (h : 0 ≤ find lib s) : ∃ (i : Nat) (f : Fn), find lib s = (i : Int) ∧ lib[i]? = some f ∧ f.name = s := by
  rcases pos_at (fun f : Fn => decide (f.name = s)) lib 0 with h1 | ⟨i, f, h1, h2, h3⟩
  · exfalso; unfold find at h; omega
  · exact ⟨i, f, by unfold find; rw [h1, Nat.zero_add], h2, of_decide_eq_true h3⟩
theorem fgt_snoc (ps : List Param) (s : ByteArray) (b : Bool) : fgtLL (ps.map Param.enc ++ [[.str s, .bool b]]) = ps.map Param.enc ++ [[.str s, .bool b]] := by
  have := fgt_mappenc (ps ++ [⟨s, b⟩])
  rw [List.map_append] at this
  exact this
theorem kid_depth {x y : Node} (h : y ∈ x.kids) : y.depth < x.depth := by
  rw [depth_eq x]
  have : ∀ ks : List Node, y ∈ ks → y.depth ≤ depths ks := by
    intro ks
    induction ks with
    | nil => intro h; cases h
    | cons z zs ih =>
      intro h
      unfold depths
      cases h with
      | head => omega
      | tail _ h => have := ih h; omega
  have := this _ h
  omega
theorem ac18 (lib : List Fn) (hlib : LibOk lib) (x : Node) : x.wf → formB x = true → ∀ (ps : List Param), ps.length + x.depth ≤ 1048576 → ∀ h : AHeap, AC sd 18 [vlib lib, vparams ps, .agg x.enc] h (Pure1 (tyv (checkE lib ps x)) h) := by
  intro hw hform ps hps h
  refine AC.pure Tryd.func18 rfl Tryd.ntmps18 (by show 3 ≤ 212; decide) ?_
  refine Ev.sound 100 _ _ _ _ ?_
  simp only [argFr, enc_eq, vlib, vparams]
  have hlen := hw.len
  obtain ⟨hfk, hwk⟩ := form_kids hform
  have main : x.kind ≠ 84 → ∀ (v8 v9 : AV), (x.kind = 81 → ∃ b, v9 = .bool b ∧ envOf ps x.name = some b) → (x.kind = 85 → ∃ f i, v8 = .int .i64 ((i : Nat) : Int) ∧ CallOk lib x f i) →
      ∀ fr : Fr, fr.Has [(0, vlib lib), (1, vparams ps), (5, .ptr h.next 0), (8, v8), (9, v9), (14, .slice 0 [] .fixed), (15, .int .i64 0)] → Stop sd Tryd.f18 (fun r h' => Dropped h (Pure1 (tyv (checkE lib ps x)) h) r.fgt h') K18 [] fr (h.alloc (.cells [.int .u8 x.kind, .int .i64 x.num, .str x.name, kslice 4 (x.kids.map Node.enc)])) := by
    intro k84 v8 v9 h81 h85 fr hfr
    obtain ⟨k, hK⟩ : ∃ k, K18 = k := ⟨_, rfl⟩
    have hK2 := hK
    simp only [K18, Tryd.f18, atLoop, Nat.reduceEqDiff, if_false, if_true, ↓reduceIte] at hK2
    rw [hK, ← hK2]
    clear hK hK2
    refine Stop.round (σ := List Bool × Option Nat) (fun s => x.kids.length - s.1.length) (fun s => [(0, vlib lib), (1, vparams ps), (5, .ptr h.next 0), (8, v8), (9, v9), (14, gotV s.2 1 (s.1.map fun b => [.bool b])), (15, .int .i64 s.1.length)])
      (fun s h1 => s.1.length ≤ x.kids.length ∧ GotOk h h1 s.2 s.1.length ∧ runAll (x.kids.map (chk lib)) (envOf ps) = pre s.1 (runAll ((x.kids.drop s.1.length).map (chk lib)) (envOf ps)) ∧ Ext (h.alloc (.cells [.int .u8 x.kind, .int .i64 x.num, .str x.name, kslice 4 (x.kids.map Node.enc)])) h1) ([], none) ⟨Nat.zero_le _, ⟨fun _ => rfl, fun t e => by cases e⟩, (pre_nil _ _).symm, Ext.refl _⟩ hfr ?_
    rintro ⟨bs, q⟩ h1 ⟨hk, hq, hr, hx⟩ next
    have hb1 : h1.get h.next = some (.cells [.int .u8 x.kind, .int .i64 x.num, .str x.name, kslice 4 (x.kids.map Node.enc)]) := by rw [hx.get _ (by simp only [wx, Nat.reduceAdd, Nat.reduceEqDiff, Nat.reduceLT, Nat.reduceMul, Nat.reduceLeDiff, Int.reduceEq, ↓reduceIte, reduceCtorEq, ne_eq, implies_true, if_true, if_false, ite_not])]; simp only [wx, Nat.reduceAdd, Nat.reduceEqDiff, Nat.reduceLT, Nat.reduceMul, Nat.reduceLeDiff, Int.reduceEq, ↓reduceIte, reduceCtorEq, ne_eq, implies_true, if_true, if_false, ite_not]
    simp only at hk hq hr ⊢
    refine Ev.sound 100 _ _ _ _ ?_
    rcases turn x.kids bs.length hk with ⟨y, hy, hmem, hlt, c1, c2⟩ | ⟨hkk, c1⟩
    · have w1 := wrap_succ bs.length (by omega)
      have hyd := kid_depth hmem
      rw [drop_turn hy, List.map_cons] at hr
      simp only [wx, Nat.reduceAdd, Nat.reduceEqDiff, Nat.reduceLT, Nat.reduceMul, Nat.reduceLeDiff, Int.reduceEq, ↓reduceIte, reduceCtorEq, ne_eq, implies_true, if_true, if_false, ite_not, Tryd.ntmps18, hb1, c1, c2, List.length_map, vparams, decide_eq_false k84, getD_map Node.enc hy, enc_eq y]
      refine ⟨⟨by omega, .inl trivial⟩, ?_⟩
      refine Stop.fact (ac18 lib hlib y (hw.kid hmem) (hfk y hmem) ps (by omega) _) rfl rfl (by simp only [wx, Nat.reduceAdd, Nat.reduceEqDiff, Nat.reduceLT, Nat.reduceMul, Nat.reduceLeDiff, Int.reduceEq, ↓reduceIte, reduceCtorEq, ne_eq, implies_true, if_true, if_false, ite_not, Tryd.ntmps18]) (caps := []) (by simp only [wx, Nat.reduceAdd, Nat.reduceEqDiff, Nat.reduceLT, Nat.reduceMul, Nat.reduceLeDiff, Int.reduceEq, ↓reduceIte, reduceCtorEq, ne_eq, implies_true, if_true, if_false, ite_not]) en_18 (by simp only [wx, Nat.reduceAdd, Nat.reduceEqDiff, Nat.reduceLT, Nat.reduceMul, Nat.reduceLeDiff, Int.reduceEq, ↓reduceIte, reduceCtorEq, ne_eq, implies_true, if_true, if_false, ite_not, enc_eq y, fgt_mapenc, vlib, vparams, fgt_mapfenc, fgt_mappenc]) ?_
      refine Ev.sound 100 _ _ _ _ ?_
      by_cases he : (chk lib y (envOf ps)).2 = 0
      case neg =>
        have hcy : checkE lib ps y = (false, (chk lib y (envOf ps)).2) := checkE_err rfl he
        rw [pre_err he] at hr
        have hn : checkE lib ps x = (false, (chk lib y (envOf ps)).2) := kid_err hform k84 (fun e => by obtain ⟨f, i, _, hc⟩ := h85 e; exact ⟨f, i, hc⟩) (by rw [hr]) he
        simp only [wx, Nat.reduceAdd, Nat.reduceEqDiff, Nat.reduceLT, Nat.reduceMul, Nat.reduceLeDiff, Int.reduceEq, ↓reduceIte, reduceCtorEq, ne_eq, implies_true, if_true, if_false, ite_not, Tryd.ntmps18, hcy, tyv, decide_eq_false he]
        exact Leave.pures rfl (by simp only [wx, Nat.reduceAdd, Nat.reduceEqDiff, Nat.reduceLT, Nat.reduceMul, Nat.reduceLeDiff, Int.reduceEq, ↓reduceIte, reduceCtorEq, ne_eq, implies_true, if_true, if_false, ite_not, oneOf, hn]) (((Ext.refl h).alloc _).trans (hx.newTok _)) rfl
      have hcy : checkE lib ps y = ((chk lib y (envOf ps)).1, 0) := checkE_ok (by rw [← he])
      rw [pre_step he] at hr
      cases q with
      | none =>
        have hb : bs = [] := List.eq_nil_of_length_eq_zero (hq.none rfl)
        subst hb
        simp only [wx, Nat.reduceAdd, Nat.reduceEqDiff, Nat.reduceLT, Nat.reduceMul, Nat.reduceLeDiff, Int.reduceEq, ↓reduceIte, reduceCtorEq, ne_eq, implies_true, if_true, if_false, ite_not, Tryd.ntmps18, hcy, tyv, gotV]
        refine ⟨⟨.inl trivial, .inr trivial⟩, ?_⟩
        have w1' : IntKind.i64.wrap 1 = 1 := by decide +kernel
        refine next ([(chk lib y (envOf ps)).1], some (h1.ntok + 1)) _ _ (by simp only [List.length_cons, List.length_nil] at hlt ⊢; omega) ⟨hlt, ⟨fun e => (by cases e), fun t' e => ?_⟩, hr, (hx.newTok _).newTok _⟩ ?_
        · cases e
          exact ⟨by simp only [wx, Nat.reduceAdd, Nat.reduceEqDiff, Nat.reduceLT, Nat.reduceMul, Nat.reduceLeDiff, Int.reduceEq, ↓reduceIte, reduceCtorEq, ne_eq, implies_true, if_true, if_false, ite_not], by simp only [wx, Nat.reduceAdd, Nat.reduceEqDiff, Nat.reduceLT, Nat.reduceMul, Nat.reduceLeDiff, Int.reduceEq, ↓reduceIte, reduceCtorEq, ne_eq, implies_true, if_true, if_false, ite_not, Nat.lt_succ_self], by have := hx.ntok; rw [ntok_alloc] at this; omega⟩
        · simp only [wx, Nat.reduceAdd, Nat.reduceEqDiff, Nat.reduceLT, Nat.reduceMul, Nat.reduceLeDiff, Int.reduceEq, ↓reduceIte, reduceCtorEq, ne_eq, implies_true, if_true, if_false, ite_not, gotV, vparams, Int.natCast_one, Int.natCast_zero]
          simp
          exact w1'
      | some q =>
        obtain ⟨q1, q2, q3⟩ := hq.some q rfl
        have q4 : (q = h1.ntok) = False := by simp; omega
        have q5 : (q < h1.ntok + 1) = True := by simp; omega
        simp only [wx, Nat.reduceAdd, Nat.reduceEqDiff, Nat.reduceLT, Nat.reduceMul, Nat.reduceLeDiff, Int.reduceEq, ↓reduceIte, reduceCtorEq, ne_eq, implies_true, if_true, if_false, ite_not, Tryd.ntmps18, hcy, tyv, gotV, q1, q2, q4, q5, List.length_map]
        refine ⟨⟨.inl trivial, by omega⟩, ?_⟩
        refine next (bs ++ [(chk lib y (envOf ps)).1], some q) _ _ (by simp only [List.length_append, List.length_cons, List.length_nil] at hlt ⊢; omega) ⟨by simp only [List.length_append, List.length_cons, List.length_nil]; omega, ⟨fun e => (by cases e), fun t' e => ?_⟩, by simpa using hr, (hx.newTok _).setTok q3 _⟩ ?_
        · cases e
          refine ⟨?_, ?_, q3⟩
          · simp only [wx, Nat.reduceAdd, Nat.reduceEqDiff, Nat.reduceLT, Nat.reduceMul, Nat.reduceLeDiff, Int.reduceEq, ↓reduceIte, reduceCtorEq, ne_eq, implies_true, if_true, if_false, ite_not, q2, q4, q5, List.length_append, List.length_map]
          · simp only [wx, Nat.reduceAdd, Nat.reduceEqDiff, Nat.reduceLT, Nat.reduceMul, Nat.reduceLeDiff, Int.reduceEq, ↓reduceIte, reduceCtorEq, ne_eq, implies_true, if_true, if_false, ite_not, q2, q4, q5]
        · simp only [wx, Nat.reduceAdd, Nat.reduceEqDiff, Nat.reduceLT, Nat.reduceMul, Nat.reduceLeDiff, Int.reduceEq, ↓reduceIte, reduceCtorEq, ne_eq, implies_true, if_true, if_false, ite_not, gotV, vparams, w1, List.length_append, List.map_append]
    · rw [hkk, List.drop_length, List.map_nil] at hr
      have hr' : runAll (x.kids.map (chk lib)) (envOf ps) = (bs, 0) := by rw [hr]; simp [pre, runAll]
      have hce := chk_eq lib x
      unfold stepE at hce
      have hh : Ext h h1 := ((Ext.refl h).alloc _).trans hx
      by_cases k80 : x.kind = 80
      case pos =>
        have hn : checkE lib ps x = (false, 0) := checkE_ok (by rw [hce]; simp [k80])
        simp only [wx, Nat.reduceAdd, Nat.reduceEqDiff, Nat.reduceLT, Nat.reduceMul, Nat.reduceLeDiff, Int.reduceEq, ↓reduceIte, reduceCtorEq, ne_eq, implies_true, if_true, if_false, ite_not, Tryd.ntmps18, hb1, List.length_map, c1, decide_eq_true k80]
        exact Leave.pures rfl (by simp only [wx, Nat.reduceAdd, Nat.reduceEqDiff, Nat.reduceLT, Nat.reduceMul, Nat.reduceLeDiff, Int.reduceEq, ↓reduceIte, reduceCtorEq, ne_eq, implies_true, if_true, if_false, ite_not, oneOf, hn, tyv]) hh rfl
      by_cases k81 : x.kind = 81
      case pos =>
        obtain ⟨b, rfl, hb⟩ := h81 k81
        have hn : checkE lib ps x = (b, 0) := checkE_ok (by rw [hce]; simp [k80, k81, hb])
        simp only [wx, Nat.reduceAdd, Nat.reduceEqDiff, Nat.reduceLT, Nat.reduceMul, Nat.reduceLeDiff, Int.reduceEq, ↓reduceIte, reduceCtorEq, ne_eq, implies_true, if_true, if_false, ite_not, Tryd.ntmps18, hb1, List.length_map, c1, decide_eq_false k80, decide_eq_true k81]
        exact Leave.pures rfl (by simp only [wx, Nat.reduceAdd, Nat.reduceEqDiff, Nat.reduceLT, Nat.reduceMul, Nat.reduceLeDiff, Int.reduceEq, ↓reduceIte, reduceCtorEq, ne_eq, implies_true, if_true, if_false, ite_not, oneOf, hn, tyv]) hh rfl
      by_cases k86 : x.kind = 86
      case pos =>
        have hn : checkE lib ps x = (true, 0) := checkE_ok (by rw [hce]; simp [k80, k81, k86])
        simp only [wx, Nat.reduceAdd, Nat.reduceEqDiff, Nat.reduceLT, Nat.reduceMul, Nat.reduceLeDiff, Int.reduceEq, ↓reduceIte, reduceCtorEq, ne_eq, implies_true, if_true, if_false, ite_not, Tryd.ntmps18, hb1, List.length_map, c1, decide_eq_false k80, decide_eq_false k81, decide_eq_true k86]
        exact Leave.pures rfl (by simp only [wx, Nat.reduceAdd, Nat.reduceEqDiff, Nat.reduceLT, Nat.reduceMul, Nat.reduceLeDiff, Int.reduceEq, ↓reduceIte, reduceCtorEq, ne_eq, implies_true, if_true, if_false, ite_not, oneOf, hn, tyv]) hh rfl
      by_cases k82 : x.kind = 82
      case pos =>
        have hl : bs.length = 2 := by rw [hkk]; rw [k82] at hwk; exact (Option.some.inj hwk).symm
        obtain ⟨a, b, hbs⟩ : ∃ a b, bs = [a, b] := by
          match bs, hl with
          | [u0, u1], _ => exact ⟨u0, u1, rfl⟩
        have c9 : ((2 : Int) < (x.kids.length : Int)) = False := by simp; omega
        subst hbs
        cases q with
        | none => exact absurd (hq.none rfl) (by simp)
        | some q =>
        have hn : checkE lib ps x = if (!a && !b) then (false, 0) else (false, 7) := by
          unfold checkE
          rw [hce]
          cases a <;> cases b <;> simp [k80, k81, k86, k82, allE, branchesE, hr']
        cases a <;> cases b
        all_goals
          simp only [wx, Nat.reduceAdd, Nat.reduceEqDiff, Nat.reduceLT, Nat.reduceMul, Nat.reduceLeDiff, Int.reduceEq, ↓reduceIte, reduceCtorEq, ne_eq, implies_true, if_true, if_false, ite_not, Tryd.ntmps18, hb1, List.length_map, c1, decide_eq_false k80, decide_eq_false k81, decide_eq_false k86, decide_eq_true k82, c9, gotV, Int.reduceToNat, Int.reduceLE, Int.reduceLT, cast1, cast2, cast3, List.getD_cons_zero, List.getD_cons_succ]
          refine Stop.fact (ac36 _ _ _) rfl rfl (by simp only [wx, Nat.reduceAdd, Nat.reduceEqDiff, Nat.reduceLT, Nat.reduceMul, Nat.reduceLeDiff, Int.reduceEq, ↓reduceIte, reduceCtorEq, ne_eq, implies_true, if_true, if_false, ite_not, Tryd.ntmps18]) (caps := []) (by simp only [wx, Nat.reduceAdd, Nat.reduceEqDiff, Nat.reduceLT, Nat.reduceMul, Nat.reduceLeDiff, Int.reduceEq, ↓reduceIte, reduceCtorEq, ne_eq, implies_true, if_true, if_false, ite_not]) en_36 (by simp only [wx, Nat.reduceAdd, Nat.reduceEqDiff, Nat.reduceLT, Nat.reduceMul, Nat.reduceLeDiff, Int.reduceEq, ↓reduceIte, reduceCtorEq, ne_eq, implies_true, if_true, if_false, ite_not] <;> rfl) ?_
          refine Ev.sound 100 _ _ _ _ ?_
          simp only [wx, Nat.reduceAdd, Nat.reduceEqDiff, Nat.reduceLT, Nat.reduceMul, Nat.reduceLeDiff, Int.reduceEq, ↓reduceIte, reduceCtorEq, ne_eq, implies_true, if_true, if_false, ite_not, Tryd.ntmps18, tyv]
          exact Leave.pures rfl (by simp only [wx, Nat.reduceAdd, Nat.reduceEqDiff, Nat.reduceLT, Nat.reduceMul, Nat.reduceLeDiff, Int.reduceEq, ↓reduceIte, reduceCtorEq, ne_eq, implies_true, if_true, if_false, ite_not, oneOf, hn, tyv] <;> rfl) hh rfl
      by_cases k83 : x.kind = 83
      case pos =>
        have hl : bs.length = 3 := by rw [hkk]; rw [k83] at hwk; exact (Option.some.inj hwk).symm
        obtain ⟨a, b, c, hbs⟩ : ∃ a b c, bs = [a, b, c] := by
          match bs, hl with
          | [u0, u1, u2], _ => exact ⟨u0, u1, u2, rfl⟩
        have c9 : ((3 : Int) < (x.kids.length : Int)) = False := by simp; omega
        subst hbs
        cases q with
        | none => exact absurd (hq.none rfl) (by simp)
        | some q =>
        have hn : checkE lib ps x = if (!a && (b == c)) then (b, 0) else (false, 7) := by
          unfold checkE
          rw [hce]
          cases a <;> cases b <;> cases c <;> simp [k80, k81, k86, k82, k83, allE, branchesE, hr']
        cases a <;> cases b <;> cases c
        all_goals
          simp only [wx, Nat.reduceAdd, Nat.reduceEqDiff, Nat.reduceLT, Nat.reduceMul, Nat.reduceLeDiff, Int.reduceEq, ↓reduceIte, reduceCtorEq, ne_eq, implies_true, if_true, if_false, ite_not, Tryd.ntmps18, hb1, List.length_map, c1, decide_eq_false k80, decide_eq_false k81, decide_eq_false k86, decide_eq_false k82, decide_eq_true k83, c9, gotV, Int.reduceToNat, Int.reduceLE, Int.reduceLT, cast1, cast2, cast3, List.getD_cons_zero, List.getD_cons_succ]
          refine Stop.drawn [(0, 0), (1, 0), (2, 0), (3, 0), (4, 0), (5, 0), (6, 0), (7, 0), (8, 0), (9, 0), (10, 0), (11, 0), (12, 0), (13, 0), (14, 0), (15, 0), (16, 2), (17, 0), (18, 0), (19, 0), (20, 0)] [[], [0], [0, 1], [], [3], [3, 4], [3, 4, 5], [3, 4, 5, 6], [3, 4, 5, 6, 7], [3, 4, 5, 6, 7, 8], [3, 4, 5, 6, 7, 8, 9], [3, 4, 5, 6, 7], [3, 4, 5, 6, 7, 11], [3, 4, 5, 6, 7, 11, 12], [3, 4, 5, 6, 7, 8, 9, 10, 11, 12, 13], [3, 4, 5, 6, 7, 8, 9, 10, 11, 12, 13, 14], [0, 1, 2, 3, 4, 5, 6, 7, 8, 9, 10, 11, 12, 13, 14, 15], [0, 1, 2, 3, 4, 5, 6, 7, 8, 9, 10, 11, 12, 13, 14, 15, 16], [0, 1, 2, 3, 4, 5, 6, 7, 8, 9, 10, 11, 12, 13, 14, 15, 16], [0, 1, 2, 3, 4, 5, 6, 7, 8, 9, 10, 11, 12, 13, 14, 15, 16, 17, 18], [0, 1, 2, 3, 4, 5, 6, 7, 8, 9, 10, 11, 12, 13, 14, 15, 16, 17, 18, 19]] 90 (by kernel_rfl) ?_
          simp only [wx, Nat.reduceAdd, Nat.reduceEqDiff, Nat.reduceLT, Nat.reduceMul, Nat.reduceLeDiff, Int.reduceEq, ↓reduceIte, reduceCtorEq, ne_eq, implies_true, if_true, if_false, ite_not, Tryd.ntmps18, gotV, Int.reduceToNat, Int.reduceLE, Int.reduceLT, cast1, cast2, cast3, List.getD_cons_zero, List.getD_cons_succ, beq_self_eq_true]
          refine DC.fact (ac36 _ _ _) rfl (by simp only [wx, Nat.reduceAdd, Nat.reduceEqDiff, Nat.reduceLT, Nat.reduceMul, Nat.reduceLeDiff, Int.reduceEq, ↓reduceIte, reduceCtorEq, ne_eq, implies_true, if_true, if_false, ite_not, Tryd.ntmps18]) (caps := []) (by simp only [wx, Nat.reduceAdd, Nat.reduceEqDiff, Nat.reduceLT, Nat.reduceMul, Nat.reduceLeDiff, Int.reduceEq, ↓reduceIte, reduceCtorEq, ne_eq, implies_true, if_true, if_false, ite_not]) en_36 (by simp only [wx, Nat.reduceAdd, Nat.reduceEqDiff, Nat.reduceLT, Nat.reduceMul, Nat.reduceLeDiff, Int.reduceEq, ↓reduceIte, reduceCtorEq, ne_eq, implies_true, if_true, if_false, ite_not] <;> rfl) ?_
          simp only [wx, Nat.reduceAdd, Nat.reduceEqDiff, Nat.reduceLT, Nat.reduceMul, Nat.reduceLeDiff, Int.reduceEq, ↓reduceIte, reduceCtorEq, ne_eq, implies_true, if_true, if_false, ite_not, Tryd.ntmps18, tyv]
          exact Leave.pures rfl (by simp only [wx, Nat.reduceAdd, Nat.reduceEqDiff, Nat.reduceLT, Nat.reduceMul, Nat.reduceLeDiff, Int.reduceEq, ↓reduceIte, reduceCtorEq, ne_eq, implies_true, if_true, if_false, ite_not, oneOf, hn, tyv] <;> rfl) hh rfl
      by_cases k87 : x.kind = 87
      case pos =>
        have hl : bs.length = 2 := by rw [hkk]; rw [k87] at hwk; exact (Option.some.inj hwk).symm
        obtain ⟨a, b, hbs⟩ : ∃ a b, bs = [a, b] := by
          match bs, hl with
          | [u0, u1], _ => exact ⟨u0, u1, rfl⟩
        have c9 : ((2 : Int) < (x.kids.length : Int)) = False := by simp; omega
        subst hbs
        cases q with
        | none => exact absurd (hq.none rfl) (by simp)
        | some q =>
        have hn : checkE lib ps x = if (!a && b) then (true, 0) else (false, 7) := by
          unfold checkE
          rw [hce]
          cases a <;> cases b <;> simp [k80, k81, k86, k82, k83, k84, k87, allE, branchesE, hr']
        cases a <;> cases b
        all_goals
          simp only [wx, Nat.reduceAdd, Nat.reduceEqDiff, Nat.reduceLT, Nat.reduceMul, Nat.reduceLeDiff, Int.reduceEq, ↓reduceIte, reduceCtorEq, ne_eq, implies_true, if_true, if_false, ite_not, Tryd.ntmps18, hb1, List.length_map, c1, decide_eq_false k80, decide_eq_false k81, decide_eq_false k86, decide_eq_false k82, decide_eq_false k83, decide_eq_false k84, decide_eq_true k87, c9, gotV, Int.reduceToNat, Int.reduceLE, Int.reduceLT, cast1, cast2, cast3, List.getD_cons_zero, List.getD_cons_succ]
          refine Stop.fact (ac36 _ _ _) rfl rfl (by simp only [wx, Nat.reduceAdd, Nat.reduceEqDiff, Nat.reduceLT, Nat.reduceMul, Nat.reduceLeDiff, Int.reduceEq, ↓reduceIte, reduceCtorEq, ne_eq, implies_true, if_true, if_false, ite_not, Tryd.ntmps18]) (caps := []) (by simp only [wx, Nat.reduceAdd, Nat.reduceEqDiff, Nat.reduceLT, Nat.reduceMul, Nat.reduceLeDiff, Int.reduceEq, ↓reduceIte, reduceCtorEq, ne_eq, implies_true, if_true, if_false, ite_not]) en_36 (by simp only [wx, Nat.reduceAdd, Nat.reduceEqDiff, Nat.reduceLT, Nat.reduceMul, Nat.reduceLeDiff, Int.reduceEq, ↓reduceIte, reduceCtorEq, ne_eq, implies_true, if_true, if_false, ite_not] <;> rfl) ?_
          refine Ev.sound 100 _ _ _ _ ?_
          simp only [wx, Nat.reduceAdd, Nat.reduceEqDiff, Nat.reduceLT, Nat.reduceMul, Nat.reduceLeDiff, Int.reduceEq, ↓reduceIte, reduceCtorEq, ne_eq, implies_true, if_true, if_false, ite_not, Tryd.ntmps18, tyv]
          exact Leave.pures rfl (by simp only [wx, Nat.reduceAdd, Nat.reduceEqDiff, Nat.reduceLT, Nat.reduceMul, Nat.reduceLeDiff, Int.reduceEq, ↓reduceIte, reduceCtorEq, ne_eq, implies_true, if_true, if_false, ite_not, oneOf, hn, tyv] <;> rfl) hh rfl
      by_cases k88 : x.kind = 88
      case pos =>
        have hl : bs.length = 1 := by rw [hkk]; rw [k88] at hwk; exact (Option.some.inj hwk).symm
        obtain ⟨a, hbs⟩ : ∃ a, bs = [a] := by
          match bs, hl with
          | [u0], _ => exact ⟨u0, rfl⟩
        have c9 : ((1 : Int) < (x.kids.length : Int)) = False := by simp; omega
        subst hbs
        cases q with
        | none => exact absurd (hq.none rfl) (by simp)
        | some q =>
        have hn : checkE lib ps x = if (a) then (false, 0) else (false, 7) := by
          unfold checkE
          rw [hce]
          cases a <;> simp [k80, k81, k86, k82, k83, k84, k87, k88, allE, branchesE, hr']
        cases a
        all_goals
          simp only [wx, Nat.reduceAdd, Nat.reduceEqDiff, Nat.reduceLT, Nat.reduceMul, Nat.reduceLeDiff, Int.reduceEq, ↓reduceIte, reduceCtorEq, ne_eq, implies_true, if_true, if_false, ite_not, Tryd.ntmps18, hb1, List.length_map, c1, decide_eq_false k80, decide_eq_false k81, decide_eq_false k86, decide_eq_false k82, decide_eq_false k83, decide_eq_false k84, decide_eq_false k87, decide_eq_true k88, c9, gotV, Int.reduceToNat, Int.reduceLE, Int.reduceLT, cast1, cast2, cast3, List.getD_cons_zero, List.getD_cons_succ]
          refine Stop.fact (ac36 _ _ _) rfl rfl (by simp only [wx, Nat.reduceAdd, Nat.reduceEqDiff, Nat.reduceLT, Nat.reduceMul, Nat.reduceLeDiff, Int.reduceEq, ↓reduceIte, reduceCtorEq, ne_eq, implies_true, if_true, if_false, ite_not, Tryd.ntmps18]) (caps := []) (by simp only [wx, Nat.reduceAdd, Nat.reduceEqDiff, Nat.reduceLT, Nat.reduceMul, Nat.reduceLeDiff, Int.reduceEq, ↓reduceIte, reduceCtorEq, ne_eq, implies_true, if_true, if_false, ite_not]) en_36 (by simp only [wx, Nat.reduceAdd, Nat.reduceEqDiff, Nat.reduceLT, Nat.reduceMul, Nat.reduceLeDiff, Int.reduceEq, ↓reduceIte, reduceCtorEq, ne_eq, implies_true, if_true, if_false, ite_not] <;> rfl) ?_
          refine Ev.sound 100 _ _ _ _ ?_
          simp only [wx, Nat.reduceAdd, Nat.reduceEqDiff, Nat.reduceLT, Nat.reduceMul, Nat.reduceLeDiff, Int.reduceEq, ↓reduceIte, reduceCtorEq, ne_eq, implies_true, if_true, if_false, ite_not, Tryd.ntmps18, tyv]
          exact Leave.pures rfl (by simp only [wx, Nat.reduceAdd, Nat.reduceEqDiff, Nat.reduceLT, Nat.reduceMul, Nat.reduceLeDiff, Int.reduceEq, ↓reduceIte, reduceCtorEq, ne_eq, implies_true, if_true, if_false, ite_not, oneOf, hn, tyv] <;> rfl) hh rfl
      by_cases k90 : x.kind = 90
      case pos =>
        have hl : bs.length = 1 := by rw [hkk]; rw [k90] at hwk; exact (Option.some.inj hwk).symm
        obtain ⟨a, hbs⟩ : ∃ a, bs = [a] := by
          match bs, hl with
          | [u0], _ => exact ⟨u0, rfl⟩
        have c9 : ((1 : Int) < (x.kids.length : Int)) = False := by simp; omega
        subst hbs
        cases q with
        | none => exact absurd (hq.none rfl) (by simp)
        | some q =>
        have hn : checkE lib ps x = if (a) then (false, 0) else (false, 7) := by
          unfold checkE
          rw [hce]
          cases a <;> simp [k80, k81, k86, k82, k83, k84, k87, k88, k90, allE, branchesE, hr']
        cases a
        all_goals
          simp only [wx, Nat.reduceAdd, Nat.reduceEqDiff, Nat.reduceLT, Nat.reduceMul, Nat.reduceLeDiff, Int.reduceEq, ↓reduceIte, reduceCtorEq, ne_eq, implies_true, if_true, if_false, ite_not, Tryd.ntmps18, hb1, List.length_map, c1, decide_eq_false k80, decide_eq_false k81, decide_eq_false k86, decide_eq_false k82, decide_eq_false k83, decide_eq_false k84, decide_eq_false k87, decide_eq_false k88, decide_eq_true k90, c9, gotV, Int.reduceToNat, Int.reduceLE, Int.reduceLT, cast1, cast2, cast3, List.getD_cons_zero, List.getD_cons_succ]
          refine Stop.fact (ac36 _ _ _) rfl rfl (by simp only [wx, Nat.reduceAdd, Nat.reduceEqDiff, Nat.reduceLT, Nat.reduceMul, Nat.reduceLeDiff, Int.reduceEq, ↓reduceIte, reduceCtorEq, ne_eq, implies_true, if_true, if_false, ite_not, Tryd.ntmps18]) (caps := []) (by simp only [wx, Nat.reduceAdd, Nat.reduceEqDiff, Nat.reduceLT, Nat.reduceMul, Nat.reduceLeDiff, Int.reduceEq, ↓reduceIte, reduceCtorEq, ne_eq, implies_true, if_true, if_false, ite_not]) en_36 (by simp only [wx, Nat.reduceAdd, Nat.reduceEqDiff, Nat.reduceLT, Nat.reduceMul, Nat.reduceLeDiff, Int.reduceEq, ↓reduceIte, reduceCtorEq, ne_eq, implies_true, if_true, if_false, ite_not] <;> rfl) ?_
          refine Ev.sound 100 _ _ _ _ ?_
          simp only [wx, Nat.reduceAdd, Nat.reduceEqDiff, Nat.reduceLT, Nat.reduceMul, Nat.reduceLeDiff, Int.reduceEq, ↓reduceIte, reduceCtorEq, ne_eq, implies_true, if_true, if_false, ite_not, Tryd.ntmps18, tyv]
          exact Leave.pures rfl (by simp only [wx, Nat.reduceAdd, Nat.reduceEqDiff, Nat.reduceLT, Nat.reduceMul, Nat.reduceLeDiff, Int.reduceEq, ↓reduceIte, reduceCtorEq, ne_eq, implies_true, if_true, if_false, ite_not, oneOf, hn, tyv] <;> rfl) hh rfl
      by_cases k89 : x.kind = 89
      case pos =>
        have hl : bs.length = 1 := by rw [hkk]; rw [k89] at hwk; exact (Option.some.inj hwk).symm
        obtain ⟨a, hbs⟩ : ∃ a, bs = [a] := by
          match bs, hl with
          | [u0], _ => exact ⟨u0, rfl⟩
        have c9 : ((1 : Int) < (x.kids.length : Int)) = False := by simp; omega
        subst hbs
        cases q with
        | none => exact absurd (hq.none rfl) (by simp)
        | some q =>
        have hn : checkE lib ps x = if (a) then (true, 0) else (false, 7) := by
          unfold checkE
          rw [hce]
          cases a <;> simp [k80, k81, k86, k82, k83, k84, k87, k88, k90, k89, allE, branchesE, hr']
        cases a
        all_goals
          simp only [wx, Nat.reduceAdd, Nat.reduceEqDiff, Nat.reduceLT, Nat.reduceMul, Nat.reduceLeDiff, Int.reduceEq, ↓reduceIte, reduceCtorEq, ne_eq, implies_true, if_true, if_false, ite_not, Tryd.ntmps18, hb1, List.length_map, c1, decide_eq_false k80, decide_eq_false k81, decide_eq_false k86, decide_eq_false k82, decide_eq_false k83, decide_eq_false k84, decide_eq_false k87, decide_eq_false k88, decide_eq_false k90, decide_eq_true k89, c9, gotV, Int.reduceToNat, Int.reduceLE, Int.reduceLT, cast1, cast2, cast3, List.getD_cons_zero, List.getD_cons_succ]
          refine Stop.fact (ac36 _ _ _) rfl rfl (by simp only [wx, Nat.reduceAdd, Nat.reduceEqDiff, Nat.reduceLT, Nat.reduceMul, Nat.reduceLeDiff, Int.reduceEq, ↓reduceIte, reduceCtorEq, ne_eq, implies_true, if_true, if_false, ite_not, Tryd.ntmps18]) (caps := []) (by simp only [wx, Nat.reduceAdd, Nat.reduceEqDiff, Nat.reduceLT, Nat.reduceMul, Nat.reduceLeDiff, Int.reduceEq, ↓reduceIte, reduceCtorEq, ne_eq, implies_true, if_true, if_false, ite_not]) en_36 (by simp only [wx, Nat.reduceAdd, Nat.reduceEqDiff, Nat.reduceLT, Nat.reduceMul, Nat.reduceLeDiff, Int.reduceEq, ↓reduceIte, reduceCtorEq, ne_eq, implies_true, if_true, if_false, ite_not] <;> rfl) ?_
          refine Ev.sound 100 _ _ _ _ ?_
          simp only [wx, Nat.reduceAdd, Nat.reduceEqDiff, Nat.reduceLT, Nat.reduceMul, Nat.reduceLeDiff, Int.reduceEq, ↓reduceIte, reduceCtorEq, ne_eq, implies_true, if_true, if_false, ite_not, Tryd.ntmps18, tyv]
          exact Leave.pures rfl (by simp only [wx, Nat.reduceAdd, Nat.reduceEqDiff, Nat.reduceLT, Nat.reduceMul, Nat.reduceLeDiff, Int.reduceEq, ↓reduceIte, reduceCtorEq, ne_eq, implies_true, if_true, if_false, ite_not, oneOf, hn, tyv] <;> rfl) hh rfl
      have k85 : x.kind = 85 := by
        have hwk' := hwk
        unfold wantKids at hwk'
        have e88 : ¬ x.kind = 88 := k88
        by_cases q85 : x.kind = 85
        · exact q85
        · simp [k80, k81, k82, k83, k84, q85, k86, k87, k88, k89, k90] at hwk'
      obtain ⟨f, i, rfl, hcall⟩ := h85 k85
      have hce' : chk lib x (envOf ps) = (f.list, allE (x.kids.map (chk lib)) (f.params.map (·.list)) (envOf ps)) := by
        rw [chk_eq]
        unfold stepE
        rw [if_neg k81, if_neg k82, if_neg k83, if_neg k84, if_pos k85, callE_ok hcall _ (by simp)]
      have hall : allE (x.kids.map (chk lib)) (f.params.map (·.list)) (envOf ps) = if bs = f.params.map (·.list) then 0 else 7 := by
        unfold allE; rw [hr']; simp
      rw [hall] at hce'
      have hc3 := hcall.2.2
      have hi : i < lib.length := (List.getElem?_eq_some_iff.1 hcall.2.1).1
      have i1 : (0 ≤ (i : Int)) = True := by simp
      have i2 : ((i : Int) < (lib.length : Int)) = True := by simp; omega
      simp only [wx, Nat.reduceAdd, Nat.reduceEqDiff, Nat.reduceLT, Nat.reduceMul, Nat.reduceLeDiff, Int.reduceEq, ↓reduceIte, reduceCtorEq, ne_eq, implies_true, if_true, if_false, ite_not, Tryd.ntmps18, hb1, List.length_map, c1, decide_eq_false k80, decide_eq_false k81, decide_eq_false k86, decide_eq_false k82, decide_eq_false k83, decide_eq_false k84, decide_eq_false k87, decide_eq_false k88, decide_eq_false k90, decide_eq_false k89]
      have fin : bs = f.params.map (·.list) → checkE lib ps x = (f.list, 0) := fun e => checkE_ok (by rw [hce', if_pos e])
      have bad : bs ≠ f.params.map (·.list) → checkE lib ps x = (false, 7) := fun e => checkE_err (by rw [hce', if_neg e]) (by decide)
      refine Stop.round (σ := Nat) (fun k => bs.length - k) (fun k => [(0, vlib lib), (8, .int .i64 i), (14, gotV q 1 (bs.map fun b => [.bool b])), (19, .int .i64 k)])
        (fun k h2 => k ≤ bs.length ∧ h2 = h1 ∧ (bs = f.params.map (·.list) ↔ bs.drop k = (f.params.map (·.list)).drop k)) 0 ⟨Nat.zero_le _, rfl, Iff.rfl⟩ (by simp only [wx, Nat.reduceAdd, Nat.reduceEqDiff, Nat.reduceLT, Nat.reduceMul, Nat.reduceLeDiff, Int.reduceEq, ↓reduceIte, reduceCtorEq, ne_eq, implies_true, if_true, if_false, ite_not, vlib, Int.natCast_zero]) ?_
      rintro k _ ⟨hk2, rfl, hp⟩ next2
      refine Ev.sound 100 _ _ _ _ ?_
      rcases turn bs k hk2 with ⟨y, hy, hmem, hlt, d1, d2⟩ | ⟨hkk2, d1⟩
      · cases q with
        | none => exact absurd (hq.none rfl) (by omega)
        | some q =>
        obtain ⟨z, hz⟩ : ∃ z, f.params[k]? = some z := ⟨_, List.getElem?_eq_getElem (by omega)⟩
        have d3 : ((k : Int) < (f.params.length : Int)) = True := by simp; omega
        have w1 := wrap_succ k (by have := hw.len; omega)
        have hz2 : (f.params.map (·.list))[k]? = some z.list := by rw [List.getElem?_map, hz]; rfl
        rw [drop_eq_turn hy hz2] at hp
        simp only [wy, Nat.reduceAdd, Nat.reduceEqDiff, Nat.reduceLT, Nat.reduceMul, Nat.reduceLeDiff, Int.reduceEq, ↓reduceIte, reduceCtorEq, ne_eq, implies_true, if_true, if_false, ite_not, eq_self, Tryd.ntmps18, gotV, List.length_map, d1]
        refine Stop.drawn [(0, 0), (1, 0), (2, 0), (3, 0), (4, 0), (5, 0), (6, 0), (7, 0), (8, 0), (9, 0), (10, 0), (11, 0), (12, 0), (13, 0)] [[], [], [0, 1], [0, 1, 2], [], [], [4, 5], [4, 5, 6], [4, 5, 6, 7], [], [4, 5, 6, 7, 8, 9], [4, 5, 6, 7, 8, 9, 10], [4, 5, 6, 7, 8, 9, 10, 11], [0, 1, 2, 3, 4, 5, 6, 7, 8, 9, 10, 11, 12]] 90 (by kernel_rfl) ?_
        simp only [wy, Nat.reduceAdd, Nat.reduceEqDiff, Nat.reduceLT, Nat.reduceMul, Nat.reduceLeDiff, Int.reduceEq, ↓reduceIte, reduceCtorEq, ne_eq, implies_true, if_true, if_false, ite_not, eq_self, Tryd.ntmps18, gotV, List.length_map, d1, d2, d3, i1, i2, vlib, getD_map Fn.enc hcall.2.1, fenc_eq f, getD_map Param.enc hz, penc_eq, getD_map (fun b : Bool => [AV.bool b]) hy]
        by_cases e : y = z.list
        · subst e
          simp only [wy, Nat.reduceAdd, Nat.reduceEqDiff, Nat.reduceLT, Nat.reduceMul, Nat.reduceLeDiff, Int.reduceEq, ↓reduceIte, reduceCtorEq, ne_eq, implies_true, if_true, if_false, ite_not, eq_self, Tryd.ntmps18, beq_self_eq_true, w1]
          exact next2 (k + 1) _ _ (by omega) ⟨hlt, rfl, by rw [hp]; simp⟩ (by simp only [wy, Nat.reduceAdd, Nat.reduceEqDiff, Nat.reduceLT, Nat.reduceMul, Nat.reduceLeDiff, Int.reduceEq, ↓reduceIte, reduceCtorEq, ne_eq, implies_true, if_true, if_false, ite_not, eq_self, Tryd.ntmps18, gotV, vlib])
        · have hb : (y == z.list) = false := beq_eq_false_iff_ne.2 e
          have hn := bad (fun q => e (hp.1 q).1)
          simp only [wy, Nat.reduceAdd, Nat.reduceEqDiff, Nat.reduceLT, Nat.reduceMul, Nat.reduceLeDiff, Int.reduceEq, ↓reduceIte, reduceCtorEq, ne_eq, implies_true, if_true, if_false, ite_not, eq_self, Tryd.ntmps18, hb]
          exact Leave.pures rfl (by simp only [wx, Nat.reduceAdd, Nat.reduceEqDiff, Nat.reduceLT, Nat.reduceMul, Nat.reduceLeDiff, Int.reduceEq, ↓reduceIte, reduceCtorEq, ne_eq, implies_true, if_true, if_false, ite_not, oneOf, hn, tyv]) hh rfl
      · have hl2 : bs.length = (f.params.map (·.list)).length := by rw [List.length_map]; omega
        rw [hkk2, List.drop_length, hl2, List.drop_length] at hp
        have hn := fin (hp.2 rfl)
        cases q with
        | none =>
          have hb0 : bs = [] := List.eq_nil_of_length_eq_zero (hq.none rfl)
          have d4 : ((k : Int) < 0) = False := by simp; 
          simp only [wy, Nat.reduceAdd, Nat.reduceEqDiff, Nat.reduceLT, Nat.reduceMul, Nat.reduceLeDiff, Int.reduceEq, ↓reduceIte, reduceCtorEq, ne_eq, implies_true, if_true, if_false, ite_not, eq_self, Tryd.ntmps18, gotV, List.length_map, d4, i1, i2, vlib, getD_map Fn.enc hcall.2.1, fenc_eq f, Int.natCast_zero]
          exact Leave.pures rfl (by simp only [wx, Nat.reduceAdd, Nat.reduceEqDiff, Nat.reduceLT, Nat.reduceMul, Nat.reduceLeDiff, Int.reduceEq, ↓reduceIte, reduceCtorEq, ne_eq, implies_true, if_true, if_false, ite_not, oneOf, hn, tyv]) hh rfl
        | some q =>
          simp only [wy, Nat.reduceAdd, Nat.reduceEqDiff, Nat.reduceLT, Nat.reduceMul, Nat.reduceLeDiff, Int.reduceEq, ↓reduceIte, reduceCtorEq, ne_eq, implies_true, if_true, if_false, ite_not, eq_self, Tryd.ntmps18, gotV, List.length_map, d1, i1, i2, vlib, getD_map Fn.enc hcall.2.1, fenc_eq f]
          exact Leave.pures rfl (by simp only [wx, Nat.reduceAdd, Nat.reduceEqDiff, Nat.reduceLT, Nat.reduceMul, Nat.reduceLeDiff, Int.reduceEq, ↓reduceIte, reduceCtorEq, ne_eq, implies_true, if_true, if_false, ite_not, oneOf, hn, tyv]) hh rfl
  have hce : chk lib x (envOf ps) = stepE lib x.kind x.name (x.kids.map (chk lib)) (envOf ps) := by rw [chk_eq]
  unfold stepE at hce
  by_cases k81 : x.kind = 81
  · have k84 : x.kind ≠ 84 := by omega
    have k85 : x.kind ≠ 85 := by omega
    simp only [wy, Nat.reduceAdd, Nat.reduceEqDiff, Nat.reduceLT, Nat.reduceMul, Nat.reduceLeDiff, Int.reduceEq, ↓reduceIte, reduceCtorEq, ne_eq, implies_true, if_true, if_false, ite_not, eq_self, Tryd.ntmps18, decide_eq_true k81]
    refine Stop.fact (ac35 ps (by omega) x.name _) rfl (by first | rfl | simp only [wy, Nat.reduceAdd, Nat.reduceEqDiff, Nat.reduceLT, Nat.reduceMul, Nat.reduceLeDiff, Int.reduceEq, ↓reduceIte, reduceCtorEq, ne_eq, implies_true, if_true, if_false, ite_not, eq_self, Tryd.ntmps18, vparams, fgt_mappenc]) (by simp only [wy, Nat.reduceAdd, Nat.reduceEqDiff, Nat.reduceLT, Nat.reduceMul, Nat.reduceLeDiff, Int.reduceEq, ↓reduceIte, reduceCtorEq, ne_eq, implies_true, if_true, if_false, ite_not, eq_self, Tryd.ntmps18]) (caps := []) (by simp only [wy, Nat.reduceAdd, Nat.reduceEqDiff, Nat.reduceLT, Nat.reduceMul, Nat.reduceLeDiff, Int.reduceEq, ↓reduceIte, reduceCtorEq, ne_eq, implies_true, if_true, if_false, ite_not, eq_self, vparams, fgt_mappenc]) en_35 (by simp only [wy, Nat.reduceAdd, Nat.reduceEqDiff, Nat.reduceLT, Nat.reduceMul, Nat.reduceLeDiff, Int.reduceEq, ↓reduceIte, reduceCtorEq, ne_eq, implies_true, if_true, if_false, ite_not, eq_self, vparams, fgt_mappenc] <;> rfl) (Ev.sound 100 _ _ _ _ ?_)
    have hs := see_env ps x.name
    rw [if_pos k81] at hce
    cases he : envOf ps x.name with
    | none =>
      rw [he] at hs hce
      have hn : checkE lib ps x = (false, 6) := checkE_err (by rw [hce]) (by decide)
      simp only [wy, Nat.reduceAdd, Nat.reduceEqDiff, Nat.reduceLT, Nat.reduceMul, Nat.reduceLeDiff, Int.reduceEq, ↓reduceIte, reduceCtorEq, ne_eq, implies_true, if_true, if_false, ite_not, eq_self, Tryd.ntmps18, hs, Option.getD_none, Option.isSome_none]
      exact Leave.pures rfl (by simp only [wx, Nat.reduceAdd, Nat.reduceEqDiff, Nat.reduceLT, Nat.reduceMul, Nat.reduceLeDiff, Int.reduceEq, ↓reduceIte, reduceCtorEq, ne_eq, implies_true, if_true, if_false, ite_not, oneOf, hn, tyv]) ((Ext.refl h).alloc _) rfl
    | some b =>
      rw [he] at hs
      simp only [wy, Nat.reduceAdd, Nat.reduceEqDiff, Nat.reduceLT, Nat.reduceMul, Nat.reduceLeDiff, Int.reduceEq, ↓reduceIte, reduceCtorEq, ne_eq, implies_true, if_true, if_false, ite_not, eq_self, Tryd.ntmps18, hs, Option.getD_some, Option.isSome_some]
      exact main k84 (.int .i64 (-1)) (.bool b) (fun _ => ⟨b, rfl, he⟩) (fun e => absurd e k85) _ (by simp only [wx, Nat.reduceAdd, Nat.reduceEqDiff, Nat.reduceLT, Nat.reduceMul, Nat.reduceLeDiff, Int.reduceEq, ↓reduceIte, reduceCtorEq, ne_eq, implies_true, if_true, if_false, ite_not, vlib, vparams])
  by_cases k85 : x.kind = 85
  · have k84 : x.kind ≠ 84 := by omega
    have hlb := hlib.len
    simp only [wy, Nat.reduceAdd, Nat.reduceEqDiff, Nat.reduceLT, Nat.reduceMul, Nat.reduceLeDiff, Int.reduceEq, ↓reduceIte, reduceCtorEq, ne_eq, implies_true, if_true, if_false, ite_not, eq_self, Tryd.ntmps18, decide_eq_false k81, decide_eq_true k85]
    refine Stop.fact (ac21 lib x.name hlib.len _) rfl (by first | rfl | simp only [wy, Nat.reduceAdd, Nat.reduceEqDiff, Nat.reduceLT, Nat.reduceMul, Nat.reduceLeDiff, Int.reduceEq, ↓reduceIte, reduceCtorEq, ne_eq, implies_true, if_true, if_false, ite_not, eq_self, Tryd.ntmps18, vlib, fgt_mapfenc]) (by simp only [wy, Nat.reduceAdd, Nat.reduceEqDiff, Nat.reduceLT, Nat.reduceMul, Nat.reduceLeDiff, Int.reduceEq, ↓reduceIte, reduceCtorEq, ne_eq, implies_true, if_true, if_false, ite_not, eq_self, Tryd.ntmps18]) (caps := []) (by simp only [wy, Nat.reduceAdd, Nat.reduceEqDiff, Nat.reduceLT, Nat.reduceMul, Nat.reduceLeDiff, Int.reduceEq, ↓reduceIte, reduceCtorEq, ne_eq, implies_true, if_true, if_false, ite_not, eq_self, vlib, fgt_mapfenc]) en_21 (by simp only [wy, Nat.reduceAdd, Nat.reduceEqDiff, Nat.reduceLT, Nat.reduceMul, Nat.reduceLeDiff, Int.reduceEq, ↓reduceIte, reduceCtorEq, ne_eq, implies_true, if_true, if_false, ite_not, eq_self, vlib, fgt_mapfenc] <;> rfl) (Ev.sound 100 _ _ _ _ ?_)
    have k82 : x.kind ≠ 82 := by omega
    have k83 : x.kind ≠ 83 := by omega
    rw [if_neg k81, if_neg k82, if_neg k83, if_neg k84, if_pos k85] at hce
    unfold callE at hce
    by_cases a1 : find lib x.name < 0
    · rw [if_pos a1] at hce
      have hn : checkE lib ps x = (false, 6) := checkE_err (by rw [hce]) (by decide)
      simp only [wy, Nat.reduceAdd, Nat.reduceEqDiff, Nat.reduceLT, Nat.reduceMul, Nat.reduceLeDiff, Int.reduceEq, ↓reduceIte, reduceCtorEq, ne_eq, implies_true, if_true, if_false, ite_not, eq_self, Tryd.ntmps18, decide_eq_true a1]
      exact Leave.pures rfl (by simp only [wx, Nat.reduceAdd, Nat.reduceEqDiff, Nat.reduceLT, Nat.reduceMul, Nat.reduceLeDiff, Int.reduceEq, ↓reduceIte, reduceCtorEq, ne_eq, implies_true, if_true, if_false, ite_not, oneOf, hn, tyv]) ((Ext.refl h).alloc _) rfl
    rw [if_neg a1] at hce
    obtain ⟨i, f, hi, hf, _⟩ := find_at lib x.name (by omega)
    rw [hi, Int.toNat_natCast, hf] at hce
    simp only at hce
    have il : i < lib.length := (List.getElem?_eq_some_iff.1 hf).1
    have i1 : (0 ≤ (i : Int)) = True := by simp
    have i2 : ((i : Int) < (lib.length : Int)) = True := by simp; omega
    have i3 : ¬ ((i : Int) < 0) := by omega
    simp only [wy, Nat.reduceAdd, Nat.reduceEqDiff, Nat.reduceLT, Nat.reduceMul, Nat.reduceLeDiff, Int.reduceEq, ↓reduceIte, reduceCtorEq, ne_eq, implies_true, if_true, if_false, ite_not, eq_self, Tryd.ntmps18, hi, decide_eq_false i3]
    refine Stop.drawn [(0, 0), (1, 0), (2, 0), (3, 0), (4, 0), (5, 0), (6, 0), (7, 0), (8, 0), (9, 0)] [[], [0], [0, 1], [], [], [3, 4], [3, 4, 5], [3, 4, 5, 6], [3, 4, 5, 6, 7], [0, 1, 2, 3, 4, 5, 6, 7, 8]] 90 (by kernel_rfl) ?_
    by_cases a2 : x.kids.length = f.params.length
    · have a2' : decide ((x.kids.length : Int) = f.params.length) = true := decide_eq_true (by omega)
      simp only [wy, Nat.reduceAdd, Nat.reduceEqDiff, Nat.reduceLT, Nat.reduceMul, Nat.reduceLeDiff, Int.reduceEq, ↓reduceIte, reduceCtorEq, ne_eq, implies_true, if_true, if_false, ite_not, eq_self, Tryd.ntmps18, List.length_map, i1, i2, vlib, getD_map Fn.enc hf, fenc_eq f, a2']
      exact main k84 (.int .i64 i) (.bool false) (fun e => absurd e k81) (fun _ => ⟨f, i, rfl, hi, hf, a2⟩) _ (by simp only [wx, Nat.reduceAdd, Nat.reduceEqDiff, Nat.reduceLT, Nat.reduceMul, Nat.reduceLeDiff, Int.reduceEq, ↓reduceIte, reduceCtorEq, ne_eq, implies_true, if_true, if_false, ite_not, vlib, vparams])
    · have a2' : decide ((x.kids.length : Int) = f.params.length) = false := decide_eq_false (by omega)
      rw [if_pos (by simp; exact a2)] at hce
      have hn : checkE lib ps x = (false, 7) := checkE_err (by rw [hce]) (by decide)
      simp only [wy, Nat.reduceAdd, Nat.reduceEqDiff, Nat.reduceLT, Nat.reduceMul, Nat.reduceLeDiff, Int.reduceEq, ↓reduceIte, reduceCtorEq, ne_eq, implies_true, if_true, if_false, ite_not, eq_self, Tryd.ntmps18, List.length_map, i1, i2, vlib, getD_map Fn.enc hf, fenc_eq f, a2']
      exact Leave.pures rfl (by simp only [wx, Nat.reduceAdd, Nat.reduceEqDiff, Nat.reduceLT, Nat.reduceMul, Nat.reduceLeDiff, Int.reduceEq, ↓reduceIte, reduceCtorEq, ne_eq, implies_true, if_true, if_false, ite_not, oneOf, hn, tyv]) ((Ext.refl h).alloc _) rfl
  by_cases k84 : x.kind = 84
  · have k82 : x.kind ≠ 82 := by omega
    have k83 : x.kind ≠ 83 := by omega
    rw [if_neg k81, if_neg k82, if_neg k83, if_pos k84] at hce
    rw [k84] at hwk
    have hl2 : x.kids.length = 2 := (Option.some.inj hwk).symm
    obtain ⟨y0, y1, hkids⟩ : ∃ y0 y1, x.kids = [y0, y1] := by
      match hx : x.kids, hl2 with
      | [y0, y1], _ => exact ⟨y0, y1, rfl⟩
    have hm0 : y0 ∈ x.kids := by rw [hkids]; simp
    have hm1 : y1 ∈ x.kids := by rw [hkids]; simp
    have hy0 : x.kids[0]? = some y0 := by rw [hkids]; rfl
    have hy1 : x.kids[1]? = some y1 := by rw [hkids]; rfl
    have hd0 := kid_depth hm0
    have hd1 := kid_depth hm1
    rw [hkids, List.map_cons, List.map_cons, List.map_nil] at hce
    unfold bindE at hce
    simp only [wy, Nat.reduceAdd, Nat.reduceEqDiff, Nat.reduceLT, Nat.reduceMul, Nat.reduceLeDiff, Int.reduceEq, ↓reduceIte, reduceCtorEq, ne_eq, implies_true, if_true, if_false, ite_not, eq_self, Tryd.ntmps18, decide_eq_false k81, decide_eq_false k85, decide_eq_true k84]
    refine Stop.fact (ac35 ps (by omega) x.name _) rfl (by first | rfl | simp only [wy, Nat.reduceAdd, Nat.reduceEqDiff, Nat.reduceLT, Nat.reduceMul, Nat.reduceLeDiff, Int.reduceEq, ↓reduceIte, reduceCtorEq, ne_eq, implies_true, if_true, if_false, ite_not, eq_self, Tryd.ntmps18, vparams, fgt_mappenc]) (by simp only [wy, Nat.reduceAdd, Nat.reduceEqDiff, Nat.reduceLT, Nat.reduceMul, Nat.reduceLeDiff, Int.reduceEq, ↓reduceIte, reduceCtorEq, ne_eq, implies_true, if_true, if_false, ite_not, eq_self, Tryd.ntmps18]) (caps := []) (by simp only [wy, Nat.reduceAdd, Nat.reduceEqDiff, Nat.reduceLT, Nat.reduceMul, Nat.reduceLeDiff, Int.reduceEq, ↓reduceIte, reduceCtorEq, ne_eq, implies_true, if_true, if_false, ite_not, eq_self, vparams, fgt_mappenc]) en_35 (by simp only [wy, Nat.reduceAdd, Nat.reduceEqDiff, Nat.reduceLT, Nat.reduceMul, Nat.reduceLeDiff, Int.reduceEq, ↓reduceIte, reduceCtorEq, ne_eq, implies_true, if_true, if_false, ite_not, eq_self, vparams, fgt_mappenc] <;> rfl) (Ev.sound 100 _ _ _ _ ?_)
    have hs := see_env ps x.name
    cases he : envOf ps x.name with
    | some b =>
      rw [he] at hs hce
      simp only [Option.isSome_some, if_true] at hce
      have hn : checkE lib ps x = (false, 22) := checkE_err (by rw [hce]) (by decide)
      simp only [wy, Nat.reduceAdd, Nat.reduceEqDiff, Nat.reduceLT, Nat.reduceMul, Nat.reduceLeDiff, Int.reduceEq, ↓reduceIte, reduceCtorEq, ne_eq, implies_true, if_true, if_false, ite_not, eq_self, Tryd.ntmps18, hs, Option.getD_some, Option.isSome_some]
      exact Leave.pures rfl (by simp only [wx, Nat.reduceAdd, Nat.reduceEqDiff, Nat.reduceLT, Nat.reduceMul, Nat.reduceLeDiff, Int.reduceEq, ↓reduceIte, reduceCtorEq, ne_eq, implies_true, if_true, if_false, ite_not, oneOf, hn, tyv]) ((Ext.refl h).alloc _) rfl
    | none =>
    rw [he] at hs hce
    simp only [Option.isSome_none, Bool.false_eq_true, if_false] at hce
    simp only [wy, Nat.reduceAdd, Nat.reduceEqDiff, Nat.reduceLT, Nat.reduceMul, Nat.reduceLeDiff, Int.reduceEq, ↓reduceIte, reduceCtorEq, ne_eq, implies_true, if_true, if_false, ite_not, eq_self, Tryd.ntmps18, hs, Option.getD_none, Option.isSome_none]
    have e0 : (((0 : Nat) : Int) < (x.kids.length : Int)) = True := by simp; omega
    have e1 : (((1 : Nat) : Int) < (x.kids.length : Int)) = True := by simp; omega
    have e2 : (((2 : Nat) : Int) < (x.kids.length : Int)) = False := by simp; omega
    have f0 : ((0 : Int) < (x.kids.length : Int)) = True := by simp; omega
    have f1 : ((1 : Int) < (x.kids.length : Int)) = True := by simp; omega
    have f2 : ((2 : Int) < (x.kids.length : Int)) = False := by simp; omega
    have g0 : (x.kids.map Node.enc).getD 0 [] = y0.enc := getD_map' Node.enc hy0
    have g1 : (x.kids.map Node.enc).getD 1 [] = y1.enc := getD_map' Node.enc hy1
    have w1 : IntKind.i64.wrap (0 + 1) = 1 := by decide +kernel
    have w2 : IntKind.i64.wrap (1 + 1) = 2 := by decide +kernel
    refine Stop.round (σ := List Bool × Option Nat) (fun s => 2 - s.1.length) (fun s => [(0, vlib lib), (1, vparams ps), (5, .ptr h.next 0), (14, gotV s.2 1 (s.1.map fun b => [.bool b])), (15, .int .i64 s.1.length)])
      (fun s h1 => GotOk h h1 s.2 s.1.length ∧ Ext (h.alloc (.cells [.int .u8 x.kind, .int .i64 x.num, .str x.name, kslice 4 (x.kids.map Node.enc)])) h1 ∧
        ((s.1 = [] ∧ s.2 = none) ∨ (∃ b0, s.1 = [b0] ∧ chk lib y0 (envOf ps) = (b0, 0)) ∨ ∃ b0 b1, s.1 = [b0, b1] ∧ checkE lib ps x = (b1, 0))) ([], none) ⟨⟨fun _ => rfl, fun t e => by cases e⟩, Ext.refl _, .inl ⟨rfl, rfl⟩⟩ (by simp only [wy, Nat.reduceAdd, Nat.reduceEqDiff, Nat.reduceLT, Nat.reduceMul, Nat.reduceLeDiff, Int.reduceEq, ↓reduceIte, reduceCtorEq, ne_eq, implies_true, if_true, if_false, ite_not, eq_self, Tryd.ntmps18, vlib, vparams, gotV, List.map_nil, List.length_nil, Int.natCast_zero]) ?_
    rintro ⟨bs, q⟩ h1 ⟨hq, hx, hcase⟩ next
    have hb1 : h1.get h.next = some (.cells [.int .u8 x.kind, .int .i64 x.num, .str x.name, kslice 4 (x.kids.map Node.enc)]) := by rw [hx.get _ (by simp only [wx, Nat.reduceAdd, Nat.reduceEqDiff, Nat.reduceLT, Nat.reduceMul, Nat.reduceLeDiff, Int.reduceEq, ↓reduceIte, reduceCtorEq, ne_eq, implies_true, if_true, if_false, ite_not])]; simp only [wx, Nat.reduceAdd, Nat.reduceEqDiff, Nat.reduceLT, Nat.reduceMul, Nat.reduceLeDiff, Int.reduceEq, ↓reduceIte, reduceCtorEq, ne_eq, implies_true, if_true, if_false, ite_not]
    have hh : Ext h h1 := ((Ext.refl h).alloc _).trans hx
    simp only at hq hcase ⊢
    refine Ev.sound 100 _ _ _ _ ?_
    rcases hcase with ⟨rfl, rfl⟩ | ⟨b0, rfl, hb⟩ | ⟨b0, b1, rfl, hb⟩
    · simp only [wy, Nat.reduceAdd, Nat.reduceEqDiff, Nat.reduceLT, Nat.reduceMul, Nat.reduceLeDiff, Int.reduceEq, ↓reduceIte, reduceCtorEq, ne_eq, implies_true, if_true, if_false, ite_not, eq_self, Tryd.ntmps18, hb1, List.length_map, List.length_nil, Int.natCast_zero, f0, g0, enc_eq y0, vparams, decide_eq_true k84, Int.reduceToNat, Int.reduceLE, Int.reduceLT, cast1, cast2, cast3, List.getD_cons_zero, List.getD_cons_succ]
      refine ⟨by omega, ?_⟩
      refine Stop.fact (ac18 lib hlib y0 (hw.kid hm0) (hfk y0 hm0) ps (by omega) _) rfl (by first | rfl | simp only [wy, Nat.reduceAdd, Nat.reduceEqDiff, Nat.reduceLT, Nat.reduceMul, Nat.reduceLeDiff, Int.reduceEq, ↓reduceIte, reduceCtorEq, ne_eq, implies_true, if_true, if_false, ite_not, eq_self, Tryd.ntmps18, enc_eq y0, fgt_mapenc, vlib, vparams, fgt_mapfenc, fgt_mappenc]) (by simp only [wy, Nat.reduceAdd, Nat.reduceEqDiff, Nat.reduceLT, Nat.reduceMul, Nat.reduceLeDiff, Int.reduceEq, ↓reduceIte, reduceCtorEq, ne_eq, implies_true, if_true, if_false, ite_not, eq_self, Tryd.ntmps18]) (caps := []) (by simp only [wy, Nat.reduceAdd, Nat.reduceEqDiff, Nat.reduceLT, Nat.reduceMul, Nat.reduceLeDiff, Int.reduceEq, ↓reduceIte, reduceCtorEq, ne_eq, implies_true, if_true, if_false, ite_not, eq_self, enc_eq y0, fgt_mapenc, vlib, vparams, fgt_mapfenc, fgt_mappenc]) en_18 (by simp only [wy, Nat.reduceAdd, Nat.reduceEqDiff, Nat.reduceLT, Nat.reduceMul, Nat.reduceLeDiff, Int.reduceEq, ↓reduceIte, reduceCtorEq, ne_eq, implies_true, if_true, if_false, ite_not, eq_self, enc_eq y0, fgt_mapenc, vlib, vparams, fgt_mapfenc, fgt_mappenc] <;> rfl) (Ev.sound 100 _ _ _ _ ?_)
      by_cases he0 : (chk lib y0 (envOf ps)).2 = 0
      · have hcy : checkE lib ps y0 = ((chk lib y0 (envOf ps)).1, 0) := checkE_ok (by rw [← he0])
        simp only [wy, Nat.reduceAdd, Nat.reduceEqDiff, Nat.reduceLT, Nat.reduceMul, Nat.reduceLeDiff, Int.reduceEq, ↓reduceIte, reduceCtorEq, ne_eq, implies_true, if_true, if_false, ite_not, eq_self, Tryd.ntmps18, hcy, tyv, gotV, List.map_nil, Int.reduceToNat, Int.reduceLE, Int.reduceLT, cast1, cast2, cast3, List.getD_cons_zero, List.getD_cons_succ, w1, List.length_nil, Int.natCast_zero]
        refine next ([(chk lib y0 (envOf ps)).1], some (h1.ntok + 1)) _ _ (by simp) ⟨⟨fun e => (by cases e), fun t e => ?_⟩, (hx.newTok _).newTok _, .inr (.inl ⟨_, rfl, by rw [← he0]⟩)⟩ ?_
        · cases e
          exact ⟨by simp only [wy, Nat.reduceAdd, Nat.reduceEqDiff, Nat.reduceLT, Nat.reduceMul, Nat.reduceLeDiff, Int.reduceEq, ↓reduceIte, reduceCtorEq, ne_eq, implies_true, if_true, if_false, ite_not, eq_self, Tryd.ntmps18, List.length_cons, List.length_nil], by simp only [wy, Nat.reduceAdd, Nat.reduceEqDiff, Nat.reduceLT, Nat.reduceMul, Nat.reduceLeDiff, Int.reduceEq, ↓reduceIte, reduceCtorEq, ne_eq, implies_true, if_true, if_false, ite_not, eq_self, Tryd.ntmps18, Nat.lt_succ_self], by have := hh.ntok; omega⟩
        · simp only [wy, Nat.reduceAdd, Nat.reduceEqDiff, Nat.reduceLT, Nat.reduceMul, Nat.reduceLeDiff, Int.reduceEq, ↓reduceIte, reduceCtorEq, ne_eq, implies_true, if_true, if_false, ite_not, eq_self, Tryd.ntmps18, vlib, vparams, gotV, List.map_cons, List.map_nil, List.length_cons, List.length_nil, cast1]
      · have hcy : checkE lib ps y0 = (false, (chk lib y0 (envOf ps)).2) := checkE_err rfl he0
        rw [if_pos he0] at hce
        have hn : checkE lib ps x = (false, (chk lib y0 (envOf ps)).2) := checkE_err (by rw [hce]) he0
        simp only [wy, Nat.reduceAdd, Nat.reduceEqDiff, Nat.reduceLT, Nat.reduceMul, Nat.reduceLeDiff, Int.reduceEq, ↓reduceIte, reduceCtorEq, ne_eq, implies_true, if_true, if_false, ite_not, eq_self, Tryd.ntmps18, hcy, tyv, decide_eq_false he0]
        exact Leave.pures rfl (by simp only [wx, Nat.reduceAdd, Nat.reduceEqDiff, Nat.reduceLT, Nat.reduceMul, Nat.reduceLeDiff, Int.reduceEq, ↓reduceIte, reduceCtorEq, ne_eq, implies_true, if_true, if_false, ite_not, oneOf, hn]) (hh.newTok _) rfl
    · cases q with
      | none => exact absurd (hq.none rfl) (by simp)
      | some q =>
      obtain ⟨q1, q2, q3⟩ := hq.some q rfl
      rw [hb] at hce
      simp only [ne_eq, not_true_eq_false, if_false] at hce
      have hps2 : envOf (ps ++ [⟨x.name, b0⟩]) = envPut (envOf ps) x.name b0 := by unfold envOf; rw [List.foldl_append]; rfl
      rw [← hps2] at hce
      have q4 : (q = h1.ntok) = False := by simp; omega
      have q5 : (q < h1.ntok + 1) = True := by simp; omega
      simp only [wy, Nat.reduceAdd, Nat.reduceEqDiff, Nat.reduceLT, Nat.reduceMul, Nat.reduceLeDiff, Int.reduceEq, ↓reduceIte, reduceCtorEq, ne_eq, implies_true, if_true, if_false, ite_not, eq_self, Tryd.ntmps18, hb1, List.length_map, List.length_cons, List.length_nil, cast1, f1, g1, enc_eq y1, vparams, decide_eq_true k84, Int.reduceToNat, Int.reduceLE, Int.reduceLT, cast1, cast2, cast3, List.getD_cons_zero, List.getD_cons_succ, gotV, List.map_cons, List.map_nil, k84]
      refine ⟨by omega, ?_⟩
      refine Stop.drawn [(0, 0), (1, 0), (2, 0), (3, 0), (4, 0), (5, 0), (6, 0), (7, 0), (8, 1), (9, 0)] [[], [], [1], [], [3], [3, 4], [1, 2, 3, 4, 5], [1, 2, 3, 4, 5, 6], [0, 1, 2, 3, 4, 5, 6, 7], [0, 1, 2, 3, 4, 5, 6, 7, 8]] 90 (by kernel_rfl) ?_
      simp only [wy, Nat.reduceAdd, Nat.reduceEqDiff, Nat.reduceLT, Nat.reduceMul, Nat.reduceLeDiff, Int.reduceEq, ↓reduceIte, reduceCtorEq, ne_eq, implies_true, if_true, if_false, ite_not, eq_self, Tryd.ntmps18, hb1, Int.reduceToNat, Int.reduceLE, Int.reduceLT, cast1, cast2, cast3, List.getD_cons_zero, List.getD_cons_succ, List.length_map, f1, g1, enc_eq y1, eq_self]
      refine ⟨by omega, ?_⟩
      refine Stop.fact (ac18 lib hlib y1 (hw.kid hm1) (hfk y1 hm1) (ps ++ [⟨x.name, b0⟩]) (by simp; omega) _) rfl (by first | rfl | simp only [wy, Nat.reduceAdd, Nat.reduceEqDiff, Nat.reduceLT, Nat.reduceMul, Nat.reduceLeDiff, Int.reduceEq, ↓reduceIte, reduceCtorEq, ne_eq, implies_true, if_true, if_false, ite_not, eq_self, Tryd.ntmps18, enc_eq y1, fgt_mapenc, vlib, vparams, fgt_mapfenc, List.map_append, List.map_cons, List.map_nil, penc_eq, fgt_snoc]) (by simp only [wy, Nat.reduceAdd, Nat.reduceEqDiff, Nat.reduceLT, Nat.reduceMul, Nat.reduceLeDiff, Int.reduceEq, ↓reduceIte, reduceCtorEq, ne_eq, implies_true, if_true, if_false, ite_not, eq_self, Tryd.ntmps18]) (caps := []) (by simp only [wy, Nat.reduceAdd, Nat.reduceEqDiff, Nat.reduceLT, Nat.reduceMul, Nat.reduceLeDiff, Int.reduceEq, ↓reduceIte, reduceCtorEq, ne_eq, implies_true, if_true, if_false, ite_not, eq_self, enc_eq y1, fgt_mapenc, vlib, vparams, fgt_mapfenc, List.map_append, List.map_cons, List.map_nil, penc_eq, fgt_snoc]) en_18 (by simp only [wy, Nat.reduceAdd, Nat.reduceEqDiff, Nat.reduceLT, Nat.reduceMul, Nat.reduceLeDiff, Int.reduceEq, ↓reduceIte, reduceCtorEq, ne_eq, implies_true, if_true, if_false, ite_not, eq_self, enc_eq y1, fgt_mapenc, vlib, vparams, fgt_mapfenc, List.map_append, List.map_cons, List.map_nil, penc_eq, fgt_snoc] <;> rfl) (Ev.sound 100 _ _ _ _ ?_)
      by_cases he1 : (chk lib y1 (envOf (ps ++ [⟨x.name, b0⟩]))).2 = 0
      · have hcy : checkE lib (ps ++ [⟨x.name, b0⟩]) y1 = ((chk lib y1 (envOf (ps ++ [⟨x.name, b0⟩]))).1, 0) := checkE_ok (by rw [← he1])
        have hn : checkE lib ps x = ((chk lib y1 (envOf (ps ++ [⟨x.name, b0⟩]))).1, 0) := checkE_ok (by rw [hce, ← he1])
        simp only [wy, Nat.reduceAdd, Nat.reduceEqDiff, Nat.reduceLT, Nat.reduceMul, Nat.reduceLeDiff, Int.reduceEq, ↓reduceIte, reduceCtorEq, ne_eq, implies_true, if_true, if_false, ite_not, eq_self, Tryd.ntmps18, hcy, tyv, gotV, List.map_nil, List.map_cons, Int.reduceToNat, Int.reduceLE, Int.reduceLT, cast1, cast2, cast3, List.getD_cons_zero, List.getD_cons_succ, w2, q1, q2, q4, q5, List.length_nil, List.length_cons, Int.natCast_zero]
        refine next ([b0, (chk lib y1 (envOf (ps ++ [⟨x.name, b0⟩]))).1], some q) _ _ (by simp) ⟨⟨fun e => (by cases e), fun t e => ?_⟩, ((hx.newTok _).setTok ?_ _).setTok ?_ _, .inr (.inr ⟨_, _, rfl, hn⟩)⟩ ?_
        · cases e
          exact ⟨by simp only [wy, Nat.reduceAdd, Nat.reduceEqDiff, Nat.reduceLT, Nat.reduceMul, Nat.reduceLeDiff, Int.reduceEq, ↓reduceIte, reduceCtorEq, ne_eq, implies_true, if_true, if_false, ite_not, eq_self, Tryd.ntmps18, q2, q4, q5, List.length_cons, List.length_nil], by simp only [wy, Nat.reduceAdd, Nat.reduceEqDiff, Nat.reduceLT, Nat.reduceMul, Nat.reduceLeDiff, Int.reduceEq, ↓reduceIte, reduceCtorEq, ne_eq, implies_true, if_true, if_false, ite_not, eq_self, Tryd.ntmps18, q5], q3⟩
        · exact hx.ntok
        · exact q3
        · simp only [wy, Nat.reduceAdd, Nat.reduceEqDiff, Nat.reduceLT, Nat.reduceMul, Nat.reduceLeDiff, Int.reduceEq, ↓reduceIte, reduceCtorEq, ne_eq, implies_true, if_true, if_false, ite_not, eq_self, Tryd.ntmps18, vlib, vparams, gotV, List.map_cons, List.map_nil, List.length_cons, List.length_nil, cast2]
      · have hcy : checkE lib (ps ++ [⟨x.name, b0⟩]) y1 = (false, (chk lib y1 (envOf (ps ++ [⟨x.name, b0⟩]))).2) := checkE_err rfl he1
        have hn : checkE lib ps x = (false, (chk lib y1 (envOf (ps ++ [⟨x.name, b0⟩]))).2) := checkE_err (by rw [hce]) he1
        simp only [wy, Nat.reduceAdd, Nat.reduceEqDiff, Nat.reduceLT, Nat.reduceMul, Nat.reduceLeDiff, Int.reduceEq, ↓reduceIte, reduceCtorEq, ne_eq, implies_true, if_true, if_false, ite_not, eq_self, Tryd.ntmps18, hcy, tyv, decide_eq_false he1]
        exact Leave.pures rfl (by simp only [wx, Nat.reduceAdd, Nat.reduceEqDiff, Nat.reduceLT, Nat.reduceMul, Nat.reduceLeDiff, Int.reduceEq, ↓reduceIte, reduceCtorEq, ne_eq, implies_true, if_true, if_false, ite_not, oneOf, hn]) (((hh.newTok _).setTok (by have := hh.ntok; omega) _)) rfl
    · cases q with
      | none => exact absurd (hq.none rfl) (by simp)
      | some q =>
      simp only [wy, Nat.reduceAdd, Nat.reduceEqDiff, Nat.reduceLT, Nat.reduceMul, Nat.reduceLeDiff, Int.reduceEq, ↓reduceIte, reduceCtorEq, ne_eq, implies_true, if_true, if_false, ite_not, eq_self, Tryd.ntmps18, hb1, List.length_map, List.length_cons, List.length_nil, cast2, f2, decide_eq_false k81, decide_eq_true k84, Int.reduceToNat, Int.reduceLE, Int.reduceLT, cast1, cast2, cast3, List.getD_cons_zero, List.getD_cons_succ, gotV, List.map_cons, List.map_nil, k84]
      exact Leave.pures rfl (by simp only [wx, Nat.reduceAdd, Nat.reduceEqDiff, Nat.reduceLT, Nat.reduceMul, Nat.reduceLeDiff, Int.reduceEq, ↓reduceIte, reduceCtorEq, ne_eq, implies_true, if_true, if_false, ite_not, oneOf, hb, tyv]) hh rfl
  simp only [wx, Nat.reduceAdd, Nat.reduceEqDiff, Nat.reduceLT, Nat.reduceMul, Nat.reduceLeDiff, Int.reduceEq, ↓reduceIte, reduceCtorEq, ne_eq, implies_true, if_true, if_false, ite_not, Tryd.ntmps18, decide_eq_false k81, decide_eq_false k85, decide_eq_false k84]
  exact main k84 (.int .i64 (-1)) (.bool false) (fun e => absurd e k81) (fun e => absurd e k85) _ (by simp only [wx, Nat.reduceAdd, Nat.reduceEqDiff, Nat.reduceLT, Nat.reduceMul, Nat.reduceLeDiff, Int.reduceEq, ↓reduceIte, reduceCtorEq, ne_eq, implies_true, if_true, if_false, ite_not, vlib, vparams])
 termination_by x.size
 decreasing_by all_goals first | exact kid_size hmem | exact kid_size hm0 | exact kid_size hm1
end Go.Proofs.YtajknofacjiddaaDoor.Abs

/- Calls, the example, awake -/
namespace Go.Proofs.YtajknofacjiddaaDoor.Abs
open Go Go.RowKit
set_option linter.unusedSimpArgs false
set_option linter.unusedVariables false
set_option maxHeartbeats 4000000
set_option maxRecDepth 100000
def callsAt (lib : List Fn) (i : Int) : List Int := if i < 0 ∨ (lib.length : Int) ≤ i then [] else match lib[i.toNat]? with | some f => callsE lib f.body | none => []
theorem fgt_out (h : AHeap) (els : List Int) : (outV h els).fgt = vints els := by
  unfold outV vints
  split
  · rename_i he; subst he; rfl
  · rw [fgt_slice, fgt_iels]; rfl
theorem ok_vints (n m : Nat) (l : List Int) : (vints l).ok n m = true := by
  unfold vints
  cases l with
  | nil => rfl
  | cons x xs => exact ok_iels n m (x :: xs)
theorem ac19 (lib : List Fn) (hlib : LibOk lib) (hok : ∀ f ∈ lib, FnOk f) (i : Int) (h : AHeap) : AC sd 19 [vlib lib, .int .i64 i] h (Pure1 (vints (callsAt lib i)) h) := by
  refine AC.pure Tryd.func19 rfl Tryd.ntmps19 (by show 2 ≤ 24; decide) ?_
  refine Ev.sound 100 _ _ _ _ ?_
  simp only [argFr, vlib]
  have hh : ∀ v, Ext h (h.alloc v) := fun v => (Ext.refl h).alloc v
  by_cases a1 : i < 0
  · have hn : callsAt lib i = [] := if_pos (.inl a1)
    simp only [wy, Nat.reduceAdd, Nat.reduceEqDiff, Nat.reduceLT, Nat.reduceMul, Nat.reduceLeDiff, Int.reduceEq, ↓reduceIte, reduceCtorEq, ne_eq, implies_true, if_true, if_false, ite_not, eq_self, Tryd.ntmps19, List.length_map, decide_eq_true a1]
    exact Leave.pures rfl (by rw [hn]; rfl) (hh _) (ok_vints _ _ _)
  by_cases a2 : (lib.length : Int) ≤ i
  · have hn : callsAt lib i = [] := if_pos (.inr a2)
    simp only [wy, Nat.reduceAdd, Nat.reduceEqDiff, Nat.reduceLT, Nat.reduceMul, Nat.reduceLeDiff, Int.reduceEq, ↓reduceIte, reduceCtorEq, ne_eq, implies_true, if_true, if_false, ite_not, eq_self, Tryd.ntmps19, List.length_map, decide_eq_false a1, decide_eq_true a2]
    exact Leave.pures rfl (by rw [hn]; rfl) (hh _) (ok_vints _ _ _)
  obtain ⟨k, rfl⟩ : ∃ k : Nat, i = k := ⟨i.toNat, by omega⟩
  obtain ⟨f, hf⟩ : ∃ f, lib[k]? = some f := ⟨_, List.getElem?_eq_getElem (by omega)⟩
  have hmem := List.mem_of_getElem? hf
  have hn : callsAt lib k = callsE lib f.body := by
    unfold callsAt
    rw [if_neg (by omega), Int.toNat_natCast, hf]
  have c1 : (0 ≤ (k : Int)) = True := by simp
  have c2 : ((k : Int) < (lib.length : Int)) = True := by simp; omega
  simp only [wy, Nat.reduceAdd, Nat.reduceEqDiff, Nat.reduceLT, Nat.reduceMul, Nat.reduceLeDiff, Int.reduceEq, ↓reduceIte, reduceCtorEq, ne_eq, implies_true, if_true, if_false, ite_not, eq_self, Tryd.ntmps19, List.length_map, decide_eq_false a1, decide_eq_false a2]
  refine Stop.drawn [(0, 0), (1, 0), (2, 0), (3, 0), (4, 0), (5, 0), (6, 5)] [[], [], [], [1, 2], [1, 2, 3], [1, 2, 3, 4], [0, 1, 2, 3, 4, 5]] 90 (by kernel_rfl) ?_
  simp only [wy, Nat.reduceAdd, Nat.reduceEqDiff, Nat.reduceLT, Nat.reduceMul, Nat.reduceLeDiff, Int.reduceEq, ↓reduceIte, reduceCtorEq, ne_eq, implies_true, if_true, if_false, ite_not, eq_self, Tryd.ntmps19, List.length_map, c1, c2, getD_map Fn.enc hf, fenc_eq f]
  generalize hH : ((h.alloc (.cells [kslice 7 (lib.map Fn.enc)])).alloc (.cells [.slice 0 [] .fixed])).alloc (.cells [.func 37 [.ptr h.next 0, .ptr (h.next + 1) 0, .ptr (h.next + 2) 0]]) = H
  have hxb : Ext h H := by rw [← hH]; exact ((hh _).alloc _).alloc _
  refine DX.post (h2 := outH H (h.next + 1) ([] ++ callsE lib f.body)) (v := .tup []) (ac37 lib hlib f.body (hok f hmem).body H h.next (h.next + 1) (h.next + 2) [] ?_ ?_ ?_ ?_) rfl (by simp only [wy, Nat.reduceAdd, Nat.reduceEqDiff, Nat.reduceLT, Nat.reduceMul, Nat.reduceLeDiff, Int.reduceEq, ↓reduceIte, reduceCtorEq, ne_eq, implies_true, if_true, if_false, ite_not, eq_self, Tryd.ntmps19]) (caps := [.ptr h.next 0, .ptr (h.next + 1) 0, .ptr (h.next + 2) 0]) (by simp only [wy, Nat.reduceAdd, Nat.reduceEqDiff, Nat.reduceLT, Nat.reduceMul, Nat.reduceLeDiff, Int.reduceEq, ↓reduceIte, reduceCtorEq, ne_eq, implies_true, if_true, if_false, ite_not, eq_self, Tryd.ntmps19]) en_37 (by simp only [wy, Nat.reduceAdd, Nat.reduceEqDiff, Nat.reduceLT, Nat.reduceMul, Nat.reduceLeDiff, Int.reduceEq, ↓reduceIte, reduceCtorEq, ne_eq, implies_true, if_true, if_false, ite_not, eq_self, Tryd.ntmps19, enc_eq, fgt_mapenc] <;> rfl) ?_
  · have := (hok f hmem).body.size
    simp
    omega
  · rw [← hH]; simp only [wy, Nat.reduceAdd, Nat.reduceEqDiff, Nat.reduceLT, Nat.reduceMul, Nat.reduceLeDiff, Int.reduceEq, ↓reduceIte, reduceCtorEq, ne_eq, implies_true, if_true, if_false, ite_not, eq_self, Tryd.ntmps19, vlib]
  · rw [← hH]; simp only [wy, Nat.reduceAdd, Nat.reduceEqDiff, Nat.reduceLT, Nat.reduceMul, Nat.reduceLeDiff, Int.reduceEq, ↓reduceIte, reduceCtorEq, ne_eq, implies_true, if_true, if_false, ite_not, eq_self, Tryd.ntmps19]
  · rw [← hH]; simp only [wy, Nat.reduceAdd, Nat.reduceEqDiff, Nat.reduceLT, Nat.reduceMul, Nat.reduceLeDiff, Int.reduceEq, ↓reduceIte, reduceCtorEq, ne_eq, implies_true, if_true, if_false, ite_not, eq_self, Tryd.ntmps19]
  have hgb : H.get (h.next + 1) = some (.cells [.slice 0 [] .fixed]) := by rw [← hH]; simp only [wy, Nat.reduceAdd, Nat.reduceEqDiff, Nat.reduceLT, Nat.reduceMul, Nat.reduceLeDiff, Int.reduceEq, ↓reduceIte, reduceCtorEq, ne_eq, implies_true, if_true, if_false, ite_not, eq_self, Tryd.ntmps19]
  have hgo := outH_out H hgb (callsE lib f.body)
  rw [List.nil_append]
  simp only [wy, Nat.reduceAdd, Nat.reduceEqDiff, Nat.reduceLT, Nat.reduceMul, Nat.reduceLeDiff, Int.reduceEq, ↓reduceIte, reduceCtorEq, ne_eq, implies_true, if_true, if_false, ite_not, eq_self, Tryd.ntmps19, hgo]
  refine Leave.pures rfl (by rw [hn]; exact fgt_out _ _) ?_ (ok_vints _ _ _)
  unfold outH
  split
  · exact hxb
  · exact ((hxb.newTok _)).set (by omega) _
theorem vints_eq (l : List Int) : vints l = .slice (if l = [] then 0 else 1) (iels l) .unk := by
  cases l <;> rfl
noncomputable def K22 : List Item := match Tryd.f22.body with | some c => atLoop 0 100 [.code c] | none => []
theorem ac22 (lib : List Fn) (hlib : LibOk lib) (x : Node) : x.wf → ∀ h : AHeap, AC sd 22 [vlib lib, .agg x.enc] h (Pure1 (vints (callsE lib x)) h) := by
  intro hw h
  refine AC.pure Tryd.func22 rfl Tryd.ntmps22 (by show 2 ≤ 40; decide) ?_
  refine Ev.sound 100 _ _ _ _ ?_
  have hl := hlib.len
  simp only [argFr, vlib, enc_eq]
  simp only [wy, Nat.reduceAdd, Nat.reduceEqDiff, Nat.reduceLT, Nat.reduceMul, Nat.reduceLeDiff, Int.reduceEq, ↓reduceIte, reduceCtorEq, ne_eq, implies_true, if_true, if_false, ite_not, eq_self, Tryd.ntmps22]
  refine Stop.fact (ac21 lib x.name hl _) rfl (by first | rfl | simp only [wy, Nat.reduceAdd, Nat.reduceEqDiff, Nat.reduceLT, Nat.reduceMul, Nat.reduceLeDiff, Int.reduceEq, ↓reduceIte, reduceCtorEq, ne_eq, implies_true, if_true, if_false, ite_not, eq_self, Tryd.ntmps22, vlib, fgt_mapfenc]) (by simp only [wy, Nat.reduceAdd, Nat.reduceEqDiff, Nat.reduceLT, Nat.reduceMul, Nat.reduceLeDiff, Int.reduceEq, ↓reduceIte, reduceCtorEq, ne_eq, implies_true, if_true, if_false, ite_not, eq_self, Tryd.ntmps22]) (caps := []) (by simp only [wy, Nat.reduceAdd, Nat.reduceEqDiff, Nat.reduceLT, Nat.reduceMul, Nat.reduceLeDiff, Int.reduceEq, ↓reduceIte, reduceCtorEq, ne_eq, implies_true, if_true, if_false, ite_not, eq_self, vlib, fgt_mapfenc]) en_21 (by simp only [wy, Nat.reduceAdd, Nat.reduceEqDiff, Nat.reduceLT, Nat.reduceMul, Nat.reduceLeDiff, Int.reduceEq, ↓reduceIte, reduceCtorEq, ne_eq, implies_true, if_true, if_false, ite_not, eq_self, vlib, fgt_mapfenc] <;> rfl) (Ev.sound 100 _ _ _ _ ?_)
  have hcall := calls_eq lib x
  have hfl := flat_le (lib := lib) x
  have hlen := hw.len
  have hb0 : (h.alloc (.cells [.int .u8 x.kind, .int .i64 x.num, .str x.name, kslice 4 (x.kids.map Node.enc)])).ntok = h.ntok := rfl
  have rest : ∀ (q0 : Option Nat) (H : AHeap), Ext (h.alloc (.cells [.int .u8 x.kind, .int .i64 x.num, .str x.name, kslice 4 (x.kids.map Node.enc)])) H → GotOk h H q0 (ownCall lib x.kind x.name).length → ∀ fr : Fr, fr.Has [(0, vlib lib), (3, .ptr h.next 0), (5, gotV q0 1 (iels (ownCall lib x.kind x.name))), (7, .int .i64 0)] → Stop sd Tryd.f22 (fun r h' => Dropped h (Pure1 (vints (callsE lib x)) h) r.fgt h') K22 [] fr H := by
    intro q0 H hxH hq0 fr hfr
    obtain ⟨k, hK⟩ : ∃ k, K22 = k := ⟨_, rfl⟩
    have hK2 := hK
    simp only [K22, Tryd.f22, atLoop, Nat.reduceEqDiff, if_false, if_true, ↓reduceIte] at hK2
    rw [hK, ← hK2]
    clear hK hK2
    refine Stop.round (σ := Nat × Option Nat) (fun s => x.kids.length - s.1) (fun s => [(0, vlib lib), (3, .ptr h.next 0), (5, gotV s.2 1 (iels (ownCall lib x.kind x.name ++ (x.kids.take s.1).flatMap (callsE lib)))), (7, .int .i64 s.1)])
      (fun s h1 => s.1 ≤ x.kids.length ∧ Ext (h.alloc (.cells [.int .u8 x.kind, .int .i64 x.num, .str x.name, kslice 4 (x.kids.map Node.enc)])) h1 ∧ GotOk h h1 s.2 (ownCall lib x.kind x.name ++ (x.kids.take s.1).flatMap (callsE lib)).length) (0, q0) ⟨Nat.zero_le _, hxH, by simpa using hq0⟩ (by simpa using hfr) ?_
    rintro ⟨k, q⟩ h1 ⟨hk, hx, hq⟩ next
    simp only at hk hq ⊢
    refine Ev.sound 100 _ _ _ _ ?_
    have hgx : h1.get h.next = some (.cells [.int .u8 x.kind, .int .i64 x.num, .str x.name, kslice 4 (x.kids.map Node.enc)]) := by rw [hx.get _ (by simp only [wy, Nat.reduceAdd, Nat.reduceEqDiff, Nat.reduceLT, Nat.reduceMul, Nat.reduceLeDiff, Int.reduceEq, ↓reduceIte, reduceCtorEq, ne_eq, implies_true, if_true, if_false, ite_not, eq_self, Tryd.ntmps22])]; simp only [wy, Nat.reduceAdd, Nat.reduceEqDiff, Nat.reduceLT, Nat.reduceMul, Nat.reduceLeDiff, Int.reduceEq, ↓reduceIte, reduceCtorEq, ne_eq, implies_true, if_true, if_false, ite_not, eq_self, Tryd.ntmps22]
    have hx2 : Ext h h1 := ((Ext.refl h).alloc _).trans hx
    generalize hacc : ownCall lib x.kind x.name ++ (x.kids.take k).flatMap (callsE lib) = acc at *
    rcases turn x.kids k hk with ⟨y, hy, hmem, hlt, c1, c2⟩ | ⟨hkk, c1⟩
    · have w1 := wrap_succ k (by omega)
      have hacc2 : ownCall lib x.kind x.name ++ (x.kids.take (k + 1)).flatMap (callsE lib) = acc ++ callsE lib y := by rw [flat_step hy, ← List.append_assoc, hacc]
      have hl2 : acc.length + (callsE lib y).length ≤ 1048576 := by
        have h3 := hfl (k + 1)
        have h4 := hw.size
        have h5 := congrArg List.length hacc2
        simp only [List.length_append] at h5
        omega
      have cond : ((if callsE lib y = [] then 0 else 1) = 1 ∨ (iels (callsE lib y)).length = 0) := by
        by_cases e : callsE lib y = []
        · exact .inr (by rw [e]; rfl)
        · exact .inl (by rw [if_neg e])
      simp only [wy, Nat.reduceAdd, Nat.reduceEqDiff, Nat.reduceLT, Nat.reduceMul, Nat.reduceLeDiff, Int.reduceEq, ↓reduceIte, reduceCtorEq, ne_eq, implies_true, if_true, if_false, ite_not, eq_self, Tryd.ntmps22, vlib, c1, c2, hgx, List.length_map, getD_map Node.enc hy, enc_eq y]
      refine Stop.fact (ac22 lib hlib y (hw.kid hmem) _) rfl (by first | rfl | simp only [wy, Nat.reduceAdd, Nat.reduceEqDiff, Nat.reduceLT, Nat.reduceMul, Nat.reduceLeDiff, Int.reduceEq, ↓reduceIte, reduceCtorEq, ne_eq, implies_true, if_true, if_false, ite_not, eq_self, Tryd.ntmps22, enc_eq, fgt_mapenc, vlib, fgt_mapfenc]) (by simp only [wy, Nat.reduceAdd, Nat.reduceEqDiff, Nat.reduceLT, Nat.reduceMul, Nat.reduceLeDiff, Int.reduceEq, ↓reduceIte, reduceCtorEq, ne_eq, implies_true, if_true, if_false, ite_not, eq_self, Tryd.ntmps22]) (caps := []) (by simp only [wy, Nat.reduceAdd, Nat.reduceEqDiff, Nat.reduceLT, Nat.reduceMul, Nat.reduceLeDiff, Int.reduceEq, ↓reduceIte, reduceCtorEq, ne_eq, implies_true, if_true, if_false, ite_not, eq_self, enc_eq, fgt_mapenc, vlib, fgt_mapfenc]) en_22 (by simp only [wy, Nat.reduceAdd, Nat.reduceEqDiff, Nat.reduceLT, Nat.reduceMul, Nat.reduceLeDiff, Int.reduceEq, ↓reduceIte, reduceCtorEq, ne_eq, implies_true, if_true, if_false, ite_not, eq_self, enc_eq, fgt_mapenc, vlib, fgt_mapfenc] <;> rfl) (Ev.sound 100 _ _ _ _ ?_)
      cases q with
      | none =>
        have he : acc = [] := List.eq_nil_of_length_eq_zero (hq.none rfl)
        subst he
        simp only [wy, Nat.reduceAdd, Nat.reduceEqDiff, Nat.reduceLT, Nat.reduceMul, Nat.reduceLeDiff, Int.reduceEq, ↓reduceIte, reduceCtorEq, ne_eq, implies_true, if_true, if_false, ite_not, eq_self, Tryd.ntmps22, gotV, vints_eq (callsE lib y)]
        refine ⟨⟨cond, by rw [iels_len]; simp at hl2 ⊢; omega⟩, ?_⟩
        simp only [wy, Nat.reduceAdd, Nat.reduceEqDiff, Nat.reduceLT, Nat.reduceMul, Nat.reduceLeDiff, Int.reduceEq, ↓reduceIte, reduceCtorEq, ne_eq, implies_true, if_true, if_false, ite_not, eq_self, Tryd.ntmps22, w1]
        refine next (k + 1, some h1.ntok) _ _ (by simp only; omega) ⟨hlt, hx.newTok _, ⟨fun e => (by cases e), fun t e => ?_⟩⟩ ?_
        · cases e
          rw [hacc2]
          exact ⟨by simp only [wy, Nat.reduceAdd, Nat.reduceEqDiff, Nat.reduceLT, Nat.reduceMul, Nat.reduceLeDiff, Int.reduceEq, ↓reduceIte, reduceCtorEq, ne_eq, implies_true, if_true, if_false, ite_not, eq_self, Tryd.ntmps22, iels_len], by simp only [wy, Nat.reduceAdd, Nat.reduceEqDiff, Nat.reduceLT, Nat.reduceMul, Nat.reduceLeDiff, Int.reduceEq, ↓reduceIte, reduceCtorEq, ne_eq, implies_true, if_true, if_false, ite_not, eq_self, Tryd.ntmps22, Nat.lt_succ_self], by have := hx2.ntok; omega⟩
        · rw [hacc2]; simp only [wy, Nat.reduceAdd, Nat.reduceEqDiff, Nat.reduceLT, Nat.reduceMul, Nat.reduceLeDiff, Int.reduceEq, ↓reduceIte, reduceCtorEq, ne_eq, implies_true, if_true, if_false, ite_not, eq_self, Tryd.ntmps22, gotV, vlib]
      | some t =>
        obtain ⟨t1, t2, t3⟩ := hq.some t rfl
        have t4 : (t < h1.ntok) = True := by simp; omega
        simp only [wy, Nat.reduceAdd, Nat.reduceEqDiff, Nat.reduceLT, Nat.reduceMul, Nat.reduceLeDiff, Int.reduceEq, ↓reduceIte, reduceCtorEq, ne_eq, implies_true, if_true, if_false, ite_not, eq_self, Tryd.ntmps22, gotV, vints_eq (callsE lib y), t1, t4, iels_len]
        refine ⟨⟨by rw [iels_len] at cond; exact cond, by omega⟩, ?_⟩
        simp only [wy, Nat.reduceAdd, Nat.reduceEqDiff, Nat.reduceLT, Nat.reduceMul, Nat.reduceLeDiff, Int.reduceEq, ↓reduceIte, reduceCtorEq, ne_eq, implies_true, if_true, if_false, ite_not, eq_self, Tryd.ntmps22, w1]
        refine next (k + 1, some t) _ _ (by simp only; omega) ⟨hlt, hx.setTok (by rw [ntok_alloc]; exact t3) _, ⟨fun e => (by cases e), fun t' e => ?_⟩⟩ ?_
        · cases e
          rw [hacc2]
          exact ⟨by simp only [wy, Nat.reduceAdd, Nat.reduceEqDiff, Nat.reduceLT, Nat.reduceMul, Nat.reduceLeDiff, Int.reduceEq, ↓reduceIte, reduceCtorEq, ne_eq, implies_true, if_true, if_false, ite_not, eq_self, Tryd.ntmps22, t2, List.length_append], by simp only [wy, Nat.reduceAdd, Nat.reduceEqDiff, Nat.reduceLT, Nat.reduceMul, Nat.reduceLeDiff, Int.reduceEq, ↓reduceIte, reduceCtorEq, ne_eq, implies_true, if_true, if_false, ite_not, eq_self, Tryd.ntmps22, t2], t3⟩
        · rw [hacc2]; simp only [wy, Nat.reduceAdd, Nat.reduceEqDiff, Nat.reduceLT, Nat.reduceMul, Nat.reduceLeDiff, Int.reduceEq, ↓reduceIte, reduceCtorEq, ne_eq, implies_true, if_true, if_false, ite_not, eq_self, Tryd.ntmps22, gotV, vlib, iels, List.map_append]
    · rw [hkk, List.take_length] at hacc
      rw [hacc] at hcall
      simp only [wy, Nat.reduceAdd, Nat.reduceEqDiff, Nat.reduceLT, Nat.reduceMul, Nat.reduceLeDiff, Int.reduceEq, ↓reduceIte, reduceCtorEq, ne_eq, implies_true, if_true, if_false, ite_not, eq_self, Tryd.ntmps22, c1, hgx, List.length_map]
      have hv : (gotV q 1 (iels acc)).fgt = vints acc := by
        cases q with
        | none => have he : acc = [] := List.eq_nil_of_length_eq_zero (hq.none rfl); subst he; rfl
        | some t => show kslice 1 (fgtLL (iels acc)) = _; rw [fgt_iels]; rfl
      exact Leave.pures rfl (by rw [hcall]; exact hv) hx2 (ok_vints _ _ _)
  by_cases k85 : x.kind = 85 ∧ 0 ≤ find lib x.name
  · have ho : ownCall lib x.kind x.name = [find lib x.name] := if_pos k85
    rw [ho] at rest
    simp only [wy, Nat.reduceAdd, Nat.reduceEqDiff, Nat.reduceLT, Nat.reduceMul, Nat.reduceLeDiff, Int.reduceEq, ↓reduceIte, reduceCtorEq, ne_eq, implies_true, if_true, if_false, ite_not, eq_self, Tryd.ntmps22, decide_eq_true k85.1, decide_eq_true k85.2]
    refine rest (some h.ntok) _ (Ext.newTok (Ext.refl _) _) ⟨fun e => (by cases e), fun t e => ?_⟩ _ (by simp only [wy, Nat.reduceAdd, Nat.reduceEqDiff, Nat.reduceLT, Nat.reduceMul, Nat.reduceLeDiff, Int.reduceEq, ↓reduceIte, reduceCtorEq, ne_eq, implies_true, if_true, if_false, ite_not, eq_self, Tryd.ntmps22, vlib, gotV, iels])
    cases e
    exact ⟨by simp only [wy, Nat.reduceAdd, Nat.reduceEqDiff, Nat.reduceLT, Nat.reduceMul, Nat.reduceLeDiff, Int.reduceEq, ↓reduceIte, reduceCtorEq, ne_eq, implies_true, if_true, if_false, ite_not, eq_self, Tryd.ntmps22], by simp only [wy, Nat.reduceAdd, Nat.reduceEqDiff, Nat.reduceLT, Nat.reduceMul, Nat.reduceLeDiff, Int.reduceEq, ↓reduceIte, reduceCtorEq, ne_eq, implies_true, if_true, if_false, ite_not, eq_self, Tryd.ntmps22, Nat.lt_succ_self], Nat.le_refl _⟩
  · have ho : ownCall lib x.kind x.name = [] := if_neg k85
    rw [ho] at rest
    by_cases k1 : x.kind = 85
    · have k2 : ¬ 0 ≤ find lib x.name := fun e => k85 ⟨k1, e⟩
      simp only [wy, Nat.reduceAdd, Nat.reduceEqDiff, Nat.reduceLT, Nat.reduceMul, Nat.reduceLeDiff, Int.reduceEq, ↓reduceIte, reduceCtorEq, ne_eq, implies_true, if_true, if_false, ite_not, eq_self, Tryd.ntmps22, decide_eq_true k1, decide_eq_false k2]
      exact rest none _ (Ext.refl _) ⟨fun _ => rfl, fun t e => by cases e⟩ _ (by simp only [wy, Nat.reduceAdd, Nat.reduceEqDiff, Nat.reduceLT, Nat.reduceMul, Nat.reduceLeDiff, Int.reduceEq, ↓reduceIte, reduceCtorEq, ne_eq, implies_true, if_true, if_false, ite_not, eq_self, Tryd.ntmps22, vlib, gotV])
    · simp only [wy, Nat.reduceAdd, Nat.reduceEqDiff, Nat.reduceLT, Nat.reduceMul, Nat.reduceLeDiff, Int.reduceEq, ↓reduceIte, reduceCtorEq, ne_eq, implies_true, if_true, if_false, ite_not, eq_self, Tryd.ntmps22, decide_eq_false k1]
      exact rest none _ (Ext.refl _) ⟨fun _ => rfl, fun t e => by cases e⟩ _ (by simp only [wy, Nat.reduceAdd, Nat.reduceEqDiff, Nat.reduceLT, Nat.reduceMul, Nat.reduceLeDiff, Int.reduceEq, ↓reduceIte, reduceCtorEq, ne_eq, implies_true, if_true, if_false, ite_not, eq_self, Tryd.ntmps22, vlib, gotV])
 termination_by x.size
 decreasing_by exact kid_size hmem
end Go.Proofs.YtajknofacjiddaaDoor.Abs

/- The example; awake; the law FunEqual. -/
namespace Go.Proofs.YtajknofacjiddaaDoor.Abs
open Go Go.RowKit
set_option linter.unusedSimpArgs false
set_option linter.unusedVariables false
set_option maxHeartbeats 4000000
set_option maxRecDepth 100000
def sXs : ByteArray := ⟨#[120, 115]⟩
def sLen : ByteArray := ⟨#[108, 101, 110]⟩
def sNel : ByteArray := ⟨#[110, 101, 108]⟩
def nXs : Node := .mk 81 0 sXs []
def nRec : Node := .mk 85 0 sLen [.mk 89 0 ⟨#[]⟩ [nXs]]
def exLib : List Fn := [⟨sLen, [⟨sXs, true⟩], false, .mk 83 0 ⟨#[]⟩ [.mk 90 0 ⟨#[]⟩ [nXs], .mk 80 0 ⟨#[]⟩ [], .mk 82 8 ⟨#[]⟩ [.mk 80 1 ⟨#[]⟩ [], nRec]]⟩]
theorem ac29 (h : AHeap) : AC sd 29 [] h (Pure1 (vlib exLib) h) := by
  refine AC.pure Tryd.func29 rfl Tryd.ntmps29 (by show 0 ≤ 25; decide) ?_
  refine Ev.sound 100 _ _ _ _ ?_
  simp only [argFr]
  simp only [wy, Nat.reduceAdd, Nat.reduceEqDiff, Nat.reduceLT, Nat.reduceMul, Nat.reduceLeDiff, Int.reduceEq, ↓reduceIte, reduceCtorEq, ne_eq, implies_true, if_true, if_false, ite_not, eq_self, Tryd.ntmps29]
  exact Leave.pures rfl rfl (((Ext.refl h).alloc _).alloc _ |>.alloc _) rfl
theorem wf_of {x : Node} (h1 : x.size ≤ 1048576) (h2 : x.names) : x.wf := ⟨h1, h2⟩
theorem ex_lib : LibOk exLib := ⟨by decide, by decide⟩
theorem ex_fns : ∀ f ∈ exLib, FnOk f := by
  intro f hf
  cases hf with
  | head => exact ⟨by decide +kernel, by decide, by decide +kernel, ⟨by decide +kernel, by simp only [Node.names, namesL, nXs, nRec]; decide +kernel⟩⟩
  | tail _ h => cases h
theorem ex_valid : validE exLib = (-1, 0) := by decide +kernel
theorem ex_calls : callsAt exLib 0 = [0] := by decide +kernel
theorem ex_type : typeE exLib 0 nXs = (true, 0) := by decide +kernel
theorem ex_find : find exLib sLen = 0 := by decide +kernel
theorem ex_find2 : find exLib sNel = -1 := by decide +kernel
theorem nxs_wf : nXs.wf := ⟨by decide +kernel, by simp only [Node.names, namesL, nXs]; decide +kernel⟩
theorem ac11 (h : AHeap) : AC sd 11 [] h (Pure1 (.bool true) h) := by
  refine AC.pure Tryd.func11 rfl Tryd.ntmps11 (by show 0 ≤ 53; decide) ?_
  refine Ev.sound 100 _ _ _ _ ?_
  simp only [argFr]
  simp only [wy, Nat.reduceAdd, Nat.reduceEqDiff, Nat.reduceLT, Nat.reduceMul, Nat.reduceLeDiff, Int.reduceEq, ↓reduceIte, reduceCtorEq, ne_eq, implies_true, if_true, if_false, ite_not, eq_self, Tryd.ntmps11]
  refine Stop.fact (ac29 _) rfl (by first | rfl | simp only [wy, Nat.reduceAdd, Nat.reduceEqDiff, Nat.reduceLT, Nat.reduceMul, Nat.reduceLeDiff, Int.reduceEq, ↓reduceIte, reduceCtorEq, ne_eq, implies_true, if_true, if_false, ite_not, eq_self, Tryd.ntmps11]) (by simp only [wy, Nat.reduceAdd, Nat.reduceEqDiff, Nat.reduceLT, Nat.reduceMul, Nat.reduceLeDiff, Int.reduceEq, ↓reduceIte, reduceCtorEq, ne_eq, implies_true, if_true, if_false, ite_not, eq_self, Tryd.ntmps11]) (caps := []) (by simp only [wy, Nat.reduceAdd, Nat.reduceEqDiff, Nat.reduceLT, Nat.reduceMul, Nat.reduceLeDiff, Int.reduceEq, ↓reduceIte, reduceCtorEq, ne_eq, implies_true, if_true, if_false, ite_not, eq_self]) en_29 (by simp only [wy, Nat.reduceAdd, Nat.reduceEqDiff, Nat.reduceLT, Nat.reduceMul, Nat.reduceLeDiff, Int.reduceEq, ↓reduceIte, reduceCtorEq, ne_eq, implies_true, if_true, if_false, ite_not, eq_self] <;> rfl) (Ev.sound 100 _ _ _ _ ?_)
  simp only [wy, Nat.reduceAdd, Nat.reduceEqDiff, Nat.reduceLT, Nat.reduceMul, Nat.reduceLeDiff, Int.reduceEq, ↓reduceIte, reduceCtorEq, ne_eq, implies_true, if_true, if_false, ite_not, eq_self, Tryd.ntmps11, vlib]
  refine Stop.fact (ac13 exLib ex_lib ex_fns _) rfl (by first | rfl | simp only [wy, Nat.reduceAdd, Nat.reduceEqDiff, Nat.reduceLT, Nat.reduceMul, Nat.reduceLeDiff, Int.reduceEq, ↓reduceIte, reduceCtorEq, ne_eq, implies_true, if_true, if_false, ite_not, eq_self, Tryd.ntmps11, vlib, fgt_mapfenc]) (by simp only [wy, Nat.reduceAdd, Nat.reduceEqDiff, Nat.reduceLT, Nat.reduceMul, Nat.reduceLeDiff, Int.reduceEq, ↓reduceIte, reduceCtorEq, ne_eq, implies_true, if_true, if_false, ite_not, eq_self, Tryd.ntmps11]) (caps := []) (by simp only [wy, Nat.reduceAdd, Nat.reduceEqDiff, Nat.reduceLT, Nat.reduceMul, Nat.reduceLeDiff, Int.reduceEq, ↓reduceIte, reduceCtorEq, ne_eq, implies_true, if_true, if_false, ite_not, eq_self, vlib, fgt_mapfenc]) en_13 (by simp only [wy, Nat.reduceAdd, Nat.reduceEqDiff, Nat.reduceLT, Nat.reduceMul, Nat.reduceLeDiff, Int.reduceEq, ↓reduceIte, reduceCtorEq, ne_eq, implies_true, if_true, if_false, ite_not, eq_self, vlib, fgt_mapfenc] <;> rfl) (Ev.sound 100 _ _ _ _ ?_)
  simp only [wy, Nat.reduceAdd, Nat.reduceEqDiff, Nat.reduceLT, Nat.reduceMul, Nat.reduceLeDiff, Int.reduceEq, ↓reduceIte, reduceCtorEq, ne_eq, implies_true, if_true, if_false, ite_not, eq_self, Tryd.ntmps11, ex_valid]
  refine Stop.fact (ac29 _) rfl (by first | rfl | simp only [wy, Nat.reduceAdd, Nat.reduceEqDiff, Nat.reduceLT, Nat.reduceMul, Nat.reduceLeDiff, Int.reduceEq, ↓reduceIte, reduceCtorEq, ne_eq, implies_true, if_true, if_false, ite_not, eq_self, Tryd.ntmps11]) (by simp only [wy, Nat.reduceAdd, Nat.reduceEqDiff, Nat.reduceLT, Nat.reduceMul, Nat.reduceLeDiff, Int.reduceEq, ↓reduceIte, reduceCtorEq, ne_eq, implies_true, if_true, if_false, ite_not, eq_self, Tryd.ntmps11]) (caps := []) (by simp only [wy, Nat.reduceAdd, Nat.reduceEqDiff, Nat.reduceLT, Nat.reduceMul, Nat.reduceLeDiff, Int.reduceEq, ↓reduceIte, reduceCtorEq, ne_eq, implies_true, if_true, if_false, ite_not, eq_self]) en_29 (by simp only [wy, Nat.reduceAdd, Nat.reduceEqDiff, Nat.reduceLT, Nat.reduceMul, Nat.reduceLeDiff, Int.reduceEq, ↓reduceIte, reduceCtorEq, ne_eq, implies_true, if_true, if_false, ite_not, eq_self] <;> rfl) (Ev.sound 100 _ _ _ _ ?_)
  simp only [wy, Nat.reduceAdd, Nat.reduceEqDiff, Nat.reduceLT, Nat.reduceMul, Nat.reduceLeDiff, Int.reduceEq, ↓reduceIte, reduceCtorEq, ne_eq, implies_true, if_true, if_false, ite_not, eq_self, Tryd.ntmps11, vlib]
  refine Stop.fact (ac19 exLib ex_lib ex_fns 0 _) rfl (by first | rfl | simp only [wy, Nat.reduceAdd, Nat.reduceEqDiff, Nat.reduceLT, Nat.reduceMul, Nat.reduceLeDiff, Int.reduceEq, ↓reduceIte, reduceCtorEq, ne_eq, implies_true, if_true, if_false, ite_not, eq_self, Tryd.ntmps11, vlib, fgt_mapfenc]) (by simp only [wy, Nat.reduceAdd, Nat.reduceEqDiff, Nat.reduceLT, Nat.reduceMul, Nat.reduceLeDiff, Int.reduceEq, ↓reduceIte, reduceCtorEq, ne_eq, implies_true, if_true, if_false, ite_not, eq_self, Tryd.ntmps11]) (caps := []) (by simp only [wy, Nat.reduceAdd, Nat.reduceEqDiff, Nat.reduceLT, Nat.reduceMul, Nat.reduceLeDiff, Int.reduceEq, ↓reduceIte, reduceCtorEq, ne_eq, implies_true, if_true, if_false, ite_not, eq_self, vlib, fgt_mapfenc]) en_19 (by simp only [wy, Nat.reduceAdd, Nat.reduceEqDiff, Nat.reduceLT, Nat.reduceMul, Nat.reduceLeDiff, Int.reduceEq, ↓reduceIte, reduceCtorEq, ne_eq, implies_true, if_true, if_false, ite_not, eq_self, vlib, fgt_mapfenc] <;> rfl) (Ev.sound 100 _ _ _ _ ?_)
  simp only [wy, Nat.reduceAdd, Nat.reduceEqDiff, Nat.reduceLT, Nat.reduceMul, Nat.reduceLeDiff, Int.reduceEq, ↓reduceIte, reduceCtorEq, ne_eq, implies_true, if_true, if_false, ite_not, eq_self, Tryd.ntmps11, ex_calls]
  refine Stop.fact (ac29 _) rfl (by first | rfl | simp only [wy, Nat.reduceAdd, Nat.reduceEqDiff, Nat.reduceLT, Nat.reduceMul, Nat.reduceLeDiff, Int.reduceEq, ↓reduceIte, reduceCtorEq, ne_eq, implies_true, if_true, if_false, ite_not, eq_self, Tryd.ntmps11]) (by simp only [wy, Nat.reduceAdd, Nat.reduceEqDiff, Nat.reduceLT, Nat.reduceMul, Nat.reduceLeDiff, Int.reduceEq, ↓reduceIte, reduceCtorEq, ne_eq, implies_true, if_true, if_false, ite_not, eq_self, Tryd.ntmps11]) (caps := []) (by simp only [wy, Nat.reduceAdd, Nat.reduceEqDiff, Nat.reduceLT, Nat.reduceMul, Nat.reduceLeDiff, Int.reduceEq, ↓reduceIte, reduceCtorEq, ne_eq, implies_true, if_true, if_false, ite_not, eq_self]) en_29 (by simp only [wy, Nat.reduceAdd, Nat.reduceEqDiff, Nat.reduceLT, Nat.reduceMul, Nat.reduceLeDiff, Int.reduceEq, ↓reduceIte, reduceCtorEq, ne_eq, implies_true, if_true, if_false, ite_not, eq_self] <;> rfl) (Ev.sound 100 _ _ _ _ ?_)
  simp only [wy, Nat.reduceAdd, Nat.reduceEqDiff, Nat.reduceLT, Nat.reduceMul, Nat.reduceLeDiff, Int.reduceEq, ↓reduceIte, reduceCtorEq, ne_eq, implies_true, if_true, if_false, ite_not, eq_self, Tryd.ntmps11, vlib]
  refine Stop.fact (ac16 exLib ex_lib ex_fns 0 nXs nxs_wf _) rfl (by first | rfl | simp only [wy, Nat.reduceAdd, Nat.reduceEqDiff, Nat.reduceLT, Nat.reduceMul, Nat.reduceLeDiff, Int.reduceEq, ↓reduceIte, reduceCtorEq, ne_eq, implies_true, if_true, if_false, ite_not, eq_self, Tryd.ntmps11, vlib, fgt_mapfenc, enc_eq]) (by simp only [wy, Nat.reduceAdd, Nat.reduceEqDiff, Nat.reduceLT, Nat.reduceMul, Nat.reduceLeDiff, Int.reduceEq, ↓reduceIte, reduceCtorEq, ne_eq, implies_true, if_true, if_false, ite_not, eq_self, Tryd.ntmps11]) (caps := []) (by simp only [wy, Nat.reduceAdd, Nat.reduceEqDiff, Nat.reduceLT, Nat.reduceMul, Nat.reduceLeDiff, Int.reduceEq, ↓reduceIte, reduceCtorEq, ne_eq, implies_true, if_true, if_false, ite_not, eq_self, vlib, fgt_mapfenc, enc_eq]) en_16 (by simp only [wy, Nat.reduceAdd, Nat.reduceEqDiff, Nat.reduceLT, Nat.reduceMul, Nat.reduceLeDiff, Int.reduceEq, ↓reduceIte, reduceCtorEq, ne_eq, implies_true, if_true, if_false, ite_not, eq_self, vlib, fgt_mapfenc, enc_eq] <;> rfl) (Ev.sound 100 _ _ _ _ ?_)
  simp only [wy, Nat.reduceAdd, Nat.reduceEqDiff, Nat.reduceLT, Nat.reduceMul, Nat.reduceLeDiff, Int.reduceEq, ↓reduceIte, reduceCtorEq, ne_eq, implies_true, if_true, if_false, ite_not, eq_self, Tryd.ntmps11, ex_type, tyv, vints, List.map_cons, List.map_nil, kslice, Int.reduceToNat, Int.reduceLE, Int.reduceLT, cast1, cast2, cast3, List.getD_cons_zero, List.getD_cons_succ, Int.natCast_zero]
  refine Stop.fact (ac29 _) rfl (by first | rfl | simp only [wy, Nat.reduceAdd, Nat.reduceEqDiff, Nat.reduceLT, Nat.reduceMul, Nat.reduceLeDiff, Int.reduceEq, ↓reduceIte, reduceCtorEq, ne_eq, implies_true, if_true, if_false, ite_not, eq_self, Tryd.ntmps11]) (by simp only [wy, Nat.reduceAdd, Nat.reduceEqDiff, Nat.reduceLT, Nat.reduceMul, Nat.reduceLeDiff, Int.reduceEq, ↓reduceIte, reduceCtorEq, ne_eq, implies_true, if_true, if_false, ite_not, eq_self, Tryd.ntmps11]) (caps := []) (by simp only [wy, Nat.reduceAdd, Nat.reduceEqDiff, Nat.reduceLT, Nat.reduceMul, Nat.reduceLeDiff, Int.reduceEq, ↓reduceIte, reduceCtorEq, ne_eq, implies_true, if_true, if_false, ite_not, eq_self]) en_29 (by simp only [wy, Nat.reduceAdd, Nat.reduceEqDiff, Nat.reduceLT, Nat.reduceMul, Nat.reduceLeDiff, Int.reduceEq, ↓reduceIte, reduceCtorEq, ne_eq, implies_true, if_true, if_false, ite_not, eq_self] <;> rfl) (Ev.sound 100 _ _ _ _ ?_)
  simp only [wy, Nat.reduceAdd, Nat.reduceEqDiff, Nat.reduceLT, Nat.reduceMul, Nat.reduceLeDiff, Int.reduceEq, ↓reduceIte, reduceCtorEq, ne_eq, implies_true, if_true, if_false, ite_not, eq_self, Tryd.ntmps11, vlib]
  refine Stop.fact (ac20 exLib sLen (by decide) _) rfl (by first | rfl | simp only [wy, Nat.reduceAdd, Nat.reduceEqDiff, Nat.reduceLT, Nat.reduceMul, Nat.reduceLeDiff, Int.reduceEq, ↓reduceIte, reduceCtorEq, ne_eq, implies_true, if_true, if_false, ite_not, eq_self, Tryd.ntmps11, vlib, fgt_mapfenc]) (by simp only [wy, Nat.reduceAdd, Nat.reduceEqDiff, Nat.reduceLT, Nat.reduceMul, Nat.reduceLeDiff, Int.reduceEq, ↓reduceIte, reduceCtorEq, ne_eq, implies_true, if_true, if_false, ite_not, eq_self, Tryd.ntmps11]) (caps := []) (by simp only [wy, Nat.reduceAdd, Nat.reduceEqDiff, Nat.reduceLT, Nat.reduceMul, Nat.reduceLeDiff, Int.reduceEq, ↓reduceIte, reduceCtorEq, ne_eq, implies_true, if_true, if_false, ite_not, eq_self, vlib, fgt_mapfenc]) en_20 (by simp only [wy, Nat.reduceAdd, Nat.reduceEqDiff, Nat.reduceLT, Nat.reduceMul, Nat.reduceLeDiff, Int.reduceEq, ↓reduceIte, reduceCtorEq, ne_eq, implies_true, if_true, if_false, ite_not, eq_self, vlib, fgt_mapfenc] <;> rfl) (Ev.sound 100 _ _ _ _ ?_)
  simp only [wy, Nat.reduceAdd, Nat.reduceEqDiff, Nat.reduceLT, Nat.reduceMul, Nat.reduceLeDiff, Int.reduceEq, ↓reduceIte, reduceCtorEq, ne_eq, implies_true, if_true, if_false, ite_not, eq_self, Tryd.ntmps11, ex_find]
  refine Stop.fact (ac29 _) rfl (by first | rfl | simp only [wy, Nat.reduceAdd, Nat.reduceEqDiff, Nat.reduceLT, Nat.reduceMul, Nat.reduceLeDiff, Int.reduceEq, ↓reduceIte, reduceCtorEq, ne_eq, implies_true, if_true, if_false, ite_not, eq_self, Tryd.ntmps11]) (by simp only [wy, Nat.reduceAdd, Nat.reduceEqDiff, Nat.reduceLT, Nat.reduceMul, Nat.reduceLeDiff, Int.reduceEq, ↓reduceIte, reduceCtorEq, ne_eq, implies_true, if_true, if_false, ite_not, eq_self, Tryd.ntmps11]) (caps := []) (by simp only [wy, Nat.reduceAdd, Nat.reduceEqDiff, Nat.reduceLT, Nat.reduceMul, Nat.reduceLeDiff, Int.reduceEq, ↓reduceIte, reduceCtorEq, ne_eq, implies_true, if_true, if_false, ite_not, eq_self]) en_29 (by simp only [wy, Nat.reduceAdd, Nat.reduceEqDiff, Nat.reduceLT, Nat.reduceMul, Nat.reduceLeDiff, Int.reduceEq, ↓reduceIte, reduceCtorEq, ne_eq, implies_true, if_true, if_false, ite_not, eq_self] <;> rfl) (Ev.sound 100 _ _ _ _ ?_)
  simp only [wy, Nat.reduceAdd, Nat.reduceEqDiff, Nat.reduceLT, Nat.reduceMul, Nat.reduceLeDiff, Int.reduceEq, ↓reduceIte, reduceCtorEq, ne_eq, implies_true, if_true, if_false, ite_not, eq_self, Tryd.ntmps11, vlib]
  refine Stop.fact (ac20 exLib sNel (by decide) _) rfl (by first | rfl | simp only [wy, Nat.reduceAdd, Nat.reduceEqDiff, Nat.reduceLT, Nat.reduceMul, Nat.reduceLeDiff, Int.reduceEq, ↓reduceIte, reduceCtorEq, ne_eq, implies_true, if_true, if_false, ite_not, eq_self, Tryd.ntmps11, vlib, fgt_mapfenc]) (by simp only [wy, Nat.reduceAdd, Nat.reduceEqDiff, Nat.reduceLT, Nat.reduceMul, Nat.reduceLeDiff, Int.reduceEq, ↓reduceIte, reduceCtorEq, ne_eq, implies_true, if_true, if_false, ite_not, eq_self, Tryd.ntmps11]) (caps := []) (by simp only [wy, Nat.reduceAdd, Nat.reduceEqDiff, Nat.reduceLT, Nat.reduceMul, Nat.reduceLeDiff, Int.reduceEq, ↓reduceIte, reduceCtorEq, ne_eq, implies_true, if_true, if_false, ite_not, eq_self, vlib, fgt_mapfenc]) en_20 (by simp only [wy, Nat.reduceAdd, Nat.reduceEqDiff, Nat.reduceLT, Nat.reduceMul, Nat.reduceLeDiff, Int.reduceEq, ↓reduceIte, reduceCtorEq, ne_eq, implies_true, if_true, if_false, ite_not, eq_self, vlib, fgt_mapfenc] <;> rfl) (Ev.sound 100 _ _ _ _ ?_)
  simp only [wy, Nat.reduceAdd, Nat.reduceEqDiff, Nat.reduceLT, Nat.reduceMul, Nat.reduceLeDiff, Int.reduceEq, ↓reduceIte, reduceCtorEq, ne_eq, implies_true, if_true, if_false, ite_not, eq_self, Tryd.ntmps11, ex_find2]
  exact Leave.pures rfl (by simp only [wy, Nat.reduceAdd, Nat.reduceEqDiff, Nat.reduceLT, Nat.reduceMul, Nat.reduceLeDiff, Int.reduceEq, ↓reduceIte, reduceCtorEq, ne_eq, implies_true, if_true, if_false, ite_not, eq_self, oneOf] <;> rfl) (Ext.refl _) rfl
theorem eqVal_refl (a : Val) : eqVal a a = true := by
  unfold eqVal; split
  · rename_i h
    have : a.list = true := by simpa using h
    simp [this]
  · simp
theorem eqVal_symm (a b : Val) : eqVal a b = eqVal b a := by
  unfold eqVal
  have e1 : decide (a.l = b.l) = decide (b.l = a.l) := decide_eq_decide.2 eq_comm
  have e2 : decide (a.n = b.n) = decide (b.n = a.n) := decide_eq_decide.2 eq_comm
  rw [e1, e2]
  cases a.list <;> cases b.list <;> simp
theorem eqVal_trans (a b c : Val) (h1 : eqVal a b = true) (h2 : eqVal b c = true) : eqVal a c = true := by
  unfold eqVal at h1 h2 ⊢
  revert h1 h2
  cases a.list <;> cases b.list <;> cases c.list <;> simp
  · intro h1 h2; rw [h1, h2]
  · intro h1 h2; rw [h1, h2]
theorem ac10 (a b c : Val) (ha : a.l.length ≤ 1048576) (hb : b.l.length ≤ 1048576) (hc : c.l.length ≤ 1048576) (h : AHeap) : AC sd 10 [.agg a.enc, .agg b.enc, .agg c.enc] h (Pure1 (.bool true) h) := by
  refine AC.pure Tryd.func10 rfl Tryd.ntmps10 (by show 3 ≤ 45; decide) ?_
  refine Ev.sound 100 _ _ _ _ ?_
  have hh : ∀ u v w, Ext h (((h.alloc u).alloc v).alloc w) := fun u v w => (((Ext.refl h).alloc u).alloc v).alloc w
  simp only [argFr, venc_eq]
  simp only [wy, Nat.reduceAdd, Nat.reduceEqDiff, Nat.reduceLT, Nat.reduceMul, Nat.reduceLeDiff, Int.reduceEq, ↓reduceIte, reduceCtorEq, ne_eq, implies_true, if_true, if_false, ite_not, eq_self, Tryd.ntmps10]
  refine Stop.fact (ac11 _) rfl (by first | rfl | simp only [wy, Nat.reduceAdd, Nat.reduceEqDiff, Nat.reduceLT, Nat.reduceMul, Nat.reduceLeDiff, Int.reduceEq, ↓reduceIte, reduceCtorEq, ne_eq, implies_true, if_true, if_false, ite_not, eq_self, Tryd.ntmps10]) (by simp only [wy, Nat.reduceAdd, Nat.reduceEqDiff, Nat.reduceLT, Nat.reduceMul, Nat.reduceLeDiff, Int.reduceEq, ↓reduceIte, reduceCtorEq, ne_eq, implies_true, if_true, if_false, ite_not, eq_self, Tryd.ntmps10]) (caps := []) (by simp only [wy, Nat.reduceAdd, Nat.reduceEqDiff, Nat.reduceLT, Nat.reduceMul, Nat.reduceLeDiff, Int.reduceEq, ↓reduceIte, reduceCtorEq, ne_eq, implies_true, if_true, if_false, ite_not, eq_self]) en_11 (by simp only [wy, Nat.reduceAdd, Nat.reduceEqDiff, Nat.reduceLT, Nat.reduceMul, Nat.reduceLeDiff, Int.reduceEq, ↓reduceIte, reduceCtorEq, ne_eq, implies_true, if_true, if_false, ite_not, eq_self] <;> rfl) (Ev.sound 100 _ _ _ _ ?_)
  simp only [wy, Nat.reduceAdd, Nat.reduceEqDiff, Nat.reduceLT, Nat.reduceMul, Nat.reduceLeDiff, Int.reduceEq, ↓reduceIte, reduceCtorEq, ne_eq, implies_true, if_true, if_false, ite_not, eq_self, Tryd.ntmps10]
  refine Stop.drawn [(0, 0), (1, 0), (2, 2), (3, 0), (4, 0), (5, 0), (6, 0), (8, 0), (9, 0), (7, 2), (10, 2), (11, 0), (12, 0), (13, 0), (14, 0), (15, 0), (16, 2), (17, 0), (18, 0), (19, 0), (20, 2), (21, 0), (22, 0), (23, 0), (24, 0), (25, 2), (26, 0), (27, 0), (28, 0)] [[], [], [0, 1], [0, 1, 2], [0, 1, 2, 3], [0, 1, 2, 3, 4], [0, 1, 2, 3, 4], [0, 1, 2, 3, 4, 5, 6], [0, 1, 2, 3, 4], [0, 1, 2, 3, 4], [0, 1, 2, 3, 4, 5, 6, 7, 8, 9], [0, 1, 2, 3, 4, 5, 6, 7, 8, 9, 10], [0, 1, 2, 3, 4, 5, 6, 7, 8, 9, 10, 11], [0, 1, 2, 3, 4, 5, 6, 7, 8, 9, 10, 11, 12], [0, 1, 2, 3, 4, 5, 6, 7, 8, 9, 10, 11, 12, 13], [0, 1, 2, 3, 4, 5, 6, 7, 8, 9, 10, 11, 12, 13], [0, 1, 2, 3, 4, 5, 6, 7, 8, 9, 10, 11, 12, 13, 14, 15], [0, 1, 2, 3, 4, 5, 6, 7, 8, 9, 10, 11, 12, 13, 14, 15, 16], [0, 1, 2, 3, 4, 5, 6, 7, 8, 9, 10, 11, 12, 13, 14, 15, 16, 17], [0, 1, 2, 3, 4, 5, 6, 7, 8, 9, 10, 11, 12, 13, 14, 15, 16, 17], [0, 1, 2, 3, 4, 5, 6, 7, 8, 9, 10, 11, 12, 13, 14, 15, 16, 17, 18, 19], [0, 1, 2, 3, 4, 5, 6, 7, 8, 9, 10, 11, 12, 13, 14, 15, 16, 17, 18, 19, 20], [0, 1, 2, 3, 4, 5, 6, 7, 8, 9, 10, 11, 12, 13, 14, 15, 16, 17, 18, 19, 20, 21], [0, 1, 2, 3, 4, 5, 6, 7, 8, 9, 10, 11, 12, 13, 14, 15, 16, 17, 18, 19, 20, 21, 22], [0, 1, 2, 3, 4, 5, 6, 7, 8, 9, 10, 11, 12, 13, 14, 15, 16, 17, 18, 19, 20, 21, 22], [0, 1, 2, 3, 4, 5, 6, 7, 8, 9, 10, 11, 12, 13, 14, 15, 16, 17, 18, 19, 20, 21, 22, 23, 24], [0, 1, 2, 3, 4, 5, 6, 7, 8, 9, 10, 11, 12, 13, 14, 15, 16, 17, 18, 19, 20, 21, 22, 23, 24, 25], [0, 1, 2, 3, 4, 5, 6, 7, 8, 9, 10, 11, 12, 13, 14, 15, 16, 17, 18, 19, 20, 21, 22, 23, 24, 25, 26], [0, 1, 2, 3, 4, 5, 6, 7, 8, 9, 10, 11, 12, 13, 14, 15, 16, 17, 18, 19, 20, 21, 22, 23, 24, 25, 26, 27]] 90 (by kernel_rfl) ?_
  have E := fgt_ints
  have hs := eqVal_symm b a
  simp only [wy, Nat.reduceAdd, Nat.reduceEqDiff, Nat.reduceLT, Nat.reduceMul, Nat.reduceLeDiff, Int.reduceEq, ↓reduceIte, reduceCtorEq, ne_eq, implies_true, if_true, if_false, ite_not, eq_self, Tryd.ntmps10]
  refine DC.fact (ac27 a a ha ha _) (by first | rfl | simp only [wy, Nat.reduceAdd, Nat.reduceEqDiff, Nat.reduceLT, Nat.reduceMul, Nat.reduceLeDiff, Int.reduceEq, ↓reduceIte, reduceCtorEq, ne_eq, implies_true, if_true, if_false, ite_not, eq_self, Tryd.ntmps10, venc_eq, fgt_ints]) (by simp only [wy, Nat.reduceAdd, Nat.reduceEqDiff, Nat.reduceLT, Nat.reduceMul, Nat.reduceLeDiff, Int.reduceEq, ↓reduceIte, reduceCtorEq, ne_eq, implies_true, if_true, if_false, ite_not, eq_self, Tryd.ntmps10]) (caps := []) (by simp only [wy, Nat.reduceAdd, Nat.reduceEqDiff, Nat.reduceLT, Nat.reduceMul, Nat.reduceLeDiff, Int.reduceEq, ↓reduceIte, reduceCtorEq, ne_eq, implies_true, if_true, if_false, ite_not, eq_self, venc_eq, fgt_ints]) en_27 (by simp only [wy, Nat.reduceAdd, Nat.reduceEqDiff, Nat.reduceLT, Nat.reduceMul, Nat.reduceLeDiff, Int.reduceEq, ↓reduceIte, reduceCtorEq, ne_eq, implies_true, if_true, if_false, ite_not, eq_self, venc_eq, fgt_ints] <;> rfl) ?_
  simp only [wy, Nat.reduceAdd, Nat.reduceEqDiff, Nat.reduceLT, Nat.reduceMul, Nat.reduceLeDiff, Int.reduceEq, ↓reduceIte, reduceCtorEq, ne_eq, implies_true, if_true, if_false, ite_not, eq_self, Tryd.ntmps10, eqVal_refl]
  refine DC.fact (ac27 a b ha hb _) (by first | rfl | simp only [wy, Nat.reduceAdd, Nat.reduceEqDiff, Nat.reduceLT, Nat.reduceMul, Nat.reduceLeDiff, Int.reduceEq, ↓reduceIte, reduceCtorEq, ne_eq, implies_true, if_true, if_false, ite_not, eq_self, Tryd.ntmps10, venc_eq, fgt_ints]) (by simp only [wy, Nat.reduceAdd, Nat.reduceEqDiff, Nat.reduceLT, Nat.reduceMul, Nat.reduceLeDiff, Int.reduceEq, ↓reduceIte, reduceCtorEq, ne_eq, implies_true, if_true, if_false, ite_not, eq_self, Tryd.ntmps10]) (caps := []) (by simp only [wy, Nat.reduceAdd, Nat.reduceEqDiff, Nat.reduceLT, Nat.reduceMul, Nat.reduceLeDiff, Int.reduceEq, ↓reduceIte, reduceCtorEq, ne_eq, implies_true, if_true, if_false, ite_not, eq_self, venc_eq, fgt_ints]) en_27 (by simp only [wy, Nat.reduceAdd, Nat.reduceEqDiff, Nat.reduceLT, Nat.reduceMul, Nat.reduceLeDiff, Int.reduceEq, ↓reduceIte, reduceCtorEq, ne_eq, implies_true, if_true, if_false, ite_not, eq_self, venc_eq, fgt_ints] <;> rfl) ?_
  simp only [wy, Nat.reduceAdd, Nat.reduceEqDiff, Nat.reduceLT, Nat.reduceMul, Nat.reduceLeDiff, Int.reduceEq, ↓reduceIte, reduceCtorEq, ne_eq, implies_true, if_true, if_false, ite_not, eq_self, Tryd.ntmps10]
  refine DC.fact (ac27 b a hb ha _) (by first | rfl | simp only [wy, Nat.reduceAdd, Nat.reduceEqDiff, Nat.reduceLT, Nat.reduceMul, Nat.reduceLeDiff, Int.reduceEq, ↓reduceIte, reduceCtorEq, ne_eq, implies_true, if_true, if_false, ite_not, eq_self, Tryd.ntmps10, venc_eq, fgt_ints]) (by simp only [wy, Nat.reduceAdd, Nat.reduceEqDiff, Nat.reduceLT, Nat.reduceMul, Nat.reduceLeDiff, Int.reduceEq, ↓reduceIte, reduceCtorEq, ne_eq, implies_true, if_true, if_false, ite_not, eq_self, Tryd.ntmps10]) (caps := []) (by simp only [wy, Nat.reduceAdd, Nat.reduceEqDiff, Nat.reduceLT, Nat.reduceMul, Nat.reduceLeDiff, Int.reduceEq, ↓reduceIte, reduceCtorEq, ne_eq, implies_true, if_true, if_false, ite_not, eq_self, venc_eq, fgt_ints]) en_27 (by simp only [wy, Nat.reduceAdd, Nat.reduceEqDiff, Nat.reduceLT, Nat.reduceMul, Nat.reduceLeDiff, Int.reduceEq, ↓reduceIte, reduceCtorEq, ne_eq, implies_true, if_true, if_false, ite_not, eq_self, venc_eq, fgt_ints] <;> rfl) ?_
  cases e1 : eqVal a b <;> rw [e1] at hs
  · simp only [wy, Nat.reduceAdd, Nat.reduceEqDiff, Nat.reduceLT, Nat.reduceMul, Nat.reduceLeDiff, Int.reduceEq, ↓reduceIte, reduceCtorEq, ne_eq, implies_true, if_true, if_false, ite_not, eq_self, Tryd.ntmps10, hs]
    refine DC.fact (ac27 a b ha hb _) (by first | rfl | simp only [wy, Nat.reduceAdd, Nat.reduceEqDiff, Nat.reduceLT, Nat.reduceMul, Nat.reduceLeDiff, Int.reduceEq, ↓reduceIte, reduceCtorEq, ne_eq, implies_true, if_true, if_false, ite_not, eq_self, Tryd.ntmps10, venc_eq, fgt_ints]) (by simp only [wy, Nat.reduceAdd, Nat.reduceEqDiff, Nat.reduceLT, Nat.reduceMul, Nat.reduceLeDiff, Int.reduceEq, ↓reduceIte, reduceCtorEq, ne_eq, implies_true, if_true, if_false, ite_not, eq_self, Tryd.ntmps10]) (caps := []) (by simp only [wy, Nat.reduceAdd, Nat.reduceEqDiff, Nat.reduceLT, Nat.reduceMul, Nat.reduceLeDiff, Int.reduceEq, ↓reduceIte, reduceCtorEq, ne_eq, implies_true, if_true, if_false, ite_not, eq_self, venc_eq, fgt_ints]) en_27 (by simp only [wy, Nat.reduceAdd, Nat.reduceEqDiff, Nat.reduceLT, Nat.reduceMul, Nat.reduceLeDiff, Int.reduceEq, ↓reduceIte, reduceCtorEq, ne_eq, implies_true, if_true, if_false, ite_not, eq_self, venc_eq, fgt_ints] <;> rfl) ?_
    simp only [wy, Nat.reduceAdd, Nat.reduceEqDiff, Nat.reduceLT, Nat.reduceMul, Nat.reduceLeDiff, Int.reduceEq, ↓reduceIte, reduceCtorEq, ne_eq, implies_true, if_true, if_false, ite_not, eq_self, Tryd.ntmps10, e1]
    refine DC.skip rfl rfl (by simp only [wy, Nat.reduceAdd, Nat.reduceEqDiff, Nat.reduceLT, Nat.reduceMul, Nat.reduceLeDiff, Int.reduceEq, ↓reduceIte, reduceCtorEq, ne_eq, implies_true, if_true, if_false, ite_not, eq_self, Tryd.ntmps10]) ?_
    simp only [wy, Nat.reduceAdd, Nat.reduceEqDiff, Nat.reduceLT, Nat.reduceMul, Nat.reduceLeDiff, Int.reduceEq, ↓reduceIte, reduceCtorEq, ne_eq, implies_true, if_true, if_false, ite_not, eq_self, Tryd.ntmps10]
    refine DC.skip rfl rfl (by simp only [wy, Nat.reduceAdd, Nat.reduceEqDiff, Nat.reduceLT, Nat.reduceMul, Nat.reduceLeDiff, Int.reduceEq, ↓reduceIte, reduceCtorEq, ne_eq, implies_true, if_true, if_false, ite_not, eq_self, Tryd.ntmps10]) ?_
    simp only [wy, Nat.reduceAdd, Nat.reduceEqDiff, Nat.reduceLT, Nat.reduceMul, Nat.reduceLeDiff, Int.reduceEq, ↓reduceIte, reduceCtorEq, ne_eq, implies_true, if_true, if_false, ite_not, eq_self, Tryd.ntmps10]
    refine Stop.drawn [(0, 0), (1, 0), (3, 0), (4, 0), (2, 2), (5, 2), (6, 0), (7, 0)] [[], [], [0, 1], [], [], [0, 1, 2, 3, 4], [0, 1, 2, 3, 4, 5], [0, 1, 2, 3, 4, 5, 6]] 90 (by kernel_rfl) ?_
    simp only [wy, Nat.reduceAdd, Nat.reduceEqDiff, Nat.reduceLT, Nat.reduceMul, Nat.reduceLeDiff, Int.reduceEq, ↓reduceIte, reduceCtorEq, ne_eq, implies_true, if_true, if_false, ite_not, eq_self, Tryd.ntmps10]
    refine DC.fact (ac27 a b ha hb _) (by first | rfl | simp only [wy, Nat.reduceAdd, Nat.reduceEqDiff, Nat.reduceLT, Nat.reduceMul, Nat.reduceLeDiff, Int.reduceEq, ↓reduceIte, reduceCtorEq, ne_eq, implies_true, if_true, if_false, ite_not, eq_self, Tryd.ntmps10, venc_eq, fgt_ints]) (by simp only [wy, Nat.reduceAdd, Nat.reduceEqDiff, Nat.reduceLT, Nat.reduceMul, Nat.reduceLeDiff, Int.reduceEq, ↓reduceIte, reduceCtorEq, ne_eq, implies_true, if_true, if_false, ite_not, eq_self, Tryd.ntmps10]) (caps := []) (by simp only [wy, Nat.reduceAdd, Nat.reduceEqDiff, Nat.reduceLT, Nat.reduceMul, Nat.reduceLeDiff, Int.reduceEq, ↓reduceIte, reduceCtorEq, ne_eq, implies_true, if_true, if_false, ite_not, eq_self, venc_eq, fgt_ints]) en_27 (by simp only [wy, Nat.reduceAdd, Nat.reduceEqDiff, Nat.reduceLT, Nat.reduceMul, Nat.reduceLeDiff, Int.reduceEq, ↓reduceIte, reduceCtorEq, ne_eq, implies_true, if_true, if_false, ite_not, eq_self, venc_eq, fgt_ints] <;> rfl) ?_
    simp only [wy, Nat.reduceAdd, Nat.reduceEqDiff, Nat.reduceLT, Nat.reduceMul, Nat.reduceLeDiff, Int.reduceEq, ↓reduceIte, reduceCtorEq, ne_eq, implies_true, if_true, if_false, ite_not, eq_self, Tryd.ntmps10]
    refine DC.fact (ac28 a b ha hb _) (by first | rfl | simp only [wy, Nat.reduceAdd, Nat.reduceEqDiff, Nat.reduceLT, Nat.reduceMul, Nat.reduceLeDiff, Int.reduceEq, ↓reduceIte, reduceCtorEq, ne_eq, implies_true, if_true, if_false, ite_not, eq_self, Tryd.ntmps10, venc_eq, fgt_ints]) (by simp only [wy, Nat.reduceAdd, Nat.reduceEqDiff, Nat.reduceLT, Nat.reduceMul, Nat.reduceLeDiff, Int.reduceEq, ↓reduceIte, reduceCtorEq, ne_eq, implies_true, if_true, if_false, ite_not, eq_self, Tryd.ntmps10]) (caps := []) (by simp only [wy, Nat.reduceAdd, Nat.reduceEqDiff, Nat.reduceLT, Nat.reduceMul, Nat.reduceLeDiff, Int.reduceEq, ↓reduceIte, reduceCtorEq, ne_eq, implies_true, if_true, if_false, ite_not, eq_self, venc_eq, fgt_ints]) en_28 (by simp only [wy, Nat.reduceAdd, Nat.reduceEqDiff, Nat.reduceLT, Nat.reduceMul, Nat.reduceLeDiff, Int.reduceEq, ↓reduceIte, reduceCtorEq, ne_eq, implies_true, if_true, if_false, ite_not, eq_self, venc_eq, fgt_ints] <;> rfl) ?_
    simp only [wy, Nat.reduceAdd, Nat.reduceEqDiff, Nat.reduceLT, Nat.reduceMul, Nat.reduceLeDiff, Int.reduceEq, ↓reduceIte, reduceCtorEq, ne_eq, implies_true, if_true, if_false, ite_not, eq_self, Tryd.ntmps10, e1]
    exact Leave.pures rfl (by simp only [wy, Nat.reduceAdd, Nat.reduceEqDiff, Nat.reduceLT, Nat.reduceMul, Nat.reduceLeDiff, Int.reduceEq, ↓reduceIte, reduceCtorEq, ne_eq, implies_true, if_true, if_false, ite_not, eq_self, oneOf] <;> rfl) (hh _ _ _) rfl
  · simp only [wy, Nat.reduceAdd, Nat.reduceEqDiff, Nat.reduceLT, Nat.reduceMul, Nat.reduceLeDiff, Int.reduceEq, ↓reduceIte, reduceCtorEq, ne_eq, implies_true, if_true, if_false, ite_not, eq_self, Tryd.ntmps10, hs]
    refine DC.fact (ac27 a b ha hb _) (by first | rfl | simp only [wy, Nat.reduceAdd, Nat.reduceEqDiff, Nat.reduceLT, Nat.reduceMul, Nat.reduceLeDiff, Int.reduceEq, ↓reduceIte, reduceCtorEq, ne_eq, implies_true, if_true, if_false, ite_not, eq_self, Tryd.ntmps10, venc_eq, fgt_ints]) (by simp only [wy, Nat.reduceAdd, Nat.reduceEqDiff, Nat.reduceLT, Nat.reduceMul, Nat.reduceLeDiff, Int.reduceEq, ↓reduceIte, reduceCtorEq, ne_eq, implies_true, if_true, if_false, ite_not, eq_self, Tryd.ntmps10]) (caps := []) (by simp only [wy, Nat.reduceAdd, Nat.reduceEqDiff, Nat.reduceLT, Nat.reduceMul, Nat.reduceLeDiff, Int.reduceEq, ↓reduceIte, reduceCtorEq, ne_eq, implies_true, if_true, if_false, ite_not, eq_self, venc_eq, fgt_ints]) en_27 (by simp only [wy, Nat.reduceAdd, Nat.reduceEqDiff, Nat.reduceLT, Nat.reduceMul, Nat.reduceLeDiff, Int.reduceEq, ↓reduceIte, reduceCtorEq, ne_eq, implies_true, if_true, if_false, ite_not, eq_self, venc_eq, fgt_ints] <;> rfl) ?_
    simp only [wy, Nat.reduceAdd, Nat.reduceEqDiff, Nat.reduceLT, Nat.reduceMul, Nat.reduceLeDiff, Int.reduceEq, ↓reduceIte, reduceCtorEq, ne_eq, implies_true, if_true, if_false, ite_not, eq_self, Tryd.ntmps10, e1]
    refine DC.fact (ac27 b c hb hc _) (by first | rfl | simp only [wy, Nat.reduceAdd, Nat.reduceEqDiff, Nat.reduceLT, Nat.reduceMul, Nat.reduceLeDiff, Int.reduceEq, ↓reduceIte, reduceCtorEq, ne_eq, implies_true, if_true, if_false, ite_not, eq_self, Tryd.ntmps10, venc_eq, fgt_ints]) (by simp only [wy, Nat.reduceAdd, Nat.reduceEqDiff, Nat.reduceLT, Nat.reduceMul, Nat.reduceLeDiff, Int.reduceEq, ↓reduceIte, reduceCtorEq, ne_eq, implies_true, if_true, if_false, ite_not, eq_self, Tryd.ntmps10]) (caps := []) (by simp only [wy, Nat.reduceAdd, Nat.reduceEqDiff, Nat.reduceLT, Nat.reduceMul, Nat.reduceLeDiff, Int.reduceEq, ↓reduceIte, reduceCtorEq, ne_eq, implies_true, if_true, if_false, ite_not, eq_self, venc_eq, fgt_ints]) en_27 (by simp only [wy, Nat.reduceAdd, Nat.reduceEqDiff, Nat.reduceLT, Nat.reduceMul, Nat.reduceLeDiff, Int.reduceEq, ↓reduceIte, reduceCtorEq, ne_eq, implies_true, if_true, if_false, ite_not, eq_self, venc_eq, fgt_ints] <;> rfl) ?_
    cases e2 : eqVal b c
    · simp only [wy, Nat.reduceAdd, Nat.reduceEqDiff, Nat.reduceLT, Nat.reduceMul, Nat.reduceLeDiff, Int.reduceEq, ↓reduceIte, reduceCtorEq, ne_eq, implies_true, if_true, if_false, ite_not, eq_self, Tryd.ntmps10]
      refine DC.skip rfl rfl (by simp only [wy, Nat.reduceAdd, Nat.reduceEqDiff, Nat.reduceLT, Nat.reduceMul, Nat.reduceLeDiff, Int.reduceEq, ↓reduceIte, reduceCtorEq, ne_eq, implies_true, if_true, if_false, ite_not, eq_self, Tryd.ntmps10]) ?_
      simp only [wy, Nat.reduceAdd, Nat.reduceEqDiff, Nat.reduceLT, Nat.reduceMul, Nat.reduceLeDiff, Int.reduceEq, ↓reduceIte, reduceCtorEq, ne_eq, implies_true, if_true, if_false, ite_not, eq_self, Tryd.ntmps10]
      refine Stop.drawn [(0, 0), (1, 0), (3, 0), (4, 0), (2, 2), (5, 2), (6, 0), (7, 0)] [[], [], [0, 1], [], [], [0, 1, 2, 3, 4], [0, 1, 2, 3, 4, 5], [0, 1, 2, 3, 4, 5, 6]] 90 (by kernel_rfl) ?_
      simp only [wy, Nat.reduceAdd, Nat.reduceEqDiff, Nat.reduceLT, Nat.reduceMul, Nat.reduceLeDiff, Int.reduceEq, ↓reduceIte, reduceCtorEq, ne_eq, implies_true, if_true, if_false, ite_not, eq_self, Tryd.ntmps10]
      refine DC.fact (ac27 a b ha hb _) (by first | rfl | simp only [wy, Nat.reduceAdd, Nat.reduceEqDiff, Nat.reduceLT, Nat.reduceMul, Nat.reduceLeDiff, Int.reduceEq, ↓reduceIte, reduceCtorEq, ne_eq, implies_true, if_true, if_false, ite_not, eq_self, Tryd.ntmps10, venc_eq, fgt_ints]) (by simp only [wy, Nat.reduceAdd, Nat.reduceEqDiff, Nat.reduceLT, Nat.reduceMul, Nat.reduceLeDiff, Int.reduceEq, ↓reduceIte, reduceCtorEq, ne_eq, implies_true, if_true, if_false, ite_not, eq_self, Tryd.ntmps10]) (caps := []) (by simp only [wy, Nat.reduceAdd, Nat.reduceEqDiff, Nat.reduceLT, Nat.reduceMul, Nat.reduceLeDiff, Int.reduceEq, ↓reduceIte, reduceCtorEq, ne_eq, implies_true, if_true, if_false, ite_not, eq_self, venc_eq, fgt_ints]) en_27 (by simp only [wy, Nat.reduceAdd, Nat.reduceEqDiff, Nat.reduceLT, Nat.reduceMul, Nat.reduceLeDiff, Int.reduceEq, ↓reduceIte, reduceCtorEq, ne_eq, implies_true, if_true, if_false, ite_not, eq_self, venc_eq, fgt_ints] <;> rfl) ?_
      simp only [wy, Nat.reduceAdd, Nat.reduceEqDiff, Nat.reduceLT, Nat.reduceMul, Nat.reduceLeDiff, Int.reduceEq, ↓reduceIte, reduceCtorEq, ne_eq, implies_true, if_true, if_false, ite_not, eq_self, Tryd.ntmps10]
      refine DC.fact (ac28 a b ha hb _) (by first | rfl | simp only [wy, Nat.reduceAdd, Nat.reduceEqDiff, Nat.reduceLT, Nat.reduceMul, Nat.reduceLeDiff, Int.reduceEq, ↓reduceIte, reduceCtorEq, ne_eq, implies_true, if_true, if_false, ite_not, eq_self, Tryd.ntmps10, venc_eq, fgt_ints]) (by simp only [wy, Nat.reduceAdd, Nat.reduceEqDiff, Nat.reduceLT, Nat.reduceMul, Nat.reduceLeDiff, Int.reduceEq, ↓reduceIte, reduceCtorEq, ne_eq, implies_true, if_true, if_false, ite_not, eq_self, Tryd.ntmps10]) (caps := []) (by simp only [wy, Nat.reduceAdd, Nat.reduceEqDiff, Nat.reduceLT, Nat.reduceMul, Nat.reduceLeDiff, Int.reduceEq, ↓reduceIte, reduceCtorEq, ne_eq, implies_true, if_true, if_false, ite_not, eq_self, venc_eq, fgt_ints]) en_28 (by simp only [wy, Nat.reduceAdd, Nat.reduceEqDiff, Nat.reduceLT, Nat.reduceMul, Nat.reduceLeDiff, Int.reduceEq, ↓reduceIte, reduceCtorEq, ne_eq, implies_true, if_true, if_false, ite_not, eq_self, venc_eq, fgt_ints] <;> rfl) ?_
      simp only [wy, Nat.reduceAdd, Nat.reduceEqDiff, Nat.reduceLT, Nat.reduceMul, Nat.reduceLeDiff, Int.reduceEq, ↓reduceIte, reduceCtorEq, ne_eq, implies_true, if_true, if_false, ite_not, eq_self, Tryd.ntmps10, e1]
      exact Leave.pures rfl (by simp only [wy, Nat.reduceAdd, Nat.reduceEqDiff, Nat.reduceLT, Nat.reduceMul, Nat.reduceLeDiff, Int.reduceEq, ↓reduceIte, reduceCtorEq, ne_eq, implies_true, if_true, if_false, ite_not, eq_self, oneOf] <;> rfl) (hh _ _ _) rfl
    · have e3 := eqVal_trans a b c e1 e2
      simp only [wy, Nat.reduceAdd, Nat.reduceEqDiff, Nat.reduceLT, Nat.reduceMul, Nat.reduceLeDiff, Int.reduceEq, ↓reduceIte, reduceCtorEq, ne_eq, implies_true, if_true, if_false, ite_not, eq_self, Tryd.ntmps10]
      refine DC.fact (ac27 a c ha hc _) (by first | rfl | simp only [wy, Nat.reduceAdd, Nat.reduceEqDiff, Nat.reduceLT, Nat.reduceMul, Nat.reduceLeDiff, Int.reduceEq, ↓reduceIte, reduceCtorEq, ne_eq, implies_true, if_true, if_false, ite_not, eq_self, Tryd.ntmps10, venc_eq, fgt_ints]) (by simp only [wy, Nat.reduceAdd, Nat.reduceEqDiff, Nat.reduceLT, Nat.reduceMul, Nat.reduceLeDiff, Int.reduceEq, ↓reduceIte, reduceCtorEq, ne_eq, implies_true, if_true, if_false, ite_not, eq_self, Tryd.ntmps10]) (caps := []) (by simp only [wy, Nat.reduceAdd, Nat.reduceEqDiff, Nat.reduceLT, Nat.reduceMul, Nat.reduceLeDiff, Int.reduceEq, ↓reduceIte, reduceCtorEq, ne_eq, implies_true, if_true, if_false, ite_not, eq_self, venc_eq, fgt_ints]) en_27 (by simp only [wy, Nat.reduceAdd, Nat.reduceEqDiff, Nat.reduceLT, Nat.reduceMul, Nat.reduceLeDiff, Int.reduceEq, ↓reduceIte, reduceCtorEq, ne_eq, implies_true, if_true, if_false, ite_not, eq_self, venc_eq, fgt_ints] <;> rfl) ?_
      simp only [wy, Nat.reduceAdd, Nat.reduceEqDiff, Nat.reduceLT, Nat.reduceMul, Nat.reduceLeDiff, Int.reduceEq, ↓reduceIte, reduceCtorEq, ne_eq, implies_true, if_true, if_false, ite_not, eq_self, Tryd.ntmps10, e3]
      refine Stop.drawn [(0, 0), (1, 0), (3, 0), (4, 0), (2, 2), (5, 2), (6, 0), (7, 0)] [[], [], [0, 1], [], [], [0, 1, 2, 3, 4], [0, 1, 2, 3, 4, 5], [0, 1, 2, 3, 4, 5, 6]] 90 (by kernel_rfl) ?_
      simp only [wy, Nat.reduceAdd, Nat.reduceEqDiff, Nat.reduceLT, Nat.reduceMul, Nat.reduceLeDiff, Int.reduceEq, ↓reduceIte, reduceCtorEq, ne_eq, implies_true, if_true, if_false, ite_not, eq_self, Tryd.ntmps10]
      refine DC.fact (ac27 a b ha hb _) (by first | rfl | simp only [wy, Nat.reduceAdd, Nat.reduceEqDiff, Nat.reduceLT, Nat.reduceMul, Nat.reduceLeDiff, Int.reduceEq, ↓reduceIte, reduceCtorEq, ne_eq, implies_true, if_true, if_false, ite_not, eq_self, Tryd.ntmps10, venc_eq, fgt_ints]) (by simp only [wy, Nat.reduceAdd, Nat.reduceEqDiff, Nat.reduceLT, Nat.reduceMul, Nat.reduceLeDiff, Int.reduceEq, ↓reduceIte, reduceCtorEq, ne_eq, implies_true, if_true, if_false, ite_not, eq_self, Tryd.ntmps10]) (caps := []) (by simp only [wy, Nat.reduceAdd, Nat.reduceEqDiff, Nat.reduceLT, Nat.reduceMul, Nat.reduceLeDiff, Int.reduceEq, ↓reduceIte, reduceCtorEq, ne_eq, implies_true, if_true, if_false, ite_not, eq_self, venc_eq, fgt_ints]) en_27 (by simp only [wy, Nat.reduceAdd, Nat.reduceEqDiff, Nat.reduceLT, Nat.reduceMul, Nat.reduceLeDiff, Int.reduceEq, ↓reduceIte, reduceCtorEq, ne_eq, implies_true, if_true, if_false, ite_not, eq_self, venc_eq, fgt_ints] <;> rfl) ?_
      simp only [wy, Nat.reduceAdd, Nat.reduceEqDiff, Nat.reduceLT, Nat.reduceMul, Nat.reduceLeDiff, Int.reduceEq, ↓reduceIte, reduceCtorEq, ne_eq, implies_true, if_true, if_false, ite_not, eq_self, Tryd.ntmps10]
      refine DC.fact (ac28 a b ha hb _) (by first | rfl | simp only [wy, Nat.reduceAdd, Nat.reduceEqDiff, Nat.reduceLT, Nat.reduceMul, Nat.reduceLeDiff, Int.reduceEq, ↓reduceIte, reduceCtorEq, ne_eq, implies_true, if_true, if_false, ite_not, eq_self, Tryd.ntmps10, venc_eq, fgt_ints]) (by simp only [wy, Nat.reduceAdd, Nat.reduceEqDiff, Nat.reduceLT, Nat.reduceMul, Nat.reduceLeDiff, Int.reduceEq, ↓reduceIte, reduceCtorEq, ne_eq, implies_true, if_true, if_false, ite_not, eq_self, Tryd.ntmps10]) (caps := []) (by simp only [wy, Nat.reduceAdd, Nat.reduceEqDiff, Nat.reduceLT, Nat.reduceMul, Nat.reduceLeDiff, Int.reduceEq, ↓reduceIte, reduceCtorEq, ne_eq, implies_true, if_true, if_false, ite_not, eq_self, venc_eq, fgt_ints]) en_28 (by simp only [wy, Nat.reduceAdd, Nat.reduceEqDiff, Nat.reduceLT, Nat.reduceMul, Nat.reduceLeDiff, Int.reduceEq, ↓reduceIte, reduceCtorEq, ne_eq, implies_true, if_true, if_false, ite_not, eq_self, venc_eq, fgt_ints] <;> rfl) ?_
      simp only [wy, Nat.reduceAdd, Nat.reduceEqDiff, Nat.reduceLT, Nat.reduceMul, Nat.reduceLeDiff, Int.reduceEq, ↓reduceIte, reduceCtorEq, ne_eq, implies_true, if_true, if_false, ite_not, eq_self, Tryd.ntmps10, e1]
      exact Leave.pures rfl (by simp only [wy, Nat.reduceAdd, Nat.reduceEqDiff, Nat.reduceLT, Nat.reduceMul, Nat.reduceLeDiff, Int.reduceEq, ↓reduceIte, reduceCtorEq, ne_eq, implies_true, if_true, if_false, ite_not, eq_self, oneOf] <;> rfl) (hh _ _ _) rfl
end Go.Proofs.YtajknofacjiddaaDoor.Abs

/- The reference's One and Valid -/
namespace Go.Proofs.YtajknofacjiddaaDoor.Abs
open Go Go.RowKit
set_option linter.unusedSimpArgs false
set_option linter.unusedVariables false
set_option maxHeartbeats 4000000
set_option maxRecDepth 100000
theorem pos_le {α : Type} (p : α → Bool) : ∀ (l : List α) (k i : Nat) (a : α), l[i]? = some a → p a = true → 0 ≤ pos p k l ∧ pos p k l ≤ ((k + i : Nat) : Int)
  | [], k, i, a, h, _ => by simp at h
  | b :: l, k, i, a, h, hp => by
    unfold pos
    split
    · omega
    · rename_i hb
      cases i with
      | zero => cases h; exact absurd hp hb
      | succ i =>
        have := pos_le p l (k + 1) i a h hp
        omega
theorem find_le {lib : List Fn} {i : Nat} {f : Fn} (h : lib[i]? = some f) : 0 ≤ find lib f.name ∧ find lib f.name ≤ (i : Int) := by
  have := pos_le (fun g : Fn => decide (g.name = f.name)) lib 0 i f h (by simp)
  rw [Nat.zero_add] at this
  exact this
theorem nodup_take_succ {l : List ByteArray} {k : Nat} {a : ByteArray} (h : l[k]? = some a) : (l.take (k + 1)).Nodup ↔ (l.take k).Nodup ∧ a ∉ l.take k := by
  rw [List.take_add_one, h]
  simp only [Option.toList_some, List.nodup_append]
  constructor
  · rintro ⟨h1, _, h3⟩
    exact ⟨h1, fun hm => h3 a hm a (by simp) rfl⟩
  · rintro ⟨h1, h2⟩
    refine ⟨h1, by simp, fun x hx y hy => ?_⟩
    simp at hy
    subst hy
    exact fun e => h2 (e ▸ hx)
theorem dup_of_take {l : List ByteArray} {k : Nat} (h : ¬ (l.take k).Nodup) : dupB l = true := by
  unfold dupB
  rw [decide_eq_true_eq]
  exact fun hn => h (hn.sublist (List.take_sublist _ _))
theorem ac31 (lib : List Fn) (hlib : LibOk lib) (i : Nat) (f : Fn) (hf : lib[i]? = some f) (hok : FnOk f) (h : AHeap) : AC sd 31 [vlib lib, .int .i64 i] h (Pure1 (.int .i64 (oneE lib i f)) h) := by
  refine AC.pure Tryd.func31 rfl Tryd.ntmps31 (by show 2 ≤ 99; decide) ?_
  refine Ev.sound 100 _ _ _ _ ?_
  simp only [argFr, vlib]
  have hi : i < lib.length := (List.getElem?_eq_some_iff.1 hf).1
  have hl := hlib.len
  have hp := hok.params
  have hfl := find_le hf
  have c1 : (0 ≤ (i : Int)) = True := by simp
  have c2 : ((i : Int) < (lib.length : Int)) = True := by simp; omega
  have hh : Ext h (h.alloc (.cells [.str f.name, kslice 2 (f.params.map Param.enc), .bool f.list, .int .u8 f.body.kind, .int .i64 f.body.num, .str f.body.name, kslice 4 (f.body.kids.map Node.enc)])) := (Ext.refl h).alloc _
  generalize hH : h.alloc (.cells [.str f.name, kslice 2 (f.params.map Param.enc), .bool f.list, .int .u8 f.body.kind, .int .i64 f.body.num, .str f.body.name, kslice 4 (f.body.kids.map Node.enc)]) = H at hh
  have hg : H.get h.next = some (.cells [.str f.name, kslice 2 (f.params.map Param.enc), .bool f.list, .int .u8 f.body.kind, .int .i64 f.body.num, .str f.body.name, kslice 4 (f.body.kids.map Node.enc)]) := by rw [← hH, get_alloc, if_pos rfl]
  simp only [wy, Nat.reduceAdd, Nat.reduceEqDiff, Nat.reduceLT, Nat.reduceMul, Nat.reduceLeDiff, Int.reduceEq, ↓reduceIte, reduceCtorEq, ne_eq, implies_true, if_true, if_false, ite_not, eq_self, Tryd.ntmps31, c1, c2, List.length_map, getD_map Fn.enc hf, fenc_eq f, hH]
  refine EvC.part (fun a1 => ?_) (fun a1 => ?_)
  · have hn : oneE lib i f = 5 := by unfold oneE; rw [if_pos (by have := of_decide_eq_true a1; omega)]
    simp only [wy, Nat.reduceAdd, Nat.reduceEqDiff, Nat.reduceLT, Nat.reduceMul, Nat.reduceLeDiff, Int.reduceEq, ↓reduceIte, reduceCtorEq, ne_eq, implies_true, if_true, if_false, ite_not, eq_self, Tryd.ntmps31]
    exact Leave.pures rfl (by simp only [wy, Nat.reduceAdd, Nat.reduceEqDiff, Nat.reduceLT, Nat.reduceMul, Nat.reduceLeDiff, Int.reduceEq, ↓reduceIte, reduceCtorEq, ne_eq, implies_true, if_true, if_false, ite_not, eq_self, oneOf, hn] <;> rfl) (hh) rfl
  simp only [wy, Nat.reduceAdd, Nat.reduceEqDiff, Nat.reduceLT, Nat.reduceMul, Nat.reduceLeDiff, Int.reduceEq, ↓reduceIte, reduceCtorEq, ne_eq, implies_true, if_true, if_false, ite_not, eq_self, Tryd.ntmps31, hg]
  refine Stop.fact (ac25 f.name hok.name _) rfl (by first | rfl | simp only [wy, Nat.reduceAdd, Nat.reduceEqDiff, Nat.reduceLT, Nat.reduceMul, Nat.reduceLeDiff, Int.reduceEq, ↓reduceIte, reduceCtorEq, ne_eq, implies_true, if_true, if_false, ite_not, eq_self, Tryd.ntmps31]) (by simp only [wy, Nat.reduceAdd, Nat.reduceEqDiff, Nat.reduceLT, Nat.reduceMul, Nat.reduceLeDiff, Int.reduceEq, ↓reduceIte, reduceCtorEq, ne_eq, implies_true, if_true, if_false, ite_not, eq_self, Tryd.ntmps31]) (caps := []) (by simp only [wy, Nat.reduceAdd, Nat.reduceEqDiff, Nat.reduceLT, Nat.reduceMul, Nat.reduceLeDiff, Int.reduceEq, ↓reduceIte, reduceCtorEq, ne_eq, implies_true, if_true, if_false, ite_not, eq_self]) en_25 (by simp only [wy, Nat.reduceAdd, Nat.reduceEqDiff, Nat.reduceLT, Nat.reduceMul, Nat.reduceLeDiff, Int.reduceEq, ↓reduceIte, reduceCtorEq, ne_eq, implies_true, if_true, if_false, ite_not, eq_self] <;> rfl) (Ev.sound 100 _ _ _ _ ?_)
  cases a2 : nameB f.name
  · have hn : oneE lib i f = 3 := by unfold oneE; rw [if_neg (by have := of_decide_eq_false a1; omega), if_pos a2]
    simp only [wy, Nat.reduceAdd, Nat.reduceEqDiff, Nat.reduceLT, Nat.reduceMul, Nat.reduceLeDiff, Int.reduceEq, ↓reduceIte, reduceCtorEq, ne_eq, implies_true, if_true, if_false, ite_not, eq_self, Tryd.ntmps31]
    exact Leave.pures rfl (by simp only [wy, Nat.reduceAdd, Nat.reduceEqDiff, Nat.reduceLT, Nat.reduceMul, Nat.reduceLeDiff, Int.reduceEq, ↓reduceIte, reduceCtorEq, ne_eq, implies_true, if_true, if_false, ite_not, eq_self, oneOf, hn] <;> rfl) (hh) rfl
  simp only [wy, Nat.reduceAdd, Nat.reduceEqDiff, Nat.reduceLT, Nat.reduceMul, Nat.reduceLeDiff, Int.reduceEq, ↓reduceIte, reduceCtorEq, ne_eq, implies_true, if_true, if_false, ite_not, eq_self, Tryd.ntmps31, hg]
  refine Stop.fact (ac21 lib f.name hl _) rfl (by first | rfl | simp only [wy, Nat.reduceAdd, Nat.reduceEqDiff, Nat.reduceLT, Nat.reduceMul, Nat.reduceLeDiff, Int.reduceEq, ↓reduceIte, reduceCtorEq, ne_eq, implies_true, if_true, if_false, ite_not, eq_self, Tryd.ntmps31, vlib, fgt_mapfenc]) (by simp only [wy, Nat.reduceAdd, Nat.reduceEqDiff, Nat.reduceLT, Nat.reduceMul, Nat.reduceLeDiff, Int.reduceEq, ↓reduceIte, reduceCtorEq, ne_eq, implies_true, if_true, if_false, ite_not, eq_self, Tryd.ntmps31]) (caps := []) (by simp only [wy, Nat.reduceAdd, Nat.reduceEqDiff, Nat.reduceLT, Nat.reduceMul, Nat.reduceLeDiff, Int.reduceEq, ↓reduceIte, reduceCtorEq, ne_eq, implies_true, if_true, if_false, ite_not, eq_self, vlib, fgt_mapfenc]) en_21 (by simp only [wy, Nat.reduceAdd, Nat.reduceEqDiff, Nat.reduceLT, Nat.reduceMul, Nat.reduceLeDiff, Int.reduceEq, ↓reduceIte, reduceCtorEq, ne_eq, implies_true, if_true, if_false, ite_not, eq_self, vlib, fgt_mapfenc] <;> rfl) (Ev.sound 100 _ _ _ _ ?_)
  by_cases a3 : find lib f.name = i
  case neg =>
    have hn : oneE lib i f = 22 := by unfold oneE; rw [if_neg (by have := of_decide_eq_false a1; omega), if_neg (by simp [a2]), if_pos (by omega)]
    simp only [wy, Nat.reduceAdd, Nat.reduceEqDiff, Nat.reduceLT, Nat.reduceMul, Nat.reduceLeDiff, Int.reduceEq, ↓reduceIte, reduceCtorEq, ne_eq, implies_true, if_true, if_false, ite_not, eq_self, Tryd.ntmps31, decide_eq_false a3]
    exact Leave.pures rfl (by simp only [wy, Nat.reduceAdd, Nat.reduceEqDiff, Nat.reduceLT, Nat.reduceMul, Nat.reduceLeDiff, Int.reduceEq, ↓reduceIte, reduceCtorEq, ne_eq, implies_true, if_true, if_false, ite_not, eq_self, oneOf, hn] <;> rfl) (hh) rfl
  simp only [wy, Nat.reduceAdd, Nat.reduceEqDiff, Nat.reduceLT, Nat.reduceMul, Nat.reduceLeDiff, Int.reduceEq, ↓reduceIte, reduceCtorEq, ne_eq, implies_true, if_true, if_false, ite_not, eq_self, Tryd.ntmps31, decide_eq_true a3, hg, List.length_map]
  refine EvC.part (fun a4 => ?_) (fun a4 => ?_)
  · have hn : oneE lib i f = 5 := by
      unfold oneE
      rw [if_neg (by have := of_decide_eq_false a1; omega), if_neg (by simp [a2]), if_neg (by omega), if_pos (by have := of_decide_eq_true a4; omega)]
    simp only [wy, Nat.reduceAdd, Nat.reduceEqDiff, Nat.reduceLT, Nat.reduceMul, Nat.reduceLeDiff, Int.reduceEq, ↓reduceIte, reduceCtorEq, ne_eq, implies_true, if_true, if_false, ite_not, eq_self, Tryd.ntmps31]
    exact Leave.pures rfl (by simp only [wy, Nat.reduceAdd, Nat.reduceEqDiff, Nat.reduceLT, Nat.reduceMul, Nat.reduceLeDiff, Int.reduceEq, ↓reduceIte, reduceCtorEq, ne_eq, implies_true, if_true, if_false, ite_not, eq_self, oneOf, hn] <;> rfl) (hh) rfl
  have hn0 : oneE lib i f = if (f.params.all fun p => nameB p.name) = false then 3 else bodyOne lib f := by
    unfold oneE
    rw [if_neg (by have := of_decide_eq_false a1; omega), if_neg (by simp [a2]), if_neg (by omega), if_neg (by have := of_decide_eq_false a4; omega)]
  simp only [wy, Nat.reduceAdd, Nat.reduceEqDiff, Nat.reduceLT, Nat.reduceMul, Nat.reduceLeDiff, Int.reduceEq, ↓reduceIte, reduceCtorEq, ne_eq, implies_true, if_true, if_false, ite_not, eq_self, Tryd.ntmps31]
  refine Stop.round (σ := Nat) (fun k => f.params.length - k) (fun k => [(0, kslice 7 (lib.map Fn.enc)), (1, .int .i64 i), (5, .ptr h.next 0), (6, .int .i64 k)])
    (fun k h1 => k ≤ f.params.length ∧ ((f.params.take k).all fun p => nameB p.name) = true ∧ H = h1) 0 ⟨Nat.zero_le _, rfl, rfl⟩ (by simp only [wy, Nat.reduceAdd, Nat.reduceEqDiff, Nat.reduceLT, Nat.reduceMul, Nat.reduceLeDiff, Int.reduceEq, ↓reduceIte, reduceCtorEq, ne_eq, implies_true, if_true, if_false, ite_not, eq_self, Tryd.ntmps31, Int.natCast_zero]) ?_
  rintro k _ ⟨hk, hall, rfl⟩ next
  refine Ev.sound 100 _ _ _ _ ?_
  rcases turn f.params k hk with ⟨y, hy, hmem, hlt, c3, c4⟩ | ⟨hkk, c3⟩
  · have w1 := wrap_succ k (by omega)
    have hty : (f.params.take (k + 1)) = f.params.take k ++ [y] := take_snoc _ _ _ hy
    simp only [wy, Nat.reduceAdd, Nat.reduceEqDiff, Nat.reduceLT, Nat.reduceMul, Nat.reduceLeDiff, Int.reduceEq, ↓reduceIte, reduceCtorEq, ne_eq, implies_true, if_true, if_false, ite_not, eq_self, Tryd.ntmps31, c3, c4, hg, List.length_map, getD_map Param.enc hy, penc_eq]
    refine Stop.fact (ac25 y.name (hok.names y hmem) _) rfl (by first | rfl | simp only [wy, Nat.reduceAdd, Nat.reduceEqDiff, Nat.reduceLT, Nat.reduceMul, Nat.reduceLeDiff, Int.reduceEq, ↓reduceIte, reduceCtorEq, ne_eq, implies_true, if_true, if_false, ite_not, eq_self, Tryd.ntmps31]) (by simp only [wy, Nat.reduceAdd, Nat.reduceEqDiff, Nat.reduceLT, Nat.reduceMul, Nat.reduceLeDiff, Int.reduceEq, ↓reduceIte, reduceCtorEq, ne_eq, implies_true, if_true, if_false, ite_not, eq_self, Tryd.ntmps31]) (caps := []) (by simp only [wy, Nat.reduceAdd, Nat.reduceEqDiff, Nat.reduceLT, Nat.reduceMul, Nat.reduceLeDiff, Int.reduceEq, ↓reduceIte, reduceCtorEq, ne_eq, implies_true, if_true, if_false, ite_not, eq_self]) en_25 (by simp only [wy, Nat.reduceAdd, Nat.reduceEqDiff, Nat.reduceLT, Nat.reduceMul, Nat.reduceLeDiff, Int.reduceEq, ↓reduceIte, reduceCtorEq, ne_eq, implies_true, if_true, if_false, ite_not, eq_self] <;> rfl) (Ev.sound 100 _ _ _ _ ?_)
    cases b1 : nameB y.name
    · have hn : oneE lib i f = 3 := by
        rw [hn0, if_pos]
        rw [← List.take_append_drop (k + 1) f.params, List.all_append, hty, List.all_append]
        simp [b1]
      simp only [wy, Nat.reduceAdd, Nat.reduceEqDiff, Nat.reduceLT, Nat.reduceMul, Nat.reduceLeDiff, Int.reduceEq, ↓reduceIte, reduceCtorEq, ne_eq, implies_true, if_true, if_false, ite_not, eq_self, Tryd.ntmps31]
      exact Leave.pures rfl (by simp only [wy, Nat.reduceAdd, Nat.reduceEqDiff, Nat.reduceLT, Nat.reduceMul, Nat.reduceLeDiff, Int.reduceEq, ↓reduceIte, reduceCtorEq, ne_eq, implies_true, if_true, if_false, ite_not, eq_self, oneOf, hn] <;> rfl) (hh) rfl
    simp only [wy, Nat.reduceAdd, Nat.reduceEqDiff, Nat.reduceLT, Nat.reduceMul, Nat.reduceLeDiff, Int.reduceEq, ↓reduceIte, reduceCtorEq, ne_eq, implies_true, if_true, if_false, ite_not, eq_self, Tryd.ntmps31, w1]
    exact next (k + 1) _ _ (by omega) ⟨hlt, by rw [hty, List.all_append, hall]; simp [b1], rfl⟩ (by simp only [wy, Nat.reduceAdd, Nat.reduceEqDiff, Nat.reduceLT, Nat.reduceMul, Nat.reduceLeDiff, Int.reduceEq, ↓reduceIte, reduceCtorEq, ne_eq, implies_true, if_true, if_false, ite_not, eq_self, Tryd.ntmps31])
  rw [List.take_of_length_le (by omega)] at hall
  rw [if_neg (by rw [hall]; simp)] at hn0
  unfold bodyOne at hn0
  simp only [wy, Nat.reduceAdd, Nat.reduceEqDiff, Nat.reduceLT, Nat.reduceMul, Nat.reduceLeDiff, Int.reduceEq, ↓reduceIte, reduceCtorEq, ne_eq, implies_true, if_true, if_false, ite_not, eq_self, Tryd.ntmps31, c3, hg, List.length_map]
  clear next hall hk hkk c3
  have hpn : (pnames f.params).length = f.params.length := by unfold pnames; rw [List.length_map]
  have hpg : ∀ {k : Nat} {y : Param}, f.params[k]? = some y → (pnames f.params)[k]? = some y.name := fun {k y} hy => by unfold pnames; rw [List.getElem?_map, hy]; rfl
  refine Stop.round (σ := Nat) (fun k => f.params.length - k) (fun k => [(0, kslice 7 (lib.map Fn.enc)), (1, .int .i64 i), (5, .ptr h.next 0), (7, .int .i64 k)])
    (fun k h1 => k ≤ f.params.length ∧ ((pnames f.params).take k).Nodup ∧ H = h1) 0 ⟨Nat.zero_le _, by simp, rfl⟩ (by simp only [wy, Nat.reduceAdd, Nat.reduceEqDiff, Nat.reduceLT, Nat.reduceMul, Nat.reduceLeDiff, Int.reduceEq, ↓reduceIte, reduceCtorEq, ne_eq, implies_true, if_true, if_false, ite_not, eq_self, Tryd.ntmps31, Int.natCast_zero]) ?_
  rintro k _ ⟨hk, hnd, rfl⟩ next
  refine Ev.sound 100 _ _ _ _ ?_
  rcases turn f.params k hk with ⟨y, hy, hmem, hlt, c3, c4⟩ | ⟨hkk, c3⟩
  · have w1 := wrap_succ k (by omega)
    simp only [wy, Nat.reduceAdd, Nat.reduceEqDiff, Nat.reduceLT, Nat.reduceMul, Nat.reduceLeDiff, Int.reduceEq, ↓reduceIte, reduceCtorEq, ne_eq, implies_true, if_true, if_false, ite_not, eq_self, Tryd.ntmps31, c3, c4, hg, List.length_map]
    refine Stop.round (σ := Nat) (fun j => k - j) (fun j => [(0, kslice 7 (lib.map Fn.enc)), (1, .int .i64 i), (5, .ptr h.next 0), (7, .int .i64 k), (8, .int .i64 j)])
      (fun j h1 => j ≤ k ∧ y.name ∉ (pnames f.params).take j ∧ H = h1) 0 ⟨Nat.zero_le _, by simp, rfl⟩ (by simp only [wy, Nat.reduceAdd, Nat.reduceEqDiff, Nat.reduceLT, Nat.reduceMul, Nat.reduceLeDiff, Int.reduceEq, ↓reduceIte, reduceCtorEq, ne_eq, implies_true, if_true, if_false, ite_not, eq_self, Tryd.ntmps31, Int.natCast_zero]) ?_
    rintro j _ ⟨hj, hnj, rfl⟩ next2
    refine Ev.sound 100 _ _ _ _ ?_
    by_cases hjk : j < k
    · have d1 : ((j : Int) < (k : Int)) = True := by simp; omega
      obtain ⟨z, hz⟩ : ∃ z, f.params[j]? = some z := ⟨_, List.getElem?_eq_getElem (by omega)⟩
      have d2 : (0 ≤ (j : Int)) = True := by simp
      have d3 : ((j : Int) < (f.params.length : Int)) = True := by simp; omega
      have w2 := wrap_succ j (by omega)
      simp only [wy, Nat.reduceAdd, Nat.reduceEqDiff, Nat.reduceLT, Nat.reduceMul, Nat.reduceLeDiff, Int.reduceEq, ↓reduceIte, reduceCtorEq, ne_eq, implies_true, if_true, if_false, ite_not, eq_self, Tryd.ntmps31, d1]
      refine Stop.drawn [(0, 0), (1, 0), (2, 0), (3, 0), (4, 0), (5, 0), (6, 0), (7, 0), (8, 0), (9, 0), (10, 0), (11, 0), (12, 0)] [[], [0], [], [0, 1, 2], [0, 1, 2, 3], [0, 1, 2, 3, 4], [], [6], [], [6, 7, 8], [6, 7, 8, 9], [6, 7, 8, 9, 10], [0, 1, 2, 3, 4, 5, 6, 7, 8, 9, 10, 11]] 90 (by kernel_rfl) ?_
      simp only [wy, Nat.reduceAdd, Nat.reduceEqDiff, Nat.reduceLT, Nat.reduceMul, Nat.reduceLeDiff, Int.reduceEq, ↓reduceIte, reduceCtorEq, ne_eq, implies_true, if_true, if_false, ite_not, eq_self, Tryd.ntmps31, hg, c3, c4, d2, d3, List.length_map, getD_map Param.enc hy, getD_map Param.enc hz, penc_eq]
      by_cases e : z.name = y.name
      · have hd : dupB (pnames f.params) = true := dup_of_take (k := k + 1) (fun hn => ((nodup_take_succ (hpg hy)).1 hn).2 (by
          rw [← e]
          exact List.mem_of_getElem? (i := j) (by rw [List.getElem?_take, if_pos hjk]; exact hpg hz)))
        rw [if_pos hd] at hn0
        simp only [wy, Nat.reduceAdd, Nat.reduceEqDiff, Nat.reduceLT, Nat.reduceMul, Nat.reduceLeDiff, Int.reduceEq, ↓reduceIte, reduceCtorEq, ne_eq, implies_true, if_true, if_false, ite_not, eq_self, Tryd.ntmps31, decide_eq_true e]
        exact Leave.pures rfl (by simp only [wy, Nat.reduceAdd, Nat.reduceEqDiff, Nat.reduceLT, Nat.reduceMul, Nat.reduceLeDiff, Int.reduceEq, ↓reduceIte, reduceCtorEq, ne_eq, implies_true, if_true, if_false, ite_not, eq_self, oneOf, hn0] <;> rfl) (hh) rfl
      · simp only [wy, Nat.reduceAdd, Nat.reduceEqDiff, Nat.reduceLT, Nat.reduceMul, Nat.reduceLeDiff, Int.reduceEq, ↓reduceIte, reduceCtorEq, ne_eq, implies_true, if_true, if_false, ite_not, eq_self, Tryd.ntmps31, decide_eq_false e, w2]
        refine next2 (j + 1) _ _ (by omega) ⟨hjk, fun hm => ?_, rfl⟩ (by simp only [wy, Nat.reduceAdd, Nat.reduceEqDiff, Nat.reduceLT, Nat.reduceMul, Nat.reduceLeDiff, Int.reduceEq, ↓reduceIte, reduceCtorEq, ne_eq, implies_true, if_true, if_false, ite_not, eq_self, Tryd.ntmps31])
        rw [List.take_add_one, hpg hz] at hm
        simp at hm
        rcases hm with hm | hm
        · exact hnj hm
        · exact e hm.symm
    · have d1 : ((j : Int) < (k : Int)) = False := by simp; omega
      have ej : j = k := by omega
      subst ej
      simp only [wy, Nat.reduceAdd, Nat.reduceEqDiff, Nat.reduceLT, Nat.reduceMul, Nat.reduceLeDiff, Int.reduceEq, ↓reduceIte, reduceCtorEq, ne_eq, implies_true, if_true, if_false, ite_not, eq_self, Tryd.ntmps31, d1, w1]
      exact next (j + 1) _ _ (by omega) ⟨hlt, (nodup_take_succ (hpg hy)).2 ⟨hnd, hnj⟩, rfl⟩ (by simp only [wy, Nat.reduceAdd, Nat.reduceEqDiff, Nat.reduceLT, Nat.reduceMul, Nat.reduceLeDiff, Int.reduceEq, ↓reduceIte, reduceCtorEq, ne_eq, implies_true, if_true, if_false, ite_not, eq_self, Tryd.ntmps31])
  rw [List.take_of_length_le (by omega)] at hnd
  have hd : dupB (pnames f.params) = false := by unfold dupB; simp [hnd]
  rw [if_neg (by rw [hd]; simp)] at hn0
  simp only [wy, Nat.reduceAdd, Nat.reduceEqDiff, Nat.reduceLT, Nat.reduceMul, Nat.reduceLeDiff, Int.reduceEq, ↓reduceIte, reduceCtorEq, ne_eq, implies_true, if_true, if_false, ite_not, eq_self, Tryd.ntmps31, c3, hg, List.length_map]
  refine Stop.fact (ac17 f.body hok.body _) rfl (by first | rfl | simp only [wy, Nat.reduceAdd, Nat.reduceEqDiff, Nat.reduceLT, Nat.reduceMul, Nat.reduceLeDiff, Int.reduceEq, ↓reduceIte, reduceCtorEq, ne_eq, implies_true, if_true, if_false, ite_not, eq_self, Tryd.ntmps31, enc_eq, fgt_mapenc]) (by simp only [wy, Nat.reduceAdd, Nat.reduceEqDiff, Nat.reduceLT, Nat.reduceMul, Nat.reduceLeDiff, Int.reduceEq, ↓reduceIte, reduceCtorEq, ne_eq, implies_true, if_true, if_false, ite_not, eq_self, Tryd.ntmps31]) (caps := []) (by simp only [wy, Nat.reduceAdd, Nat.reduceEqDiff, Nat.reduceLT, Nat.reduceMul, Nat.reduceLeDiff, Int.reduceEq, ↓reduceIte, reduceCtorEq, ne_eq, implies_true, if_true, if_false, ite_not, eq_self, enc_eq, fgt_mapenc]) en_17 (by simp only [wy, Nat.reduceAdd, Nat.reduceEqDiff, Nat.reduceLT, Nat.reduceMul, Nat.reduceLeDiff, Int.reduceEq, ↓reduceIte, reduceCtorEq, ne_eq, implies_true, if_true, if_false, ite_not, eq_self, enc_eq, fgt_mapenc] <;> rfl) (Ev.sound 100 _ _ _ _ ?_)
  cases b2 : formB f.body
  · rw [if_pos b2] at hn0
    simp only [wy, Nat.reduceAdd, Nat.reduceEqDiff, Nat.reduceLT, Nat.reduceMul, Nat.reduceLeDiff, Int.reduceEq, ↓reduceIte, reduceCtorEq, ne_eq, implies_true, if_true, if_false, ite_not, eq_self, Tryd.ntmps31]
    exact Leave.pures rfl (by simp only [wy, Nat.reduceAdd, Nat.reduceEqDiff, Nat.reduceLT, Nat.reduceMul, Nat.reduceLeDiff, Int.reduceEq, ↓reduceIte, reduceCtorEq, ne_eq, implies_true, if_true, if_false, ite_not, eq_self, oneOf, hn0] <;> rfl) (hh) rfl
  rw [if_neg (by rw [b2]; simp)] at hn0
  simp only [wy, Nat.reduceAdd, Nat.reduceEqDiff, Nat.reduceLT, Nat.reduceMul, Nat.reduceLeDiff, Int.reduceEq, ↓reduceIte, reduceCtorEq, ne_eq, implies_true, if_true, if_false, ite_not, eq_self, Tryd.ntmps31, hg]
  refine Stop.fact (ac46 f.body hok.body.size _) rfl (by first | rfl | simp only [wy, Nat.reduceAdd, Nat.reduceEqDiff, Nat.reduceLT, Nat.reduceMul, Nat.reduceLeDiff, Int.reduceEq, ↓reduceIte, reduceCtorEq, ne_eq, implies_true, if_true, if_false, ite_not, eq_self, Tryd.ntmps31, enc_eq, fgt_mapenc]) (by simp only [wy, Nat.reduceAdd, Nat.reduceEqDiff, Nat.reduceLT, Nat.reduceMul, Nat.reduceLeDiff, Int.reduceEq, ↓reduceIte, reduceCtorEq, ne_eq, implies_true, if_true, if_false, ite_not, eq_self, Tryd.ntmps31]) (caps := []) (by simp only [wy, Nat.reduceAdd, Nat.reduceEqDiff, Nat.reduceLT, Nat.reduceMul, Nat.reduceLeDiff, Int.reduceEq, ↓reduceIte, reduceCtorEq, ne_eq, implies_true, if_true, if_false, ite_not, eq_self, enc_eq, fgt_mapenc]) en_46 (by simp only [wy, Nat.reduceAdd, Nat.reduceEqDiff, Nat.reduceLT, Nat.reduceMul, Nat.reduceLeDiff, Int.reduceEq, ↓reduceIte, reduceCtorEq, ne_eq, implies_true, if_true, if_false, ite_not, eq_self, enc_eq, fgt_mapenc] <;> rfl) (Ev.sound 100 _ _ _ _ ?_)
  simp only [wy, Nat.reduceAdd, Nat.reduceEqDiff, Nat.reduceLT, Nat.reduceMul, Nat.reduceLeDiff, Int.reduceEq, ↓reduceIte, reduceCtorEq, ne_eq, implies_true, if_true, if_false, ite_not, eq_self, Tryd.ntmps31]
  refine EvC.part (fun b3 => ?_) (fun b3 => ?_)
  · rw [if_pos (by have := of_decide_eq_true b3; omega)] at hn0
    simp only [wy, Nat.reduceAdd, Nat.reduceEqDiff, Nat.reduceLT, Nat.reduceMul, Nat.reduceLeDiff, Int.reduceEq, ↓reduceIte, reduceCtorEq, ne_eq, implies_true, if_true, if_false, ite_not, eq_self, Tryd.ntmps31]
    exact Leave.pures rfl (by simp only [wy, Nat.reduceAdd, Nat.reduceEqDiff, Nat.reduceLT, Nat.reduceMul, Nat.reduceLeDiff, Int.reduceEq, ↓reduceIte, reduceCtorEq, ne_eq, implies_true, if_true, if_false, ite_not, eq_self, oneOf, hn0] <;> rfl) (hh) rfl
  rw [if_neg (by have := of_decide_eq_false b3; omega)] at hn0
  simp only [wy, Nat.reduceAdd, Nat.reduceEqDiff, Nat.reduceLT, Nat.reduceMul, Nat.reduceLeDiff, Int.reduceEq, ↓reduceIte, reduceCtorEq, ne_eq, implies_true, if_true, if_false, ite_not, eq_self, Tryd.ntmps31, hg]
  refine Stop.fact (ac47 f.body hok.body.size _) rfl (by first | rfl | simp only [wy, Nat.reduceAdd, Nat.reduceEqDiff, Nat.reduceLT, Nat.reduceMul, Nat.reduceLeDiff, Int.reduceEq, ↓reduceIte, reduceCtorEq, ne_eq, implies_true, if_true, if_false, ite_not, eq_self, Tryd.ntmps31, enc_eq, fgt_mapenc]) (by simp only [wy, Nat.reduceAdd, Nat.reduceEqDiff, Nat.reduceLT, Nat.reduceMul, Nat.reduceLeDiff, Int.reduceEq, ↓reduceIte, reduceCtorEq, ne_eq, implies_true, if_true, if_false, ite_not, eq_self, Tryd.ntmps31]) (caps := []) (by simp only [wy, Nat.reduceAdd, Nat.reduceEqDiff, Nat.reduceLT, Nat.reduceMul, Nat.reduceLeDiff, Int.reduceEq, ↓reduceIte, reduceCtorEq, ne_eq, implies_true, if_true, if_false, ite_not, eq_self, enc_eq, fgt_mapenc]) en_47 (by simp only [wy, Nat.reduceAdd, Nat.reduceEqDiff, Nat.reduceLT, Nat.reduceMul, Nat.reduceLeDiff, Int.reduceEq, ↓reduceIte, reduceCtorEq, ne_eq, implies_true, if_true, if_false, ite_not, eq_self, enc_eq, fgt_mapenc] <;> rfl) (Ev.sound 100 _ _ _ _ ?_)
  simp only [wy, Nat.reduceAdd, Nat.reduceEqDiff, Nat.reduceLT, Nat.reduceMul, Nat.reduceLeDiff, Int.reduceEq, ↓reduceIte, reduceCtorEq, ne_eq, implies_true, if_true, if_false, ite_not, eq_self, Tryd.ntmps31]
  refine EvC.part (fun b4 => ?_) (fun b4 => ?_)
  · rw [if_pos (by have := of_decide_eq_true b4; omega)] at hn0
    simp only [wy, Nat.reduceAdd, Nat.reduceEqDiff, Nat.reduceLT, Nat.reduceMul, Nat.reduceLeDiff, Int.reduceEq, ↓reduceIte, reduceCtorEq, ne_eq, implies_true, if_true, if_false, ite_not, eq_self, Tryd.ntmps31]
    exact Leave.pures rfl (by simp only [wy, Nat.reduceAdd, Nat.reduceEqDiff, Nat.reduceLT, Nat.reduceMul, Nat.reduceLeDiff, Int.reduceEq, ↓reduceIte, reduceCtorEq, ne_eq, implies_true, if_true, if_false, ite_not, eq_self, oneOf, hn0] <;> rfl) (hh) rfl
  rw [if_neg (by have := of_decide_eq_false b4; omega)] at hn0
  unfold checkOne at hn0
  have hdep := depth_le f.body
  have hd80 : f.body.depth ≤ 80 := by have := of_decide_eq_false b3; omega
  have hp8 : f.params.length ≤ 8 := by have := of_decide_eq_false a4; omega
  simp only [wy, Nat.reduceAdd, Nat.reduceEqDiff, Nat.reduceLT, Nat.reduceMul, Nat.reduceLeDiff, Int.reduceEq, ↓reduceIte, reduceCtorEq, ne_eq, implies_true, if_true, if_false, ite_not, eq_self, Tryd.ntmps31, hg]
  refine Stop.fact (ac18 lib hlib f.body hok.body b2 f.params (by omega) _) rfl (by first | rfl | simp only [wy, Nat.reduceAdd, Nat.reduceEqDiff, Nat.reduceLT, Nat.reduceMul, Nat.reduceLeDiff, Int.reduceEq, ↓reduceIte, reduceCtorEq, ne_eq, implies_true, if_true, if_false, ite_not, eq_self, Tryd.ntmps31, enc_eq, fgt_mapenc, vlib, vparams, fgt_mapfenc, fgt_mappenc]) (by simp only [wy, Nat.reduceAdd, Nat.reduceEqDiff, Nat.reduceLT, Nat.reduceMul, Nat.reduceLeDiff, Int.reduceEq, ↓reduceIte, reduceCtorEq, ne_eq, implies_true, if_true, if_false, ite_not, eq_self, Tryd.ntmps31]) (caps := []) (by simp only [wy, Nat.reduceAdd, Nat.reduceEqDiff, Nat.reduceLT, Nat.reduceMul, Nat.reduceLeDiff, Int.reduceEq, ↓reduceIte, reduceCtorEq, ne_eq, implies_true, if_true, if_false, ite_not, eq_self, enc_eq, fgt_mapenc, vlib, vparams, fgt_mapfenc, fgt_mappenc]) en_18 (by simp only [wy, Nat.reduceAdd, Nat.reduceEqDiff, Nat.reduceLT, Nat.reduceMul, Nat.reduceLeDiff, Int.reduceEq, ↓reduceIte, reduceCtorEq, ne_eq, implies_true, if_true, if_false, ite_not, eq_self, enc_eq, fgt_mapenc, vlib, vparams, fgt_mapfenc, fgt_mappenc] <;> rfl) (Ev.sound 100 _ _ _ _ ?_)
  by_cases b5 : (checkE lib f.params f.body).2 = 0
  · by_cases b6 : (checkE lib f.params f.body).1 = f.list
    · rw [if_neg (by simp [b6]), b5] at hn0
      cases b7 : f.list <;> rw [b7] at b6 <;> (simp only [wy, Nat.reduceAdd, Nat.reduceEqDiff, Nat.reduceLT, Nat.reduceMul, Nat.reduceLeDiff, Int.reduceEq, ↓reduceIte, reduceCtorEq, ne_eq, implies_true, if_true, if_false, ite_not, eq_self, Tryd.ntmps31, tyv, hg, decide_eq_true b5, b6, b7]; exact Leave.pures rfl (by simp only [wy, Nat.reduceAdd, Nat.reduceEqDiff, Nat.reduceLT, Nat.reduceMul, Nat.reduceLeDiff, Int.reduceEq, ↓reduceIte, reduceCtorEq, ne_eq, implies_true, if_true, if_false, ite_not, eq_self, oneOf, hn0] <;> rfl) (hh) rfl)
    · rw [if_pos ⟨b5, b6⟩] at hn0
      cases b7 : f.list <;> rw [b7] at b6 <;> simp only [Bool.not_eq_true, Bool.not_eq_false] at b6 <;> (simp only [wy, Nat.reduceAdd, Nat.reduceEqDiff, Nat.reduceLT, Nat.reduceMul, Nat.reduceLeDiff, Int.reduceEq, ↓reduceIte, reduceCtorEq, ne_eq, implies_true, if_true, if_false, ite_not, eq_self, Tryd.ntmps31, tyv, hg, decide_eq_true b5, b6, b7]; exact Leave.pures rfl (by simp only [wy, Nat.reduceAdd, Nat.reduceEqDiff, Nat.reduceLT, Nat.reduceMul, Nat.reduceLeDiff, Int.reduceEq, ↓reduceIte, reduceCtorEq, ne_eq, implies_true, if_true, if_false, ite_not, eq_self, oneOf, hn0] <;> rfl) (hh) rfl)
  · rw [if_neg (by simp [b5])] at hn0
    simp only [wy, Nat.reduceAdd, Nat.reduceEqDiff, Nat.reduceLT, Nat.reduceMul, Nat.reduceLeDiff, Int.reduceEq, ↓reduceIte, reduceCtorEq, ne_eq, implies_true, if_true, if_false, ite_not, eq_self, Tryd.ntmps31, tyv, hg, decide_eq_false b5]
    exact Leave.pures rfl (by simp only [wy, Nat.reduceAdd, Nat.reduceEqDiff, Nat.reduceLT, Nat.reduceMul, Nat.reduceLeDiff, Int.reduceEq, ↓reduceIte, reduceCtorEq, ne_eq, implies_true, if_true, if_false, ite_not, eq_self, oneOf, hn0] <;> rfl) (hh) rfl
theorem ac14 (lib : List Fn) (hlib : LibOk lib) (hok : ∀ f ∈ lib, FnOk f) (h : AHeap) : AC sd 14 [vlib lib] h (Pure1 (.tup [.int .i64 (validE lib).1, .int .i64 (validE lib).2]) h) := by
  refine AC.pure Tryd.func14 rfl Tryd.ntmps14 (by show 1 ≤ 19; decide) ?_
  refine Ev.sound 100 _ _ _ _ ?_
  have hl := hlib.len
  simp only [argFr, vlib]
  simp only [wy, Nat.reduceAdd, Nat.reduceEqDiff, Nat.reduceLT, Nat.reduceMul, Nat.reduceLeDiff, Int.reduceEq, ↓reduceIte, reduceCtorEq, ne_eq, implies_true, if_true, if_false, ite_not, eq_self, Tryd.ntmps14, List.length_map]
  refine Stop.round (σ := Nat) (fun k => lib.length - k) (fun k => [(0, kslice 7 (lib.map Fn.enc)), (4, .int .i64 k)])
    (fun k h1 => k ≤ lib.length ∧ h1 = h ∧ validE lib = validFrom lib k (lib.drop k)) 0 ⟨Nat.zero_le _, rfl, rfl⟩ (by simp only [wy, Nat.reduceAdd, Nat.reduceEqDiff, Nat.reduceLT, Nat.reduceMul, Nat.reduceLeDiff, Int.reduceEq, ↓reduceIte, reduceCtorEq, ne_eq, implies_true, if_true, if_false, ite_not, eq_self, Tryd.ntmps14, Int.natCast_zero]) ?_
  rintro k _ ⟨hk, rfl, hv⟩ next
  refine Ev.sound 100 _ _ _ _ ?_
  rcases turn lib k hk with ⟨y, hy, hmem, hlt, c1, c2⟩ | ⟨hkk, c1⟩
  · have w1 := wrap_succ k (by omega)
    rw [drop_turn hy] at hv
    unfold validFrom at hv
    simp only [wy, Nat.reduceAdd, Nat.reduceEqDiff, Nat.reduceLT, Nat.reduceMul, Nat.reduceLeDiff, Int.reduceEq, ↓reduceIte, reduceCtorEq, ne_eq, implies_true, if_true, if_false, ite_not, eq_self, Tryd.ntmps14, c1, List.length_map]
    refine Stop.fact (ac31 lib hlib k y hy (hok y hmem) _) rfl (by first | rfl | simp only [wy, Nat.reduceAdd, Nat.reduceEqDiff, Nat.reduceLT, Nat.reduceMul, Nat.reduceLeDiff, Int.reduceEq, ↓reduceIte, reduceCtorEq, ne_eq, implies_true, if_true, if_false, ite_not, eq_self, Tryd.ntmps14, vlib, fgt_mapfenc]) (by simp only [wy, Nat.reduceAdd, Nat.reduceEqDiff, Nat.reduceLT, Nat.reduceMul, Nat.reduceLeDiff, Int.reduceEq, ↓reduceIte, reduceCtorEq, ne_eq, implies_true, if_true, if_false, ite_not, eq_self, Tryd.ntmps14]) (caps := []) (by simp only [wy, Nat.reduceAdd, Nat.reduceEqDiff, Nat.reduceLT, Nat.reduceMul, Nat.reduceLeDiff, Int.reduceEq, ↓reduceIte, reduceCtorEq, ne_eq, implies_true, if_true, if_false, ite_not, eq_self, vlib, fgt_mapfenc]) en_31 (by simp only [wy, Nat.reduceAdd, Nat.reduceEqDiff, Nat.reduceLT, Nat.reduceMul, Nat.reduceLeDiff, Int.reduceEq, ↓reduceIte, reduceCtorEq, ne_eq, implies_true, if_true, if_false, ite_not, eq_self, vlib, fgt_mapfenc] <;> rfl) (Ev.sound 100 _ _ _ _ ?_)
    by_cases b1 : oneE lib k y = 0
    · rw [if_pos b1] at hv
      simp only [wy, Nat.reduceAdd, Nat.reduceEqDiff, Nat.reduceLT, Nat.reduceMul, Nat.reduceLeDiff, Int.reduceEq, ↓reduceIte, reduceCtorEq, ne_eq, implies_true, if_true, if_false, ite_not, eq_self, Tryd.ntmps14, decide_eq_true b1, w1]
      exact next (k + 1) _ _ (by omega) ⟨hlt, rfl, hv⟩ (by simp only [wy, Nat.reduceAdd, Nat.reduceEqDiff, Nat.reduceLT, Nat.reduceMul, Nat.reduceLeDiff, Int.reduceEq, ↓reduceIte, reduceCtorEq, ne_eq, implies_true, if_true, if_false, ite_not, eq_self, Tryd.ntmps14])
    · rw [if_neg b1] at hv
      simp only [wy, Nat.reduceAdd, Nat.reduceEqDiff, Nat.reduceLT, Nat.reduceMul, Nat.reduceLeDiff, Int.reduceEq, ↓reduceIte, reduceCtorEq, ne_eq, implies_true, if_true, if_false, ite_not, eq_self, Tryd.ntmps14, decide_eq_false b1]
      exact Leave.pures rfl (by simp only [wy, Nat.reduceAdd, Nat.reduceEqDiff, Nat.reduceLT, Nat.reduceMul, Nat.reduceLeDiff, Int.reduceEq, ↓reduceIte, reduceCtorEq, ne_eq, implies_true, if_true, if_false, ite_not, eq_self, oneOf, hv] <;> rfl) (Ext.refl _) rfl
  · rw [hkk, List.drop_length] at hv
    unfold validFrom at hv
    simp only [wy, Nat.reduceAdd, Nat.reduceEqDiff, Nat.reduceLT, Nat.reduceMul, Nat.reduceLeDiff, Int.reduceEq, ↓reduceIte, reduceCtorEq, ne_eq, implies_true, if_true, if_false, ite_not, eq_self, Tryd.ntmps14, c1, List.length_map]
    exact Leave.pures rfl (by simp only [wy, Nat.reduceAdd, Nat.reduceEqDiff, Nat.reduceLT, Nat.reduceMul, Nat.reduceLeDiff, Int.reduceEq, ↓reduceIte, reduceCtorEq, ne_eq, implies_true, if_true, if_false, ite_not, eq_self, oneOf, hv] <;> rfl) (Ext.refl _) rfl
end Go.Proofs.YtajknofacjiddaaDoor.Abs

/- From an argument to what bears it. -/
namespace Go.Proofs.YtajknofacjiddaaDoor.Abs
open Go Go.RowKit Go.ChangeShapes Go.WideShapes Go.ChangeAt
set_option linter.unusedSimpArgs false
set_option linter.unusedVariables false
set_option maxRecDepth 100000
theorem cell_okWide_agg {P : Program} {W : World} {r : Reach} {b0 : Nat} {t : TypeId} {cs : Array Value} (h : Cell.okWide P W r b0 t (.agg cs)) : False := by
  unfold Cell.okWide at h
  split at h
  all_goals first | contradiction | skip
  unfold Cell.ok at h
  split at h <;> first | contradiction | exact h
/-- An argument of a scalar type or a slice. -/
theorem arg_one {P : Program} {H : Type} {e : TypeId × Value → H} {W : World} {r : Reach} {b0 : Nat} {t : TypeId} {v : Value} {d : DataW H} {ps : List MemPlace} {α : Type} {f : α → AV} {wt : α → Nat} {ok : α → Prop} (hR : ∀ N, Reads P N t (fun x => [f x]) wt ok)
    (hs : (match P.underlying t with | some (.struct _) | some (.array _ _) => false | _ => true) = true) (hv : Value.okWide P W r b0 t v) (hd : DataW.Trod e P W 0 (fun _ => true) true t v d ps) : ∃ x, Rep (ghost0 W) (f x) v ∧ wt x ≤ Rows.uptoBulk d ∧ ok x := by
  obtain ⟨n, hn⟩ := hd
  have hc : v.cells = #[v] := by
    cases v with
    | agg cs =>
      exfalso
      unfold Value.okWide at hv
      split at hv
      · rename_i q; rw [q] at hs; cases hs
      · rename_i q; rw [q] at hs; cases hs
      · exact cell_okWide_agg hv
    | _ => rfl
  rw [hc] at hn
  obtain ⟨x, h1, h2, h3⟩ := hR n H e W _ _ _ hn
  exact ⟨x, (h1.2 0 _ _ rfl rfl).1, h2, h3⟩
/-- An argument of a struct type. -/
theorem arg_struct {P : Program} {H : Type} {e : TypeId × Value → H} {W : World} {r : Reach} {b0 : Nat} {t : TypeId} {fs : Array Field} {v : Value} {d : DataW H} {ps : List MemPlace} {α : Type} {enc : α → List AV} {wt : α → Nat} {ok : α → Prop} (hR : ∀ N, Reads P N t enc wt ok)
    (hs : P.underlying t = some (.struct fs)) (hv : Value.okWide P W r b0 t v) (hd : DataW.Trod e P W 0 (fun _ => true) true t v d ps) : ∃ x, Rep (ghost0 W) (.agg (enc x)) v ∧ wt x ≤ Rows.uptoBulk d ∧ ok x := by
  obtain ⟨n, hn⟩ := hd
  unfold Value.okWide at hv
  rw [hs] at hv
  obtain ⟨cs, rfl, _, _⟩ := hv
  obtain ⟨x, h1, h2, h3⟩ := hR n H e W _ _ _ hn
  refine ⟨x, .agg (by have := h1.1; simpa [Value.cells] using this) (fun i v hv => ?_), h2, h3⟩
  have hi : i < cs.size := by have := (List.getElem?_eq_some_iff.1 hv).1; have := h1.1; simp [Value.cells] at this; omega
  have := (h1.2 i v cs[i] hv (by simp [Value.cells, hi])).1
  simpa [Array.getD, hi] using this
theorem repL_nil {g : Ghost} : RepL g [] #[] := ⟨rfl, fun i v h => by simp at h⟩
theorem repL_list {g : Ghost} : ∀ {vs : List AV} {xs : List Value}, xs.length = vs.length → (∀ (i : Nat) v x, vs[i]? = some v → xs[i]? = some x → Rep g v x) → RepL g vs ⟨xs⟩ := fun hl h => RepL.of hl h
theorem repL1 {g : Ghost} {a : AV} {x : Value} (h : Rep g a x) : RepL g [a] #[x] := RepL.of rfl fun i v y e1 e2 => by
  match i with
  | 0 => cases e1; cases e2; exact h
  | n + 1 => simp at e1
theorem repL2 {g : Ghost} {a b : AV} {x y : Value} (h : Rep g a x) (k : Rep g b y) : RepL g [a, b] #[x, y] := RepL.of rfl fun i v z e1 e2 => by
  match i with
  | 0 => cases e1; cases e2; exact h
  | 1 => cases e1; cases e2; exact k
  | n + 2 => simp at e1
theorem repL3 {g : Ghost} {a b c : AV} {x y z : Value} (h : Rep g a x) (k : Rep g b y) (l : Rep g c z) : RepL g [a, b, c] #[x, y, z] := RepL.of rfl fun i v u e1 e2 => by
  match i with
  | 0 => cases e1; cases e2; exact h
  | 1 => cases e1; cases e2; exact k
  | 2 => cases e1; cases e2; exact l
  | n + 3 => simp at e1
theorem bulk_mem {H : Type} {d : DataW H} {l : List (DataW H)} (h : d ∈ l) : Rows.uptoBulk d ≤ Rows.uptoBulkAll l := by
  induction l with
  | nil => cases h
  | cons x r ih =>
    simp only [Rows.uptoBulkAll]
    cases List.mem_cons.1 h with
    | inl e => subst e; omega
    | inr e => have := ih e; omega
theorem bound {H : Type} {l : List (DataW H)} (hk : Rows.uptoSmall H l = true) : Rows.uptoBulkAll l ≤ 1048576 := of_decide_eq_true hk
mutual
theorem names_of : ∀ x : Node, x.wt ≤ 1048576 → x.names
  | .mk k n s ks => fun h => by
    simp only [Node.wt] at h
    exact ⟨by omega, namesL_of ks (by omega)⟩
theorem namesL_of : ∀ ks : List Node, wts ks ≤ 1048576 → namesL ks
  | [] => fun _ => trivial
  | x :: xs => fun h => by
    simp only [wts] at h
    exact ⟨names_of x (by omega), namesL_of xs (by omega)⟩
end
mutual
theorem size_wt : ∀ x : Node, x.size ≤ x.wt
  | .mk k n s ks => by
    simp only [Node.wt, Node.size]
    have := sizes_wt ks
    omega
theorem sizes_wt : ∀ ks : List Node, sizes ks ≤ wts ks
  | [] => Nat.le_refl _
  | x :: xs => by
    simp only [wts, sizes]
    have := size_wt x
    have := sizes_wt xs
    omega
end
theorem wf_wt {x : Node} (h : x.wt ≤ 1048576) : x.wf := ⟨by have := size_wt x; omega, names_of x h⟩
end Go.Proofs.YtajknofacjiddaaDoor.Abs

/- big, great; the laws FunValid, FunType, FunCalls -/
namespace Go.Proofs.YtajknofacjiddaaDoor.Abs
open Go Go.RowKit
set_option linter.unusedSimpArgs false
set_option linter.unusedVariables false
set_option maxHeartbeats 4000000
set_option maxRecDepth 100000
mutual
def bigE : Node → Nat → Int
  | .mk _ _ _ ks, d => if d = 0 then -1 else bigL ks (d - 1) 1
def bigL : List Node → Nat → Int → Int
  | [], _, s => s
  | x :: xs, d, s => if bigE x d < 0 ∨ 1000 < s then -1 else bigL xs d (s + bigE x d)
end
theorem big_eq (x : Node) (d : Nat) : bigE x d = if d = 0 then -1 else bigL x.kids (d - 1) 1 := by cases x; rfl
mutual
theorem bigE_le : ∀ (x : Node) (d : Nat), bigE x d ≤ x.size
  | .mk a b c ks, d => by
    unfold bigE Node.size
    split
    · omega
    · have := bigL_le ks (d - 1) 1 (by omega)
      omega
theorem bigL_le : ∀ (ks : List Node) (d : Nat) (s : Int), 0 ≤ s → bigL ks d s ≤ s + sizes ks
  | [], d, s, _ => by unfold bigL sizes; omega
  | x :: xs, d, s, hs => by
    unfold bigL sizes
    have h1 := bigE_le x d
    split
    · omega
    · rename_i hq
      have h2 := bigL_le xs d (s + bigE x d) (by omega)
      omega
end
theorem ac15 (x : Node) : x.wf → ∀ (d : Nat), d ≤ 1000 → ∀ h : AHeap, AC sd 15 [.agg x.enc, .int .i64 d] h (Pure1 (.int .i64 (bigE x d)) h) := by
  intro hw d hd h
  refine AC.pure Tryd.func15 rfl Tryd.ntmps15 (by show 2 ≤ 35; decide) ?_
  refine Ev.sound 100 _ _ _ _ ?_
  simp only [argFr, enc_eq]
  have hb := big_eq x d
  have hlen := hw.len
  have hsz := hw.size
  by_cases d0 : d = 0
  · subst d0
    rw [if_pos rfl] at hb
    simp only [wy, Nat.reduceAdd, Nat.reduceEqDiff, Nat.reduceLT, Nat.reduceMul, Nat.reduceLeDiff, Int.reduceEq, ↓reduceIte, reduceCtorEq, ne_eq, implies_true, if_true, if_false, ite_not, eq_self, Tryd.ntmps15, Int.natCast_zero, Int.reduceToNat, Int.reduceLE, Int.reduceLT, cast1, cast2, cast3, List.getD_cons_zero, List.getD_cons_succ]
    exact Leave.pures rfl (by simp only [wy, Nat.reduceAdd, Nat.reduceEqDiff, Nat.reduceLT, Nat.reduceMul, Nat.reduceLeDiff, Int.reduceEq, ↓reduceIte, reduceCtorEq, ne_eq, implies_true, if_true, if_false, ite_not, eq_self, oneOf, hb] <;> rfl) ((Ext.refl h).alloc _) rfl
  rw [if_neg d0] at hb
  obtain ⟨e, rfl⟩ : ∃ e, d = e + 1 := ⟨d - 1, by omega⟩
  have d1 : decide (((e + 1 : Nat) : Int) < 1) = false := decide_eq_false (by omega)
  have wd : IntKind.i64.wrap (((e + 1 : Nat) : Int) - 1) = (e : Int) := by rw [i64_id (by omega) (by omega)]; omega
  rw [Nat.add_sub_cancel] at hb
  have hh : Ext h (h.alloc (.cells [.int .u8 x.kind, .int .i64 x.num, .str x.name, kslice 4 (x.kids.map Node.enc)])) := (Ext.refl h).alloc _
  simp only [wy, Nat.reduceAdd, Nat.reduceEqDiff, Nat.reduceLT, Nat.reduceMul, Nat.reduceLeDiff, Int.reduceEq, ↓reduceIte, reduceCtorEq, ne_eq, implies_true, if_true, if_false, ite_not, eq_self, Tryd.ntmps15, d1]
  refine Stop.round (σ := Nat × Int) (fun s => x.kids.length - s.1) (fun s => [(1, .int .i64 ((e + 1 : Nat) : Int)), (2, .ptr h.next 0), (5, .int .i64 s.2), (6, .int .i64 s.1)])
    (fun s h1 => s.1 ≤ x.kids.length ∧ h1 = h.alloc (.cells [.int .u8 x.kind, .int .i64 x.num, .str x.name, kslice 4 (x.kids.map Node.enc)]) ∧ bigE x (e + 1) = bigL (x.kids.drop s.1) e s.2 ∧ 0 ≤ s.2 ∧ s.2 ≤ 1000 + 1048576) (0, 1) ⟨Nat.zero_le _, rfl, hb, by decide, by decide⟩ (by simp only [wy, Nat.reduceAdd, Nat.reduceEqDiff, Nat.reduceLT, Nat.reduceMul, Nat.reduceLeDiff, Int.reduceEq, ↓reduceIte, reduceCtorEq, ne_eq, implies_true, if_true, if_false, ite_not, eq_self, Tryd.ntmps15, Int.natCast_zero]) ?_
  rintro ⟨k, s⟩ _ ⟨hk, rfl, hv, hs0, hs1⟩ next
  simp only at hk hv hs0 hs1 ⊢
  refine Ev.sound 100 _ _ _ _ ?_
  rcases turn x.kids k hk with ⟨y, hy, hmem, hlt, c1, c2⟩ | ⟨hkk, c1⟩
  · have w1 := wrap_succ k (by omega)
    have hle := bigE_le y e
    have hys := kid_size hmem
    rw [drop_turn hy] at hv
    unfold bigL at hv
    simp only [wy, Nat.reduceAdd, Nat.reduceEqDiff, Nat.reduceLT, Nat.reduceMul, Nat.reduceLeDiff, Int.reduceEq, ↓reduceIte, reduceCtorEq, ne_eq, implies_true, if_true, if_false, ite_not, eq_self, Tryd.ntmps15, c1, c2, List.length_map, getD_map Node.enc hy, enc_eq y, wd]
    refine Stop.fact (ac15 y (hw.kid hmem) e (by omega) _) rfl (by first | rfl | simp only [wy, Nat.reduceAdd, Nat.reduceEqDiff, Nat.reduceLT, Nat.reduceMul, Nat.reduceLeDiff, Int.reduceEq, ↓reduceIte, reduceCtorEq, ne_eq, implies_true, if_true, if_false, ite_not, eq_self, Tryd.ntmps15, enc_eq, fgt_mapenc]) (by simp only [wy, Nat.reduceAdd, Nat.reduceEqDiff, Nat.reduceLT, Nat.reduceMul, Nat.reduceLeDiff, Int.reduceEq, ↓reduceIte, reduceCtorEq, ne_eq, implies_true, if_true, if_false, ite_not, eq_self, Tryd.ntmps15]) (caps := []) (by simp only [wy, Nat.reduceAdd, Nat.reduceEqDiff, Nat.reduceLT, Nat.reduceMul, Nat.reduceLeDiff, Int.reduceEq, ↓reduceIte, reduceCtorEq, ne_eq, implies_true, if_true, if_false, ite_not, eq_self, enc_eq, fgt_mapenc]) en_15 (by simp only [wy, Nat.reduceAdd, Nat.reduceEqDiff, Nat.reduceLT, Nat.reduceMul, Nat.reduceLeDiff, Int.reduceEq, ↓reduceIte, reduceCtorEq, ne_eq, implies_true, if_true, if_false, ite_not, eq_self, enc_eq, fgt_mapenc] <;> rfl) (Ev.sound 100 _ _ _ _ ?_)
    by_cases a1 : bigE y e < 0
    · rw [if_pos (.inl a1)] at hv
      simp only [wy, Nat.reduceAdd, Nat.reduceEqDiff, Nat.reduceLT, Nat.reduceMul, Nat.reduceLeDiff, Int.reduceEq, ↓reduceIte, reduceCtorEq, ne_eq, implies_true, if_true, if_false, ite_not, eq_self, Tryd.ntmps15, decide_eq_true a1]
      exact Leave.pures rfl (by simp only [wy, Nat.reduceAdd, Nat.reduceEqDiff, Nat.reduceLT, Nat.reduceMul, Nat.reduceLeDiff, Int.reduceEq, ↓reduceIte, reduceCtorEq, ne_eq, implies_true, if_true, if_false, ite_not, eq_self, oneOf, hv] <;> rfl) (hh) rfl
    by_cases a2 : 1000 < s
    · rw [if_pos (.inr a2)] at hv
      simp only [wy, Nat.reduceAdd, Nat.reduceEqDiff, Nat.reduceLT, Nat.reduceMul, Nat.reduceLeDiff, Int.reduceEq, ↓reduceIte, reduceCtorEq, ne_eq, implies_true, if_true, if_false, ite_not, eq_self, Tryd.ntmps15, decide_eq_false a1, decide_eq_true a2]
      exact Leave.pures rfl (by simp only [wy, Nat.reduceAdd, Nat.reduceEqDiff, Nat.reduceLT, Nat.reduceMul, Nat.reduceLeDiff, Int.reduceEq, ↓reduceIte, reduceCtorEq, ne_eq, implies_true, if_true, if_false, ite_not, eq_self, oneOf, hv] <;> rfl) (hh) rfl
    rw [if_neg (by omega)] at hv
    have w2 : IntKind.i64.wrap (s + bigE y e) = s + bigE y e := i64_id (by omega) (by omega)
    simp only [wy, Nat.reduceAdd, Nat.reduceEqDiff, Nat.reduceLT, Nat.reduceMul, Nat.reduceLeDiff, Int.reduceEq, ↓reduceIte, reduceCtorEq, ne_eq, implies_true, if_true, if_false, ite_not, eq_self, Tryd.ntmps15, decide_eq_false a1, decide_eq_false a2, w1, w2]
    exact next (k + 1, s + bigE y e) _ _ (by simp only; omega) ⟨hlt, rfl, hv, by simp only; omega, by simp only; omega⟩ (by simp only [wy, Nat.reduceAdd, Nat.reduceEqDiff, Nat.reduceLT, Nat.reduceMul, Nat.reduceLeDiff, Int.reduceEq, ↓reduceIte, reduceCtorEq, ne_eq, implies_true, if_true, if_false, ite_not, eq_self, Tryd.ntmps15])
  · rw [hkk, List.drop_length] at hv
    unfold bigL at hv
    simp only [wy, Nat.reduceAdd, Nat.reduceEqDiff, Nat.reduceLT, Nat.reduceMul, Nat.reduceLeDiff, Int.reduceEq, ↓reduceIte, reduceCtorEq, ne_eq, implies_true, if_true, if_false, ite_not, eq_self, Tryd.ntmps15, c1, List.length_map]
    exact Leave.pures rfl (by simp only [wy, Nat.reduceAdd, Nat.reduceEqDiff, Nat.reduceLT, Nat.reduceMul, Nat.reduceLeDiff, Int.reduceEq, ↓reduceIte, reduceCtorEq, ne_eq, implies_true, if_true, if_false, ite_not, eq_self, oneOf, hv] <;> rfl) (hh) rfl
 termination_by x.size
 decreasing_by exact kid_size hmem
def greatFn (f : Fn) : Bool := decide (10 < f.params.length) || (decide (bigE f.body 100 < 0) || decide (200 < bigE f.body 100))
def greatE (lib : List Fn) : Bool := decide (40 < lib.length) || lib.any greatFn
theorem ac12 (lib : List Fn) (hlib : LibOk lib) (hok : ∀ f ∈ lib, FnOk f) (h : AHeap) : AC sd 12 [vlib lib] h (Pure1 (.bool (greatE lib)) h) := by
  refine AC.pure Tryd.func12 rfl Tryd.ntmps12 (by show 1 ≤ 38; decide) ?_
  refine Ev.sound 100 _ _ _ _ ?_
  simp only [argFr, vlib]
  have hl := hlib.len
  have hn : greatE lib = (decide (40 < lib.length) || lib.any greatFn) := rfl
  by_cases a1 : 40 < lib.length
  · rw [decide_eq_true a1, Bool.true_or] at hn
    have a1' : decide ((40 : Int) < lib.length) = true := decide_eq_true (by omega)
    simp only [wy, Nat.reduceAdd, Nat.reduceEqDiff, Nat.reduceLT, Nat.reduceMul, Nat.reduceLeDiff, Int.reduceEq, ↓reduceIte, reduceCtorEq, ne_eq, implies_true, if_true, if_false, ite_not, eq_self, Tryd.ntmps12, List.length_map, a1']
    exact Leave.pures rfl (by simp only [wy, Nat.reduceAdd, Nat.reduceEqDiff, Nat.reduceLT, Nat.reduceMul, Nat.reduceLeDiff, Int.reduceEq, ↓reduceIte, reduceCtorEq, ne_eq, implies_true, if_true, if_false, ite_not, eq_self, oneOf, hn] <;> rfl) (Ext.refl _) rfl
  rw [decide_eq_false a1, Bool.false_or] at hn
  have a1' : decide ((40 : Int) < lib.length) = false := decide_eq_false (by omega)
  simp only [wy, Nat.reduceAdd, Nat.reduceEqDiff, Nat.reduceLT, Nat.reduceMul, Nat.reduceLeDiff, Int.reduceEq, ↓reduceIte, reduceCtorEq, ne_eq, implies_true, if_true, if_false, ite_not, eq_self, Tryd.ntmps12, List.length_map, a1']
  refine Stop.round (σ := Nat) (fun k => lib.length - k) (fun k => [(0, kslice 7 (lib.map Fn.enc)), (3, .int .i64 k)])
    (fun k h1 => k ≤ lib.length ∧ h1 = h ∧ greatE lib = (lib.drop k).any greatFn) 0 ⟨Nat.zero_le _, rfl, hn⟩ (by simp only [wy, Nat.reduceAdd, Nat.reduceEqDiff, Nat.reduceLT, Nat.reduceMul, Nat.reduceLeDiff, Int.reduceEq, ↓reduceIte, reduceCtorEq, ne_eq, implies_true, if_true, if_false, ite_not, eq_self, Tryd.ntmps12, Int.natCast_zero]) ?_
  rintro k _ ⟨hk, rfl, hv⟩ next
  refine Ev.sound 100 _ _ _ _ ?_
  rcases turn lib k hk with ⟨y, hy, hmem, hlt, c1, c2⟩ | ⟨hkk, c1⟩
  · have w1 := wrap_succ k (by omega)
    rw [drop_turn hy, List.any_cons] at hv
    have hg : greatFn y = (decide (10 < y.params.length) || (decide (bigE y.body 100 < 0) || decide (200 < bigE y.body 100))) := rfl
    have hc100 : ((100 : Nat) : Int) = 100 := rfl
    by_cases b1 : 10 < y.params.length
    · rw [decide_eq_true b1, Bool.true_or] at hg
      rw [hg, Bool.true_or] at hv
      have b1' : decide ((10 : Int) < y.params.length) = true := decide_eq_true (by omega)
      simp only [wy, Nat.reduceAdd, Nat.reduceEqDiff, Nat.reduceLT, Nat.reduceMul, Nat.reduceLeDiff, Int.reduceEq, ↓reduceIte, reduceCtorEq, ne_eq, implies_true, if_true, if_false, ite_not, eq_self, Tryd.ntmps12, c1, c2, List.length_map, getD_map Fn.enc hy, fenc_eq y, b1']
      exact Leave.pures rfl (by simp only [wy, Nat.reduceAdd, Nat.reduceEqDiff, Nat.reduceLT, Nat.reduceMul, Nat.reduceLeDiff, Int.reduceEq, ↓reduceIte, reduceCtorEq, ne_eq, implies_true, if_true, if_false, ite_not, eq_self, oneOf, hv] <;> rfl) (Ext.refl _) rfl
    rw [decide_eq_false b1, Bool.false_or] at hg
    have b1' : decide ((10 : Int) < y.params.length) = false := decide_eq_false (by omega)
    simp only [wy, Nat.reduceAdd, Nat.reduceEqDiff, Nat.reduceLT, Nat.reduceMul, Nat.reduceLeDiff, Int.reduceEq, ↓reduceIte, reduceCtorEq, ne_eq, implies_true, if_true, if_false, ite_not, eq_self, Tryd.ntmps12, c1, c2, List.length_map, getD_map Fn.enc hy, fenc_eq y, b1']
    refine Stop.fact (ac15 y.body (hok y hmem).body 100 (by decide) _) rfl (by first | rfl | simp only [wy, Nat.reduceAdd, Nat.reduceEqDiff, Nat.reduceLT, Nat.reduceMul, Nat.reduceLeDiff, Int.reduceEq, ↓reduceIte, reduceCtorEq, ne_eq, implies_true, if_true, if_false, ite_not, eq_self, Tryd.ntmps12, enc_eq, fgt_mapenc, hc100]) (by simp only [wy, Nat.reduceAdd, Nat.reduceEqDiff, Nat.reduceLT, Nat.reduceMul, Nat.reduceLeDiff, Int.reduceEq, ↓reduceIte, reduceCtorEq, ne_eq, implies_true, if_true, if_false, ite_not, eq_self, Tryd.ntmps12]) (caps := []) (by simp only [wy, Nat.reduceAdd, Nat.reduceEqDiff, Nat.reduceLT, Nat.reduceMul, Nat.reduceLeDiff, Int.reduceEq, ↓reduceIte, reduceCtorEq, ne_eq, implies_true, if_true, if_false, ite_not, eq_self, enc_eq, fgt_mapenc, hc100]) en_15 (by simp only [wy, Nat.reduceAdd, Nat.reduceEqDiff, Nat.reduceLT, Nat.reduceMul, Nat.reduceLeDiff, Int.reduceEq, ↓reduceIte, reduceCtorEq, ne_eq, implies_true, if_true, if_false, ite_not, eq_self, enc_eq, fgt_mapenc, hc100] <;> rfl) (Ev.sound 100 _ _ _ _ ?_)
    by_cases b2 : bigE y.body 100 < 0
    · rw [decide_eq_true b2, Bool.true_or] at hg
      rw [hg, Bool.true_or] at hv
      simp only [wy, Nat.reduceAdd, Nat.reduceEqDiff, Nat.reduceLT, Nat.reduceMul, Nat.reduceLeDiff, Int.reduceEq, ↓reduceIte, reduceCtorEq, ne_eq, implies_true, if_true, if_false, ite_not, eq_self, Tryd.ntmps12, decide_eq_true b2]
      exact Leave.pures rfl (by simp only [wy, Nat.reduceAdd, Nat.reduceEqDiff, Nat.reduceLT, Nat.reduceMul, Nat.reduceLeDiff, Int.reduceEq, ↓reduceIte, reduceCtorEq, ne_eq, implies_true, if_true, if_false, ite_not, eq_self, oneOf, hv] <;> rfl) (Ext.refl _) rfl
    rw [decide_eq_false b2, Bool.false_or] at hg
    simp only [wy, Nat.reduceAdd, Nat.reduceEqDiff, Nat.reduceLT, Nat.reduceMul, Nat.reduceLeDiff, Int.reduceEq, ↓reduceIte, reduceCtorEq, ne_eq, implies_true, if_true, if_false, ite_not, eq_self, Tryd.ntmps12, decide_eq_false b2, c1, c2, List.length_map, getD_map Fn.enc hy, fenc_eq y]
    refine Stop.fact (ac15 y.body (hok y hmem).body 100 (by decide) _) rfl (by first | rfl | simp only [wy, Nat.reduceAdd, Nat.reduceEqDiff, Nat.reduceLT, Nat.reduceMul, Nat.reduceLeDiff, Int.reduceEq, ↓reduceIte, reduceCtorEq, ne_eq, implies_true, if_true, if_false, ite_not, eq_self, Tryd.ntmps12, enc_eq, fgt_mapenc, hc100]) (by simp only [wy, Nat.reduceAdd, Nat.reduceEqDiff, Nat.reduceLT, Nat.reduceMul, Nat.reduceLeDiff, Int.reduceEq, ↓reduceIte, reduceCtorEq, ne_eq, implies_true, if_true, if_false, ite_not, eq_self, Tryd.ntmps12]) (caps := []) (by simp only [wy, Nat.reduceAdd, Nat.reduceEqDiff, Nat.reduceLT, Nat.reduceMul, Nat.reduceLeDiff, Int.reduceEq, ↓reduceIte, reduceCtorEq, ne_eq, implies_true, if_true, if_false, ite_not, eq_self, enc_eq, fgt_mapenc, hc100]) en_15 (by simp only [wy, Nat.reduceAdd, Nat.reduceEqDiff, Nat.reduceLT, Nat.reduceMul, Nat.reduceLeDiff, Int.reduceEq, ↓reduceIte, reduceCtorEq, ne_eq, implies_true, if_true, if_false, ite_not, eq_self, enc_eq, fgt_mapenc, hc100] <;> rfl) (Ev.sound 100 _ _ _ _ ?_)
    by_cases b3 : 200 < bigE y.body 100
    · rw [decide_eq_true b3] at hg
      rw [hg, Bool.true_or] at hv
      simp only [wy, Nat.reduceAdd, Nat.reduceEqDiff, Nat.reduceLT, Nat.reduceMul, Nat.reduceLeDiff, Int.reduceEq, ↓reduceIte, reduceCtorEq, ne_eq, implies_true, if_true, if_false, ite_not, eq_self, Tryd.ntmps12, decide_eq_true b3]
      exact Leave.pures rfl (by simp only [wy, Nat.reduceAdd, Nat.reduceEqDiff, Nat.reduceLT, Nat.reduceMul, Nat.reduceLeDiff, Int.reduceEq, ↓reduceIte, reduceCtorEq, ne_eq, implies_true, if_true, if_false, ite_not, eq_self, oneOf, hv] <;> rfl) (Ext.refl _) rfl
    rw [decide_eq_false b3] at hg
    rw [hg, Bool.false_or] at hv
    simp only [wy, Nat.reduceAdd, Nat.reduceEqDiff, Nat.reduceLT, Nat.reduceMul, Nat.reduceLeDiff, Int.reduceEq, ↓reduceIte, reduceCtorEq, ne_eq, implies_true, if_true, if_false, ite_not, eq_self, Tryd.ntmps12, decide_eq_false b3, w1]
    exact next (k + 1) _ _ (by omega) ⟨hlt, rfl, hv⟩ (by simp only [wy, Nat.reduceAdd, Nat.reduceEqDiff, Nat.reduceLT, Nat.reduceMul, Nat.reduceLeDiff, Int.reduceEq, ↓reduceIte, reduceCtorEq, ne_eq, implies_true, if_true, if_false, ite_not, eq_self, Tryd.ntmps12])
  · rw [hkk, List.drop_length, List.any_nil] at hv
    simp only [wy, Nat.reduceAdd, Nat.reduceEqDiff, Nat.reduceLT, Nat.reduceMul, Nat.reduceLeDiff, Int.reduceEq, ↓reduceIte, reduceCtorEq, ne_eq, implies_true, if_true, if_false, ite_not, eq_self, Tryd.ntmps12, c1, List.length_map]
    exact Leave.pures rfl (by simp only [wy, Nat.reduceAdd, Nat.reduceEqDiff, Nat.reduceLT, Nat.reduceMul, Nat.reduceLeDiff, Int.reduceEq, ↓reduceIte, reduceCtorEq, ne_eq, implies_true, if_true, if_false, ite_not, eq_self, oneOf, hv] <;> rfl) (Ext.refl _) rfl
theorem ac3 (lib : List Fn) (hlib : LibOk lib) (hok : ∀ f ∈ lib, FnOk f) (h : AHeap) : AC sd 3 [vlib lib] h (Pure1 (.bool true) h) := by
  refine AC.pure Tryd.func3 rfl Tryd.ntmps3 (by show 1 ≤ 29; decide) ?_
  refine Ev.sound 100 _ _ _ _ ?_
  simp only [argFr, vlib]
  simp only [wy, Nat.reduceAdd, Nat.reduceEqDiff, Nat.reduceLT, Nat.reduceMul, Nat.reduceLeDiff, Int.reduceEq, ↓reduceIte, reduceCtorEq, ne_eq, implies_true, if_true, if_false, ite_not, eq_self, Tryd.ntmps3]
  refine Stop.fact (ac11 _) rfl (by first | rfl | simp only [wy, Nat.reduceAdd, Nat.reduceEqDiff, Nat.reduceLT, Nat.reduceMul, Nat.reduceLeDiff, Int.reduceEq, ↓reduceIte, reduceCtorEq, ne_eq, implies_true, if_true, if_false, ite_not, eq_self, Tryd.ntmps3]) (by simp only [wy, Nat.reduceAdd, Nat.reduceEqDiff, Nat.reduceLT, Nat.reduceMul, Nat.reduceLeDiff, Int.reduceEq, ↓reduceIte, reduceCtorEq, ne_eq, implies_true, if_true, if_false, ite_not, eq_self, Tryd.ntmps3]) (caps := []) (by simp only [wy, Nat.reduceAdd, Nat.reduceEqDiff, Nat.reduceLT, Nat.reduceMul, Nat.reduceLeDiff, Int.reduceEq, ↓reduceIte, reduceCtorEq, ne_eq, implies_true, if_true, if_false, ite_not, eq_self]) en_11 (by simp only [wy, Nat.reduceAdd, Nat.reduceEqDiff, Nat.reduceLT, Nat.reduceMul, Nat.reduceLeDiff, Int.reduceEq, ↓reduceIte, reduceCtorEq, ne_eq, implies_true, if_true, if_false, ite_not, eq_self] <;> rfl) (Ev.sound 100 _ _ _ _ ?_)
  simp only [wy, Nat.reduceAdd, Nat.reduceEqDiff, Nat.reduceLT, Nat.reduceMul, Nat.reduceLeDiff, Int.reduceEq, ↓reduceIte, reduceCtorEq, ne_eq, implies_true, if_true, if_false, ite_not, eq_self, Tryd.ntmps3]
  refine Stop.fact (ac12 lib hlib hok _) rfl (by first | rfl | simp only [wy, Nat.reduceAdd, Nat.reduceEqDiff, Nat.reduceLT, Nat.reduceMul, Nat.reduceLeDiff, Int.reduceEq, ↓reduceIte, reduceCtorEq, ne_eq, implies_true, if_true, if_false, ite_not, eq_self, Tryd.ntmps3, vlib, fgt_mapfenc]) (by simp only [wy, Nat.reduceAdd, Nat.reduceEqDiff, Nat.reduceLT, Nat.reduceMul, Nat.reduceLeDiff, Int.reduceEq, ↓reduceIte, reduceCtorEq, ne_eq, implies_true, if_true, if_false, ite_not, eq_self, Tryd.ntmps3]) (caps := []) (by simp only [wy, Nat.reduceAdd, Nat.reduceEqDiff, Nat.reduceLT, Nat.reduceMul, Nat.reduceLeDiff, Int.reduceEq, ↓reduceIte, reduceCtorEq, ne_eq, implies_true, if_true, if_false, ite_not, eq_self, vlib, fgt_mapfenc]) en_12 (by simp only [wy, Nat.reduceAdd, Nat.reduceEqDiff, Nat.reduceLT, Nat.reduceMul, Nat.reduceLeDiff, Int.reduceEq, ↓reduceIte, reduceCtorEq, ne_eq, implies_true, if_true, if_false, ite_not, eq_self, vlib, fgt_mapfenc] <;> rfl) (Ev.sound 100 _ _ _ _ ?_)
  simp only [wy, Nat.reduceAdd, Nat.reduceEqDiff, Nat.reduceLT, Nat.reduceMul, Nat.reduceLeDiff, Int.reduceEq, ↓reduceIte, reduceCtorEq, ne_eq, implies_true, if_true, if_false, ite_not, eq_self, Tryd.ntmps3]
  refine EvC.part (fun a1 => ?_) (fun a1 => ?_)
  · simp only [wy, Nat.reduceAdd, Nat.reduceEqDiff, Nat.reduceLT, Nat.reduceMul, Nat.reduceLeDiff, Int.reduceEq, ↓reduceIte, reduceCtorEq, ne_eq, implies_true, if_true, if_false, ite_not, eq_self, Tryd.ntmps3]
    exact Leave.pures rfl (by simp only [wy, Nat.reduceAdd, Nat.reduceEqDiff, Nat.reduceLT, Nat.reduceMul, Nat.reduceLeDiff, Int.reduceEq, ↓reduceIte, reduceCtorEq, ne_eq, implies_true, if_true, if_false, ite_not, eq_self, oneOf] <;> rfl) (Ext.refl _) rfl
  simp only [wy, Nat.reduceAdd, Nat.reduceEqDiff, Nat.reduceLT, Nat.reduceMul, Nat.reduceLeDiff, Int.reduceEq, ↓reduceIte, reduceCtorEq, ne_eq, implies_true, if_true, if_false, ite_not, eq_self, Tryd.ntmps3]
  refine Stop.fact (ac13 lib hlib hok _) rfl (by first | rfl | simp only [wy, Nat.reduceAdd, Nat.reduceEqDiff, Nat.reduceLT, Nat.reduceMul, Nat.reduceLeDiff, Int.reduceEq, ↓reduceIte, reduceCtorEq, ne_eq, implies_true, if_true, if_false, ite_not, eq_self, Tryd.ntmps3, vlib, fgt_mapfenc]) (by simp only [wy, Nat.reduceAdd, Nat.reduceEqDiff, Nat.reduceLT, Nat.reduceMul, Nat.reduceLeDiff, Int.reduceEq, ↓reduceIte, reduceCtorEq, ne_eq, implies_true, if_true, if_false, ite_not, eq_self, Tryd.ntmps3]) (caps := []) (by simp only [wy, Nat.reduceAdd, Nat.reduceEqDiff, Nat.reduceLT, Nat.reduceMul, Nat.reduceLeDiff, Int.reduceEq, ↓reduceIte, reduceCtorEq, ne_eq, implies_true, if_true, if_false, ite_not, eq_self, vlib, fgt_mapfenc]) en_13 (by simp only [wy, Nat.reduceAdd, Nat.reduceEqDiff, Nat.reduceLT, Nat.reduceMul, Nat.reduceLeDiff, Int.reduceEq, ↓reduceIte, reduceCtorEq, ne_eq, implies_true, if_true, if_false, ite_not, eq_self, vlib, fgt_mapfenc] <;> rfl) (Ev.sound 100 _ _ _ _ ?_)
  simp only [wy, Nat.reduceAdd, Nat.reduceEqDiff, Nat.reduceLT, Nat.reduceMul, Nat.reduceLeDiff, Int.reduceEq, ↓reduceIte, reduceCtorEq, ne_eq, implies_true, if_true, if_false, ite_not, eq_self, Tryd.ntmps3]
  refine Stop.fact (ac14 lib hlib hok _) rfl (by first | rfl | simp only [wy, Nat.reduceAdd, Nat.reduceEqDiff, Nat.reduceLT, Nat.reduceMul, Nat.reduceLeDiff, Int.reduceEq, ↓reduceIte, reduceCtorEq, ne_eq, implies_true, if_true, if_false, ite_not, eq_self, Tryd.ntmps3, vlib, fgt_mapfenc]) (by simp only [wy, Nat.reduceAdd, Nat.reduceEqDiff, Nat.reduceLT, Nat.reduceMul, Nat.reduceLeDiff, Int.reduceEq, ↓reduceIte, reduceCtorEq, ne_eq, implies_true, if_true, if_false, ite_not, eq_self, Tryd.ntmps3]) (caps := []) (by simp only [wy, Nat.reduceAdd, Nat.reduceEqDiff, Nat.reduceLT, Nat.reduceMul, Nat.reduceLeDiff, Int.reduceEq, ↓reduceIte, reduceCtorEq, ne_eq, implies_true, if_true, if_false, ite_not, eq_self, vlib, fgt_mapfenc]) en_14 (by simp only [wy, Nat.reduceAdd, Nat.reduceEqDiff, Nat.reduceLT, Nat.reduceMul, Nat.reduceLeDiff, Int.reduceEq, ↓reduceIte, reduceCtorEq, ne_eq, implies_true, if_true, if_false, ite_not, eq_self, vlib, fgt_mapfenc] <;> rfl) (Ev.sound 100 _ _ _ _ ?_)
  simp only [wy, Nat.reduceAdd, Nat.reduceEqDiff, Nat.reduceLT, Nat.reduceMul, Nat.reduceLeDiff, Int.reduceEq, ↓reduceIte, reduceCtorEq, ne_eq, implies_true, if_true, if_false, ite_not, eq_self, Tryd.ntmps3]
  exact Leave.pures rfl (by simp only [wy, Nat.reduceAdd, Nat.reduceEqDiff, Nat.reduceLT, Nat.reduceMul, Nat.reduceLeDiff, Int.reduceEq, ↓reduceIte, reduceCtorEq, ne_eq, implies_true, if_true, if_false, ite_not, eq_self, oneOf] <;> rfl) (Ext.refl _) rfl
theorem ac4 (lib : List Fn) (hlib : LibOk lib) (hok : ∀ f ∈ lib, FnOk f) (i : Int) (x : Node) (hx : x.wf) (hsum : ∀ f ∈ lib, f.params.length + x.depth ≤ 1048576) (h : AHeap) : AC sd 4 [vlib lib, .int .i64 i, .agg x.enc] h (Pure1 (.bool true) h) := by
  refine AC.pure Tryd.func4 rfl Tryd.ntmps4 (by show 3 ≤ 74; decide) ?_
  refine Ev.sound 100 _ _ _ _ ?_
  have hh : Ext h (h.alloc (.cells [.int .u8 x.kind, .int .i64 x.num, .str x.name, kslice 4 (x.kids.map Node.enc)])) := (Ext.refl h).alloc _
  have hc100 : ((100 : Nat) : Int) = 100 := rfl
  simp only [argFr, vlib, enc_eq]
  simp only [wy, Nat.reduceAdd, Nat.reduceEqDiff, Nat.reduceLT, Nat.reduceMul, Nat.reduceLeDiff, Int.reduceEq, ↓reduceIte, reduceCtorEq, ne_eq, implies_true, if_true, if_false, ite_not, eq_self, Tryd.ntmps4]
  refine Stop.fact (ac11 _) rfl (by first | rfl | simp only [wy, Nat.reduceAdd, Nat.reduceEqDiff, Nat.reduceLT, Nat.reduceMul, Nat.reduceLeDiff, Int.reduceEq, ↓reduceIte, reduceCtorEq, ne_eq, implies_true, if_true, if_false, ite_not, eq_self, Tryd.ntmps4]) (by simp only [wy, Nat.reduceAdd, Nat.reduceEqDiff, Nat.reduceLT, Nat.reduceMul, Nat.reduceLeDiff, Int.reduceEq, ↓reduceIte, reduceCtorEq, ne_eq, implies_true, if_true, if_false, ite_not, eq_self, Tryd.ntmps4]) (caps := []) (by simp only [wy, Nat.reduceAdd, Nat.reduceEqDiff, Nat.reduceLT, Nat.reduceMul, Nat.reduceLeDiff, Int.reduceEq, ↓reduceIte, reduceCtorEq, ne_eq, implies_true, if_true, if_false, ite_not, eq_self]) en_11 (by simp only [wy, Nat.reduceAdd, Nat.reduceEqDiff, Nat.reduceLT, Nat.reduceMul, Nat.reduceLeDiff, Int.reduceEq, ↓reduceIte, reduceCtorEq, ne_eq, implies_true, if_true, if_false, ite_not, eq_self] <;> rfl) (Ev.sound 100 _ _ _ _ ?_)
  simp only [wy, Nat.reduceAdd, Nat.reduceEqDiff, Nat.reduceLT, Nat.reduceMul, Nat.reduceLeDiff, Int.reduceEq, ↓reduceIte, reduceCtorEq, ne_eq, implies_true, if_true, if_false, ite_not, eq_self, Tryd.ntmps4]
  refine Stop.fact (ac12 lib hlib hok _) rfl (by first | rfl | simp only [wy, Nat.reduceAdd, Nat.reduceEqDiff, Nat.reduceLT, Nat.reduceMul, Nat.reduceLeDiff, Int.reduceEq, ↓reduceIte, reduceCtorEq, ne_eq, implies_true, if_true, if_false, ite_not, eq_self, Tryd.ntmps4, vlib, fgt_mapfenc]) (by simp only [wy, Nat.reduceAdd, Nat.reduceEqDiff, Nat.reduceLT, Nat.reduceMul, Nat.reduceLeDiff, Int.reduceEq, ↓reduceIte, reduceCtorEq, ne_eq, implies_true, if_true, if_false, ite_not, eq_self, Tryd.ntmps4]) (caps := []) (by simp only [wy, Nat.reduceAdd, Nat.reduceEqDiff, Nat.reduceLT, Nat.reduceMul, Nat.reduceLeDiff, Int.reduceEq, ↓reduceIte, reduceCtorEq, ne_eq, implies_true, if_true, if_false, ite_not, eq_self, vlib, fgt_mapfenc]) en_12 (by simp only [wy, Nat.reduceAdd, Nat.reduceEqDiff, Nat.reduceLT, Nat.reduceMul, Nat.reduceLeDiff, Int.reduceEq, ↓reduceIte, reduceCtorEq, ne_eq, implies_true, if_true, if_false, ite_not, eq_self, vlib, fgt_mapfenc] <;> rfl) (Ev.sound 100 _ _ _ _ ?_)
  cases a1 : greatE lib
  case true =>
    simp only [wy, Nat.reduceAdd, Nat.reduceEqDiff, Nat.reduceLT, Nat.reduceMul, Nat.reduceLeDiff, Int.reduceEq, ↓reduceIte, reduceCtorEq, ne_eq, implies_true, if_true, if_false, ite_not, eq_self, Tryd.ntmps4]
    exact Leave.pures rfl (by simp only [wy, Nat.reduceAdd, Nat.reduceEqDiff, Nat.reduceLT, Nat.reduceMul, Nat.reduceLeDiff, Int.reduceEq, ↓reduceIte, reduceCtorEq, ne_eq, implies_true, if_true, if_false, ite_not, eq_self, oneOf] <;> rfl) (hh) rfl
  simp only [wy, Nat.reduceAdd, Nat.reduceEqDiff, Nat.reduceLT, Nat.reduceMul, Nat.reduceLeDiff, Int.reduceEq, ↓reduceIte, reduceCtorEq, ne_eq, implies_true, if_true, if_false, ite_not, eq_self, Tryd.ntmps4]
  refine Stop.fact (ac15 x hx 100 (by decide) _) rfl (by first | rfl | simp only [wy, Nat.reduceAdd, Nat.reduceEqDiff, Nat.reduceLT, Nat.reduceMul, Nat.reduceLeDiff, Int.reduceEq, ↓reduceIte, reduceCtorEq, ne_eq, implies_true, if_true, if_false, ite_not, eq_self, Tryd.ntmps4, enc_eq, fgt_mapenc, hc100]) (by simp only [wy, Nat.reduceAdd, Nat.reduceEqDiff, Nat.reduceLT, Nat.reduceMul, Nat.reduceLeDiff, Int.reduceEq, ↓reduceIte, reduceCtorEq, ne_eq, implies_true, if_true, if_false, ite_not, eq_self, Tryd.ntmps4]) (caps := []) (by simp only [wy, Nat.reduceAdd, Nat.reduceEqDiff, Nat.reduceLT, Nat.reduceMul, Nat.reduceLeDiff, Int.reduceEq, ↓reduceIte, reduceCtorEq, ne_eq, implies_true, if_true, if_false, ite_not, eq_self, enc_eq, fgt_mapenc, hc100]) en_15 (by simp only [wy, Nat.reduceAdd, Nat.reduceEqDiff, Nat.reduceLT, Nat.reduceMul, Nat.reduceLeDiff, Int.reduceEq, ↓reduceIte, reduceCtorEq, ne_eq, implies_true, if_true, if_false, ite_not, eq_self, enc_eq, fgt_mapenc, hc100] <;> rfl) (Ev.sound 100 _ _ _ _ ?_)
  by_cases b2 : bigE x 100 < 0
  · simp only [wy, Nat.reduceAdd, Nat.reduceEqDiff, Nat.reduceLT, Nat.reduceMul, Nat.reduceLeDiff, Int.reduceEq, ↓reduceIte, reduceCtorEq, ne_eq, implies_true, if_true, if_false, ite_not, eq_self, Tryd.ntmps4, decide_eq_true b2]
    exact Leave.pures rfl (by simp only [wy, Nat.reduceAdd, Nat.reduceEqDiff, Nat.reduceLT, Nat.reduceMul, Nat.reduceLeDiff, Int.reduceEq, ↓reduceIte, reduceCtorEq, ne_eq, implies_true, if_true, if_false, ite_not, eq_self, oneOf] <;> rfl) (hh) rfl
  simp only [wy, Nat.reduceAdd, Nat.reduceEqDiff, Nat.reduceLT, Nat.reduceMul, Nat.reduceLeDiff, Int.reduceEq, ↓reduceIte, reduceCtorEq, ne_eq, implies_true, if_true, if_false, ite_not, eq_self, Tryd.ntmps4, decide_eq_false b2]
  refine Stop.fact (ac15 x hx 100 (by decide) _) rfl (by first | rfl | simp only [wy, Nat.reduceAdd, Nat.reduceEqDiff, Nat.reduceLT, Nat.reduceMul, Nat.reduceLeDiff, Int.reduceEq, ↓reduceIte, reduceCtorEq, ne_eq, implies_true, if_true, if_false, ite_not, eq_self, Tryd.ntmps4, enc_eq, fgt_mapenc, hc100]) (by simp only [wy, Nat.reduceAdd, Nat.reduceEqDiff, Nat.reduceLT, Nat.reduceMul, Nat.reduceLeDiff, Int.reduceEq, ↓reduceIte, reduceCtorEq, ne_eq, implies_true, if_true, if_false, ite_not, eq_self, Tryd.ntmps4]) (caps := []) (by simp only [wy, Nat.reduceAdd, Nat.reduceEqDiff, Nat.reduceLT, Nat.reduceMul, Nat.reduceLeDiff, Int.reduceEq, ↓reduceIte, reduceCtorEq, ne_eq, implies_true, if_true, if_false, ite_not, eq_self, enc_eq, fgt_mapenc, hc100]) en_15 (by simp only [wy, Nat.reduceAdd, Nat.reduceEqDiff, Nat.reduceLT, Nat.reduceMul, Nat.reduceLeDiff, Int.reduceEq, ↓reduceIte, reduceCtorEq, ne_eq, implies_true, if_true, if_false, ite_not, eq_self, enc_eq, fgt_mapenc, hc100] <;> rfl) (Ev.sound 100 _ _ _ _ ?_)
  by_cases b3 : 200 < bigE x 100
  · simp only [wy, Nat.reduceAdd, Nat.reduceEqDiff, Nat.reduceLT, Nat.reduceMul, Nat.reduceLeDiff, Int.reduceEq, ↓reduceIte, reduceCtorEq, ne_eq, implies_true, if_true, if_false, ite_not, eq_self, Tryd.ntmps4, decide_eq_true b3]
    exact Leave.pures rfl (by simp only [wy, Nat.reduceAdd, Nat.reduceEqDiff, Nat.reduceLT, Nat.reduceMul, Nat.reduceLeDiff, Int.reduceEq, ↓reduceIte, reduceCtorEq, ne_eq, implies_true, if_true, if_false, ite_not, eq_self, oneOf] <;> rfl) (hh) rfl
  simp only [wy, Nat.reduceAdd, Nat.reduceEqDiff, Nat.reduceLT, Nat.reduceMul, Nat.reduceLeDiff, Int.reduceEq, ↓reduceIte, reduceCtorEq, ne_eq, implies_true, if_true, if_false, ite_not, eq_self, Tryd.ntmps4, decide_eq_false b3]
  refine Stop.fact (ac16 lib hlib hok i x hx _) rfl (by first | rfl | simp only [wy, Nat.reduceAdd, Nat.reduceEqDiff, Nat.reduceLT, Nat.reduceMul, Nat.reduceLeDiff, Int.reduceEq, ↓reduceIte, reduceCtorEq, ne_eq, implies_true, if_true, if_false, ite_not, eq_self, Tryd.ntmps4, enc_eq, fgt_mapenc, vlib, fgt_mapfenc]) (by simp only [wy, Nat.reduceAdd, Nat.reduceEqDiff, Nat.reduceLT, Nat.reduceMul, Nat.reduceLeDiff, Int.reduceEq, ↓reduceIte, reduceCtorEq, ne_eq, implies_true, if_true, if_false, ite_not, eq_self, Tryd.ntmps4]) (caps := []) (by simp only [wy, Nat.reduceAdd, Nat.reduceEqDiff, Nat.reduceLT, Nat.reduceMul, Nat.reduceLeDiff, Int.reduceEq, ↓reduceIte, reduceCtorEq, ne_eq, implies_true, if_true, if_false, ite_not, eq_self, enc_eq, fgt_mapenc, vlib, fgt_mapfenc]) en_16 (by simp only [wy, Nat.reduceAdd, Nat.reduceEqDiff, Nat.reduceLT, Nat.reduceMul, Nat.reduceLeDiff, Int.reduceEq, ↓reduceIte, reduceCtorEq, ne_eq, implies_true, if_true, if_false, ite_not, eq_self, enc_eq, fgt_mapenc, vlib, fgt_mapfenc] <;> rfl) (Ev.sound 100 _ _ _ _ ?_)
  have hn : typeE lib i x = if i < 0 ∨ (lib.length : Int) ≤ i then (false, 2) else if formB x = false then (false, 3) else match lib[i.toNat]? with | some f => checkE lib f.params x | none => (false, 0) := rfl
  by_cases a1 : i < 0
  · rw [if_pos (.inl a1)] at hn
    simp only [wy, Nat.reduceAdd, Nat.reduceEqDiff, Nat.reduceLT, Nat.reduceMul, Nat.reduceLeDiff, Int.reduceEq, ↓reduceIte, reduceCtorEq, ne_eq, implies_true, if_true, if_false, ite_not, eq_self, Tryd.ntmps4, hn, tyv, List.length_map, decide_eq_true a1]
    exact Leave.pures rfl (by simp only [wy, Nat.reduceAdd, Nat.reduceEqDiff, Nat.reduceLT, Nat.reduceMul, Nat.reduceLeDiff, Int.reduceEq, ↓reduceIte, reduceCtorEq, ne_eq, implies_true, if_true, if_false, ite_not, eq_self, oneOf] <;> rfl) (hh) rfl
  by_cases a2 : (lib.length : Int) ≤ i
  · rw [if_pos (.inr a2)] at hn
    simp only [wy, Nat.reduceAdd, Nat.reduceEqDiff, Nat.reduceLT, Nat.reduceMul, Nat.reduceLeDiff, Int.reduceEq, ↓reduceIte, reduceCtorEq, ne_eq, implies_true, if_true, if_false, ite_not, eq_self, Tryd.ntmps4, hn, tyv, List.length_map, decide_eq_false a1, decide_eq_true a2]
    exact Leave.pures rfl (by simp only [wy, Nat.reduceAdd, Nat.reduceEqDiff, Nat.reduceLT, Nat.reduceMul, Nat.reduceLeDiff, Int.reduceEq, ↓reduceIte, reduceCtorEq, ne_eq, implies_true, if_true, if_false, ite_not, eq_self, oneOf] <;> rfl) (hh) rfl
  rw [if_neg (by omega)] at hn
  simp only [wy, Nat.reduceAdd, Nat.reduceEqDiff, Nat.reduceLT, Nat.reduceMul, Nat.reduceLeDiff, Int.reduceEq, ↓reduceIte, reduceCtorEq, ne_eq, implies_true, if_true, if_false, ite_not, eq_self, Tryd.ntmps4, tyv, List.length_map, decide_eq_false a1, decide_eq_false a2]
  refine Stop.fact (ac17 x hx _) rfl (by first | rfl | simp only [wy, Nat.reduceAdd, Nat.reduceEqDiff, Nat.reduceLT, Nat.reduceMul, Nat.reduceLeDiff, Int.reduceEq, ↓reduceIte, reduceCtorEq, ne_eq, implies_true, if_true, if_false, ite_not, eq_self, Tryd.ntmps4, enc_eq, fgt_mapenc]) (by simp only [wy, Nat.reduceAdd, Nat.reduceEqDiff, Nat.reduceLT, Nat.reduceMul, Nat.reduceLeDiff, Int.reduceEq, ↓reduceIte, reduceCtorEq, ne_eq, implies_true, if_true, if_false, ite_not, eq_self, Tryd.ntmps4]) (caps := []) (by simp only [wy, Nat.reduceAdd, Nat.reduceEqDiff, Nat.reduceLT, Nat.reduceMul, Nat.reduceLeDiff, Int.reduceEq, ↓reduceIte, reduceCtorEq, ne_eq, implies_true, if_true, if_false, ite_not, eq_self, enc_eq, fgt_mapenc]) en_17 (by simp only [wy, Nat.reduceAdd, Nat.reduceEqDiff, Nat.reduceLT, Nat.reduceMul, Nat.reduceLeDiff, Int.reduceEq, ↓reduceIte, reduceCtorEq, ne_eq, implies_true, if_true, if_false, ite_not, eq_self, enc_eq, fgt_mapenc] <;> rfl) (Ev.sound 100 _ _ _ _ ?_)
  cases b1 : formB x
  · rw [if_pos b1] at hn
    simp only [wy, Nat.reduceAdd, Nat.reduceEqDiff, Nat.reduceLT, Nat.reduceMul, Nat.reduceLeDiff, Int.reduceEq, ↓reduceIte, reduceCtorEq, ne_eq, implies_true, if_true, if_false, ite_not, eq_self, Tryd.ntmps4, hn]
    exact Leave.pures rfl (by simp only [wy, Nat.reduceAdd, Nat.reduceEqDiff, Nat.reduceLT, Nat.reduceMul, Nat.reduceLeDiff, Int.reduceEq, ↓reduceIte, reduceCtorEq, ne_eq, implies_true, if_true, if_false, ite_not, eq_self, oneOf] <;> rfl) (hh) rfl
  rw [if_neg (by simp [b1])] at hn
  obtain ⟨k, rfl⟩ : ∃ k : Nat, i = k := ⟨i.toNat, by omega⟩
  obtain ⟨f, hf⟩ : ∃ f, lib[k]? = some f := ⟨_, List.getElem?_eq_getElem (by omega)⟩
  have hmem := List.mem_of_getElem? hf
  rw [Int.toNat_natCast, hf] at hn
  simp only at hn
  have c1 : (0 ≤ (k : Int)) = True := by simp
  have c2 : ((k : Int) < (lib.length : Int)) = True := by simp; omega
  simp only [wy, Nat.reduceAdd, Nat.reduceEqDiff, Nat.reduceLT, Nat.reduceMul, Nat.reduceLeDiff, Int.reduceEq, ↓reduceIte, reduceCtorEq, ne_eq, implies_true, if_true, if_false, ite_not, eq_self, Tryd.ntmps4, hn]
  refine Stop.drawn [(0, 0), (1, 0), (2, 0), (3, 0), (4, 0), (5, 0), (6, 0), (7, 2), (8, 0), (9, 0), (10, 0), (11, 0), (12, 0)] [[], [], [], [1, 2], [1, 2, 3], [1, 2, 3, 4], [], [0, 1, 2, 3, 4, 5, 6], [0, 1, 2, 3, 4, 5, 6, 7], [0, 1, 2, 3, 4, 5, 6, 7, 8], [0, 1, 2, 3, 4, 5, 6, 7, 8], [0, 1, 2, 3, 4, 5, 6, 7, 8, 9], [0, 1, 2, 3, 4, 5, 6, 7, 8, 9, 10, 11]] 90 (by kernel_rfl) ?_
  simp only [wy, Nat.reduceAdd, Nat.reduceEqDiff, Nat.reduceLT, Nat.reduceMul, Nat.reduceLeDiff, Int.reduceEq, ↓reduceIte, reduceCtorEq, ne_eq, implies_true, if_true, if_false, ite_not, eq_self, Tryd.ntmps4, List.length_map, c1, c2, getD_map Fn.enc hf, fenc_eq f]
  refine DC.fact (ac18 lib hlib x hx b1 f.params (hsum f hmem) _) (by first | rfl | simp only [wy, Nat.reduceAdd, Nat.reduceEqDiff, Nat.reduceLT, Nat.reduceMul, Nat.reduceLeDiff, Int.reduceEq, ↓reduceIte, reduceCtorEq, ne_eq, implies_true, if_true, if_false, ite_not, eq_self, Tryd.ntmps4, enc_eq, fgt_mapenc, vlib, vparams, fgt_mapfenc, fgt_mappenc]) (by simp only [wy, Nat.reduceAdd, Nat.reduceEqDiff, Nat.reduceLT, Nat.reduceMul, Nat.reduceLeDiff, Int.reduceEq, ↓reduceIte, reduceCtorEq, ne_eq, implies_true, if_true, if_false, ite_not, eq_self, Tryd.ntmps4]) (caps := []) (by simp only [wy, Nat.reduceAdd, Nat.reduceEqDiff, Nat.reduceLT, Nat.reduceMul, Nat.reduceLeDiff, Int.reduceEq, ↓reduceIte, reduceCtorEq, ne_eq, implies_true, if_true, if_false, ite_not, eq_self, enc_eq, fgt_mapenc, vlib, vparams, fgt_mapfenc, fgt_mappenc]) en_18 (by simp only [wy, Nat.reduceAdd, Nat.reduceEqDiff, Nat.reduceLT, Nat.reduceMul, Nat.reduceLeDiff, Int.reduceEq, ↓reduceIte, reduceCtorEq, ne_eq, implies_true, if_true, if_false, ite_not, eq_self, enc_eq, fgt_mapenc, vlib, vparams, fgt_mapfenc, fgt_mappenc] <;> rfl) ?_
  simp only [wy, Nat.reduceAdd, Nat.reduceEqDiff, Nat.reduceLT, Nat.reduceMul, Nat.reduceLeDiff, Int.reduceEq, ↓reduceIte, reduceCtorEq, ne_eq, implies_true, if_true, if_false, ite_not, eq_self, Tryd.ntmps4, tyv, beq_self_eq_true]
  exact Leave.pures rfl (by simp only [wy, Nat.reduceAdd, Nat.reduceEqDiff, Nat.reduceLT, Nat.reduceMul, Nat.reduceLeDiff, Int.reduceEq, ↓reduceIte, reduceCtorEq, ne_eq, implies_true, if_true, if_false, ite_not, eq_self, oneOf] <;> rfl) (hh) rfl
theorem k_nil (sz : Nat) : kslice sz [] = .slice 0 [] .unk := rfl
theorem ac5 (lib : List Fn) (hlib : LibOk lib) (hok : ∀ f ∈ lib, FnOk f) (i : Int) (s : ByteArray) (h : AHeap) : AC sd 5 [vlib lib, .int .i64 i, .str s] h (Pure1 (.bool true) h) := by
  refine AC.pure Tryd.func5 rfl Tryd.ntmps5 (by show 3 ≤ 62; decide) ?_
  refine Ev.sound 100 _ _ _ _ ?_
  have hl := hlib.len
  simp only [argFr, vlib]
  simp only [wy, Nat.reduceAdd, Nat.reduceEqDiff, Nat.reduceLT, Nat.reduceMul, Nat.reduceLeDiff, Int.reduceEq, ↓reduceIte, reduceCtorEq, ne_eq, implies_true, if_true, if_false, ite_not, eq_self, Tryd.ntmps5]
  refine Stop.fact (ac11 _) rfl (by first | rfl | simp only [wy, Nat.reduceAdd, Nat.reduceEqDiff, Nat.reduceLT, Nat.reduceMul, Nat.reduceLeDiff, Int.reduceEq, ↓reduceIte, reduceCtorEq, ne_eq, implies_true, if_true, if_false, ite_not, eq_self, Tryd.ntmps5]) (by simp only [wy, Nat.reduceAdd, Nat.reduceEqDiff, Nat.reduceLT, Nat.reduceMul, Nat.reduceLeDiff, Int.reduceEq, ↓reduceIte, reduceCtorEq, ne_eq, implies_true, if_true, if_false, ite_not, eq_self, Tryd.ntmps5]) (caps := []) (by simp only [wy, Nat.reduceAdd, Nat.reduceEqDiff, Nat.reduceLT, Nat.reduceMul, Nat.reduceLeDiff, Int.reduceEq, ↓reduceIte, reduceCtorEq, ne_eq, implies_true, if_true, if_false, ite_not, eq_self]) en_11 (by simp only [wy, Nat.reduceAdd, Nat.reduceEqDiff, Nat.reduceLT, Nat.reduceMul, Nat.reduceLeDiff, Int.reduceEq, ↓reduceIte, reduceCtorEq, ne_eq, implies_true, if_true, if_false, ite_not, eq_self] <;> rfl) (Ev.sound 100 _ _ _ _ ?_)
  simp only [wy, Nat.reduceAdd, Nat.reduceEqDiff, Nat.reduceLT, Nat.reduceMul, Nat.reduceLeDiff, Int.reduceEq, ↓reduceIte, reduceCtorEq, ne_eq, implies_true, if_true, if_false, ite_not, eq_self, Tryd.ntmps5]
  refine Stop.fact (ac12 lib hlib hok _) rfl (by first | rfl | simp only [wy, Nat.reduceAdd, Nat.reduceEqDiff, Nat.reduceLT, Nat.reduceMul, Nat.reduceLeDiff, Int.reduceEq, ↓reduceIte, reduceCtorEq, ne_eq, implies_true, if_true, if_false, ite_not, eq_self, Tryd.ntmps5, vlib, fgt_mapfenc]) (by simp only [wy, Nat.reduceAdd, Nat.reduceEqDiff, Nat.reduceLT, Nat.reduceMul, Nat.reduceLeDiff, Int.reduceEq, ↓reduceIte, reduceCtorEq, ne_eq, implies_true, if_true, if_false, ite_not, eq_self, Tryd.ntmps5]) (caps := []) (by simp only [wy, Nat.reduceAdd, Nat.reduceEqDiff, Nat.reduceLT, Nat.reduceMul, Nat.reduceLeDiff, Int.reduceEq, ↓reduceIte, reduceCtorEq, ne_eq, implies_true, if_true, if_false, ite_not, eq_self, vlib, fgt_mapfenc]) en_12 (by simp only [wy, Nat.reduceAdd, Nat.reduceEqDiff, Nat.reduceLT, Nat.reduceMul, Nat.reduceLeDiff, Int.reduceEq, ↓reduceIte, reduceCtorEq, ne_eq, implies_true, if_true, if_false, ite_not, eq_self, vlib, fgt_mapfenc] <;> rfl) (Ev.sound 100 _ _ _ _ ?_)
  simp only [wy, Nat.reduceAdd, Nat.reduceEqDiff, Nat.reduceLT, Nat.reduceMul, Nat.reduceLeDiff, Int.reduceEq, ↓reduceIte, reduceCtorEq, ne_eq, implies_true, if_true, if_false, ite_not, eq_self, Tryd.ntmps5]
  refine EvC.part (fun a1 => ?_) (fun a1 => ?_)
  · simp only [wy, Nat.reduceAdd, Nat.reduceEqDiff, Nat.reduceLT, Nat.reduceMul, Nat.reduceLeDiff, Int.reduceEq, ↓reduceIte, reduceCtorEq, ne_eq, implies_true, if_true, if_false, ite_not, eq_self, Tryd.ntmps5]
    exact Leave.pures rfl (by simp only [wy, Nat.reduceAdd, Nat.reduceEqDiff, Nat.reduceLT, Nat.reduceMul, Nat.reduceLeDiff, Int.reduceEq, ↓reduceIte, reduceCtorEq, ne_eq, implies_true, if_true, if_false, ite_not, eq_self, oneOf] <;> rfl) (Ext.refl _) rfl
  simp only [wy, Nat.reduceAdd, Nat.reduceEqDiff, Nat.reduceLT, Nat.reduceMul, Nat.reduceLeDiff, Int.reduceEq, ↓reduceIte, reduceCtorEq, ne_eq, implies_true, if_true, if_false, ite_not, eq_self, Tryd.ntmps5]
  refine Stop.fact (ac19 lib hlib hok i _) rfl (by first | rfl | simp only [wy, Nat.reduceAdd, Nat.reduceEqDiff, Nat.reduceLT, Nat.reduceMul, Nat.reduceLeDiff, Int.reduceEq, ↓reduceIte, reduceCtorEq, ne_eq, implies_true, if_true, if_false, ite_not, eq_self, Tryd.ntmps5, vlib, fgt_mapfenc]) (by simp only [wy, Nat.reduceAdd, Nat.reduceEqDiff, Nat.reduceLT, Nat.reduceMul, Nat.reduceLeDiff, Int.reduceEq, ↓reduceIte, reduceCtorEq, ne_eq, implies_true, if_true, if_false, ite_not, eq_self, Tryd.ntmps5]) (caps := []) (by simp only [wy, Nat.reduceAdd, Nat.reduceEqDiff, Nat.reduceLT, Nat.reduceMul, Nat.reduceLeDiff, Int.reduceEq, ↓reduceIte, reduceCtorEq, ne_eq, implies_true, if_true, if_false, ite_not, eq_self, vlib, fgt_mapfenc]) en_19 (by simp only [wy, Nat.reduceAdd, Nat.reduceEqDiff, Nat.reduceLT, Nat.reduceMul, Nat.reduceLeDiff, Int.reduceEq, ↓reduceIte, reduceCtorEq, ne_eq, implies_true, if_true, if_false, ite_not, eq_self, vlib, fgt_mapfenc] <;> rfl) (Ev.sound 100 _ _ _ _ ?_)
  simp only [wy, Nat.reduceAdd, Nat.reduceEqDiff, Nat.reduceLT, Nat.reduceMul, Nat.reduceLeDiff, Int.reduceEq, ↓reduceIte, reduceCtorEq, ne_eq, implies_true, if_true, if_false, ite_not, eq_self, Tryd.ntmps5]
  refine Stop.fact (ac20 lib s hl _) rfl (by first | rfl | simp only [wy, Nat.reduceAdd, Nat.reduceEqDiff, Nat.reduceLT, Nat.reduceMul, Nat.reduceLeDiff, Int.reduceEq, ↓reduceIte, reduceCtorEq, ne_eq, implies_true, if_true, if_false, ite_not, eq_self, Tryd.ntmps5, vlib, fgt_mapfenc]) (by simp only [wy, Nat.reduceAdd, Nat.reduceEqDiff, Nat.reduceLT, Nat.reduceMul, Nat.reduceLeDiff, Int.reduceEq, ↓reduceIte, reduceCtorEq, ne_eq, implies_true, if_true, if_false, ite_not, eq_self, Tryd.ntmps5]) (caps := []) (by simp only [wy, Nat.reduceAdd, Nat.reduceEqDiff, Nat.reduceLT, Nat.reduceMul, Nat.reduceLeDiff, Int.reduceEq, ↓reduceIte, reduceCtorEq, ne_eq, implies_true, if_true, if_false, ite_not, eq_self, vlib, fgt_mapfenc]) en_20 (by simp only [wy, Nat.reduceAdd, Nat.reduceEqDiff, Nat.reduceLT, Nat.reduceMul, Nat.reduceLeDiff, Int.reduceEq, ↓reduceIte, reduceCtorEq, ne_eq, implies_true, if_true, if_false, ite_not, eq_self, vlib, fgt_mapfenc] <;> rfl) (Ev.sound 100 _ _ _ _ ?_)
  simp only [wy, Nat.reduceAdd, Nat.reduceEqDiff, Nat.reduceLT, Nat.reduceMul, Nat.reduceLeDiff, Int.reduceEq, ↓reduceIte, reduceCtorEq, ne_eq, implies_true, if_true, if_false, ite_not, eq_self, Tryd.ntmps5]
  refine Stop.fact (ac21 lib s hl _) rfl (by first | rfl | simp only [wy, Nat.reduceAdd, Nat.reduceEqDiff, Nat.reduceLT, Nat.reduceMul, Nat.reduceLeDiff, Int.reduceEq, ↓reduceIte, reduceCtorEq, ne_eq, implies_true, if_true, if_false, ite_not, eq_self, Tryd.ntmps5, vlib, fgt_mapfenc]) (by simp only [wy, Nat.reduceAdd, Nat.reduceEqDiff, Nat.reduceLT, Nat.reduceMul, Nat.reduceLeDiff, Int.reduceEq, ↓reduceIte, reduceCtorEq, ne_eq, implies_true, if_true, if_false, ite_not, eq_self, Tryd.ntmps5]) (caps := []) (by simp only [wy, Nat.reduceAdd, Nat.reduceEqDiff, Nat.reduceLT, Nat.reduceMul, Nat.reduceLeDiff, Int.reduceEq, ↓reduceIte, reduceCtorEq, ne_eq, implies_true, if_true, if_false, ite_not, eq_self, vlib, fgt_mapfenc]) en_21 (by simp only [wy, Nat.reduceAdd, Nat.reduceEqDiff, Nat.reduceLT, Nat.reduceMul, Nat.reduceLeDiff, Int.reduceEq, ↓reduceIte, reduceCtorEq, ne_eq, implies_true, if_true, if_false, ite_not, eq_self, vlib, fgt_mapfenc] <;> rfl) (Ev.sound 100 _ _ _ _ ?_)
  have hn : callsAt lib i = if i < 0 ∨ (lib.length : Int) ≤ i then [] else match lib[i.toNat]? with | some f => callsE lib f.body | none => [] := rfl
  by_cases a1 : i < 0
  · rw [if_pos (.inl a1)] at hn
    simp only [wy, Nat.reduceAdd, Nat.reduceEqDiff, Nat.reduceLT, Nat.reduceMul, Nat.reduceLeDiff, Int.reduceEq, ↓reduceIte, reduceCtorEq, ne_eq, implies_true, if_true, if_false, ite_not, eq_self, Tryd.ntmps5, hn, vints, List.map_nil, List.length_nil, k_nil, List.length_map, decide_eq_true a1, Int.natCast_zero]
    exact Leave.pures rfl (by simp only [wy, Nat.reduceAdd, Nat.reduceEqDiff, Nat.reduceLT, Nat.reduceMul, Nat.reduceLeDiff, Int.reduceEq, ↓reduceIte, reduceCtorEq, ne_eq, implies_true, if_true, if_false, ite_not, eq_self, oneOf] <;> rfl) (Ext.refl _) rfl
  by_cases a2 : (lib.length : Int) ≤ i
  · rw [if_pos (.inr a2)] at hn
    simp only [wy, Nat.reduceAdd, Nat.reduceEqDiff, Nat.reduceLT, Nat.reduceMul, Nat.reduceLeDiff, Int.reduceEq, ↓reduceIte, reduceCtorEq, ne_eq, implies_true, if_true, if_false, ite_not, eq_self, Tryd.ntmps5, hn, vints, List.map_nil, List.length_nil, k_nil, List.length_map, decide_eq_false a1, decide_eq_true a2, Int.natCast_zero]
    exact Leave.pures rfl (by simp only [wy, Nat.reduceAdd, Nat.reduceEqDiff, Nat.reduceLT, Nat.reduceMul, Nat.reduceLeDiff, Int.reduceEq, ↓reduceIte, reduceCtorEq, ne_eq, implies_true, if_true, if_false, ite_not, eq_self, oneOf] <;> rfl) (Ext.refl _) rfl
  rw [if_neg (by omega)] at hn
  obtain ⟨k, rfl⟩ : ∃ k : Nat, i = k := ⟨i.toNat, by omega⟩
  obtain ⟨f, hf⟩ : ∃ f, lib[k]? = some f := ⟨_, List.getElem?_eq_getElem (by omega)⟩
  have hmem := List.mem_of_getElem? hf
  rw [Int.toNat_natCast, hf] at hn
  simp only at hn
  have c1 : (0 ≤ (k : Int)) = True := by simp
  have c2 : ((k : Int) < (lib.length : Int)) = True := by simp; omega
  simp only [wy, Nat.reduceAdd, Nat.reduceEqDiff, Nat.reduceLT, Nat.reduceMul, Nat.reduceLeDiff, Int.reduceEq, ↓reduceIte, reduceCtorEq, ne_eq, implies_true, if_true, if_false, ite_not, eq_self, Tryd.ntmps5, hn, List.length_map, decide_eq_false a1, decide_eq_false a2, c1, c2, getD_map Fn.enc hf, fenc_eq f]
  refine Stop.fact (ac22 lib hlib f.body (hok f hmem).body _) rfl (by first | rfl | simp only [wy, Nat.reduceAdd, Nat.reduceEqDiff, Nat.reduceLT, Nat.reduceMul, Nat.reduceLeDiff, Int.reduceEq, ↓reduceIte, reduceCtorEq, ne_eq, implies_true, if_true, if_false, ite_not, eq_self, Tryd.ntmps5, vlib, fgt_mapfenc, enc_eq, fgt_mapenc]) (by simp only [wy, Nat.reduceAdd, Nat.reduceEqDiff, Nat.reduceLT, Nat.reduceMul, Nat.reduceLeDiff, Int.reduceEq, ↓reduceIte, reduceCtorEq, ne_eq, implies_true, if_true, if_false, ite_not, eq_self, Tryd.ntmps5]) (caps := []) (by simp only [wy, Nat.reduceAdd, Nat.reduceEqDiff, Nat.reduceLT, Nat.reduceMul, Nat.reduceLeDiff, Int.reduceEq, ↓reduceIte, reduceCtorEq, ne_eq, implies_true, if_true, if_false, ite_not, eq_self, vlib, fgt_mapfenc, enc_eq, fgt_mapenc]) en_22 (by simp only [wy, Nat.reduceAdd, Nat.reduceEqDiff, Nat.reduceLT, Nat.reduceMul, Nat.reduceLeDiff, Int.reduceEq, ↓reduceIte, reduceCtorEq, ne_eq, implies_true, if_true, if_false, ite_not, eq_self, vlib, fgt_mapfenc, enc_eq, fgt_mapenc] <;> rfl) (Ev.sound 100 _ _ _ _ ?_)
  have hcl := calls_len lib f.body
  have hsz := (hok f hmem).body.size
  generalize callsE lib f.body = es at *
  simp only [wy, Nat.reduceAdd, Nat.reduceEqDiff, Nat.reduceLT, Nat.reduceMul, Nat.reduceLeDiff, Int.reduceEq, ↓reduceIte, reduceCtorEq, ne_eq, implies_true, if_true, if_false, ite_not, eq_self, Tryd.ntmps5, vints, List.length_map, eq_self]
  refine Stop.round (σ := Nat) (fun k => es.length - k) (fun k => [(7, kslice 1 (es.map fun b => [.int .i64 b])), (8, kslice 1 (es.map fun b => [.int .i64 b])), (9, .int .i64 k)])
    (fun k h1 => k ≤ es.length ∧ h = h1) 0 ⟨Nat.zero_le _, rfl⟩ (by simp only [wy, Nat.reduceAdd, Nat.reduceEqDiff, Nat.reduceLT, Nat.reduceMul, Nat.reduceLeDiff, Int.reduceEq, ↓reduceIte, reduceCtorEq, ne_eq, implies_true, if_true, if_false, ite_not, eq_self, Tryd.ntmps5, Int.natCast_zero]) ?_
  rintro j _ ⟨hj, rfl⟩ next
  refine Ev.sound 100 _ _ _ _ ?_
  rcases turn es j hj with ⟨y, hy, hm, hlt, d1, d2⟩ | ⟨hkk, d1⟩
  · have w1 := wrap_succ j (by omega)
    simp only [wy, Nat.reduceAdd, Nat.reduceEqDiff, Nat.reduceLT, Nat.reduceMul, Nat.reduceLeDiff, Int.reduceEq, ↓reduceIte, reduceCtorEq, ne_eq, implies_true, if_true, if_false, ite_not, eq_self, Tryd.ntmps5, d1, List.length_map]
    refine Stop.drawn [(0, 0), (1, 0), (2, 0), (3, 0), (4, 0), (5, 0), (6, 0), (7, 0), (8, 0)] [[], [], [0, 1], [0, 1, 2], [], [], [4, 5], [4, 5, 6], [0, 1, 2, 3, 4, 5, 6, 7]] 90 (by kernel_rfl) ?_
    simp only [wy, Nat.reduceAdd, Nat.reduceEqDiff, Nat.reduceLT, Nat.reduceMul, Nat.reduceLeDiff, Int.reduceEq, ↓reduceIte, reduceCtorEq, ne_eq, implies_true, if_true, if_false, ite_not, eq_self, Tryd.ntmps5, d1, d2, List.length_map, getD_map (fun b : Int => [AV.int .i64 b]) hy, w1, eq_self]
    exact next (j + 1) _ _ (by omega) ⟨hlt, rfl⟩ (by simp only [wy, Nat.reduceAdd, Nat.reduceEqDiff, Nat.reduceLT, Nat.reduceMul, Nat.reduceLeDiff, Int.reduceEq, ↓reduceIte, reduceCtorEq, ne_eq, implies_true, if_true, if_false, ite_not, eq_self, Tryd.ntmps5])
  · simp only [wy, Nat.reduceAdd, Nat.reduceEqDiff, Nat.reduceLT, Nat.reduceMul, Nat.reduceLeDiff, Int.reduceEq, ↓reduceIte, reduceCtorEq, ne_eq, implies_true, if_true, if_false, ite_not, eq_self, Tryd.ntmps5, d1, List.length_map]
    exact Leave.pures rfl (by simp only [wy, Nat.reduceAdd, Nat.reduceEqDiff, Nat.reduceLT, Nat.reduceMul, Nat.reduceLeDiff, Int.reduceEq, ↓reduceIte, reduceCtorEq, ne_eq, implies_true, if_true, if_false, ite_not, eq_self, oneOf] <;> rfl) (Ext.refl _) rfl
end Go.Proofs.YtajknofacjiddaaDoor.Abs

/- What the bound says of a library. -/
namespace Go.Proofs.YtajknofacjiddaaDoor.Abs
open Go Go.RowKit
set_option linter.unusedSimpArgs false
set_option linter.unusedVariables false
theorem len_wt {α : Type} (f : α → Nat) (hf : ∀ a, 1 ≤ f a) (l : List α) : l.length ≤ (l.map f).sum := by
  induction l with
  | nil => exact Nat.le_refl _
  | cons a l ih =>
    have := hf a
    simp only [List.map_cons, List.sum_cons, List.length_cons]
    omega
theorem mem_wt {α : Type} (f : α → Nat) {l : List α} {a : α} (h : a ∈ l) : f a ≤ (l.map f).sum := sum_mem (List.mem_map_of_mem h)
theorem fn_params (f : Fn) : f.params.length ≤ f.wt := by
  have := len_wt (fun p : Param => p.name.size + 1) (fun _ => Nat.le_add_left _ _) f.params
  unfold Fn.wt
  omega
theorem lib_ok {l : List Fn} (h : (l.map Fn.wt).sum ≤ 1048576) : LibOk l :=
  ⟨by have := len_wt Fn.wt (fun f => by unfold Fn.wt; omega) l; omega, fun f hf => by have := mem_wt Fn.wt hf; have := fn_params f; omega⟩
theorem fns_ok {l : List Fn} (h : (l.map Fn.wt).sum ≤ 1048576) : ∀ f ∈ l, FnOk f := by
  intro f hf
  have h1 := mem_wt Fn.wt hf
  have h2 : f.wt = f.name.size + 1 + ((f.params.map fun p => p.name.size + 1).sum + 1) + f.body.wt := rfl
  refine ⟨by omega, by have := fn_params f; omega, fun p hp => ?_, wf_wt (by omega)⟩
  have := mem_wt (fun p : Param => p.name.size + 1) hp
  omega
theorem sum_ok {l : List Fn} {x : Node} (h : (l.map Fn.wt).sum + x.wt ≤ 1048576) : ∀ f ∈ l, f.params.length + x.depth ≤ 1048576 := by
  intro f hf
  have h1 := mem_wt Fn.wt hf
  have h2 := fn_params f
  have h3 := depth_le x
  have h4 := size_wt x
  omega
end Go.Proofs.YtajknofacjiddaaDoor.Abs
