/- The law FunEqual of the layer fun: of arguments of bulk at most 1048576 the call answers true and leaves them as they were. Conditions: the bound (the second form), the two library tables as they are laid (tied). -/
import Derived.Test.YtajknofacjiddaaDoorM5
namespace Go.Proofs.YtajknofacjiddaaDoor.Abs
open Go Go.RowKit Go.ChangeShapes Go.WideShapes Go.ChangeAt
set_option linter.unusedSimpArgs false
set_option linter.unusedVariables false
set_option maxRecDepth 100000
theorem says_funEqual : SaysTrue Rows.funEqualSpec 3 := ⟨rfl, fun H ds h => match ds, h with | [_, _, _], _ => ⟨rfl, rfl, rfl⟩⟩
theorem contract_funEqual (H : Type) (enc : TypeId × Value → H) (W : World) (base : Nat) (args : Array Value) (ds gs : List (DataW H)) (before : List MemPlace)
    (hval : ∀ (j : Nat) t v, Tryd.f10.params[j]? = some t → args[j]? = some v → Value.okWide Tryd.prog W .any base t v)
    (hW : DataW.Whole enc Tryd.prog Tryd.f10.params.toList Rows.funEqualSpec.vars false W args.toList ds gs before) (hk : Rows.uptoSmall H (ds ++ gs) = true) (hL : laidMetH Tryd.prog Rows.funEqualUptoRow.laid W) :
    Calls Tryd.prog 10 args W fun e W' => ∃ v, e = .returned v ∧ Rows.funEqualSpec.post enc Tryd.prog Tryd.f10 false true false false W args v W' := by
  have hW' := hW
  obtain ⟨p, q, hA0, hV, rfl, hfz, hnd⟩ := hW
  have hA : DataW.TrodAll enc Tryd.prog W 0 (fun _ => true) true Tryd.f10.params.toList args.toList ds p := hA0
  rw [Tryd.params10] at hA hval
  obtain ⟨v0, vs0, d0, ds0, p0, q0, hargs0, rfl, rfl, h0, r0⟩ := trodAll_cons hA
  obtain ⟨v1, vs1, d1, ds1, p1, q1, hargs1, rfl, rfl, h1, r1⟩ := trodAll_cons r0
  obtain ⟨v2, vs2, d2, ds2, p2, q2, hargs2, rfl, rfl, h2, r2⟩ := trodAll_cons r1
  obtain ⟨rfl, rfl, rfl⟩ := trodAll_nil r2
  obtain rfl : args = #[v0, v1, v2] := by cases args; simp_all
  obtain ⟨rfl, rfl⟩ := trodVars_none hV
  obtain ⟨x0, R0, b0, k0⟩ := arg_struct (P := Tryd.prog) (t := 54) reads_val Tryd.underlying54 (hval 0 54 v0 rfl rfl) h0
  obtain ⟨x1, R1, b1, k1⟩ := arg_struct (P := Tryd.prog) (t := 54) reads_val Tryd.underlying54 (hval 1 54 v1 rfl rfl) h1
  obtain ⟨x2, R2, b2, k2⟩ := arg_struct (P := Tryd.prog) (t := 54) reads_val Tryd.underlying54 (hval 2 54 v2 rfl rfl) h2
  have hb := bound hk
  simp only [Rows.uptoBulkAll, List.append_nil] at hb
  exact contract_of (S := sd) laidOut hW' says_funEqual (by kernel_rfl) (t := 4) rfl Tryd.underlying4 (base_of hL) (fun _ => rfl) (repL3 R0 R1 R2) (ac10 x0 x1 x2 (by omega) (by omega) (by omega) heap0)
theorem reads_funEqual (os : Os) {H : Type} (enc : TypeId × Value → H) : ∃ places, DataW.whole enc Tryd.prog ((laidWorld os).forCall (fun _ _ => 0) ⟨#[], #[.agg #[.bool false, .int .i64 0, .slice none 0 0], .agg #[.bool false, .int .i64 0, .slice none 0 0], .agg #[.bool false, .int .i64 0, .slice none 0 0]], []⟩).memory Tryd.f10.params.toList Rows.funEqualSpec.vars false (#[.agg #[.bool false, .int .i64 0, .slice none 0 0], .agg #[.bool false, .int .i64 0, .slice none 0 0], .agg #[.bool false, .int .i64 0, .slice none 0 0]] : Array Value).toList 8 = some ([.agg [.lit (.bool false), .lit (.int .i64 0), .nil], .agg [.lit (.bool false), .lit (.int .i64 0), .nil], .agg [.lit (.bool false), .lit (.int .i64 0), .nil]], [], places) :=
  ⟨[], by kernel_rfl⟩
theorem lifted_funEqual (os : Os) (started : os.Started) (H : Type) (enc : TypeId × Value → H) (F : Stop.Interp) :
    ReturnsInHanded {} Tryd.checked os 10 .any ((Rows.OpenSpec.upto Rows.funEqualSpec).preRow enc Tryd.prog Tryd.f10 Rows.funEqualUptoRow.domain false Rows.funEqualUptoRow.laid) (((Rows.OpenSpec.upto Rows.funEqualSpec).at F).post enc Tryd.prog Tryd.f10 false true false false) := by
  obtain ⟨places, hx⟩ := reads_funEqual os enc
  refine returnsInHanded_of_row (C := Tryd.checked) (s := Rows.OpenSpec.upto Rows.funEqualSpec) own started (by kernel_rfl) Tryd.func10
    (witness_row_atRef (enc := enc) (C := Tryd.checked) false (laidWorld os) #[.agg #[.bool false, .int .i64 0, .slice none 0 0], .agg #[.bool false, .int .i64 0, .slice none 0 0], .agg #[.bool false, .int .i64 0, .slice none 0 0]] rfl (by kernel_rfl) (by kernel_rfl) (by kernel_rfl)
      (OpenSpec.preRow_of_cond 8 hx (by kernel_rfl) (fun k hk => by cases hk; kernel_rfl) (by kernel_rfl) (laid_met os _))) ?_
  intro W base args ds gs before hval hW _ hcond _ hL _ _
  exact contract_funEqual H enc W base args ds gs before hval hW (hcond _ rfl) hL
theorem saidUpto_funEqual : Rows.FunEqualUptoSaid :=
  OpenClaim.holds_of_cond 10 Tryd.f10 rfl rfl rfl rfl rfl rfl rfl ⟨rfl, rfl, rfl, rfl, rfl⟩ rfl rfl rfl rfl rfl (by kernel_rfl) Tryd.func10 (by kernel_rfl)
    (of_decide_eq_true (by kernel_rfl)) (by unfold Func.isWrapper; first | (rw [if_pos (by decide +kernel)]; kernel_rfl) | (rw [if_neg (by decide +kernel)]; exact ⟨rfl, rfl⟩))
    (fun os started H enc _ F => by rw [OpenClaim.pre_eq_preRow]; exact lifted_funEqual os started H enc F)
theorem plain_funEqual (f : FuncId) (fn : Func) (hf : Tryd.pinned.checked.prog.funcNamed "backstep/backsteplaw35.FunEqual" = some f) (hfn : Tryd.pinned.checked.prog.funcs[f]? = some fn) :
    false = Tryd.pinned.checked.prog.looks [] ∧ ∀ (j : Nat) t, fn.params[j]? = some t → Tryd.pinned.checked.prog.wantsStandIn t = false := by
  obtain rfl : f = 10 := Option.some.inj ((show Tryd.prog.funcNamed "backstep/backsteplaw35.FunEqual" = some 10 by kernel_rfl).symm.trans hf) |>.symm
  obtain rfl : fn = Tryd.f10 := (Option.some.inj (Tryd.func10.symm.trans hfn)).symm
  refine ⟨by kernel_rfl, fun j t ht => ?_⟩
  rw [Tryd.params10] at ht
  have ht := Array.mem_of_getElem? ht
  have hall : (#[54, 54, 54] : Array Nat).all (fun t => Tryd.prog.wantsStandIn t == false) = true := by kernel_rfl
  have := Array.all_eq_true_iff_forall_mem.1 hall t ht
  exact (by simpa using this : Tryd.prog.wantsStandIn t = false)
end Go.Proofs.YtajknofacjiddaaDoor.Abs
namespace Go.Proofs.YtajknofacjiddaaDoor
open Go Go.RowKit
set_option maxRecDepth 100000
theorem funEqual_holds : Rows.FunEqualUptoCardSaid :=
  Claim7.holds_tied_plain_at .later [] _ _ _ _ Abs.saidUpto_funEqual (fun _ h => by cases h) (by kernel_rfl) (fun _ h => by cases h) funEqualUpto_row_tie rfl ⟨rfl, rfl⟩ (by kernel_rfl) rfl Abs.plain_funEqual (by kernel_rfl)
end Go.Proofs.YtajknofacjiddaaDoor
#print axioms Go.Proofs.YtajknofacjiddaaDoor.funEqual_holds
