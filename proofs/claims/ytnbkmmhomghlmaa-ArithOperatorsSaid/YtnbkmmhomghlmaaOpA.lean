/- ArithOperators: the library's sort at sixteen bytes that stand in order already: it only looks. -/
import Derived.Test.YtnbkmmhomghlmaaPArithOperatorsx2
import Derived.Lib.SmallJoins
import Derived.Outline
import Derived.Deep.QuietTactic
import Derived.BigQuiet
namespace Go.Proofs.Ytnbkmmhomghlmaa.Ops
open Go.RowKit Go.Proofs.Ytnbkmmhomghlmaa.PArithOperators Go.Proofs.YtnbkmmhomghlmaaW.PrintWords Go.Proofs.YtnbkmmhomghlmaaW.PrintLast

/-- Sixteen bytes in order lie at ad. -/
def Asc (w : World) (ad : Addr) : Prop := ∀ j : Nat, j < 16 → w.cell? (ad.add j) = some (.int .u8 (8 + j))
theorem Asc.below {w w' : World} {ad : Addr} (h : Asc w ad) (hb : Below w.heap.size w w') : Asc w' ad := fun j hj => (hb.cell (World.block_lt_of_cell? _ _ (h j hj))).trans (h j hj)

theorem less_quiet (a b : Int) (r : Bool) (hr : decide (a < b) = r) (V : World) : ∀ n, Calls Try.prog 42 #[.int .u8 a, .int .u8 b] (V.drewN n) fun e w'' => e = .returned (.bool r) ∧ ∃ m, w'' = V.drewN m := fun n => by
  refine (cmp_Less_byte.calls a b r (V.drewN n) (by simp [cmp_Less_byte.f, cmp_isNaN_byte.f, hr])).mono fun e w'' ⟨he, m, hm⟩ => ⟨he, n + m, by rw [hm, World.drewN_drewN]⟩

set_option maxHeartbeats 2000000 in
theorem order2_any (i j : Nat) (ad : Addr) (c : Nat) (p : Value) (hij : i < j) (hj : j < 16) (w : World) (h : Asc w ad) :
    Calls Try.prog 53 #[.slice (some ad) 16 c, .int .i64 i, .int .i64 j, p] w fun e w' => e = .returned (.tuple #[.int .i64 i, .int .i64 j]) ∧ Drawn0 w w' := by
  have hi := h i (by omega)
  have hj' := h j hj
  have k1 : (j : Int) < 16 := by omega
  have k2 : (i : Int) < 16 := by omega
  have QL := Aside0.mk (less_quiet (8 + j) (8 + i) false (by simp; omega) w)
  clear h
  go_enter Try.func53, Try.ntmps53
  go_upto_region 1 with fail
  go_quiet (first | (with_reducible exact QL.out _))
  go_wp2
  go_ret2
  exact ⟨rfl, _, rfl⟩

theorem asc_drewN {w : World} {ad : Addr} (h : Asc w ad) (n : Nat) : Asc (w.drewN n) ad := fun j hj => by simpa using h j hj

set_option maxHeartbeats 2000000 in
theorem median_any (i j k : Nat) (ad : Addr) (c : Nat) (p : Value) (hij : i < j) (hjk : j < k) (hk : k < 16) (w : World) (h : Asc w ad) :
    Calls Try.prog 51 #[.slice (some ad) 16 c, .int .i64 i, .int .i64 j, .int .i64 k, p] w fun e w' => e = .returned (.int .i64 j) ∧ Drawn0 w w' := by
  have H1 := Aside0.mk (order2_any i j ad c p hij (by omega) w h)
  have H2 := Aside0.mk (fun m => order2_any j k ad c p hjk hk (w.drewN m) (asc_drewN h m))
  have H3 := Aside0.mk (fun m => order2_any i j ad c p hij (by omega) (w.drewN m) (asc_drewN h m))
  clear h
  go_enter Try.func51, Try.ntmps51
  go_wp2_with fail
  refine H1.out.mono ?_
  rintro e w' ⟨rfl, m1, rfl⟩
  go_wp2_with fail
  refine (H2.out m1).mono ?_
  rintro e w' ⟨rfl, m2, rfl⟩
  rw [World.drewN_drewN]
  go_wp2_with fail
  refine (H3.out (m1 + m2)).mono ?_
  rintro e w' ⟨rfl, m3, rfl⟩
  rw [World.drewN_drewN]
  go_wp2
  go_ret
  exact ⟨rfl, _, rfl⟩

set_option maxHeartbeats 2000000 in
theorem choose_any (ad : Addr) (c : Nat) (w : World) (h : Asc w ad) :
    Calls Try.prog 39 #[.slice (some ad) 16 c, .int .i64 0, .int .i64 16] w fun e w' => e = .returned (.tuple #[.int .i64 8, .int .i64 1]) ∧ Below w.heap.size w w' := by
  have hb : Below w.heap.size w (w.alloc (.cells #[.int .i64 0] 3)) := (Below.refl _ _).alloc (Nat.le_refl _) _
  have H1 := Aside0.mk (fun p => median_any 4 8 12 ad c p (by omega) (by omega) (by omega) (w.alloc (.cells #[.int .i64 0] 3)) (h.below hb))
  have HB := Aside0.mk hb
  clear h hb
  go_enter Try.func39, Try.ntmps39
  go_wp2_with fail
  refine (H1.out _).mono ?_
  rintro e w' ⟨rfl, m1, rfl⟩
  go_wp2
  go_ret2
  exact ⟨rfl, pw_below_drewN HB.out _⟩

set_option maxHeartbeats 4000000 in
theorem partial_any (ad : Addr) (c : Nat) (w : World) (h : Asc w ad) :
    Calls Try.prog 41 #[.slice (some ad) 16 c, .int .i64 0, .int .i64 16] w fun e w' => e = .returned (.bool true) ∧ Drawn0 w w' := by
  have HC := Aside0.mk h
  clear h
  go_enter Try.func41, Try.ntmps41
  go_wp2
  go_loopw [7, 8] (fun i j wr => i = .int .i64 1 ∧ j = .int .i64 0 ∧ wr = w) (fun i _ _ => 1)
  case atStart => exact ⟨rfl, rfl, rfl⟩
  case round =>
    obtain ⟨rfl, rfl, rfl⟩ := hrel
    go_wp2
    go_loopw [7] (fun i wr' => ∃ k m : Nat, k ≤ 15 ∧ i = .int .i64 ((k : Int) + 1) ∧ wr' = wr.drewN m) (fun i _ => 16 - (intOf i).toNat)
    case atStart => exact ⟨0, 0, by omega, rfl, rfl⟩
    case round =>
      obtain ⟨k, m, hk, rfl, rfl⟩ := hrel
      by_cases hlt : k < 15
      · have k0 : ((k : Int) + 1) < 16 := by omega
        have k1 : (0 : Int) ≤ (k : Int) + 1 := by omega
        have k2 : (k : Int) < 16 := by omega
        have h1 : wr.cell? ⟨ad.block, ad.off + (k + 1), none⟩ = some (.int .u8 (8 + ((k + 1 : Nat) : Int))) := HC.out (k + 1) (by omega)
        have h2 := HC.out k (by omega)
        have k3 : IntKind.i64.wrap (k : Int) = (k : Int) := by rw [IntKind.wrap_i64]; omega
        have k4 : (0 : Int) ≤ (k : Int) := by omega
        have ql := less_quiet (8 + ((k : Int) + 1)) (8 + k) false (by simp; omega) (wr.drewN m)
        simp only [World.drewN_drewN] at ql
        have QL := Aside0.mk ql
        clear ql
        go_upto_region 5 with fail
        go_quiet (first | (with_reducible exact QL.out _))
        rw [World.drewN_drewN]
        go_wp2
        go_roundw
        case rel => exact ⟨k + 1, _, by omega, by go_num, rfl⟩
        case measure => simp [intOf]; omega
      · obtain rfl : k = 15 := by omega
        go_upto_region 5 with fail
        go_quiet (fail)
        rw [World.drewN_drewN]
        go_wp2
        go_ret
        exact ⟨rfl, _, rfl⟩

set_option maxHeartbeats 4000000 in
theorem pdq_any (ad : Addr) (c : Nat) (w : World) (h : Asc w ad) :
    Calls Try.prog 34 #[.slice (some ad) 16 c, .int .i64 0, .int .i64 16, .int .i64 5] w fun e w' => e = .returned (.tuple #[]) ∧ Below w.heap.size w w' := by
  have HC := Aside0.mk (choose_any ad c w h)
  have HP := Aside0.mk (fun (w' : World) (hb : Below w.heap.size w w') => partial_any ad c w' (h.below hb))
  clear h
  go_enter Try.func34, Try.ntmps34
  go_wp2
  go_loopw [1, 2, 3, 8, 9] (fun p q l a b wr => p = .int .i64 0 ∧ q = .int .i64 16 ∧ l = .int .i64 5 ∧ a = .bool true ∧ b = .bool true ∧ wr = w) (fun _ _ _ _ _ _ => 1)
  case atStart => exact ⟨rfl, rfl, rfl, rfl, rfl, rfl⟩
  case round =>
    obtain ⟨rfl, rfl, rfl, rfl, rfl, rfl⟩ := hrel
    go_wp2_with fail
    refine HC.out.mono ?_
    rintro e w' ⟨rfl, hb⟩
    have HB := Aside0.mk hb
    have HP2 := Aside0.mk (HP.out w' hb)
    clear hb
    go_wp2_with fail
    refine HP2.out.mono ?_
    rintro e w' ⟨rfl, m, rfl⟩
    go_wp2
    (try simp only [Exit.inBlock, Exit.then])
    refine bodyPost_ret (results_none rfl _ _ _) rfl ?_
    exact ⟨rfl, pw_below_drewN HB.out _⟩
end Go.Proofs.Ytnbkmmhomghlmaa.Ops
