/- ArithCompares: the walk of the law's own body. -/
import Derived.Test.YtnbkmmhomghlmaaCmpA
import Derived.Deep.QuietTactic
import Derived.BigQuiet
import Derived.OpenShut
namespace Go.Proofs.Ytnbkmmhomghlmaa.Cmp
open Go.RowKit Go.Proofs.Ytnbkmmhomghlmaa.PArithUnary Go.Proofs.YtnbkmmhomghlmaaW.PrintWords Go.Proofs.YtnbkmmhomghlmaaW.PrintLast

theorem awake1 : backsteplaw01_awake.f 1 = some true := by decide +kernel

/-- What an operator gives, and what the negation gives. -/
def Gives (W : World) (b : Nat) (op r : Int) : Prop := ∀ n, Calls Try.prog 15 #[.int .u8 op, .pointer (some ⟨b, 0, none⟩), .pointer (some ⟨b + 1, 0, none⟩)] (W.drewN n) fun e w' => e = .returned (.int .i64 r) ∧ ∃ m, w' = (W.drewN n).drewN m
def Nots (x r : Int) : Prop := ∀ W : World, Calls Try.prog 16 #[.int .i64 x] W fun e w' => e = .returned (.int .i64 r) ∧ ∃ m, w' = W.drewN m

theorem gives (W : World) (b : Nat) (x y op r : Int) (hX : W.cell? ⟨b, 0, none⟩ = some (.int .i64 x)) (hY : W.cell? ⟨b + 1, 0, none⟩ = some (.int .i64 y)) (h : arith_Apply.f 1 op x y = some (r, 0)) : Gives W b op r :=
  fun n => (value_any op x y r (W.drewN n) b (b + 1) (by simpa using hX) (by simpa using hY) h).mono fun _ _ ⟨he, nd, hw⟩ => ⟨he, nd, hw⟩
theorem nots (x r : Int) (h : arith_Unary.f 7 x = some (r, 0)) : Nots x r := fun W => (not_any x r W h).mono fun _ _ ⟨he, nd, hw⟩ => ⟨he, nd, hw⟩
theorem gives_drew {W : World} {b : Nat} {op r : Int} (h : Gives W b op r) (M : Nat) : Gives (W.drewN M) b op r := fun n => by
  have := h (M + n)
  rw [← World.drewN_drewN] at this
  exact this
theorem quiet_gives {W : World} {b : Nat} {op r : Int} (h : Gives W b op r) : ∀ n, Calls Try.prog 15 #[.int .u8 op, .pointer (some ⟨b, 0, none⟩), .pointer (some ⟨b + 1, 0, none⟩)] (W.drewN n) fun e w'' => e = .returned (.int .i64 r) ∧ ∃ m, w'' = W.drewN m := fun n => Calls.quiet_of (h n)
theorem quiet_nots {x r : Int} (h : Nots x r) (W : World) : ∀ n, Calls Try.prog 16 #[.int .i64 x] (W.drewN n) fun e w'' => e = .returned (.int .i64 r) ∧ ∃ m, w'' = W.drewN m := fun n => Calls.quiet_of (h (W.drewN n))
theorem nots0 : Nots 0 1 := nots 0 1 rfl
theorem nots1 : Nots 1 0 := nots 1 0 rfl

set_option maxHeartbeats 4000000 in
theorem law_case (x y : Int) (w : World) (lt eq gt ge le ne bo ei nx ny nnx nny : Int) 
    (h18 : arith_Apply.f 1 18 x y = some (lt, 0)) (h16 : arith_Apply.f 1 16 x y = some (eq, 0)) (h20 : arith_Apply.f 1 20 x y = some (gt, 0))
    (h21 : arith_Apply.f 1 21 x y = some (ge, 0)) (h19 : arith_Apply.f 1 19 x y = some (le, 0)) (h17 : arith_Apply.f 1 17 x y = some (ne, 0))
    (h22 : arith_Apply.f 1 22 x y = some (bo, 0)) (h23 : arith_Apply.f 1 23 x y = some (ei, 0))
    (hx : arith_Unary.f 7 x = some (nx, 0)) (hy : arith_Unary.f 7 y = some (ny, 0))
    (hnx : arith_Unary.f 7 nx = some (nnx, 0)) (hny : arith_Unary.f 7 ny = some (nny, 0))
    (g21 : arith_Unary.f 7 lt = some (ge, 0)) (g19 : arith_Unary.f 7 gt = some (le, 0)) (g17 : arith_Unary.f 7 eq = some (ne, 0)) (g23 : arith_Unary.f 7 (IntKind.i64.wrap (nx * ny)) = some (ei, 0))
    (s : IntKind.i64.wrap (IntKind.i64.wrap (lt + eq) + gt) = 1) (p1 : 0 ≤ lt) (p2 : 0 ≤ eq) (p3 : 0 ≤ gt) (p4 : bo = IntKind.i64.wrap (nnx * nny)) :
    Calls Try.prog 6 #[.int .i64 x, .int .i64 y] w fun e w' => e = .returned (.bool true) ∧ Below w.heap.size w w' := by
  have HA := Aside0.mk (fun W => backsteplaw01_awake.calls 1 true W awake1)
  have HG := Aside0.mk (fun (W : World) (hX : W.cell? ⟨w.heap.size, 0, none⟩ = some (.int .i64 x)) (hY : W.cell? ⟨w.heap.size + 1, 0, none⟩ = some (.int .i64 y)) => (⟨gives W w.heap.size x y 18 lt hX hY h18, gives W w.heap.size x y 16 eq hX hY h16, gives W w.heap.size x y 20 gt hX hY h20, gives W w.heap.size x y 21 ge hX hY h21, gives W w.heap.size x y 19 le hX hY h19, gives W w.heap.size x y 17 ne hX hY h17, gives W w.heap.size x y 22 bo hX hY h22, gives W w.heap.size x y 23 ei hX hY h23⟩ : Gives W w.heap.size 18 lt ∧ Gives W w.heap.size 16 eq ∧ Gives W w.heap.size 20 gt ∧ Gives W w.heap.size 21 ge ∧ Gives W w.heap.size 19 le ∧ Gives W w.heap.size 17 ne ∧ Gives W w.heap.size 22 bo ∧ Gives W w.heap.size 23 ei))
  have N1 := Aside0.mk (nots x nx hx)
  have N2 := Aside0.mk (nots y ny hy)
  have N3 := Aside0.mk (nots nx nnx hnx)
  have N4 := Aside0.mk (nots ny nny hny)
  have N5 := Aside0.mk (nots lt ge g21)
  have N6 := Aside0.mk (nots gt le g19)
  have N7 := Aside0.mk (nots eq ne g17)
  have N8 := Aside0.mk (nots _ ei g23)
  clear h18 h16 h20 h21 h19 h17 h22 h23 hx hy hnx hny g21 g19 g17 g23
  go_enter Try.func6, Try.ntmps6
  go_upto_region 5 with (go_at_call 11; refine (HA.out _).mono ?_; rintro e w' ⟨rfl, ⟨nd, rfl⟩⟩)
  have hX : (((w.alloc (.cells #[.int .i64 x] 3)).alloc (.cells #[.int .i64 y] 3)).drewN nd).cell? ⟨w.heap.size, 0, none⟩ = some (.int .i64 x) := by go_simp
  have hY : (((w.alloc (.cells #[.int .i64 x] 3)).alloc (.cells #[.int .i64 y] 3)).drewN nd).cell? ⟨w.heap.size + 1, 0, none⟩ = some (.int .i64 y) := by go_simp
  have HB := Aside0.mk (show Below w.heap.size w (((w.alloc (.cells #[.int .i64 x] 3)).alloc (.cells #[.int .i64 y] 3)).drewN nd) from pw_below_drewN (((Below.refl _ _).alloc (Nat.le_refl _) _).alloc (by simp) _) nd)
  generalize hW : ((w.alloc (.cells #[.int .i64 x] 3)).alloc (.cells #[.int .i64 y] 3)).drewN nd = W at *
  clear hW
  obtain ⟨G18, G16, G20, G21, G19, G17, G22, G23⟩ := HG.out W hX hY
  have A18 := Aside0.mk G18
  have A16 := Aside0.mk G16
  have A20 := Aside0.mk G20
  have A21 := Aside0.mk G21
  have A19 := Aside0.mk G19
  have A17 := Aside0.mk G17
  have A22 := Aside0.mk G22
  have A23 := Aside0.mk G23
  clear G18 G16 G20 G21 G19 G17 G22 G23 HG HA
  have B18 : Aside0 (Calls Try.prog 15 #[.int .u8 18, .pointer (some ⟨w.heap.size, 0, none⟩), .pointer (some ⟨w.heap.size + 1, 0, none⟩)] W fun e w' => e = .returned (.int .i64 lt) ∧ ∃ m, w' = W.drewN m) := ⟨(A18.out 0).mono fun _ _ ⟨he, m, hm⟩ => ⟨he, 0 + m, by rw [hm, World.drewN_drewN]⟩⟩
  go_wp2_with fail
  refine B18.out.mono ?_
  rintro e w' ⟨rfl, m1, rfl⟩
  go_wp2_with fail
  refine (A16.out m1).mono ?_
  rintro e w' ⟨rfl, m2, rfl⟩
  rw [World.drewN_drewN]
  go_wp2_with fail
  refine (A20.out (m1 + m2)).mono ?_
  rintro e w' ⟨rfl, m3, rfl⟩
  rw [World.drewN_drewN]
  go_upto_region 6 with fail
  replace A21 := Aside0.mk (gives_drew A21.out (m1 + m2 + m3))
  replace A19 := Aside0.mk (gives_drew A19.out (m1 + m2 + m3))
  replace A17 := Aside0.mk (gives_drew A17.out (m1 + m2 + m3))
  replace A22 := Aside0.mk (gives_drew A22.out (m1 + m2 + m3))
  replace A23 := Aside0.mk (gives_drew A23.out (m1 + m2 + m3))
  replace HB := Aside0.mk (pw_below_drewN HB.out (m1 + m2 + m3))
  replace hX : (W.drewN (m1 + m2 + m3)).cell? ⟨w.heap.size, 0, none⟩ = some (.int .i64 x) := by simpa using hX
  replace hY : (W.drewN (m1 + m2 + m3)).cell? ⟨w.heap.size + 1, 0, none⟩ = some (.int .i64 y) := by simpa using hY
  clear A18 A16 A20 B18
  generalize W.drewN (m1 + m2 + m3) = V at *
  go_outline
  have QA21 := Aside0.mk (quiet_gives A21.out)
  have QA19 := Aside0.mk (quiet_gives A19.out)
  have QA17 := Aside0.mk (quiet_gives A17.out)
  have QA22 := Aside0.mk (quiet_gives A22.out)
  have QA23 := Aside0.mk (quiet_gives A23.out)
  have QN1 := Aside0.mk (quiet_nots N1.out V)
  have QN2 := Aside0.mk (quiet_nots N2.out V)
  have QN3 := Aside0.mk (quiet_nots N3.out V)
  have QN4 := Aside0.mk (quiet_nots N4.out V)
  have QN5 := Aside0.mk (quiet_nots N5.out V)
  have QN6 := Aside0.mk (quiet_nots N6.out V)
  have QN7 := Aside0.mk (quiet_nots N7.out V)
  have QN8 := Aside0.mk (quiet_nots N8.out V)
  clear A21 A19 A17 A22 A23 N1 N2 N3 N4 N5 N6 N7 N8
  go_quiet (first | (with_reducible exact QA21.out _) | (with_reducible exact QA19.out _) | (with_reducible exact QA17.out _) | (with_reducible exact QA22.out _) | (with_reducible exact QA23.out _) | (with_reducible exact QN1.out _) | (with_reducible exact QN2.out _) | (with_reducible exact QN3.out _) | (with_reducible exact QN4.out _) | (with_reducible exact QN5.out _) | (with_reducible exact QN6.out _) | (with_reducible exact QN7.out _) | (with_reducible exact QN8.out _))
  go_wp2
  go_ret
  exact ⟨rfl, pw_below_drewN HB.out _⟩

end Go.Proofs.Ytnbkmmhomghlmaa.Cmp
