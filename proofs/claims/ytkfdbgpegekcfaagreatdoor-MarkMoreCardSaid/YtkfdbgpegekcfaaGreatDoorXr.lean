/-
  The program's functions, printed by a program of this session's own (wip/gen): each as a statement on heaps; that a call comes to it is proved beside it.
-/
import Derived.Test.YtkfdbgpegekcfaaGreatDoorXp

set_option linter.unusedVariables false
set_option maxRecDepth 100000
namespace Go.Proofs.YtkfdbgpegekcfaaGreatDoorP
open Go Go.GL Go.Proofs

-- 47 gantline/gantlinelaw7.put
def gantlinelaw7_put.S (x0 : Option Addr) (x1 : Option Addr) (x2 : Int) (x3 : Int) (x4 : Int) (h : H) (K : H → Prop) : Prop :=
  arena_Arena_Write.C x0 x2 x3 x4 h (fun n3 h2 => gantlineref4_Arena_Find.C x1 x2 h2 (fun n6 h5 => split (decide (n6 ≥ 0)) (nilC x1 (fun a7 => ldL h5 (Addr.add a7 1) (fun p8 k9 k10 => idx p8 k9 n6 3 (fun a11 => ldL h5 (Addr.add a11 1) (fun p12 k13 k14 => idx p12 k13 x3 1 (fun a15 => stC h5 (Addr.add a15 0) (.int .i64 x4) (fun h16 => K h16))))))) (K h5)))
theorem gantlinelaw7_put.R (x0 : Option Addr) (x1 : Option Addr) (x2 : Int) (x3 : Int) (x4 : Int) (h : H) (K : H → Prop) : gantlinelaw7_put.S x0 x1 x2 x3 x4 h K = funW Tryz.prog Tryz.f47 1055 [(.pointer x0), (.pointer x1), (.int .i64 x2), (.int .i64 x3), (.int .i64 x4)] h (resK (true, []) K) := by kernel_rfl
theorem gantlinelaw7_put.of {x0 : Option Addr} {x1 : Option Addr} {x2 : Int} {x3 : Int} {x4 : Int} {h : H} {K : H → Prop} (hs : gantlinelaw7_put.S x0 x1 x2 x3 x4 h K) : gantlinelaw7_put.C x0 x1 x2 x3 x4 h K := by
  unfold gantlinelaw7_put.C
  exact callK_of mixed Tryz.func47 Tryz.call47 (by kernel_rfl) (Eq.mp (gantlinelaw7_put.R x0 x1 x2 x3 x4 h K) hs)

-- 48 (*gantline/grey.Queue).Add
def grey_Queue_Add.S (x0 : Option Addr) (x1 : Int) (h : H) (K : H → Prop) : Prop :=
  nilC x0 (fun a1 => ldL h (Addr.add a1 0) (fun p2 k3 k4 => newC h [(.int .i64 x1)] 2 (fun a5 h6 => rawN Tryz.prog (builtin .append #[28, 28] 28 #[false, false] #[(.slice p2 k3 k4), (.slice (some a5) 1 1)]) h6 (fun v7 h8 => exL v7 (fun p9 k10 k11 => nilC x0 (fun a12 => stC h8 (Addr.add (Addr.add a12 0) 0) (.slice p9 k10 k11) (fun h13 => K h13)))))))
theorem grey_Queue_Add.R (x0 : Option Addr) (x1 : Int) (h : H) (K : H → Prop) : grey_Queue_Add.S x0 x1 h K = funW Tryz.prog Tryz.f48 3 [(.pointer x0), (.int .i64 x1)] h (resK (true, []) K) := by kernel_rfl
theorem grey_Queue_Add.of {x0 : Option Addr} {x1 : Int} {h : H} {K : H → Prop} (hs : grey_Queue_Add.S x0 x1 h K) : grey_Queue_Add.C x0 x1 h K := by
  unfold grey_Queue_Add.C
  exact callK_of mixed Tryz.func48 Tryz.call48 (by kernel_rfl) (Eq.mp (grey_Queue_Add.R x0 x1 h K) hs)

-- 49 slices.Clone[[]int64,int64]
def slices_Clone_int64_int64.S (x0p : Option Addr) (x0n : Nat) (x0c : Nat) (h : H) (K : Option Addr → Nat → Nat → H → Prop) : Prop :=
  split (Option.isNone x0p) (K none 0 0 h) (newC h [] 2 (fun a1 h2 => rawN Tryz.prog (builtin .append #[28, 28] 28 #[false, false] #[(.slice (some a1) 0 0), (.slice x0p x0n x0c)]) h2 (fun v3 h4 => exL v3 (fun p5 k6 k7 => K p5 k6 k7 h4))))
theorem slices_Clone_int64_int64.R (x0p : Option Addr) (x0n : Nat) (x0c : Nat) (h : H) (K : Option Addr → Nat → Nat → H → Prop) : slices_Clone_int64_int64.S x0p x0n x0c h K = funW Tryz.prog Tryz.f49 5 [(.slice x0p x0n x0c)] h (resK (false, [(false, [.l])]) K) := by kernel_rfl
theorem slices_Clone_int64_int64.of {x0p : Option Addr} {x0n : Nat} {x0c : Nat} {h : H} {K : Option Addr → Nat → Nat → H → Prop} (hs : slices_Clone_int64_int64.S x0p x0n x0c h K) : slices_Clone_int64_int64.C x0p x0n x0c h K := by
  unfold slices_Clone_int64_int64.C
  exact callK_of mixed Tryz.func49 Tryz.call49 (by kernel_rfl) (Eq.mp (slices_Clone_int64_int64.R x0p x0n x0c h K) hs)

-- 50 slices.Sorted[int64]
def slices_Sorted_int64.S (x0 : Value) (h : H) (K : Option Addr → Nat → Nat → H → Prop) : Prop :=
  slices_Collect_int64.C x0 h (fun p3 k4 k5 h2 => slices_Sort_int64_int64.C p3 k4 k5 h2 (fun h7 => K p3 k4 k5 h7))
theorem slices_Sorted_int64.R (x0 : Value) (h : H) (K : Option Addr → Nat → Nat → H → Prop) : slices_Sorted_int64.S x0 h K = funW Tryz.prog Tryz.f50 13 [x0] h (resK (false, [(false, [.l])]) K) := by kernel_rfl
theorem slices_Sorted_int64.of {x0 : Value} {h : H} {K : Option Addr → Nat → Nat → H → Prop} (hs : slices_Sorted_int64.S x0 h K) : slices_Sorted_int64.C x0 h K := by
  unfold slices_Sorted_int64.C
  exact callK_of mixed Tryz.func50 Tryz.call50 (by kernel_rfl) (Eq.mp (slices_Sorted_int64.R x0 h K) hs)

-- 51 maps.Keys[map[int64]bool,int64,bool]
def maps_Keys_map_int64_bool_int64_bool.S (x0 : Option Nat) (h : H) (K : Value → H → Prop) : Prop :=
  newC h [(.map x0)] 101 (fun a1 h2 => K (.func (.func 112) #[] #[(.pointer (some a1))]) h2)
theorem maps_Keys_map_int64_bool_int64_bool.R (x0 : Option Nat) (h : H) (K : Value → H → Prop) : maps_Keys_map_int64_bool_int64_bool.S x0 h K = funW Tryz.prog Tryz.f51 7 [(.map x0)] h (resK (false, [(false, [.raw])]) K) := by kernel_rfl
theorem maps_Keys_map_int64_bool_int64_bool.of {x0 : Option Nat} {h : H} {K : Value → H → Prop} (hs : maps_Keys_map_int64_bool_int64_bool.S x0 h K) : maps_Keys_map_int64_bool_int64_bool.C x0 h K := by
  unfold maps_Keys_map_int64_bool_int64_bool.C
  exact callK_of mixed Tryz.func51 Tryz.call51 (by kernel_rfl) (Eq.mp (maps_Keys_map_int64_bool_int64_bool.R x0 h K) hs)

-- 52 (*gantline/grey.Queue).Next
def grey_Queue_Next.S (x0 : Option Addr) (h : H) (K : Int → Bool → H → Prop) : Prop :=
  nilC x0 (fun a1 => ldL h (Addr.add a1 0) (fun p2 k3 k4 => split (((k3 : Nat) : Int) == 0) (K 0 false h) (nilC x0 (fun a5 => ldL h (Addr.add a5 0) (fun p6 k7 k8 => idx p6 k7 0 1 (fun a9 => ldI h a9 .i64 (fun n10 => nilC x0 (fun a11 => ldL h (Addr.add a11 0) (fun p12 k13 k14 => slc p12 k13 k14 1 (some 1) none (fun p15 k16 k17 => nilC x0 (fun a18 => stC h (Addr.add (Addr.add a18 0) 0) (.slice p15 k16 k17) (fun h19 => K n10 true h19))))))))))))
theorem grey_Queue_Next.R (x0 : Option Addr) (h : H) (K : Int → Bool → H → Prop) : grey_Queue_Next.S x0 h K = funW Tryz.prog Tryz.f52 29 [(.pointer x0)] h (resK (true, [(false, [(.i .i64)]), (false, [.b])]) K) := by kernel_rfl
theorem grey_Queue_Next.of {x0 : Option Addr} {h : H} {K : Int → Bool → H → Prop} (hs : grey_Queue_Next.S x0 h K) : grey_Queue_Next.C x0 h K := by
  unfold grey_Queue_Next.C
  exact callK_of mixed Tryz.func52 Tryz.call52 (by kernel_rfl) (Eq.mp (grey_Queue_Next.R x0 h K) hs)

-- 53 (*gantline/arena.Arena).find
def arena_Arena_find.S (x0 : Option Addr) (x1 : Int) (h : H) (K : Option Addr → Int → H → Prop) : Prop :=
  geom_Span.C x1 h (fun n3 h2 => arena_Arena_Class.C x0 n3 h2 (fun n6 h5 => geom_Place.C x1 n6 h5 (fun n9 h8 => joinP (fun (h10 : H) => nilC x0 (fun a11 => ldL h10 (Addr.add a11 1) (fun p12 k13 k14 => idx p12 k13 n3 3 (fun a15 => need (((0 : Int) ≤ (IntKind.wrap .u64 n9))) (K (some a15) (shlI .u64 1 (IntKind.wrap .u64 n9)) h10))))) (fun J16 => split (decide (n9 < 0)) (K none 0 h8) (nilC x0 (fun a17 => ldL h8 (Addr.add a17 1) (fun p18 k19 k20 => idx p18 k19 n3 3 (fun a21 => ldI h8 (Addr.add a21 1) .u64 (fun n22 => need (((0 : Int) ≤ (IntKind.wrap .u64 n9))) (split ((bitsI .and .u64 (shrI .u64 n22 (IntKind.wrap .u64 n9)) 1) == 0) (K none 0 h8) (J16 h8)))))))))))
theorem arena_Arena_find.R (x0 : Option Addr) (x1 : Int) (h : H) (K : Option Addr → Int → H → Prop) : arena_Arena_find.S x0 x1 h K = funW Tryz.prog Tryz.f53 499 [(.pointer x0), (.int .i64 x1)] h (resK (true, [(false, [.p]), (false, [(.i .u64)])]) K) := by kernel_rfl
theorem arena_Arena_find.of {x0 : Option Addr} {x1 : Int} {h : H} {K : Option Addr → Int → H → Prop} (hs : arena_Arena_find.S x0 x1 h K) : arena_Arena_find.C x0 x1 h K := by
  unfold arena_Arena_find.C
  exact callK_of mixed Tryz.func53 Tryz.call53 (by kernel_rfl) (Eq.mp (arena_Arena_find.R x0 x1 h K) hs)

-- 54 gantline/gantlineref1.Bit
def gantlineref1_Bit.S (x0 : Int) (x1 : Int) (h : H) (K : Bool → H → Prop) : Prop :=
  split (decide (x1 ≥ 0)) (split (decide (x1 < 64)) (need (((0 : Int) ≤ (IntKind.wrap .u64 x1))) (K ((bitsI .and .u64 (shrI .u64 x0 (IntKind.wrap .u64 x1)) 1) == 1) h)) (K false h)) (K false h)
theorem gantlineref1_Bit.R (x0 : Int) (x1 : Int) (h : H) (K : Bool → H → Prop) : gantlineref1_Bit.S x0 x1 h K = funW Tryz.prog Tryz.f54 19 [(.int .u64 x0), (.int .i64 x1)] h (resK (false, [(false, [.b])]) K) := by kernel_rfl
theorem gantlineref1_Bit.of {x0 : Int} {x1 : Int} {h : H} {K : Bool → H → Prop} (hs : gantlineref1_Bit.S x0 x1 h K) : gantlineref1_Bit.C x0 x1 h K := by
  unfold gantlineref1_Bit.C
  exact callK_of mixed Tryz.func54 Tryz.call54 (by kernel_rfl) (Eq.mp (gantlineref1_Bit.R x0 x1 h K) hs)

-- 55 (*gantline/arena.Arena).Class
def arena_Arena_Class.S (x0 : Option Addr) (x1 : Int) (h : H) (K : Int → H → Prop) : Prop :=
  arena_Arena_has.C x0 x1 h (fun b3 h2 => split (!b3) (K (-1) h2) (nilC x0 (fun a4 => ldL h2 (Addr.add a4 1) (fun p5 k6 k7 => idx p5 k6 x1 3 (fun a8 => ldI h2 (Addr.add a8 0) .i64 (fun n9 => K n9 h2))))))
theorem arena_Arena_Class.R (x0 : Option Addr) (x1 : Int) (h : H) (K : Int → H → Prop) : arena_Arena_Class.S x0 x1 h K = funW Tryz.prog Tryz.f55 19 [(.pointer x0), (.int .i64 x1)] h (resK (false, [(false, [(.i .i64)])]) K) := by kernel_rfl
theorem arena_Arena_Class.of {x0 : Option Addr} {x1 : Int} {h : H} {K : Int → H → Prop} (hs : arena_Arena_Class.S x0 x1 h K) : arena_Arena_Class.C x0 x1 h K := by
  unfold arena_Arena_Class.C
  exact callK_of mixed Tryz.func55 Tryz.call55 (by kernel_rfl) (Eq.mp (arena_Arena_Class.R x0 x1 h K) hs)

-- 56 gantline/cycle.New
def cycle_New.S (x0 : Int) (h : H) (K : Option Addr → Int → H → Prop) : Prop :=
  arena_New.C x0 h (fun p5 n6 h2 => split (n6 != 0) (K none n6 h2) (head_New.C  h2 (fun p9 h8 => alloc_New.C p5 h8 (fun p12 h11 => mark_New.C p5 p9 h11 (fun p15 h14 => rawV Tryz.prog (Instr.makeMap 141 none) h14 (fun v16 h17 => exM v16 (fun p18 => newC h17 [(.pointer p5), (.pointer p9), (.pointer p12), (.pointer p15), (.int .i64 0), (.map p18), (.int .i64 0), (.int .i64 64)] 143 (fun a19 h20 => K (some a19) 0 h20))))))))
theorem cycle_New.R (x0 : Int) (h : H) (K : Option Addr → Int → H → Prop) : cycle_New.S x0 h K = funW Tryz.prog Tryz.f56 125 [(.int .i64 x0)] h (resK (true, [(false, [.p]), (false, [(.i .i64)])]) K) := by kernel_rfl
theorem cycle_New.of {x0 : Int} {h : H} {K : Option Addr → Int → H → Prop} (hs : cycle_New.S x0 h K) : cycle_New.C x0 h K := by
  unfold cycle_New.C
  exact callK_of mixed Tryz.func56 Tryz.call56 (by kernel_rfl) (Eq.mp (cycle_New.R x0 h K) hs)

-- 57 (*gantline/cycle.Cycle).Table
def cycle_Cycle_Table.S (x0 : Option Addr) (h : H) (K : Option Addr → H → Prop) : Prop :=
  nilC x0 (fun a1 => ldP h (Addr.add a1 1) (fun p2 => K p2 h))
theorem cycle_Cycle_Table.R (x0 : Option Addr) (h : H) (K : Option Addr → H → Prop) : cycle_Cycle_Table.S x0 h K = funW Tryz.prog Tryz.f57 5 [(.pointer x0)] h (resK (false, [(false, [.p])]) K) := by kernel_rfl
theorem cycle_Cycle_Table.of {x0 : Option Addr} {h : H} {K : Option Addr → H → Prop} (hs : cycle_Cycle_Table.S x0 h K) : cycle_Cycle_Table.C x0 h K := by
  unfold cycle_Cycle_Table.C
  exact callK_of mixed Tryz.func57 Tryz.call57 (by kernel_rfl) (Eq.mp (cycle_Cycle_Table.R x0 h K) hs)

-- 58 (*gantline/cycle.Cycle).Take
def cycle_Cycle_Take.S (x0 : Option Addr) (x1 : Int) (h : H) (K : Int → Int → H → Prop) : Prop :=
  nilC x0 (fun a1 => ldP h (Addr.add a1 2) (fun p2 => alloc_Alloc_Take.C p2 x1 h (fun n7 n8 h4 => joinP (fun (h9 : H) => K n7 n8 h9) (fun J10 => split (n8 == 0) (cycle_Cycle_shades.C x0 h4 (fun b13 h12 => split b13 (nilC x0 (fun a14 => ldP h12 (Addr.add a14 0) (fun p15 => arena_Arena_Mark.C p15 n7 h12 (fun b18 h17 => J10 h17)))) (J10 h12))) (J10 h4)))))
theorem cycle_Cycle_Take.R (x0 : Option Addr) (x1 : Int) (h : H) (K : Int → Int → H → Prop) : cycle_Cycle_Take.S x0 x1 h K = funW Tryz.prog Tryz.f58 243 [(.pointer x0), (.int .i64 x1)] h (resK (true, [(false, [(.i .i64)]), (false, [(.i .i64)])]) K) := by kernel_rfl
theorem cycle_Cycle_Take.of {x0 : Option Addr} {x1 : Int} {h : H} {K : Int → Int → H → Prop} (hs : cycle_Cycle_Take.S x0 x1 h K) : cycle_Cycle_Take.C x0 x1 h K := by
  unfold cycle_Cycle_Take.C
  exact callK_of mixed Tryz.func58 Tryz.call58 (by kernel_rfl) (Eq.mp (cycle_Cycle_Take.R x0 x1 h K) hs)

-- 59 (*gantline/cycle.Cycle).Barrier
def cycle_Cycle_Barrier.S (x0 : Option Addr) (x1 : Int) (x2 : Int) (x3 : Int) (h : H) (K : H → Prop) : Prop :=
  cycle_Cycle_shades.C x0 h (fun b3 h2 => split (!b3) (K h2) (nilC x0 (fun a4 => ldP h2 (Addr.add a4 3) (fun p5 => mark_Marker_Shade.C p5 x1 h2 (fun b8 h7 => nilC x0 (fun a9 => ldM h7 (Addr.add a9 5) (fun p10 => rawV Tryz.prog (Instr.lookup 141 (.map p10) (.int .i64 x3) false) h7 (fun v11 h12 => exB v11 (fun b13 => split (!b13) (nilC x0 (fun a14 => ldP h12 (Addr.add a14 3) (fun p15 => mark_Marker_Shade.C p15 x2 h12 (fun b18 h17 => K h17)))) (K h12))))))))))
theorem cycle_Cycle_Barrier.R (x0 : Option Addr) (x1 : Int) (x2 : Int) (x3 : Int) (h : H) (K : H → Prop) : cycle_Cycle_Barrier.S x0 x1 x2 x3 h K = funW Tryz.prog Tryz.f59 15 [(.pointer x0), (.int .i64 x1), (.int .i64 x2), (.int .i64 x3)] h (resK (true, []) K) := by kernel_rfl
theorem cycle_Cycle_Barrier.of {x0 : Option Addr} {x1 : Int} {x2 : Int} {x3 : Int} {h : H} {K : H → Prop} (hs : cycle_Cycle_Barrier.S x0 x1 x2 x3 h K) : cycle_Cycle_Barrier.C x0 x1 x2 x3 h K := by
  unfold cycle_Cycle_Barrier.C
  exact callK_of mixed Tryz.func59 Tryz.call59 (by kernel_rfl) (Eq.mp (cycle_Cycle_Barrier.R x0 x1 x2 x3 h K) hs)

-- 60 (*gantline/cycle.Cycle).Born
def cycle_Cycle_Born.S (x0 : Option Addr) (x1 : Int) (h : H) (K : H → Prop) : Prop :=
  cycle_Cycle_shades.C x0 h (fun b3 h2 => split b3 (nilC x0 (fun a4 => ldM h2 (Addr.add a4 5) (fun p5 => rawU Tryz.prog (Instr.mapUpdate 141 (.map p5) (.int .i64 x1) (.bool true)) h2 (fun h6 => K h6)))) (K h2))
theorem cycle_Cycle_Born.R (x0 : Option Addr) (x1 : Int) (h : H) (K : H → Prop) : cycle_Cycle_Born.S x0 x1 h K = funW Tryz.prog Tryz.f60 3 [(.pointer x0), (.int .i64 x1)] h (resK (true, []) K) := by kernel_rfl
theorem cycle_Cycle_Born.of {x0 : Option Addr} {x1 : Int} {h : H} {K : H → Prop} (hs : cycle_Cycle_Born.S x0 x1 h K) : cycle_Cycle_Born.C x0 x1 h K := by
  unfold cycle_Cycle_Born.C
  exact callK_of mixed Tryz.func60 Tryz.call60 (by kernel_rfl) (Eq.mp (cycle_Cycle_Born.R x0 x1 h K) hs)

-- 61 (*gantline/cycle.Cycle).Dies
def cycle_Cycle_Dies.S (x0 : Option Addr) (x1 : Int) (h : H) (K : H → Prop) : Prop :=
  nilC x0 (fun a1 => ldM h (Addr.add a1 5) (fun p2 => rawN Tryz.prog (builtin .delete #[141, 3] 0 #[false, false] #[(.map p2), (.int .i64 x1)]) h (fun v3 h4 => exTup0 v3 (K h4))))
theorem cycle_Cycle_Dies.R (x0 : Option Addr) (x1 : Int) (h : H) (K : H → Prop) : cycle_Cycle_Dies.S x0 x1 h K = funW Tryz.prog Tryz.f61 3 [(.pointer x0), (.int .i64 x1)] h (resK (true, []) K) := by kernel_rfl
theorem cycle_Cycle_Dies.of {x0 : Option Addr} {x1 : Int} {h : H} {K : H → Prop} (hs : cycle_Cycle_Dies.S x0 x1 h K) : cycle_Cycle_Dies.C x0 x1 h K := by
  unfold cycle_Cycle_Dies.C
  exact callK_of mixed Tryz.func61 Tryz.call61 (by kernel_rfl) (Eq.mp (cycle_Cycle_Dies.R x0 x1 h K) hs)

-- 62 (*gantline/cycle.Cycle).Scan
def cycle_Cycle_Scan.S (x0 : Option Addr) (x1t : TypeId) (x1v : Value) (x2 : Int) (h : H) (K : Bool → H → Prop) : Prop :=
  joinP (fun (h1 : H) => rawN Tryz.prog (callMethod (.iface x1t x1v) "Stack" #[(.int .i64 x2)]) h1 (fun v2 h3 => exL v2 (fun p4 k5 k6 => cycle_Cycle_shade.C x0 p4 k5 k6 h3 (fun h8 => nilC x0 (fun a9 => ldM h8 (Addr.add a9 5) (fun p10 => rawU Tryz.prog (Instr.mapUpdate 141 (.map p10) (.int .i64 x2) (.bool true)) h8 (fun h11 => K true h11))))))) (fun J12 => cycle_Cycle_shades.C x0 h (fun b15 h14 => split (!b15) (K false h14) (nilC x0 (fun a16 => ldM h14 (Addr.add a16 5) (fun p17 => rawV Tryz.prog (Instr.lookup 141 (.map p17) (.int .i64 x2) false) h14 (fun v18 h19 => exB v18 (fun b20 => split b20 (K false h19) (rawN Tryz.prog (callMethod (.iface x1t x1v) "Stacks" #[]) h19 (fun v21 h22 => exL v21 (fun p23 k24 k25 => slices_Contains_int_int.C p23 k24 k25 x2 h22 (fun b28 h27 => split (!b28) (K false h27) (J12 h27))))))))))))
theorem cycle_Cycle_Scan.R (x0 : Option Addr) (x1t : TypeId) (x1v : Value) (x2 : Int) (h : H) (K : Bool → H → Prop) : cycle_Cycle_Scan.S x0 x1t x1v x2 h K = funW Tryz.prog Tryz.f62 71 [(.pointer x0), (.iface x1t x1v), (.int .i64 x2)] h (resK (false, [(false, [.b])]) K) := by kernel_rfl
theorem cycle_Cycle_Scan.of {x0 : Option Addr} {x1t : TypeId} {x1v : Value} {x2 : Int} {h : H} {K : Bool → H → Prop} (hs : cycle_Cycle_Scan.S x0 x1t x1v x2 h K) : cycle_Cycle_Scan.C x0 x1t x1v x2 h K := by
  unfold cycle_Cycle_Scan.C
  exact callK_of mixed Tryz.func62 Tryz.call62 (by kernel_rfl) (Eq.mp (cycle_Cycle_Scan.R x0 x1t x1v x2 h K) hs)

-- 63 (*gantline/cycle.Cycle).Black
def cycle_Cycle_Black.S (x0 : Option Addr) (x1 : Int) (h : H) (K : Bool → H → Prop) : Prop :=
  nilC x0 (fun a1 => ldM h (Addr.add a1 5) (fun p2 => rawV Tryz.prog (Instr.lookup 141 (.map p2) (.int .i64 x1) false) h (fun v3 h4 => exB v3 (fun b5 => K b5 h4))))
theorem cycle_Cycle_Black.R (x0 : Option Addr) (x1 : Int) (h : H) (K : Bool → H → Prop) : cycle_Cycle_Black.S x0 x1 h K = funW Tryz.prog Tryz.f63 19 [(.pointer x0), (.int .i64 x1)] h (resK (false, [(false, [.b])]) K) := by kernel_rfl
theorem cycle_Cycle_Black.of {x0 : Option Addr} {x1 : Int} {h : H} {K : Bool → H → Prop} (hs : cycle_Cycle_Black.S x0 x1 h K) : cycle_Cycle_Black.C x0 x1 h K := by
  unfold cycle_Cycle_Black.C
  exact callK_of mixed Tryz.func63 Tryz.call63 (by kernel_rfl) (Eq.mp (cycle_Cycle_Black.R x0 x1 h K) hs)

-- 64 (*gantline/cycle.Cycle).Wants
def cycle_Cycle_Wants.S (x0 : Option Addr) (h : H) (K : Bool → H → Prop) : Prop :=
  nilC x0 (fun a1 => ldI h (Addr.add a1 4) .i64 (fun n2 => split (n2 == 0) (nilC x0 (fun a3 => nilC x0 (fun a4 => ldP h (Addr.add a3 2) (fun p5 => ldI h (Addr.add a4 7) .i64 (fun n6 => alloc_Alloc_Used.C p5 h (fun n9 h8 => need (ldI h8 (Addr.add a4 7) .i64 (fun n10 => ((.int .i64 n10) : Value) = (.int .i64 n6))) (need (ldI h8 (Addr.add a1 4) .i64 (fun n11 => ((.int .i64 n11) : Value) = (.int .i64 n2))) (K (decide (n9 ≥ (IntKind.wrap .i64 (2 * n6)))) h8)))))))) (K false h)))
theorem cycle_Cycle_Wants.R (x0 : Option Addr) (h : H) (K : Bool → H → Prop) : cycle_Cycle_Wants.S x0 h K = funW Tryz.prog Tryz.f64 5 [(.pointer x0)] h (resK (false, [(false, [.b])]) K) := by kernel_rfl
theorem cycle_Cycle_Wants.of {x0 : Option Addr} {h : H} {K : Bool → H → Prop} (hs : cycle_Cycle_Wants.S x0 h K) : cycle_Cycle_Wants.C x0 h K := by
  unfold cycle_Cycle_Wants.C
  exact callK_of mixed Tryz.func64 Tryz.call64 (by kernel_rfl) (Eq.mp (cycle_Cycle_Wants.R x0 h K) hs)

-- 65 gantline/gantlineref4.NewCycle
def gantlineref4_NewCycle.S (x0 : Int) (h : H) (K : Option Addr → H → Prop) : Prop :=
  gantlineref4_NewArena.C x0 h (fun p3 h2 => gantlineref4_NewAlloc.C p3 h2 (fun p6 h5 => newC h5 [(.pointer p3), (.slice none 0 0), (.slice none 0 0)] 76 (fun a7 h8 => newC h8 [(.pointer p3), (.pointer p6), (.pointer (some a7)), (.int .i64 0), (.slice none 0 0), (.int .i64 0), (.int .i64 64)] 127 (fun a9 h10 => K (some a9) h10))))
theorem gantlineref4_NewCycle.R (x0 : Int) (h : H) (K : Option Addr → H → Prop) : gantlineref4_NewCycle.S x0 h K = funW Tryz.prog Tryz.f65 13 [(.int .i64 x0)] h (resK (false, [(false, [.p])]) K) := by kernel_rfl
theorem gantlineref4_NewCycle.of {x0 : Int} {h : H} {K : Option Addr → H → Prop} (hs : gantlineref4_NewCycle.S x0 h K) : gantlineref4_NewCycle.C x0 h K := by
  unfold gantlineref4_NewCycle.C
  exact callK_of mixed Tryz.func65 Tryz.call65 (by kernel_rfl) (Eq.mp (gantlineref4_NewCycle.R x0 h K) hs)

-- 66 gantline/gantlinelaw8.shapes
def gantlinelaw8_shapes.S  (h : H) (K : Option Addr → Nat → Nat → H → Prop) : Prop :=
  newC h [(.int .i64 0), (.int .i64 0), (.int .u64 0), (.int .i64 0), (.int .i64 1), (.int .u64 1), (.int .i64 0), (.int .i64 2), (.int .u64 2), (.int .i64 0), (.int .i64 3), (.int .u64 5), (.int .i64 1), (.int .i64 0), (.int .u64 1), (.int .i64 1), (.int .i64 0), (.int .u64 0)] 86 (fun a1 h2 => K (some a1) 6 6 h2)
theorem gantlinelaw8_shapes.R  (h : H) (K : Option Addr → Nat → Nat → H → Prop) : gantlinelaw8_shapes.S  h K = funW Tryz.prog Tryz.f66 1 [] h (resK (false, [(false, [.l])]) K) := by kernel_rfl
theorem gantlinelaw8_shapes.of  {h : H} {K : Option Addr → Nat → Nat → H → Prop} (hs : gantlinelaw8_shapes.S  h K) : gantlinelaw8_shapes.C  h K := by
  unfold gantlinelaw8_shapes.C
  exact callK_of mixed Tryz.func66 Tryz.call66 (by kernel_rfl) (Eq.mp (gantlinelaw8_shapes.R  h K) hs)

-- 67 gantline/gantlinelaw8.size
def gantlinelaw8_size.S (x0_0 : Int) (x0_1 : Int) (x0_2p : Option Addr) (x0_2n : Nat) (x0_2c : Nat) (h : H) (K : Int → H → Prop) : Prop :=
  newC h [(.int .i64 x0_0), (.int .i64 x0_1), (.slice x0_2p x0_2n x0_2c)] 42 (fun a1 h2 => ldI h2 (Addr.add a1 0) .i64 (fun n3 => need (((6 : Int) ≠ 0)) (split (decide ((Int.tmod (bitsI .and .i64 n3 7) 6) < 4)) (K (IntKind.wrap .i64 ((Int.tmod (bitsI .and .i64 n3 7) 6) + 1)) h2) (ldI h2 (Addr.add a1 1) .i64 (fun n4 => joinP (fun (n5 : Int) (h6 : H) => K n5 h6) (fun J7 => split (decide ((bitsI .and .i64 n4 63) < 1)) (J7 1 h2) (J7 (bitsI .and .i64 n4 63) h2)))))))
theorem gantlinelaw8_size.R (x0_0 : Int) (x0_1 : Int) (x0_2p : Option Addr) (x0_2n : Nat) (x0_2c : Nat) (h : H) (K : Int → H → Prop) : gantlinelaw8_size.S x0_0 x0_1 x0_2p x0_2n x0_2c h K = funW Tryz.prog Tryz.f67 31 [(.agg #[(.int .i64 x0_0), (.int .i64 x0_1), (.slice x0_2p x0_2n x0_2c)])] h (resK (false, [(false, [(.i .i64)])]) K) := by kernel_rfl
theorem gantlinelaw8_size.of {x0_0 : Int} {x0_1 : Int} {x0_2p : Option Addr} {x0_2n : Nat} {x0_2c : Nat} {h : H} {K : Int → H → Prop} (hs : gantlinelaw8_size.S x0_0 x0_1 x0_2p x0_2n x0_2c h K) : gantlinelaw8_size.C x0_0 x0_1 x0_2p x0_2n x0_2c h K := by
  unfold gantlinelaw8_size.C
  exact callK_of mixed Tryz.func67 Tryz.call67 (by kernel_rfl) (Eq.mp (gantlinelaw8_size.R x0_0 x0_1 x0_2p x0_2n x0_2c h K) hs)

-- 68 (*gantline/gantlineref4.Cycle).Take
def gantlineref4_Cycle_Take.S (x0 : Option Addr) (x1 : Int) (h : H) (K : Int → H → Prop) : Prop :=
  nilC x0 (fun a1 => ldP h (Addr.add a1 1) (fun p2 => gantlineref4_Alloc_Take.C p2 x1 h (fun n5 h4 => joinP (fun (h6 : H) => K n5 h6) (fun J7 => split (n5 != 0) (gantlineref4_Cycle_marking.C x0 h4 (fun b10 h9 => split b10 (nilC x0 (fun a11 => ldP h9 (Addr.add a11 0) (fun p12 => gantlineref4_Arena_Mark.C p12 n5 h9 (fun b15 h14 => J7 h14)))) (J7 h9))) (J7 h4)))))
theorem gantlineref4_Cycle_Take.R (x0 : Option Addr) (x1 : Int) (h : H) (K : Int → H → Prop) : gantlineref4_Cycle_Take.S x0 x1 h K = funW Tryz.prog Tryz.f68 51 [(.pointer x0), (.int .i64 x1)] h (resK (false, [(false, [(.i .i64)])]) K) := by kernel_rfl
theorem gantlineref4_Cycle_Take.of {x0 : Option Addr} {x1 : Int} {h : H} {K : Int → H → Prop} (hs : gantlineref4_Cycle_Take.S x0 x1 h K) : gantlineref4_Cycle_Take.C x0 x1 h K := by
  unfold gantlineref4_Cycle_Take.C
  exact callK_of mixed Tryz.func68 Tryz.call68 (by kernel_rfl) (Eq.mp (gantlineref4_Cycle_Take.R x0 x1 h K) hs)

-- 69 (*gantline/gantlinelaw8.player).put
def gantlinelaw8_player_put.S (x0 : Option Addr) (x1 : Int) (x2 : Int) (x3 : Int) (h : H) (K : H → Prop) : Prop :=
  nilC x0 (fun a1 => ldP h (Addr.add a1 0) (fun p2 => cycle_Cycle_Arena.C p2 h (fun p5 h4 => arena_Arena_Write.C p5 x1 x2 x3 h4 (fun n8 h7 => nilC x0 (fun a9 => ldP h7 (Addr.add a9 1) (fun p10 => nilC p10 (fun a11 => ldP h7 (Addr.add a11 0) (fun p12 => gantlineref4_Arena_Find.C p12 x1 h7 (fun n15 h14 => split (decide (n15 ≥ 0)) (nilC x0 (fun a16 => ldP h14 (Addr.add a16 1) (fun p17 => nilC p17 (fun a18 => ldP h14 (Addr.add a18 0) (fun p19 => nilC p19 (fun a20 => ldL h14 (Addr.add a20 1) (fun p21 k22 k23 => idx p21 k22 n15 3 (fun a24 => ldL h14 (Addr.add a24 1) (fun p25 k26 k27 => split (decide (x2 < ((k26 : Nat) : Int))) (nilC x0 (fun a28 => ldP h14 (Addr.add a28 1) (fun p29 => nilC p29 (fun a30 => ldP h14 (Addr.add a30 0) (fun p31 => nilC p31 (fun a32 => ldL h14 (Addr.add a32 1) (fun p33 k34 k35 => idx p33 k34 n15 3 (fun a36 => ldL h14 (Addr.add a36 1) (fun p37 k38 k39 => idx p37 k38 x2 1 (fun a40 => stC h14 (Addr.add a40 0) (.int .i64 x3) (fun h41 => K h41))))))))))) (K h14)))))))))) (K h14))))))))))
theorem gantlinelaw8_player_put.R (x0 : Option Addr) (x1 : Int) (x2 : Int) (x3 : Int) (h : H) (K : H → Prop) : gantlinelaw8_player_put.S x0 x1 x2 x3 h K = funW Tryz.prog Tryz.f69 271 [(.pointer x0), (.int .i64 x1), (.int .i64 x2), (.int .i64 x3)] h (resK (true, []) K) := by kernel_rfl
theorem gantlinelaw8_player_put.of {x0 : Option Addr} {x1 : Int} {x2 : Int} {x3 : Int} {h : H} {K : H → Prop} (hs : gantlinelaw8_player_put.S x0 x1 x2 x3 h K) : gantlinelaw8_player_put.C x0 x1 x2 x3 h K := by
  unfold gantlinelaw8_player_put.C
  exact callK_of mixed Tryz.func69 Tryz.call69 (by kernel_rfl) (Eq.mp (gantlinelaw8_player_put.R x0 x1 x2 x3 h K) hs)

-- 70 (*gantline/gantlineref4.Cycle).Start
def gantlineref4_Cycle_Start.S (x0 : Option Addr) (x1_0p : Option Addr) (x1_0n : Nat) (x1_0c : Nat) (x1_1p : Option Addr) (x1_1n : Nat) (x1_1c : Nat) (x1_2p : Option Addr) (x1_2n : Nat) (x1_2c : Nat) (h : H) (K : Bool → H → Prop) : Prop :=
  newC h [(.slice x1_0p x1_0n x1_0c), (.slice x1_1p x1_1n x1_1c), (.slice x1_2p x1_2n x1_2c)] 133 (fun a1 h2 => nilC x0 (fun a3 => ldI h2 (Addr.add a3 3) .i64 (fun n4 => split (n4 != 0) (K false h2) (nilC x0 (fun a5 => ldP h2 (Addr.add a5 0) (fun p6 => gantlineref4_Arena_Clear.C p6 h2 (fun h8 => nilC x0 (fun a9 => stC h8 (Addr.add (Addr.add a9 3) 0) (.int .i64 1) (fun h10 => nilC x0 (fun a11 => stC h10 (Addr.add (Addr.add a11 4) 0) (.slice none 0 0) (fun h12 => loopT (σ := (Int × Unit)) (fun J13 s14 h15 => ldL h15 (Addr.add a1 0) (fun p16 k17 k18 => split (decide (s14.1 < ((k17 : Nat) : Int))) (nilC x0 (fun a19 => ldP h15 (Addr.add a19 2) (fun p20 => ldL h15 (Addr.add a1 0) (fun p21 k22 k23 => idx p21 k22 s14.1 1 (fun a24 => ldI h15 a24 .i64 (fun n25 => gantlineref4_Marker_Shade.C p20 n25 h15 (fun b28 h27 => need (ldL h27 (Addr.add a1 0) (fun p29 k30 k31 => ((.slice p29 k30 k31) : Value) = (.slice p21 k22 k23))) (J13 ((IntKind.wrap .i64 (s14.1 + 1)), ()) h27)))))))) (K true h15))) (0, ()) h12)))))))))))
theorem gantlineref4_Cycle_Start.R (x0 : Option Addr) (x1_0p : Option Addr) (x1_0n : Nat) (x1_0c : Nat) (x1_1p : Option Addr) (x1_1n : Nat) (x1_1c : Nat) (x1_2p : Option Addr) (x1_2n : Nat) (x1_2c : Nat) (h : H) (K : Bool → H → Prop) : gantlineref4_Cycle_Start.S x0 x1_0p x1_0n x1_0c x1_1p x1_1n x1_1c x1_2p x1_2n x1_2c h K = funW Tryz.prog Tryz.f70 59 [(.pointer x0), (.agg #[(.slice x1_0p x1_0n x1_0c), (.slice x1_1p x1_1n x1_1c), (.slice x1_2p x1_2n x1_2c)])] h (resK (false, [(false, [.b])]) K) := by kernel_rfl
theorem gantlineref4_Cycle_Start.of {x0 : Option Addr} {x1_0p : Option Addr} {x1_0n : Nat} {x1_0c : Nat} {x1_1p : Option Addr} {x1_1n : Nat} {x1_1c : Nat} {x1_2p : Option Addr} {x1_2n : Nat} {x1_2c : Nat} {h : H} {K : Bool → H → Prop} (hs : gantlineref4_Cycle_Start.S x0 x1_0p x1_0n x1_0c x1_1p x1_1n x1_1c x1_2p x1_2n x1_2c h K) : gantlineref4_Cycle_Start.C x0 x1_0p x1_0n x1_0c x1_1p x1_1n x1_1c x1_2p x1_2n x1_2c h K := by
  unfold gantlineref4_Cycle_Start.C
  exact callK_of mixed Tryz.func70 Tryz.call70 (by kernel_rfl) (Eq.mp (gantlineref4_Cycle_Start.R x0 x1_0p x1_0n x1_0c x1_1p x1_1n x1_1c x1_2p x1_2n x1_2c h K) hs)

-- 71 (*gantline/gantlinelaw8.holder).own
def gantlinelaw8_holder_own.S (x0 : Option Addr) (h : H) (K : Option Addr → Nat → Nat → Option Addr → Nat → Nat → Option Addr → Nat → Nat → H → Prop) : Prop :=
  newC h [(.slice none 0 0), (.slice none 0 0), (.slice none 0 0)] 133 (fun a1 h2 => gantlinelaw8_holder_Globals.C x0 h2 (fun p5 k6 k7 h4 => newC h4 [(.slice none 0 0), (.slice none 0 0), (.slice none 0 0)] 133 (fun a8 h9 => stC h9 (Addr.add a8 0) (.slice p5 k6 k7) (fun h10 => stC h10 (Addr.add a8 1) (.slice none 0 0) (fun h11 => stC h11 (Addr.add a8 2) (.slice none 0 0) (fun h12 => loopT (σ := (Int × Unit)) (fun J13 s14 h15 => split (decide (s14.1 < 4)) (joinP (fun (h16 : H) => J13 ((IntKind.wrap .i64 (s14.1 + 1)), ()) h16) (fun J17 => nilC x0 (fun a18 => idxA (Addr.add a18 5) 4 s14.1 1 (fun a19 => ldB h15 a19 (fun b20 => split b20 (ldL h15 (Addr.add a8 1) (fun p21 k22 k23 => newC h15 [(.int .i64 (IntKind.wrap .i64 (s14.1 + 1)))] 3 (fun a24 h25 => rawN Tryz.prog (builtin .append #[23, 23] 23 #[false, false] #[(.slice p21 k22 k23), (.slice (some a24) 1 1)]) h25 (fun v26 h27 => exL v26 (fun p28 k29 k30 => stC h27 (Addr.add (Addr.add a8 1) 0) (.slice p28 k29 k30) (fun h31 => ldL h31 (Addr.add a8 2) (fun p32 k33 k34 => gantlinelaw8_holder_Stack.C x0 (IntKind.wrap .i64 (s14.1 + 1)) h31 (fun p37 k38 k39 h36 => need (ldL h36 (Addr.add a8 2) (fun p40 k41 k42 => ((.slice p40 k41 k42) : Value) = (.slice p32 k33 k34))) (newC h36 [(.slice p37 k38 k39)] 28 (fun a43 h44 => need (ldL h44 (Addr.add a8 2) (fun p45 k46 k47 => ((.slice p45 k46 k47) : Value) = (.slice p32 k33 k34))) (rawN Tryz.prog (builtin .append #[131, 131] 131 #[false, false] #[(.slice p32 k33 k34), (.slice (some a43) 1 1)]) h44 (fun v48 h49 => exL v48 (fun p50 k51 k52 => stC h49 (Addr.add (Addr.add a8 2) 0) (.slice p50 k51 k52) (fun h53 => J17 h53)))))))))))))) (J17 h15)))))) (ldL h15 (Addr.add a8 0) (fun p54 k55 k56 => ldL h15 (Addr.add a8 1) (fun p57 k58 k59 => ldL h15 (Addr.add a8 2) (fun p60 k61 k62 => stC h15 (Addr.add a1 0) (.slice p54 k55 k56) (fun h63 => stC h63 (Addr.add a1 1) (.slice p57 k58 k59) (fun h64 => stC h64 (Addr.add a1 2) (.slice p60 k61 k62) (fun h65 => ldL h65 (Addr.add a1 0) (fun p66 k67 k68 => ldL h65 (Addr.add a1 1) (fun p69 k70 k71 => ldL h65 (Addr.add a1 2) (fun p72 k73 k74 => K p66 k67 k68 p69 k70 k71 p72 k73 k74 h65))))))))))) (0, ()) h12))))))
theorem gantlinelaw8_holder_own.R (x0 : Option Addr) (h : H) (K : Option Addr → Nat → Nat → Option Addr → Nat → Nat → Option Addr → Nat → Nat → H → Prop) : gantlinelaw8_holder_own.S x0 h K = funW Tryz.prog Tryz.f71 29 [(.pointer x0)] h (resK (false, [(true, [.l, .l, .l])]) K) := by kernel_rfl
theorem gantlinelaw8_holder_own.of {x0 : Option Addr} {h : H} {K : Option Addr → Nat → Nat → Option Addr → Nat → Nat → Option Addr → Nat → Nat → H → Prop} (hs : gantlinelaw8_holder_own.S x0 h K) : gantlinelaw8_holder_own.C x0 h K := by
  unfold gantlinelaw8_holder_own.C
  exact callK_of mixed Tryz.func71 Tryz.call71 (by kernel_rfl) (Eq.mp (gantlinelaw8_holder_own.R x0 h K) hs)

-- 72 (*gantline/gantlineref4.Cycle).Step
def gantlineref4_Cycle_Step.S (x0 : Option Addr) (x1_0p : Option Addr) (x1_0n : Nat) (x1_0c : Nat) (x1_1p : Option Addr) (x1_1n : Nat) (x1_1c : Nat) (x1_2p : Option Addr) (x1_2n : Nat) (x1_2c : Nat) (h : H) (K : Bool → H → Prop) : Prop :=
  newC h [(.slice x1_0p x1_0n x1_0c), (.slice x1_1p x1_1n x1_1c), (.slice x1_2p x1_2n x1_2c)] 133 (fun a1 h2 => joinP (fun (h3 : H) => K true h3) (fun J4 => nilC x0 (fun a5 => ldI h2 (Addr.add a5 3) .i64 (fun n6 => split (n6 == 0) (K false h2) (split (n6 == 1) (ldL h2 (Addr.add a1 0) (fun p7 k8 k9 => ldL h2 (Addr.add a1 1) (fun p10 k11 k12 => ldL h2 (Addr.add a1 2) (fun p13 k14 k15 => gantlineref4_Cycle_white.C x0 p7 k8 k9 p10 k11 k12 p13 k14 k15 h2 (fun n18 h17 => split (decide (n18 < 0)) (nilC x0 (fun a19 => stC h17 (Addr.add (Addr.add a19 3) 0) (.int .i64 2) (fun h20 => K true h20))) (ldL h17 (Addr.add a1 0) (fun p21 k22 k23 => ldL h17 (Addr.add a1 1) (fun p24 k25 k26 => ldL h17 (Addr.add a1 2) (fun p27 k28 k29 => ldL h17 (Addr.add a1 1) (fun p30 k31 k32 => idx p30 k31 n18 1 (fun a33 => ldI h17 a33 .i64 (fun n34 => gantlineref4_Cycle_Scan.C x0 p21 k22 k23 p24 k25 k26 p27 k28 k29 n34 h17 (fun b37 h36 => need (ldL h36 (Addr.add a1 1) (fun p38 k39 k40 => ((.slice p38 k39 k40) : Value) = (.slice p30 k31 k32))) (J4 h36)))))))))))))) (split (n6 == 2) (nilC x0 (fun a41 => ldP h2 (Addr.add a41 2) (fun p42 => gantlineref4_Marker_Step.C p42 h2 (fun b45 h44 => split b45 (K true h44) (ldL h44 (Addr.add a1 0) (fun p46 k47 k48 => ldL h44 (Addr.add a1 1) (fun p49 k50 k51 => ldL h44 (Addr.add a1 2) (fun p52 k53 k54 => gantlineref4_Cycle_white.C x0 p46 k47 k48 p49 k50 k51 p52 k53 k54 h44 (fun n57 h56 => split (decide (n57 ≥ 0)) (nilC x0 (fun a58 => stC h56 (Addr.add (Addr.add a58 3) 0) (.int .i64 1) (fun h59 => K true h59))) (nilC x0 (fun a60 => stC h56 (Addr.add (Addr.add a60 3) 0) (.int .i64 3) (fun h61 => nilC x0 (fun a62 => ldP h61 (Addr.add a62 1) (fun p63 => gantlineref4_Alloc_MakeStale.C p63 h61 (fun h65 => J4 h65))))))))))))))) (nilC x0 (fun a66 => ldP h2 (Addr.add a66 1) (fun p67 => gantlineref4_Alloc_SweepOne.C p67 h2 (fun b70 h69 => split (!b70) (nilC x0 (fun a71 => stC h69 (Addr.add (Addr.add a71 3) 0) (.int .i64 0) (fun h72 => nilC x0 (fun a73 => ldI h72 (Addr.add a73 5) .i64 (fun n74 => nilC x0 (fun a75 => stC h72 (Addr.add (Addr.add a75 5) 0) (.int .i64 (IntKind.wrap .i64 (n74 + 1))) (fun h76 => nilC x0 (fun a77 => ldP h76 (Addr.add a77 1) (fun p78 => gantlineref4_Alloc_Used.C p78 h76 (fun n81 h80 => nilC x0 (fun a82 => stC h80 (Addr.add (Addr.add a82 6) 0) (.int .i64 n81) (fun h83 => nilC x0 (fun a84 => ldI h83 (Addr.add a84 6) .i64 (fun n85 => split (decide (n85 < 64)) (nilC x0 (fun a86 => stC h83 (Addr.add (Addr.add a86 6) 0) (.int .i64 64) (fun h87 => J4 h87))) (J4 h83))))))))))))))) (J4 h69)))))))))))
theorem gantlineref4_Cycle_Step.R (x0 : Option Addr) (x1_0p : Option Addr) (x1_0n : Nat) (x1_0c : Nat) (x1_1p : Option Addr) (x1_1n : Nat) (x1_1c : Nat) (x1_2p : Option Addr) (x1_2n : Nat) (x1_2c : Nat) (h : H) (K : Bool → H → Prop) : gantlineref4_Cycle_Step.S x0 x1_0p x1_0n x1_0c x1_1p x1_1n x1_1c x1_2p x1_2n x1_2c h K = funW Tryz.prog Tryz.f72 571 [(.pointer x0), (.agg #[(.slice x1_0p x1_0n x1_0c), (.slice x1_1p x1_1n x1_1c), (.slice x1_2p x1_2n x1_2c)])] h (resK (false, [(false, [.b])]) K) := by kernel_rfl
theorem gantlineref4_Cycle_Step.of {x0 : Option Addr} {x1_0p : Option Addr} {x1_0n : Nat} {x1_0c : Nat} {x1_1p : Option Addr} {x1_1n : Nat} {x1_1c : Nat} {x1_2p : Option Addr} {x1_2n : Nat} {x1_2c : Nat} {h : H} {K : Bool → H → Prop} (hs : gantlineref4_Cycle_Step.S x0 x1_0p x1_0n x1_0c x1_1p x1_1n x1_1c x1_2p x1_2n x1_2c h K) : gantlineref4_Cycle_Step.C x0 x1_0p x1_0n x1_0c x1_1p x1_1n x1_1c x1_2p x1_2n x1_2c h K := by
  unfold gantlineref4_Cycle_Step.C
  exact callK_of mixed Tryz.func72 Tryz.call72 (by kernel_rfl) (Eq.mp (gantlineref4_Cycle_Step.R x0 x1_0p x1_0n x1_0c x1_1p x1_1n x1_1c x1_2p x1_2n x1_2c h K) hs)

-- 73 (*gantline/gantlineref4.Cycle).Scan
def gantlineref4_Cycle_Scan.S (x0 : Option Addr) (x1_0p : Option Addr) (x1_0n : Nat) (x1_0c : Nat) (x1_1p : Option Addr) (x1_1n : Nat) (x1_1c : Nat) (x1_2p : Option Addr) (x1_2n : Nat) (x1_2c : Nat) (x2 : Int) (h : H) (K : Bool → H → Prop) : Prop :=
  newC h [(.slice x1_0p x1_0n x1_0c), (.slice x1_1p x1_1n x1_1c), (.slice x1_2p x1_2n x1_2c)] 133 (fun a1 h2 => joinP (fun (h3 : H) => loopT (σ := (Int × Unit)) (fun J4 s5 h6 => ldL h6 (Addr.add a1 1) (fun p7 k8 k9 => split (decide (s5.1 < ((k8 : Nat) : Int))) (ldL h6 (Addr.add a1 1) (fun p10 k11 k12 => idx p10 k11 s5.1 1 (fun a13 => ldI h6 a13 .i64 (fun n14 => split (n14 == x2) (loopT (σ := (Int × Unit)) (fun J15 s16 h17 => ldL h17 (Addr.add a1 2) (fun p18 k19 k20 => idx p18 k19 s5.1 1 (fun a21 => ldL h17 a21 (fun p22 k23 k24 => split (decide (s16.1 < ((k23 : Nat) : Int))) (nilC x0 (fun a25 => ldP h17 (Addr.add a25 2) (fun p26 => ldL h17 (Addr.add a1 2) (fun p27 k28 k29 => idx p27 k28 s5.1 1 (fun a30 => ldL h17 a30 (fun p31 k32 k33 => idx p31 k32 s16.1 1 (fun a34 => ldI h17 a34 .i64 (fun n35 => gantlineref4_Marker_Shade.C p26 n35 h17 (fun b38 h37 => need (ldL h37 a30 (fun p39 k40 k41 => ((.slice p39 k40 k41) : Value) = (.slice p31 k32 k33))) (need (ldL h37 (Addr.add a1 2) (fun p42 k43 k44 => ((.slice p42 k43 k44) : Value) = (.slice p27 k28 k29))) (J15 ((IntKind.wrap .i64 (s16.1 + 1)), ()) h37))))))))))) (nilC x0 (fun a45 => ldL h17 (Addr.add a45 4) (fun p46 k47 k48 => newC h17 [(.int .i64 x2)] 3 (fun a49 h50 => rawN Tryz.prog (builtin .append #[23, 23] 23 #[false, false] #[(.slice p46 k47 k48), (.slice (some a49) 1 1)]) h50 (fun v51 h52 => exL v51 (fun p53 k54 k55 => nilC x0 (fun a56 => stC h52 (Addr.add (Addr.add a56 4) 0) (.slice p53 k54 k55) (fun h57 => K true h57)))))))))))) (0, ()) h6) (J4 ((IntKind.wrap .i64 (s5.1 + 1)), ()) h6))))) (K false h6))) (0, ()) h3) (fun J58 => gantlineref4_Cycle_marking.C x0 h2 (fun b61 h60 => split (!b61) (K false h60) (gantlineref4_Cycle_IsBlack.C x0 x2 h60 (fun b64 h63 => split b64 (K false h63) (J58 h63))))))
theorem gantlineref4_Cycle_Scan.R (x0 : Option Addr) (x1_0p : Option Addr) (x1_0n : Nat) (x1_0c : Nat) (x1_1p : Option Addr) (x1_1n : Nat) (x1_1c : Nat) (x1_2p : Option Addr) (x1_2n : Nat) (x1_2c : Nat) (x2 : Int) (h : H) (K : Bool → H → Prop) : gantlineref4_Cycle_Scan.S x0 x1_0p x1_0n x1_0c x1_1p x1_1n x1_1c x1_2p x1_2n x1_2c x2 h K = funW Tryz.prog Tryz.f73 471 [(.pointer x0), (.agg #[(.slice x1_0p x1_0n x1_0c), (.slice x1_1p x1_1n x1_1c), (.slice x1_2p x1_2n x1_2c)]), (.int .i64 x2)] h (resK (false, [(false, [.b])]) K) := by kernel_rfl
theorem gantlineref4_Cycle_Scan.of {x0 : Option Addr} {x1_0p : Option Addr} {x1_0n : Nat} {x1_0c : Nat} {x1_1p : Option Addr} {x1_1n : Nat} {x1_1c : Nat} {x1_2p : Option Addr} {x1_2n : Nat} {x1_2c : Nat} {x2 : Int} {h : H} {K : Bool → H → Prop} (hs : gantlineref4_Cycle_Scan.S x0 x1_0p x1_0n x1_0c x1_1p x1_1n x1_1c x1_2p x1_2n x1_2c x2 h K) : gantlineref4_Cycle_Scan.C x0 x1_0p x1_0n x1_0c x1_1p x1_1n x1_1c x1_2p x1_2n x1_2c x2 h K := by
  unfold gantlineref4_Cycle_Scan.C
  exact callK_of mixed Tryz.func73 Tryz.call73 (by kernel_rfl) (Eq.mp (gantlineref4_Cycle_Scan.R x0 x1_0p x1_0n x1_0c x1_1p x1_1n x1_1c x1_2p x1_2n x1_2c x2 h K) hs)

-- 74 (*gantline/gantlinelaw8.player).write
def gantlinelaw8_player_write.S (x0 : Option Addr) (x1_0 : Int) (x1_1 : Int) (x1_2 : Int) (x1_3 : Int) (x1_4 : Int) (x1_5 : Int) (x1_6 : Int) (x1_7 : Int) (x1_8p : Option Addr) (x1_8n : Nat) (x1_8c : Nat) (x2 : Int) (h : H) (K : Bool → H → Prop) : Prop :=
  newC h [(.int .i64 x1_0), (.int .i64 x1_1), (.int .i64 x1_2), (.int .i64 x1_3), (.int .i64 x1_4), (.int .i64 x1_5), (.int .i64 x1_6), (.int .i64 x1_7), (.slice x1_8p x1_8n x1_8c)] 44 (fun a1 h2 => ldI h2 (Addr.add a1 2) .i64 (fun n3 => gantlinelaw8_player_held.C x0 x2 n3 h2 (fun n6 h5 => ldI h5 (Addr.add a1 3) .i64 (fun n7 => gantlinelaw8_player_held.C x0 x2 n7 h5 (fun n10 h9 => joinP (fun (h11 : H) => nilC x0 (fun a12 => ldP h11 (Addr.add a12 0) (fun p13 => cycle_Cycle_Arena.C p13 h11 (fun p16 h15 => arena_Arena_Read.C p16 n6 0 h15 (fun n21 n22 h18 => head_Unpack.C n21 h18 (fun n30 n31 n32 n33 h24 => newC h24 [(.int .i64 0), (.int .i64 0), (.int .i64 0)] 95 (fun a34 h35 => stC h35 (Addr.add a34 0) (.int .i64 n30) (fun h36 => stC h36 (Addr.add a34 1) (.int .i64 n31) (fun h37 => stC h37 (Addr.add a34 2) (.int .i64 n32) (fun h38 => joinP (fun (h39 : H) => nilC x0 (fun a40 => ldP h39 (Addr.add a40 0) (fun p41 => ldI h39 (Addr.add a34 2) .i64 (fun n42 => need (cycle_Cycle_Table.C p41 h39 (fun p45 h44 => need (ldI h44 (Addr.add a34 2) .i64 (fun n46 => ((.int .i64 n46) : Value) = (.int .i64 n42))) (need (head_Table_Shape.C p45 n42 h44 (fun n54 n55 n56 n57 h48 => newC h48 [(.int .i64 0), (.int .i64 0), (.int .u64 0)] 86 (fun a58 h59 => stC h59 (Addr.add a58 0) (.int .i64 n54) (fun h60 => stC h60 (Addr.add a58 1) (.int .i64 n55) (fun h61 => stC h61 (Addr.add a58 2) (.int .u64 n56) (fun h62 => ldI h62 (Addr.add a1 4) .i64 (fun n63 => need (((64 : Int) ≠ 0)) (joinP (fun (h64 : H) => nilC x0 (fun a65 => ldP h64 (Addr.add a65 0) (fun p66 => cycle_Cycle_Arena.C p66 h64 (fun p69 h68 => arena_Arena_Read.C p69 n6 (IntKind.wrap .i64 (1 + (Int.tmod n63 64))) h68 (fun n74 n75 h71 => ldI h71 (Addr.add a1 0) .i64 (fun n76 => split (n76 == 9) (joinP (fun (h77 : H) => K true h77) (fun J78 => split (n74 != 0) (nilC x0 (fun a79 => nilC x0 (fun a80 => ldP h71 (Addr.add a79 2) (fun p81 => nilC p81 (fun a82 => ldP h71 (Addr.add a80 2) (fun p83 => nilC p83 (fun a84 => idxA (Addr.add a84 1) 4 x2 1 (fun a85 => ldL h71 a85 (fun p86 k87 k88 => newC h71 [(.int .i64 n74)] 2 (fun a89 h90 => need (ldL h90 a85 (fun p91 k92 k93 => ((.slice p91 k92 k93) : Value) = (.slice p86 k87 k88))) (need (ldP h90 (Addr.add a80 2) (fun p94 => ((.pointer p94) : Value) = (.pointer p83))) (need (ldP h90 (Addr.add a79 2) (fun p95 => ((.pointer p95) : Value) = (.pointer p81))) (rawN Tryz.prog (builtin .append #[28, 28] 28 #[false, false] #[(.slice p86 k87 k88), (.slice (some a89) 1 1)]) h90 (fun v96 h97 => exL v96 (fun p98 k99 k100 => need (ldP h97 (Addr.add a80 2) (fun p101 => ((.pointer p101) : Value) = (.pointer p83))) (need (ldP h97 (Addr.add a79 2) (fun p102 => ((.pointer p102) : Value) = (.pointer p81))) (idxA (Addr.add a82 1) 4 x2 1 (fun a103 => stC h97 (Addr.add a103 0) (.slice p98 k99 k100) (fun h104 => J78 h104))))))))))))))))))) (J78 h71))) (nilC x0 (fun a105 => ldP h71 (Addr.add a105 0) (fun p106 => cycle_Cycle_Barrier.C p106 n74 n10 (IntKind.wrap .i64 (x2 + 1)) h71 (fun h108 => nilC x0 (fun a109 => ldP h108 (Addr.add a109 1) (fun p110 => gantlineref4_Cycle_Barrier.C p110 n74 n10 (IntKind.wrap .i64 (x2 + 1)) h108 (fun h112 => gantlinelaw8_player_put.C x0 n6 (IntKind.wrap .i64 (1 + (Int.tmod n63 64))) n10 h112 (fun h114 => K true h114)))))))))))))) (fun J115 => split (n57 != 0) (K (n57 == 0) h62) (ldI h62 (Addr.add a58 0) .i64 (fun n116 => ldI h62 (Addr.add a58 1) .i64 (fun n117 => ldI h62 (Addr.add a58 2) .u64 (fun n118 => ldI h62 (Addr.add a34 0) .i64 (fun n119 => head_Shape_Holds.C n116 n117 n118 (Int.tmod n63 64) n119 h62 (fun b122 h121 => split (!b122) (K (n57 == 0) h121) (J115 h121)))))))))))))))) (newC h44 [(.int .i64 0), (.int .i64 0), (.int .u64 0)] 86 (fun a123 h124 => need (ldI h124 (Addr.add a34 2) .i64 (fun n125 => ((.int .i64 n125) : Value) = (.int .i64 n42))) (head_Table_Shape.C p45 n42 h124 (fun n133 n134 n135 n136 h127 => stC h127 (Addr.add a123 0) (.int .i64 n133) (fun h137 => stC h137 (Addr.add a123 1) (.int .i64 n134) (fun h138 => stC h138 (Addr.add a123 2) (.int .u64 n135) (fun h139 => ldI h139 (Addr.add a1 4) .i64 (fun n140 => need (((64 : Int) ≠ 0)) (joinP (fun (h141 : H) => nilC x0 (fun a142 => ldP h141 (Addr.add a142 0) (fun p143 => cycle_Cycle_Arena.C p143 h141 (fun p146 h145 => arena_Arena_Read.C p146 n6 (IntKind.wrap .i64 (1 + (Int.tmod n140 64))) h145 (fun n151 n152 h148 => ldI h148 (Addr.add a1 0) .i64 (fun n153 => split (n153 == 9) (joinP (fun (h154 : H) => K true h154) (fun J155 => split (n151 != 0) (nilC x0 (fun a156 => nilC x0 (fun a157 => ldP h148 (Addr.add a156 2) (fun p158 => nilC p158 (fun a159 => ldP h148 (Addr.add a157 2) (fun p160 => nilC p160 (fun a161 => idxA (Addr.add a161 1) 4 x2 1 (fun a162 => ldL h148 a162 (fun p163 k164 k165 => newC h148 [(.int .i64 n151)] 2 (fun a166 h167 => need (ldL h167 a162 (fun p168 k169 k170 => ((.slice p168 k169 k170) : Value) = (.slice p163 k164 k165))) (need (ldP h167 (Addr.add a157 2) (fun p171 => ((.pointer p171) : Value) = (.pointer p160))) (need (ldP h167 (Addr.add a156 2) (fun p172 => ((.pointer p172) : Value) = (.pointer p158))) (rawN Tryz.prog (builtin .append #[28, 28] 28 #[false, false] #[(.slice p163 k164 k165), (.slice (some a166) 1 1)]) h167 (fun v173 h174 => exL v173 (fun p175 k176 k177 => need (ldP h174 (Addr.add a157 2) (fun p178 => ((.pointer p178) : Value) = (.pointer p160))) (need (ldP h174 (Addr.add a156 2) (fun p179 => ((.pointer p179) : Value) = (.pointer p158))) (idxA (Addr.add a159 1) 4 x2 1 (fun a180 => stC h174 (Addr.add a180 0) (.slice p175 k176 k177) (fun h181 => J155 h181))))))))))))))))))) (J155 h148))) (nilC x0 (fun a182 => ldP h148 (Addr.add a182 0) (fun p183 => cycle_Cycle_Barrier.C p183 n151 n10 (IntKind.wrap .i64 (x2 + 1)) h148 (fun h185 => nilC x0 (fun a186 => ldP h185 (Addr.add a186 1) (fun p187 => gantlineref4_Cycle_Barrier.C p187 n151 n10 (IntKind.wrap .i64 (x2 + 1)) h185 (fun h189 => gantlinelaw8_player_put.C x0 n6 (IntKind.wrap .i64 (1 + (Int.tmod n140 64))) n10 h189 (fun h191 => K true h191)))))))))))))) (fun J192 => split (n136 != 0) (K (n136 == 0) h139) (ldI h139 (Addr.add a123 0) .i64 (fun n193 => ldI h139 (Addr.add a123 1) .i64 (fun n194 => ldI h139 (Addr.add a123 2) .u64 (fun n195 => ldI h139 (Addr.add a34 0) .i64 (fun n196 => head_Shape_Holds.C n193 n194 n195 (Int.tmod n140 64) n196 h139 (fun b199 h198 => split (!b199) (K (n136 == 0) h198) (J192 h198)))))))))))))))))))) (newC h39 [(.int .i64 0), (.int .i64 0), (.int .u64 0)] 86 (fun a200 h201 => need (ldI h201 (Addr.add a34 2) .i64 (fun n202 => ((.int .i64 n202) : Value) = (.int .i64 n42))) (need (ldP h201 (Addr.add a40 0) (fun p203 => ((.pointer p203) : Value) = (.pointer p41))) (cycle_Cycle_Table.C p41 h201 (fun p206 h205 => need (ldI h205 (Addr.add a34 2) .i64 (fun n207 => ((.int .i64 n207) : Value) = (.int .i64 n42))) (head_Table_Shape.C p206 n42 h205 (fun n215 n216 n217 n218 h209 => stC h209 (Addr.add a200 0) (.int .i64 n215) (fun h219 => stC h219 (Addr.add a200 1) (.int .i64 n216) (fun h220 => stC h220 (Addr.add a200 2) (.int .u64 n217) (fun h221 => ldI h221 (Addr.add a1 4) .i64 (fun n222 => need (((64 : Int) ≠ 0)) (joinP (fun (h223 : H) => nilC x0 (fun a224 => ldP h223 (Addr.add a224 0) (fun p225 => cycle_Cycle_Arena.C p225 h223 (fun p228 h227 => arena_Arena_Read.C p228 n6 (IntKind.wrap .i64 (1 + (Int.tmod n222 64))) h227 (fun n233 n234 h230 => ldI h230 (Addr.add a1 0) .i64 (fun n235 => split (n235 == 9) (joinP (fun (h236 : H) => K true h236) (fun J237 => split (n233 != 0) (nilC x0 (fun a238 => nilC x0 (fun a239 => ldP h230 (Addr.add a238 2) (fun p240 => nilC p240 (fun a241 => ldP h230 (Addr.add a239 2) (fun p242 => nilC p242 (fun a243 => idxA (Addr.add a243 1) 4 x2 1 (fun a244 => ldL h230 a244 (fun p245 k246 k247 => newC h230 [(.int .i64 n233)] 2 (fun a248 h249 => need (ldL h249 a244 (fun p250 k251 k252 => ((.slice p250 k251 k252) : Value) = (.slice p245 k246 k247))) (need (ldP h249 (Addr.add a239 2) (fun p253 => ((.pointer p253) : Value) = (.pointer p242))) (need (ldP h249 (Addr.add a238 2) (fun p254 => ((.pointer p254) : Value) = (.pointer p240))) (rawN Tryz.prog (builtin .append #[28, 28] 28 #[false, false] #[(.slice p245 k246 k247), (.slice (some a248) 1 1)]) h249 (fun v255 h256 => exL v255 (fun p257 k258 k259 => need (ldP h256 (Addr.add a239 2) (fun p260 => ((.pointer p260) : Value) = (.pointer p242))) (need (ldP h256 (Addr.add a238 2) (fun p261 => ((.pointer p261) : Value) = (.pointer p240))) (idxA (Addr.add a241 1) 4 x2 1 (fun a262 => stC h256 (Addr.add a262 0) (.slice p257 k258 k259) (fun h263 => J237 h263))))))))))))))))))) (J237 h230))) (nilC x0 (fun a264 => ldP h230 (Addr.add a264 0) (fun p265 => cycle_Cycle_Barrier.C p265 n233 n10 (IntKind.wrap .i64 (x2 + 1)) h230 (fun h267 => nilC x0 (fun a268 => ldP h267 (Addr.add a268 1) (fun p269 => gantlineref4_Cycle_Barrier.C p269 n233 n10 (IntKind.wrap .i64 (x2 + 1)) h267 (fun h271 => gantlinelaw8_player_put.C x0 n6 (IntKind.wrap .i64 (1 + (Int.tmod n222 64))) n10 h271 (fun h273 => K true h273)))))))))))))) (fun J274 => split (n218 != 0) (K (n218 == 0) h221) (ldI h221 (Addr.add a200 0) .i64 (fun n275 => ldI h221 (Addr.add a200 1) .i64 (fun n276 => ldI h221 (Addr.add a200 2) .u64 (fun n277 => ldI h221 (Addr.add a34 0) .i64 (fun n278 => head_Shape_Holds.C n275 n276 n277 (Int.tmod n222 64) n278 h221 (fun b281 h280 => split (!b281) (K (n218 == 0) h280) (J274 h280)))))))))))))))))))))))) (fun J282 => split (n22 != 0) (K false h38) (split (n33 != 0) (K false h38) (J282 h38))))))))))))) (fun J283 => split (n6 == 0) (K true h9) (nilC x0 (fun a284 => ldP h9 (Addr.add a284 2) (fun p285 => nilC p285 (fun a286 => idxA (Addr.add a286 5) 4 x2 1 (fun a287 => ldB h9 a287 (fun b288 => split (!b288) (K true h9) (ldI h9 (Addr.add a1 4) .i64 (fun n289 => split (decide (n289 < 0)) (K true h9) (J283 h9)))))))))))))))
theorem gantlinelaw8_player_write.R (x0 : Option Addr) (x1_0 : Int) (x1_1 : Int) (x1_2 : Int) (x1_3 : Int) (x1_4 : Int) (x1_5 : Int) (x1_6 : Int) (x1_7 : Int) (x1_8p : Option Addr) (x1_8n : Nat) (x1_8c : Nat) (x2 : Int) (h : H) (K : Bool → H → Prop) : gantlinelaw8_player_write.S x0 x1_0 x1_1 x1_2 x1_3 x1_4 x1_5 x1_6 x1_7 x1_8p x1_8n x1_8c x2 h K = funW Tryz.prog Tryz.f74 131031 [(.pointer x0), (.agg #[(.int .i64 x1_0), (.int .i64 x1_1), (.int .i64 x1_2), (.int .i64 x1_3), (.int .i64 x1_4), (.int .i64 x1_5), (.int .i64 x1_6), (.int .i64 x1_7), (.slice x1_8p x1_8n x1_8c)]), (.int .i64 x2)] h (resK (false, [(false, [.b])]) K) := by kernel_rfl
theorem gantlinelaw8_player_write.of {x0 : Option Addr} {x1_0 : Int} {x1_1 : Int} {x1_2 : Int} {x1_3 : Int} {x1_4 : Int} {x1_5 : Int} {x1_6 : Int} {x1_7 : Int} {x1_8p : Option Addr} {x1_8n : Nat} {x1_8c : Nat} {x2 : Int} {h : H} {K : Bool → H → Prop} (hs : gantlinelaw8_player_write.S x0 x1_0 x1_1 x1_2 x1_3 x1_4 x1_5 x1_6 x1_7 x1_8p x1_8n x1_8c x2 h K) : gantlinelaw8_player_write.C x0 x1_0 x1_1 x1_2 x1_3 x1_4 x1_5 x1_6 x1_7 x1_8p x1_8n x1_8c x2 h K := by
  unfold gantlinelaw8_player_write.C
  exact callK_of mixed Tryz.func74 Tryz.call74 (by kernel_rfl) (Eq.mp (gantlinelaw8_player_write.R x0 x1_0 x1_1 x1_2 x1_3 x1_4 x1_5 x1_6 x1_7 x1_8p x1_8n x1_8c x2 h K) hs)

-- 75 (*gantline/gantlinelaw8.player).held
def gantlinelaw8_player_held.S (x0 : Option Addr) (x1 : Int) (x2 : Int) (h : H) (K : Int → H → Prop) : Prop :=
  joinP (fun (h1 : H) => nilC x0 (fun a2 => nilC x0 (fun a3 => ldP h1 (Addr.add a2 2) (fun p4 => nilC p4 (fun a5 => idxA (Addr.add a5 1) 4 x1 1 (fun a6 => ldL h1 a6 (fun p7 k8 k9 => ldP h1 (Addr.add a3 2) (fun p10 => nilC p10 (fun a11 => idxA (Addr.add a11 1) 4 x1 1 (fun a12 => ldL h1 a12 (fun p13 k14 k15 => need ((((k14 : Nat) : Int) ≠ 0)) (idx p7 k8 (Int.tmod x2 ((k14 : Nat) : Int)) 1 (fun a16 => ldI h1 a16 .i64 (fun n17 => K n17 h1)))))))))))))) (fun J18 => nilC x0 (fun a19 => ldP h (Addr.add a19 2) (fun p20 => nilC p20 (fun a21 => idxA (Addr.add a21 1) 4 x1 1 (fun a22 => ldL h a22 (fun p23 k24 k25 => split (((k24 : Nat) : Int) == 0) (K 0 h) (split (decide (x2 < 0)) (K 0 h) (J18 h))))))))
theorem gantlinelaw8_player_held.R (x0 : Option Addr) (x1 : Int) (x2 : Int) (h : H) (K : Int → H → Prop) : gantlinelaw8_player_held.S x0 x1 x2 h K = funW Tryz.prog Tryz.f75 71 [(.pointer x0), (.int .i64 x1), (.int .i64 x2)] h (resK (false, [(false, [(.i .i64)])]) K) := by kernel_rfl
theorem gantlinelaw8_player_held.of {x0 : Option Addr} {x1 : Int} {x2 : Int} {h : H} {K : Int → H → Prop} (hs : gantlinelaw8_player_held.S x0 x1 x2 h K) : gantlinelaw8_player_held.C x0 x1 x2 h K := by
  unfold gantlinelaw8_player_held.C
  exact callK_of mixed Tryz.func75 Tryz.call75 (by kernel_rfl) (Eq.mp (gantlinelaw8_player_held.R x0 x1 x2 h K) hs)

-- 76 (*gantline/gantlineref4.Cycle).Barrier
def gantlineref4_Cycle_Barrier.S (x0 : Option Addr) (x1 : Int) (x2 : Int) (x3 : Int) (h : H) (K : H → Prop) : Prop :=
  gantlineref4_Cycle_marking.C x0 h (fun b3 h2 => split (!b3) (K h2) (nilC x0 (fun a4 => ldP h2 (Addr.add a4 2) (fun p5 => gantlineref4_Marker_Shade.C p5 x1 h2 (fun b8 h7 => gantlineref4_Cycle_IsBlack.C x0 x3 h7 (fun b11 h10 => split (!b11) (nilC x0 (fun a12 => ldP h10 (Addr.add a12 2) (fun p13 => gantlineref4_Marker_Shade.C p13 x2 h10 (fun b16 h15 => K h15)))) (K h10)))))))
theorem gantlineref4_Cycle_Barrier.R (x0 : Option Addr) (x1 : Int) (x2 : Int) (x3 : Int) (h : H) (K : H → Prop) : gantlineref4_Cycle_Barrier.S x0 x1 x2 x3 h K = funW Tryz.prog Tryz.f76 15 [(.pointer x0), (.int .i64 x1), (.int .i64 x2), (.int .i64 x3)] h (resK (true, []) K) := by kernel_rfl
theorem gantlineref4_Cycle_Barrier.of {x0 : Option Addr} {x1 : Int} {x2 : Int} {x3 : Int} {h : H} {K : H → Prop} (hs : gantlineref4_Cycle_Barrier.S x0 x1 x2 x3 h K) : gantlineref4_Cycle_Barrier.C x0 x1 x2 x3 h K := by
  unfold gantlineref4_Cycle_Barrier.C
  exact callK_of mixed Tryz.func76 Tryz.call76 (by kernel_rfl) (Eq.mp (gantlineref4_Cycle_Barrier.R x0 x1 x2 x3 h K) hs)

-- 77 (*gantline/gantlineref4.Cycle).Dies
def gantlineref4_Cycle_Dies.S (x0 : Option Addr) (x1 : Int) (h : H) (K : H → Prop) : Prop :=
  loopT (σ := (Int × ((Option Addr × (Nat × Nat)) × Unit))) (fun J1 s2 h3 => nilC x0 (fun a4 => ldL h3 (Addr.add a4 4) (fun p5 k6 k7 => split (decide (s2.1 < ((k6 : Nat) : Int))) (joinP (fun (p8 : Option Addr) (k9 : Nat) (k10 : Nat) (h11 : H) => J1 ((IntKind.wrap .i64 (s2.1 + 1)), ((p8, (k9, k10)), ())) h11) (fun J12 => nilC x0 (fun a13 => ldL h3 (Addr.add a13 4) (fun p14 k15 k16 => idx p14 k15 s2.1 1 (fun a17 => ldI h3 a17 .i64 (fun n18 => split (n18 != x1) (nilC x0 (fun a19 => ldL h3 (Addr.add a19 4) (fun p20 k21 k22 => idx p20 k21 s2.1 1 (fun a23 => ldI h3 a23 .i64 (fun n24 => newC h3 [(.int .i64 n24)] 3 (fun a25 h26 => rawN Tryz.prog (builtin .append #[23, 23] 23 #[false, false] #[(.slice s2.2.1.1 s2.2.1.2.1 s2.2.1.2.2), (.slice (some a25) 1 1)]) h26 (fun v27 h28 => exL v27 (fun p29 k30 k31 => J12 p29 k30 k31 h28)))))))) (J12 s2.2.1.1 s2.2.1.2.1 s2.2.1.2.2 h3))))))) (nilC x0 (fun a32 => stC h3 (Addr.add (Addr.add a32 4) 0) (.slice s2.2.1.1 s2.2.1.2.1 s2.2.1.2.2) (fun h33 => K h33)))))) (0, ((none, (0, 0)), ())) h
theorem gantlineref4_Cycle_Dies.R (x0 : Option Addr) (x1 : Int) (h : H) (K : H → Prop) : gantlineref4_Cycle_Dies.S x0 x1 h K = funW Tryz.prog Tryz.f77 51 [(.pointer x0), (.int .i64 x1)] h (resK (true, []) K) := by kernel_rfl
theorem gantlineref4_Cycle_Dies.of {x0 : Option Addr} {x1 : Int} {h : H} {K : H → Prop} (hs : gantlineref4_Cycle_Dies.S x0 x1 h K) : gantlineref4_Cycle_Dies.C x0 x1 h K := by
  unfold gantlineref4_Cycle_Dies.C
  exact callK_of mixed Tryz.func77 Tryz.call77 (by kernel_rfl) (Eq.mp (gantlineref4_Cycle_Dies.R x0 x1 h K) hs)

-- 78 (*gantline/gantlineref4.Cycle).Born
def gantlineref4_Cycle_Born.S (x0 : Option Addr) (x1 : Int) (h : H) (K : H → Prop) : Prop :=
  gantlineref4_Cycle_marking.C x0 h (fun b3 h2 => split b3 (gantlineref4_Cycle_IsBlack.C x0 x1 h2 (fun b6 h5 => split (!b6) (nilC x0 (fun a7 => ldL h5 (Addr.add a7 4) (fun p8 k9 k10 => newC h5 [(.int .i64 x1)] 3 (fun a11 h12 => rawN Tryz.prog (builtin .append #[23, 23] 23 #[false, false] #[(.slice p8 k9 k10), (.slice (some a11) 1 1)]) h12 (fun v13 h14 => exL v13 (fun p15 k16 k17 => nilC x0 (fun a18 => stC h14 (Addr.add (Addr.add a18 4) 0) (.slice p15 k16 k17) (fun h19 => K h19)))))))) (K h5))) (K h2))
theorem gantlineref4_Cycle_Born.R (x0 : Option Addr) (x1 : Int) (h : H) (K : H → Prop) : gantlineref4_Cycle_Born.S x0 x1 h K = funW Tryz.prog Tryz.f78 3 [(.pointer x0), (.int .i64 x1)] h (resK (true, []) K) := by kernel_rfl
theorem gantlineref4_Cycle_Born.of {x0 : Option Addr} {x1 : Int} {h : H} {K : H → Prop} (hs : gantlineref4_Cycle_Born.S x0 x1 h K) : gantlineref4_Cycle_Born.C x0 x1 h K := by
  unfold gantlineref4_Cycle_Born.C
  exact callK_of mixed Tryz.func78 Tryz.call78 (by kernel_rfl) (Eq.mp (gantlineref4_Cycle_Born.R x0 x1 h K) hs)

-- 79 (*gantline/gantlineref4.Cycle).Whole
def gantlineref4_Cycle_Whole.S (x0 : Option Addr) (x1_0p : Option Addr) (x1_0n : Nat) (x1_0c : Nat) (x1_1p : Option Addr) (x1_1n : Nat) (x1_1c : Nat) (x1_2p : Option Addr) (x1_2n : Nat) (x1_2c : Nat) (h : H) (K : H → Prop) : Prop :=
  newC h [(.slice x1_0p x1_0n x1_0c), (.slice x1_1p x1_1n x1_1c), (.slice x1_2p x1_2n x1_2c)] 133 (fun a1 h2 => loopT (σ := Unit) (fun J3 u4 h5 => ldL h5 (Addr.add a1 0) (fun p6 k7 k8 => ldL h5 (Addr.add a1 1) (fun p9 k10 k11 => ldL h5 (Addr.add a1 2) (fun p12 k13 k14 => gantlineref4_Cycle_Step.C x0 p6 k7 k8 p9 k10 k11 p12 k13 k14 h5 (fun b17 h16 => split b17 (J3 () h16) (ldL h16 (Addr.add a1 0) (fun p18 k19 k20 => ldL h16 (Addr.add a1 1) (fun p21 k22 k23 => ldL h16 (Addr.add a1 2) (fun p24 k25 k26 => gantlineref4_Cycle_Start.C x0 p18 k19 k20 p21 k22 k23 p24 k25 k26 h16 (fun b29 h28 => loopT (σ := Unit) (fun J30 u31 h32 => ldL h32 (Addr.add a1 0) (fun p33 k34 k35 => ldL h32 (Addr.add a1 1) (fun p36 k37 k38 => ldL h32 (Addr.add a1 2) (fun p39 k40 k41 => gantlineref4_Cycle_Step.C x0 p33 k34 k35 p36 k37 k38 p39 k40 k41 h32 (fun b44 h43 => split b44 (J30 () h43) (K h43)))))) () h28)))))))))) () h2)
theorem gantlineref4_Cycle_Whole.R (x0 : Option Addr) (x1_0p : Option Addr) (x1_0n : Nat) (x1_0c : Nat) (x1_1p : Option Addr) (x1_1n : Nat) (x1_1c : Nat) (x1_2p : Option Addr) (x1_2n : Nat) (x1_2c : Nat) (h : H) (K : H → Prop) : gantlineref4_Cycle_Whole.S x0 x1_0p x1_0n x1_0c x1_1p x1_1n x1_1c x1_2p x1_2n x1_2c h K = funW Tryz.prog Tryz.f79 11 [(.pointer x0), (.agg #[(.slice x1_0p x1_0n x1_0c), (.slice x1_1p x1_1n x1_1c), (.slice x1_2p x1_2n x1_2c)])] h (resK (true, []) K) := by kernel_rfl
theorem gantlineref4_Cycle_Whole.of {x0 : Option Addr} {x1_0p : Option Addr} {x1_0n : Nat} {x1_0c : Nat} {x1_1p : Option Addr} {x1_1n : Nat} {x1_1c : Nat} {x1_2p : Option Addr} {x1_2n : Nat} {x1_2c : Nat} {h : H} {K : H → Prop} (hs : gantlineref4_Cycle_Whole.S x0 x1_0p x1_0n x1_0c x1_1p x1_1n x1_1c x1_2p x1_2n x1_2c h K) : gantlineref4_Cycle_Whole.C x0 x1_0p x1_0n x1_0c x1_1p x1_1n x1_1c x1_2p x1_2n x1_2c h K := by
  unfold gantlineref4_Cycle_Whole.C
  exact callK_of mixed Tryz.func79 Tryz.call79 (by kernel_rfl) (Eq.mp (gantlineref4_Cycle_Whole.R x0 x1_0p x1_0n x1_0c x1_1p x1_1n x1_1c x1_2p x1_2n x1_2c h K) hs)

-- 80 (*gantline/arena.Arena).Clear
def arena_Arena_Clear.S (x0 : Option Addr) (h : H) (K : H → Prop) : Prop :=
  nilC x0 (fun a1 => ldL h (Addr.add a1 1) (fun p2 k3 k4 => loopT (σ := (Int × Unit)) (fun J5 s6 h7 => split (decide (s6.1 < ((k3 : Nat) : Int))) (nilC x0 (fun a8 => ldL h7 (Addr.add a8 1) (fun p9 k10 k11 => idx p9 k10 s6.1 3 (fun a12 => stC h7 (Addr.add (Addr.add a12 2) 0) (.int .u64 0) (fun h13 => J5 ((IntKind.wrap .i64 (s6.1 + 1)), ()) h13))))) (K h7)) (0, ()) h))
theorem arena_Arena_Clear.R (x0 : Option Addr) (h : H) (K : H → Prop) : arena_Arena_Clear.S x0 h K = funW Tryz.prog Tryz.f80 389 [(.pointer x0)] h (resK (true, []) K) := by kernel_rfl
theorem arena_Arena_Clear.of {x0 : Option Addr} {h : H} {K : H → Prop} (hs : arena_Arena_Clear.S x0 h K) : arena_Arena_Clear.C x0 h K := by
  unfold arena_Arena_Clear.C
  exact callK_of mixed Tryz.func80 Tryz.call80 (by kernel_rfl) (Eq.mp (arena_Arena_Clear.R x0 h K) hs)

-- 81 (*gantline/cycle.Cycle).shade
def cycle_Cycle_shade.S (x0 : Option Addr) (x1p : Option Addr) (x1n : Nat) (x1c : Nat) (h : H) (K : H → Prop) : Prop :=
  loopT (σ := (Int × Unit)) (fun J1 s2 h3 => split (decide (s2.1 < ((x1n : Nat) : Int))) (idx x1p x1n s2.1 1 (fun a4 => ldI h3 a4 .i64 (fun n5 => nilC x0 (fun a6 => ldP h3 (Addr.add a6 3) (fun p7 => mark_Marker_Shade.C p7 n5 h3 (fun b10 h9 => J1 ((IntKind.wrap .i64 (s2.1 + 1)), ()) h9)))))) (K h3)) (0, ()) h
theorem cycle_Cycle_shade.R (x0 : Option Addr) (x1p : Option Addr) (x1n : Nat) (x1c : Nat) (h : H) (K : H → Prop) : cycle_Cycle_shade.S x0 x1p x1n x1c h K = funW Tryz.prog Tryz.f81 483 [(.pointer x0), (.slice x1p x1n x1c)] h (resK (true, []) K) := by kernel_rfl
theorem cycle_Cycle_shade.of {x0 : Option Addr} {x1p : Option Addr} {x1n : Nat} {x1c : Nat} {h : H} {K : H → Prop} (hs : cycle_Cycle_shade.S x0 x1p x1n x1c h K) : cycle_Cycle_shade.C x0 x1p x1n x1c h K := by
  unfold cycle_Cycle_shade.C
  exact callK_of mixed Tryz.func81 Tryz.call81 (by kernel_rfl) (Eq.mp (cycle_Cycle_shade.R x0 x1p x1n x1c h K) hs)

-- 82 (*gantline/cycle.Cycle).next
def cycle_Cycle_next.S (x0 : Option Addr) (x1t : TypeId) (x1v : Value) (h : H) (K : Int → Bool → H → Prop) : Prop :=
  rawN Tryz.prog (callMethod (.iface x1t x1v) "Stacks" #[]) h (fun v1 h2 => exL v1 (fun p3 k4 k5 => slices_Clone_int_int.C p3 k4 k5 h2 (fun p8 k9 k10 h7 => slices_DeleteFunc_int_int.C p8 k9 k10 (.func (.func 63) #[(.pointer x0)] #[]) h7 (fun p13 k14 k15 h12 => split (((k14 : Nat) : Int) == 0) (K 0 false h12) (slices_Min_int_int.C p13 k14 k15 h12 (fun n18 h17 => K n18 true h17))))))
theorem cycle_Cycle_next.R (x0 : Option Addr) (x1t : TypeId) (x1v : Value) (h : H) (K : Int → Bool → H → Prop) : cycle_Cycle_next.S x0 x1t x1v h K = funW Tryz.prog Tryz.f82 115 [(.pointer x0), (.iface x1t x1v)] h (resK (true, [(false, [(.i .i64)]), (false, [.b])]) K) := by kernel_rfl
theorem cycle_Cycle_next.of {x0 : Option Addr} {x1t : TypeId} {x1v : Value} {h : H} {K : Int → Bool → H → Prop} (hs : cycle_Cycle_next.S x0 x1t x1v h K) : cycle_Cycle_next.C x0 x1t x1v h K := by
  unfold cycle_Cycle_next.C
  exact callK_of mixed Tryz.func82 Tryz.call82 (by kernel_rfl) (Eq.mp (cycle_Cycle_next.R x0 x1t x1v h K) hs)

-- 83 (*gantline/alloc.Alloc).Stale
def alloc_Alloc_Stale.S (x0 : Option Addr) (h : H) (K : H → Prop) : Prop :=
  nilC x0 (fun a1 => ldL h (Addr.add a1 1) (fun p2 k3 k4 => loopT (σ := (Int × Unit)) (fun J5 s6 h7 => split (decide (s6.1 < ((k3 : Nat) : Int))) (nilC x0 (fun a8 => nilC x0 (fun a9 => ldL h7 (Addr.add a8 1) (fun p10 k11 k12 => ldP h7 (Addr.add a9 0) (fun p13 => arena_Arena_Class.C p13 s6.1 h7 (fun n16 h15 => need (ldL h15 (Addr.add a8 1) (fun p17 k18 k19 => ((.slice p17 k18 k19) : Value) = (.slice p10 k11 k12))) (idx p10 k11 s6.1 1 (fun a20 => stC h15 (Addr.add a20 0) (.bool (n16 != (-1))) (fun h21 => J5 ((IntKind.wrap .i64 (s6.1 + 1)), ()) h21))))))))) (K h7)) (0, ()) h))
theorem alloc_Alloc_Stale.R (x0 : Option Addr) (h : H) (K : H → Prop) : alloc_Alloc_Stale.S x0 h K = funW Tryz.prog Tryz.f83 389 [(.pointer x0)] h (resK (true, []) K) := by kernel_rfl
theorem alloc_Alloc_Stale.of {x0 : Option Addr} {h : H} {K : H → Prop} (hs : alloc_Alloc_Stale.S x0 h K) : alloc_Alloc_Stale.C x0 h K := by
  unfold alloc_Alloc_Stale.C
  exact callK_of mixed Tryz.func83 Tryz.call83 (by kernel_rfl) (Eq.mp (alloc_Alloc_Stale.R x0 h K) hs)

-- 84 (*gantline/alloc.Alloc).SweepOne
def alloc_Alloc_SweepOne.S (x0 : Option Addr) (h : H) (K : Bool → H → Prop) : Prop :=
  nilC x0 (fun a1 => ldL h (Addr.add a1 1) (fun p2 k3 k4 => loopT (σ := (Int × Unit)) (fun J5 s6 h7 => split (decide (s6.1 < ((k3 : Nat) : Int))) (idx p2 k3 s6.1 1 (fun a8 => ldB h7 a8 (fun b9 => split b9 (alloc_Alloc_sweep.C x0 s6.1 h7 (fun h11 => K true h11)) (J5 ((IntKind.wrap .i64 (s6.1 + 1)), ()) h7)))) (K false h7)) (0, ()) h))
theorem alloc_Alloc_SweepOne.R (x0 : Option Addr) (h : H) (K : Bool → H → Prop) : alloc_Alloc_SweepOne.S x0 h K = funW Tryz.prog Tryz.f84 1821 [(.pointer x0)] h (resK (false, [(false, [.b])]) K) := by kernel_rfl
theorem alloc_Alloc_SweepOne.of {x0 : Option Addr} {h : H} {K : Bool → H → Prop} (hs : alloc_Alloc_SweepOne.S x0 h K) : alloc_Alloc_SweepOne.C x0 h K := by
  unfold alloc_Alloc_SweepOne.C
  exact callK_of mixed Tryz.func84 Tryz.call84 (by kernel_rfl) (Eq.mp (alloc_Alloc_SweepOne.R x0 h K) hs)

-- 85 (*gantline/alloc.Alloc).Used
def alloc_Alloc_Used.S (x0 : Option Addr) (h : H) (K : Int → H → Prop) : Prop :=
  nilC x0 (fun a1 => ldL h (Addr.add a1 1) (fun p2 k3 k4 => loopT (σ := (Int × (Int × Unit))) (fun J5 s6 h7 => split (decide (s6.1 < ((k3 : Nat) : Int))) (nilC x0 (fun a8 => nilC x0 (fun a9 => ldP h7 (Addr.add a8 0) (fun p10 => ldP h7 (Addr.add a9 0) (fun p11 => arena_Arena_Taken.C p10 s6.1 h7 (fun n14 h13 => need (ldP h13 (Addr.add a9 0) (fun p15 => ((.pointer p15) : Value) = (.pointer p11))) (bits_Ones.C n14 h13 (fun n18 h17 => need (ldP h17 (Addr.add a9 0) (fun p19 => ((.pointer p19) : Value) = (.pointer p11))) (arena_Arena_Class.C p11 s6.1 h17 (fun n22 h21 => geom_Words.C n22 h21 (fun n25 h24 => J5 ((IntKind.wrap .i64 (s6.1 + 1)), ((IntKind.wrap .i64 (s6.2.1 + (IntKind.wrap .i64 (n18 * n25)))), ())) h24))))))))))) (K s6.2.1 h7)) (0, (0, ())) h))
theorem alloc_Alloc_Used.R (x0 : Option Addr) (h : H) (K : Int → H → Prop) : alloc_Alloc_Used.S x0 h K = funW Tryz.prog Tryz.f85 1565 [(.pointer x0)] h (resK (false, [(false, [(.i .i64)])]) K) := by kernel_rfl
theorem alloc_Alloc_Used.of {x0 : Option Addr} {h : H} {K : Int → H → Prop} (hs : alloc_Alloc_Used.S x0 h K) : alloc_Alloc_Used.C x0 h K := by
  unfold alloc_Alloc_Used.C
  exact callK_of mixed Tryz.func85 Tryz.call85 (by kernel_rfl) (Eq.mp (alloc_Alloc_Used.R x0 h K) hs)

-- 86 (*gantline/gantlinelaw8.holder).Globals
def gantlinelaw8_holder_Globals.S (x0 : Option Addr) (h : H) (K : Option Addr → Nat → Nat → H → Prop) : Prop :=
  newC h [] 2 (fun a1 h2 => nilC x0 (fun a3 => ldL h2 (Addr.add a3 0) (fun p4 k5 k6 => rawN Tryz.prog (builtin .append #[28, 28] 28 #[false, false] #[(.slice (some a1) 0 0), (.slice p4 k5 k6)]) h2 (fun v7 h8 => exL v7 (fun p9 k10 k11 => K p9 k10 k11 h8)))))
theorem gantlinelaw8_holder_Globals.R (x0 : Option Addr) (h : H) (K : Option Addr → Nat → Nat → H → Prop) : gantlinelaw8_holder_Globals.S x0 h K = funW Tryz.prog Tryz.f86 5 [(.pointer x0)] h (resK (false, [(false, [.l])]) K) := by kernel_rfl
theorem gantlinelaw8_holder_Globals.of {x0 : Option Addr} {h : H} {K : Option Addr → Nat → Nat → H → Prop} (hs : gantlinelaw8_holder_Globals.S x0 h K) : gantlinelaw8_holder_Globals.C x0 h K := by
  unfold gantlinelaw8_holder_Globals.C
  exact callK_of mixed Tryz.func86 Tryz.call86 (by kernel_rfl) (Eq.mp (gantlinelaw8_holder_Globals.R x0 h K) hs)

-- 87 (*gantline/arena.Arena).Read
def arena_Arena_Read.S (x0 : Option Addr) (x1 : Int) (x2 : Int) (h : H) (K : Int → Int → H → Prop) : Prop :=
  arena_Arena_word.C x0 x1 x2 h (fun p3 h2 => split (Option.isNone p3) (K 0 1 h2) (nilC p3 (fun a4 => ldI h2 a4 .i64 (fun n5 => K n5 0 h2))))
theorem arena_Arena_Read.R (x0 : Option Addr) (x1 : Int) (x2 : Int) (h : H) (K : Int → Int → H → Prop) : arena_Arena_Read.S x0 x1 x2 h K = funW Tryz.prog Tryz.f87 455 [(.pointer x0), (.int .i64 x1), (.int .i64 x2)] h (resK (true, [(false, [(.i .i64)]), (false, [(.i .i64)])]) K) := by kernel_rfl
theorem arena_Arena_Read.of {x0 : Option Addr} {x1 : Int} {x2 : Int} {h : H} {K : Int → Int → H → Prop} (hs : arena_Arena_Read.S x0 x1 x2 h K) : arena_Arena_Read.C x0 x1 x2 h K := by
  unfold arena_Arena_Read.C
  exact callK_of mixed Tryz.func87 Tryz.call87 (by kernel_rfl) (Eq.mp (arena_Arena_Read.R x0 x1 x2 h K) hs)

-- 88 gantline/head.Unpack
def head_Unpack.S (x0 : Int) (h : H) (K : Int → Int → Int → Int → H → Prop) : Prop :=
  newC h [(.int .i64 0), (.int .i64 0), (.int .i64 0)] 95 (fun a1 h2 => bits_Field.C (IntKind.wrap .u64 x0) 0 7 h2 (fun n5 h4 => bits_Field.C (IntKind.wrap .u64 x0) 7 3 h4 (fun n8 h7 => bits_Field.C (IntKind.wrap .u64 x0) 10 16 h7 (fun n11 h10 => newC h10 [(.int .i64 0), (.int .i64 0), (.int .i64 0)] 95 (fun a12 h13 => stC h13 (Addr.add a12 0) (.int .i64 (IntKind.wrap .i64 n5)) (fun h14 => stC h14 (Addr.add a12 1) (.int .i64 (IntKind.wrap .i64 n8)) (fun h15 => stC h15 (Addr.add a12 2) (.int .i64 (IntKind.wrap .i64 n11)) (fun h16 => joinP (fun (h17 : H) => ldI h17 (Addr.add a12 0) .i64 (fun n18 => ldI h17 (Addr.add a12 1) .i64 (fun n19 => ldI h17 (Addr.add a12 2) .i64 (fun n20 => stC h17 (Addr.add a1 0) (.int .i64 n18) (fun h21 => stC h21 (Addr.add a1 1) (.int .i64 n19) (fun h22 => stC h22 (Addr.add a1 2) (.int .i64 n20) (fun h23 => ldI h23 (Addr.add a1 0) .i64 (fun n24 => ldI h23 (Addr.add a1 1) .i64 (fun n25 => ldI h23 (Addr.add a1 2) .i64 (fun n26 => K n24 n25 n26 0 h23)))))))))) (fun J27 => need (((0 : Int) ≤ 26)) (split ((shrI .u64 (IntKind.wrap .u64 x0) 26) != 0) (stC h16 (Addr.add a1 0) (.int .i64 0) (fun h28 => stC h28 (Addr.add a1 1) (.int .i64 0) (fun h29 => stC h29 (Addr.add a1 2) (.int .i64 0) (fun h30 => ldI h30 (Addr.add a1 0) .i64 (fun n31 => ldI h30 (Addr.add a1 1) .i64 (fun n32 => ldI h30 (Addr.add a1 2) .i64 (fun n33 => K n31 n32 n33 3 h30))))))) (ldI h16 (Addr.add a12 0) .i64 (fun n34 => ldI h16 (Addr.add a12 1) .i64 (fun n35 => ldI h16 (Addr.add a12 2) .i64 (fun n36 => head_may.C n34 n35 n36 h16 (fun b39 h38 => split (!b39) (stC h38 (Addr.add a1 0) (.int .i64 0) (fun h40 => stC h40 (Addr.add a1 1) (.int .i64 0) (fun h41 => stC h41 (Addr.add a1 2) (.int .i64 0) (fun h42 => ldI h42 (Addr.add a1 0) .i64 (fun n43 => ldI h42 (Addr.add a1 1) .i64 (fun n44 => ldI h42 (Addr.add a1 2) .i64 (fun n45 => K n43 n44 n45 3 h42))))))) (J27 h38))))))))))))))))
theorem head_Unpack.R (x0 : Int) (h : H) (K : Int → Int → Int → Int → H → Prop) : head_Unpack.S x0 h K = funW Tryz.prog Tryz.f88 61 [(.int .i64 x0)] h (resK (true, [(true, [(.i .i64), (.i .i64), (.i .i64)]), (false, [(.i .i64)])]) K) := by kernel_rfl
theorem head_Unpack.of {x0 : Int} {h : H} {K : Int → Int → Int → Int → H → Prop} (hs : head_Unpack.S x0 h K) : head_Unpack.C x0 h K := by
  unfold head_Unpack.C
  exact callK_of mixed Tryz.func88 Tryz.call88 (by kernel_rfl) (Eq.mp (head_Unpack.R x0 h K) hs)

-- 89 gantline/geom.Words
def geom_Words.S (x0 : Int) (h : H) (K : Int → H → Prop) : Prop :=
  joinP (fun (h1 : H) => need (((0 : Int) ≤ (IntKind.wrap .u64 x0))) (K (shlI .i64 2 (IntKind.wrap .u64 x0)) h1)) (fun J2 => split (decide (x0 < 0)) (K 0 h) (split (decide (x0 ≥ 6)) (K 0 h) (J2 h)))
theorem geom_Words.R (x0 : Int) (h : H) (K : Int → H → Prop) : geom_Words.S x0 h K = funW Tryz.prog Tryz.f89 5 [(.int .i64 x0)] h (resK (false, [(false, [(.i .i64)])]) K) := by kernel_rfl
theorem geom_Words.of {x0 : Int} {h : H} {K : Int → H → Prop} (hs : geom_Words.S x0 h K) : geom_Words.C x0 h K := by
  unfold geom_Words.C
  exact callK_of mixed Tryz.func89 Tryz.call89 (by kernel_rfl) (Eq.mp (geom_Words.R x0 h K) hs)

-- 90 gantline/geom.Span
def geom_Span.S (x0 : Int) (h : H) (K : Int → H → Prop) : Prop :=
  joinP (fun (h1 : H) => need (((64 : Int) ≠ 0)) (K (IntKind.wrap .i64 (Int.tdiv x0 64)) h1)) (fun J2 => split (decide (x0 < 0)) (K (-1) h) (split (decide (x0 ≥ 32768)) (K (-1) h) (J2 h)))
theorem geom_Span.R (x0 : Int) (h : H) (K : Int → H → Prop) : geom_Span.S x0 h K = funW Tryz.prog Tryz.f90 5 [(.int .i64 x0)] h (resK (false, [(false, [(.i .i64)])]) K) := by kernel_rfl
theorem geom_Span.of {x0 : Int} {h : H} {K : Int → H → Prop} (hs : geom_Span.S x0 h K) : geom_Span.C x0 h K := by
  unfold geom_Span.C
  exact callK_of mixed Tryz.func90 Tryz.call90 (by kernel_rfl) (Eq.mp (geom_Span.R x0 h K) hs)

-- 91 (*gantline/head.Table).Shape
def head_Table_Shape.S (x0 : Option Addr) (x1 : Int) (h : H) (K : Int → Int → Int → Int → H → Prop) : Prop :=
  newC h [(.int .i64 0), (.int .i64 0), (.int .u64 0)] 86 (fun a1 h2 => joinP (fun (h3 : H) => nilC x0 (fun a4 => ldL h3 (Addr.add a4 0) (fun p5 k6 k7 => idx p5 k6 x1 3 (fun a8 => ldI h3 (Addr.add a8 0) .i64 (fun n9 => ldI h3 (Addr.add a8 1) .i64 (fun n10 => ldI h3 (Addr.add a8 2) .u64 (fun n11 => stC h3 (Addr.add a1 0) (.int .i64 n9) (fun h12 => stC h12 (Addr.add a1 1) (.int .i64 n10) (fun h13 => stC h13 (Addr.add a1 2) (.int .u64 n11) (fun h14 => ldI h14 (Addr.add a1 0) .i64 (fun n15 => ldI h14 (Addr.add a1 1) .i64 (fun n16 => ldI h14 (Addr.add a1 2) .u64 (fun n17 => K n15 n16 n17 0 h14))))))))))))) (fun J18 => split (decide (x1 < 0)) (stC h2 (Addr.add a1 0) (.int .i64 0) (fun h19 => stC h19 (Addr.add a1 1) (.int .i64 0) (fun h20 => stC h20 (Addr.add a1 2) (.int .u64 0) (fun h21 => ldI h21 (Addr.add a1 0) .i64 (fun n22 => ldI h21 (Addr.add a1 1) .i64 (fun n23 => ldI h21 (Addr.add a1 2) .u64 (fun n24 => K n22 n23 n24 4 h21))))))) (nilC x0 (fun a25 => ldL h2 (Addr.add a25 0) (fun p26 k27 k28 => split (decide (x1 ≥ ((k27 : Nat) : Int))) (stC h2 (Addr.add a1 0) (.int .i64 0) (fun h29 => stC h29 (Addr.add a1 1) (.int .i64 0) (fun h30 => stC h30 (Addr.add a1 2) (.int .u64 0) (fun h31 => ldI h31 (Addr.add a1 0) .i64 (fun n32 => ldI h31 (Addr.add a1 1) .i64 (fun n33 => ldI h31 (Addr.add a1 2) .u64 (fun n34 => K n32 n33 n34 4 h31))))))) (J18 h2))))))
theorem head_Table_Shape.R (x0 : Option Addr) (x1 : Int) (h : H) (K : Int → Int → Int → Int → H → Prop) : head_Table_Shape.S x0 x1 h K = funW Tryz.prog Tryz.f91 51 [(.pointer x0), (.int .i64 x1)] h (resK (true, [(true, [(.i .i64), (.i .i64), (.i .u64)]), (false, [(.i .i64)])]) K) := by kernel_rfl
theorem head_Table_Shape.of {x0 : Option Addr} {x1 : Int} {h : H} {K : Int → Int → Int → Int → H → Prop} (hs : head_Table_Shape.S x0 x1 h K) : head_Table_Shape.C x0 x1 h K := by
  unfold head_Table_Shape.C
  exact callK_of mixed Tryz.func91 Tryz.call91 (by kernel_rfl) (Eq.mp (head_Table_Shape.R x0 x1 h K) hs)

-- 92 (gantline/head.Shape).Holds
def head_Shape_Holds.S (x0_0 : Int) (x0_1 : Int) (x0_2 : Int) (x1 : Int) (x2 : Int) (h : H) (K : Bool → H → Prop) : Prop :=
  newC h [(.int .i64 x0_0), (.int .i64 x0_1), (.int .u64 x0_2)] 86 (fun a1 h2 => joinP (fun (h3 : H) => joinP (fun (h4 : H) => K false h4) (fun J5 => ldI h3 (Addr.add a1 0) .i64 (fun n6 => joinP (fun (b7 : Bool) (h8 : H) => split b7 (ldI h8 (Addr.add a1 2) .u64 (fun n9 => need (((0 : Int) ≤ (IntKind.wrap .u64 x1))) (K ((bitsI .and .u64 (shrI .u64 n9 (IntKind.wrap .u64 x1)) 1) == 1) h8))) (split (n6 == 1) (ldI h8 (Addr.add a1 2) .u64 (fun n10 => K ((bitsI .and .u64 n10 1) == 1) h8)) (split (n6 == 3) (ldI h8 (Addr.add a1 2) .u64 (fun n11 => split ((bitsI .and .u64 n11 1) == 1) (K (decide (x1 ≥ 4)) h8) (K false h8))) (J5 h8)))) (fun J12 => split (n6 == 0) (J12 (n6 == 0) h3) (J12 (n6 == 2) h3))))) (fun J13 => split (decide (x1 < 0)) (K false h2) (split (decide (x2 < 2)) (K false h2) (split (decide (x1 > (IntKind.wrap .i64 (x2 - 2)))) (K false h2) (J13 h2)))))
theorem head_Shape_Holds.R (x0_0 : Int) (x0_1 : Int) (x0_2 : Int) (x1 : Int) (x2 : Int) (h : H) (K : Bool → H → Prop) : head_Shape_Holds.S x0_0 x0_1 x0_2 x1 x2 h K = funW Tryz.prog Tryz.f92 1048655 [(.agg #[(.int .i64 x0_0), (.int .i64 x0_1), (.int .u64 x0_2)]), (.int .i64 x1), (.int .i64 x2)] h (resK (false, [(false, [.b])]) K) := by kernel_rfl
theorem head_Shape_Holds.of {x0_0 : Int} {x0_1 : Int} {x0_2 : Int} {x1 : Int} {x2 : Int} {h : H} {K : Bool → H → Prop} (hs : head_Shape_Holds.S x0_0 x0_1 x0_2 x1 x2 h K) : head_Shape_Holds.C x0_0 x0_1 x0_2 x1 x2 h K := by
  unfold head_Shape_Holds.C
  exact callK_of mixed Tryz.func92 Tryz.call92 (by kernel_rfl) (Eq.mp (head_Shape_Holds.R x0_0 x0_1 x0_2 x1 x2 h K) hs)

-- 93 (*gantline/grey.Queue).Len
def grey_Queue_Len.S (x0 : Option Addr) (h : H) (K : Int → H → Prop) : Prop :=
  nilC x0 (fun a1 => ldL h (Addr.add a1 0) (fun p2 k3 k4 => K ((k3 : Nat) : Int) h))
theorem grey_Queue_Len.R (x0 : Option Addr) (h : H) (K : Int → H → Prop) : grey_Queue_Len.S x0 h K = funW Tryz.prog Tryz.f93 5 [(.pointer x0)] h (resK (false, [(false, [(.i .i64)])]) K) := by kernel_rfl
theorem grey_Queue_Len.of {x0 : Option Addr} {h : H} {K : Int → H → Prop} (hs : grey_Queue_Len.S x0 h K) : grey_Queue_Len.C x0 h K := by
  unfold grey_Queue_Len.C
  exact callK_of mixed Tryz.func93 Tryz.call93 (by kernel_rfl) (Eq.mp (grey_Queue_Len.R x0 h K) hs)

-- 94 gantline/grey.New
def grey_New.S  (h : H) (K : Option Addr → H → Prop) : Prop :=
  newC h [(.slice none 0 0)] 174 (fun a1 h2 => K (some a1) h2)
theorem grey_New.R  (h : H) (K : Option Addr → H → Prop) : grey_New.S  h K = funW Tryz.prog Tryz.f94 1 [] h (resK (false, [(false, [.p])]) K) := by kernel_rfl
theorem grey_New.of  {h : H} {K : Option Addr → H → Prop} (hs : grey_New.S  h K) : grey_New.C  h K := by
  unfold grey_New.C
  exact callK_of mixed Tryz.func94 Tryz.call94 (by kernel_rfl) (Eq.mp (grey_New.R  h K) hs)

-- 95 (*gantline/arena.Arena).Spans
def arena_Arena_Spans.S (x0 : Option Addr) (h : H) (K : Int → H → Prop) : Prop :=
  nilC x0 (fun a1 => ldL h (Addr.add a1 1) (fun p2 k3 k4 => K ((k3 : Nat) : Int) h))
theorem arena_Arena_Spans.R (x0 : Option Addr) (h : H) (K : Int → H → Prop) : arena_Arena_Spans.S x0 h K = funW Tryz.prog Tryz.f95 5 [(.pointer x0)] h (resK (false, [(false, [(.i .i64)])]) K) := by kernel_rfl
theorem arena_Arena_Spans.of {x0 : Option Addr} {h : H} {K : Int → H → Prop} (hs : arena_Arena_Spans.S x0 h K) : arena_Arena_Spans.C x0 h K := by
  unfold arena_Arena_Spans.C
  exact callK_of mixed Tryz.func95 Tryz.call95 (by kernel_rfl) (Eq.mp (arena_Arena_Spans.R x0 h K) hs)

-- 96 gantline/head.Good
def head_Good.S (x0_0 : Int) (x0_1 : Int) (x0_2 : Int) (h : H) (K : Bool → H → Prop) : Prop :=
  newC h [(.int .i64 x0_0), (.int .i64 x0_1), (.int .u64 x0_2)] 86 (fun a1 h2 => joinP (fun (h3 : H) => K false h3) (fun J4 => ldI h2 (Addr.add a1 0) .i64 (fun n5 => joinP (fun (b6 : Bool) (h7 : H) => split b6 (ldI h7 (Addr.add a1 1) .i64 (fun n8 => split (decide (n8 ≥ 0)) (ldI h7 (Addr.add a1 1) .i64 (fun n9 => split (decide (n9 ≤ 63)) (ldI h7 (Addr.add a1 2) .u64 (fun n10 => ldI h7 (Addr.add a1 1) .i64 (fun n11 => need (((0 : Int) ≤ (IntKind.wrap .u64 n11))) (K ((shrI .u64 n10 (IntKind.wrap .u64 n11)) == 0) h7)))) (K false h7))) (K false h7))) (joinP (fun (b12 : Bool) (h13 : H) => split b12 (ldI h13 (Addr.add a1 1) .i64 (fun n14 => split (n14 == 0) (ldI h13 (Addr.add a1 2) .u64 (fun n15 => K (decide (n15 ≤ 1)) h13)) (K false h13))) (J4 h13)) (fun J16 => split (n5 == 1) (J16 (n5 == 1) h7) (J16 (n5 == 3) h7)))) (fun J17 => split (n5 == 0) (J17 (n5 == 0) h2) (J17 (n5 == 2) h2)))))
theorem head_Good.R (x0_0 : Int) (x0_1 : Int) (x0_2 : Int) (h : H) (K : Bool → H → Prop) : head_Good.S x0_0 x0_1 x0_2 h K = funW Tryz.prog Tryz.f96 23 [(.agg #[(.int .i64 x0_0), (.int .i64 x0_1), (.int .u64 x0_2)])] h (resK (false, [(false, [.b])]) K) := by kernel_rfl
theorem head_Good.of {x0_0 : Int} {x0_1 : Int} {x0_2 : Int} {h : H} {K : Bool → H → Prop} (hs : head_Good.S x0_0 x0_1 x0_2 h K) : head_Good.C x0_0 x0_1 x0_2 h K := by
  unfold head_Good.C
  exact callK_of mixed Tryz.func96 Tryz.call96 (by kernel_rfl) (Eq.mp (head_Good.R x0_0 x0_1 x0_2 h K) hs)

-- 97 gantline/geom.Class
def geom_Class.S (x0 : Int) (h : H) (K : Int → H → Prop) : Prop :=
  loopT (σ := (Int × Unit)) (fun J1 s2 h3 => split (decide (s2.1 < 6)) (joinP (fun (h4 : H) => J1 ((IntKind.wrap .i64 (s2.1 + 1)), ()) h4) (fun J5 => split (decide (x0 ≥ 1)) (geom_Words.C s2.1 h3 (fun n8 h7 => split (decide (x0 ≤ n8)) (K s2.1 h7) (J5 h7))) (J5 h3))) (K (-1) h3)) (0, ()) h
theorem geom_Class.R (x0 : Int) (h : H) (K : Int → H → Prop) : geom_Class.S x0 h K = funW Tryz.prog Tryz.f97 29 [(.int .i64 x0)] h (resK (false, [(false, [(.i .i64)])]) K) := by kernel_rfl
theorem geom_Class.of {x0 : Int} {h : H} {K : Int → H → Prop} (hs : geom_Class.S x0 h K) : geom_Class.C x0 h K := by
  unfold geom_Class.C
  exact callK_of mixed Tryz.func97 Tryz.call97 (by kernel_rfl) (Eq.mp (geom_Class.R x0 h K) hs)

-- 98 (*gantline/alloc.Alloc).sweep
def alloc_Alloc_sweep.S (x0 : Option Addr) (x1 : Int) (h : H) (K : H → Prop) : Prop :=
  nilC x0 (fun a1 => ldP h (Addr.add a1 0) (fun p2 => arena_Arena_Sweep.C p2 x1 h (fun n5 h4 => nilC x0 (fun a6 => ldL h4 (Addr.add a6 1) (fun p7 k8 k9 => idx p7 k8 x1 1 (fun a10 => stC h4 (Addr.add a10 0) (.bool false) (fun h11 => K h11)))))))
theorem alloc_Alloc_sweep.R (x0 : Option Addr) (x1 : Int) (h : H) (K : H → Prop) : alloc_Alloc_sweep.S x0 x1 h K = funW Tryz.prog Tryz.f98 3 [(.pointer x0), (.int .i64 x1)] h (resK (true, []) K) := by kernel_rfl
theorem alloc_Alloc_sweep.of {x0 : Option Addr} {x1 : Int} {h : H} {K : H → Prop} (hs : alloc_Alloc_sweep.S x0 x1 h K) : alloc_Alloc_sweep.C x0 x1 h K := by
  unfold alloc_Alloc_sweep.C
  exact callK_of mixed Tryz.func98 Tryz.call98 (by kernel_rfl) (Eq.mp (alloc_Alloc_sweep.R x0 x1 h K) hs)

-- 99 gantline/geom.Full
def geom_Full.S (x0 : Int) (h : H) (K : Int → H → Prop) : Prop :=
  geom_Places.C x0 h (fun n3 h2 => bits_With.C 0 0 n3 18446744073709551615 h2 (fun n6 h5 => K n6 h5))
theorem geom_Full.R (x0 : Int) (h : H) (K : Int → H → Prop) : geom_Full.S x0 h K = funW Tryz.prog Tryz.f99 5 [(.int .i64 x0)] h (resK (false, [(false, [(.i .u64)])]) K) := by kernel_rfl
theorem geom_Full.of {x0 : Int} {h : H} {K : Int → H → Prop} (hs : geom_Full.S x0 h K) : geom_Full.C x0 h K := by
  unfold geom_Full.C
  exact callK_of mixed Tryz.func99 Tryz.call99 (by kernel_rfl) (Eq.mp (geom_Full.R x0 h K) hs)

-- 100 (*gantline/arena.Arena).Take
def arena_Arena_Take.S (x0 : Option Addr) (x1 : Int) (h : H) (K : Int → Int → H → Prop) : Prop :=
  arena_Arena_Class.C x0 x1 h (fun n3 h2 => split (n3 == (-1)) (K 0 4 h2) (nilC x0 (fun a4 => ldL h2 (Addr.add a4 1) (fun p5 k6 k7 => idx p5 k6 x1 3 (fun a8 => nilC (some a8) (fun a9 => ldI h2 (Addr.add a9 1) .u64 (fun n10 => bits_First.C n10 h2 (fun n13 h12 => geom_Places.C n3 h12 (fun n16 h15 => split (decide (n13 ≥ n16)) (K 0 5 h15) (nilC (some a8) (fun a17 => ldI h15 (Addr.add a17 1) .u64 (fun n18 => need (((0 : Int) ≤ (IntKind.wrap .u64 n13))) (nilC (some a8) (fun a19 => stC h15 (Addr.add (Addr.add a19 1) 0) (.int .u64 (bitsI .or .u64 n18 (shlI .u64 1 (IntKind.wrap .u64 n13)))) (fun h20 => nilC (some a8) (fun a21 => ldI h20 (Addr.add a21 2) .u64 (fun n22 => need (((0 : Int) ≤ (IntKind.wrap .u64 n13))) (nilC (some a8) (fun a23 => stC h20 (Addr.add (Addr.add a23 2) 0) (.int .u64 (bitsI .andNot .u64 n22 (shlI .u64 1 (IntKind.wrap .u64 n13)))) (fun h24 => geom_Addr.C x1 n13 n3 h24 (fun n27 h26 => nilC x0 (fun a28 => ldL h26 (Addr.add a28 0) (fun p29 k30 k31 => geom_Words.C n3 h26 (fun n34 h33 => need (ldL h33 (Addr.add a28 0) (fun p35 k36 k37 => ((.slice p35 k36 k37) : Value) = (.slice p29 k30 k31))) (slc p29 k30 k31 1 (some n27) (some (IntKind.wrap .i64 (n27 + n34))) (fun p38 k39 k40 => rawN Tryz.prog (builtin .clear #[28] 0 #[false] #[(.slice p38 k39 k40)]) h33 (fun v41 h42 => exTup0 v41 (need (ldL h42 (Addr.add a28 0) (fun p43 k44 k45 => ((.slice p43 k44 k45) : Value) = (.slice p29 k30 k31))) (K n27 0 h42)))))))))))))))))))))))))))))
theorem arena_Arena_Take.R (x0 : Option Addr) (x1 : Int) (h : H) (K : Int → Int → H → Prop) : arena_Arena_Take.S x0 x1 h K = funW Tryz.prog Tryz.f100 1011 [(.pointer x0), (.int .i64 x1)] h (resK (true, [(false, [(.i .i64)]), (false, [(.i .i64)])]) K) := by kernel_rfl
theorem arena_Arena_Take.of {x0 : Option Addr} {x1 : Int} {h : H} {K : Int → Int → H → Prop} (hs : arena_Arena_Take.S x0 x1 h K) : arena_Arena_Take.C x0 x1 h K := by
  unfold arena_Arena_Take.C
  exact callK_of mixed Tryz.func100 Tryz.call100 (by kernel_rfl) (Eq.mp (arena_Arena_Take.R x0 x1 h K) hs)

-- 101 (*gantline/alloc.Alloc).begin
def alloc_Alloc_begin.S (x0 : Option Addr) (x1 : Int) (x2 : Int) (h : H) (K : Int → Int → H → Prop) : Prop :=
  nilC x0 (fun a1 => ldL h (Addr.add a1 1) (fun p2 k3 k4 => idx p2 k3 x1 1 (fun a5 => stC h (Addr.add a5 0) (.bool false) (fun h6 => nilC x0 (fun a7 => ldP h6 (Addr.add a7 0) (fun p8 => arena_Arena_Set.C p8 x1 x2 h6 (fun n11 h10 => nilC x0 (fun a12 => ldP h10 (Addr.add a12 0) (fun p13 => arena_Arena_Take.C p13 x1 h10 (fun n18 n19 h15 => K n18 n19 h15))))))))))
theorem alloc_Alloc_begin.R (x0 : Option Addr) (x1 : Int) (x2 : Int) (h : H) (K : Int → Int → H → Prop) : alloc_Alloc_begin.S x0 x1 x2 h K = funW Tryz.prog Tryz.f101 199 [(.pointer x0), (.int .i64 x1), (.int .i64 x2)] h (resK (true, [(false, [(.i .i64)]), (false, [(.i .i64)])]) K) := by kernel_rfl
theorem alloc_Alloc_begin.of {x0 : Option Addr} {x1 : Int} {x2 : Int} {h : H} {K : Int → Int → H → Prop} (hs : alloc_Alloc_begin.S x0 x1 x2 h K) : alloc_Alloc_begin.C x0 x1 x2 h K := by
  unfold alloc_Alloc_begin.C
  exact callK_of mixed Tryz.func101 Tryz.call101 (by kernel_rfl) (Eq.mp (alloc_Alloc_begin.R x0 x1 x2 h K) hs)

-- 102 gantline/gantlineref1.Class
def gantlineref1_Class.S (x0 : Int) (h : H) (K : Int → H → Prop) : Prop :=
  loopT (σ := (Int × Unit)) (fun J1 s2 h3 => joinP (fun (h4 : H) => gantlineref1_Words.C s2.1 h4 (fun n7 h6 => split (decide (n7 ≥ x0)) (K s2.1 h6) (J1 ((IntKind.wrap .i64 (s2.1 + 1)), ()) h6))) (fun J8 => split (decide (s2.1 < 6)) (split (decide (x0 ≥ 1)) (J8 h3) (K (-1) h3)) (K (-1) h3))) (0, ()) h
theorem gantlineref1_Class.R (x0 : Int) (h : H) (K : Int → H → Prop) : gantlineref1_Class.S x0 h K = funW Tryz.prog Tryz.f102 13 [(.int .i64 x0)] h (resK (false, [(false, [(.i .i64)])]) K) := by kernel_rfl
theorem gantlineref1_Class.of {x0 : Int} {h : H} {K : Int → H → Prop} (hs : gantlineref1_Class.S x0 h K) : gantlineref1_Class.C x0 h K := by
  unfold gantlineref1_Class.C
  exact callK_of mixed Tryz.func102 Tryz.call102 (by kernel_rfl) (Eq.mp (gantlineref1_Class.R x0 h K) hs)

-- 103 (*gantline/gantlineref4.Alloc).sweep
def gantlineref4_Alloc_sweep.S (x0 : Option Addr) (x1 : Int) (h : H) (K : Bool → H → Prop) : Prop :=
  nilC x0 (fun a1 => ldL h (Addr.add a1 1) (fun p2 k3 k4 => idx p2 k3 x1 1 (fun a5 => ldB h a5 (fun b6 => split (!b6) (K false h) (nilC x0 (fun a7 => ldL h (Addr.add a7 1) (fun p8 k9 k10 => idx p8 k9 x1 1 (fun a11 => stC h (Addr.add a11 0) (.bool false) (fun h12 => nilC x0 (fun a13 => ldP h12 (Addr.add a13 0) (fun p14 => gantlineref4_Arena_Sweep.C p14 x1 h12 (fun n17 h16 => K true h16))))))))))))
theorem gantlineref4_Alloc_sweep.R (x0 : Option Addr) (x1 : Int) (h : H) (K : Bool → H → Prop) : gantlineref4_Alloc_sweep.S x0 x1 h K = funW Tryz.prog Tryz.f103 19 [(.pointer x0), (.int .i64 x1)] h (resK (false, [(false, [.b])]) K) := by kernel_rfl
theorem gantlineref4_Alloc_sweep.of {x0 : Option Addr} {x1 : Int} {h : H} {K : Bool → H → Prop} (hs : gantlineref4_Alloc_sweep.S x0 x1 h K) : gantlineref4_Alloc_sweep.C x0 x1 h K := by
  unfold gantlineref4_Alloc_sweep.C
  exact callK_of mixed Tryz.func103 Tryz.call103 (by kernel_rfl) (Eq.mp (gantlineref4_Alloc_sweep.R x0 x1 h K) hs)

-- 104 (*gantline/gantlineref4.Arena).Take
def gantlineref4_Arena_Take.S (x0 : Option Addr) (x1 : Int) (h : H) (K : Int → H → Prop) : Prop :=
  nilC x0 (fun a1 => ldL h (Addr.add a1 0) (fun p2 k3 k4 => idx p2 k3 x1 1 (fun a5 => ldI h a5 .i64 (fun n6 => loopT (σ := (Int × Unit)) (fun J7 s8 h9 => gantlineref1_Places.C n6 h9 (fun n12 h11 => split (decide (s8.1 < n12)) (gantlineref1_Addr.C x1 s8.1 n6 h11 (fun n15 h14 => gantlineref4_Arena_Find.C x0 n15 h14 (fun n18 h17 => split (decide (n18 < 0)) (loopT (σ := (Int × Unit)) (fun J19 s20 h21 => joinP (fun (h22 : H) => J19 ((IntKind.wrap .i64 (s20.1 + 1)), ()) h22) (fun J23 => nilC x0 (fun a24 => ldL h21 (Addr.add a24 1) (fun p25 k26 k27 => split (decide (s20.1 < ((k26 : Nat) : Int))) (nilC x0 (fun a28 => ldL h21 (Addr.add a28 1) (fun p29 k30 k31 => idx p29 k30 s20.1 3 (fun a32 => ldI h21 (Addr.add a32 0) .i64 (fun n33 => split (decide (n33 < n15)) (J23 h21) (newC h21 [] 172 (fun a34 h35 => nilC x0 (fun a36 => ldL h35 (Addr.add a36 1) (fun p37 k38 k39 => slc p37 k38 k39 3 none (some s20.1) (fun p40 k41 k42 => rawN Tryz.prog (builtin .append #[158, 158] 158 #[false, false] #[(.slice (some a34) 0 0), (.slice p40 k41 k42)]) h35 (fun v43 h44 => exL v43 (fun p45 k46 k47 => gantlineref1_Words.C n6 h44 (fun n50 h49 => rawV Tryz.prog (Instr.makeSlice 28 (.int .i64 n50) (.int .i64 n50)) h49 (fun v51 h52 => exL v51 (fun p53 k54 k55 => newC h52 [(.int .i64 n15), (.slice p53 k54 k55), (.bool false)] 172 (fun a56 h57 => rawN Tryz.prog (builtin .append #[158, 158] 158 #[false, false] #[(.slice p45 k46 k47), (.slice (some a56) 1 1)]) h57 (fun v58 h59 => exL v58 (fun p60 k61 k62 => nilC x0 (fun a63 => ldL h59 (Addr.add a63 1) (fun p64 k65 k66 => slc p64 k65 k66 3 (some s20.1) none (fun p67 k68 k69 => rawN Tryz.prog (builtin .append #[158, 158] 158 #[false, false] #[(.slice p60 k61 k62), (.slice p67 k68 k69)]) h59 (fun v70 h71 => exL v70 (fun p72 k73 k74 => nilC x0 (fun a75 => stC h71 (Addr.add (Addr.add a75 1) 0) (.slice p72 k73 k74) (fun h76 => K n15 h76))))))))))))))))))))))))) (newC h21 [] 172 (fun a77 h78 => nilC x0 (fun a79 => ldL h78 (Addr.add a79 1) (fun p80 k81 k82 => slc p80 k81 k82 3 none (some s20.1) (fun p83 k84 k85 => rawN Tryz.prog (builtin .append #[158, 158] 158 #[false, false] #[(.slice (some a77) 0 0), (.slice p83 k84 k85)]) h78 (fun v86 h87 => exL v86 (fun p88 k89 k90 => gantlineref1_Words.C n6 h87 (fun n93 h92 => rawV Tryz.prog (Instr.makeSlice 28 (.int .i64 n93) (.int .i64 n93)) h92 (fun v94 h95 => exL v94 (fun p96 k97 k98 => newC h95 [(.int .i64 n15), (.slice p96 k97 k98), (.bool false)] 172 (fun a99 h100 => rawN Tryz.prog (builtin .append #[158, 158] 158 #[false, false] #[(.slice p88 k89 k90), (.slice (some a99) 1 1)]) h100 (fun v101 h102 => exL v101 (fun p103 k104 k105 => nilC x0 (fun a106 => ldL h102 (Addr.add a106 1) (fun p107 k108 k109 => slc p107 k108 k109 3 (some s20.1) none (fun p110 k111 k112 => rawN Tryz.prog (builtin .append #[158, 158] 158 #[false, false] #[(.slice p103 k104 k105), (.slice p110 k111 k112)]) h102 (fun v113 h114 => exL v113 (fun p115 k116 k117 => nilC x0 (fun a118 => stC h114 (Addr.add (Addr.add a118 1) 0) (.slice p115 k116 k117) (fun h119 => K n15 h119)))))))))))))))))))))))) (0, ()) h17) (J7 ((IntKind.wrap .i64 (s8.1 + 1)), ()) h17)))) (K 0 h11))) (0, ()) h))))
theorem gantlineref4_Arena_Take.R (x0 : Option Addr) (x1 : Int) (h : H) (K : Int → H → Prop) : gantlineref4_Arena_Take.S x0 x1 h K = funW Tryz.prog Tryz.f104 1011 [(.pointer x0), (.int .i64 x1)] h (resK (false, [(false, [(.i .i64)])]) K) := by kernel_rfl
theorem gantlineref4_Arena_Take.of {x0 : Option Addr} {x1 : Int} {h : H} {K : Int → H → Prop} (hs : gantlineref4_Arena_Take.S x0 x1 h K) : gantlineref4_Arena_Take.C x0 x1 h K := by
  unfold gantlineref4_Arena_Take.C
  exact callK_of mixed Tryz.func104 Tryz.call104 (by kernel_rfl) (Eq.mp (gantlineref4_Arena_Take.R x0 x1 h K) hs)

-- 105 (*gantline/gantlineref4.Alloc).give
def gantlineref4_Alloc_give.S (x0 : Option Addr) (x1 : Int) (x2 : Int) (h : H) (K : Int → H → Prop) : Prop :=
  nilC x0 (fun a1 => ldP h (Addr.add a1 0) (fun p2 => nilC p2 (fun a3 => ldL h (Addr.add a3 0) (fun p4 k5 k6 => idx p4 k5 x1 1 (fun a7 => stC h (Addr.add a7 0) (.int .i64 x2) (fun h8 => nilC x0 (fun a9 => ldL h8 (Addr.add a9 1) (fun p10 k11 k12 => idx p10 k11 x1 1 (fun a13 => stC h8 (Addr.add a13 0) (.bool false) (fun h14 => nilC x0 (fun a15 => ldP h14 (Addr.add a15 0) (fun p16 => gantlineref4_Arena_Take.C p16 x1 h14 (fun n19 h18 => K n19 h18)))))))))))))
theorem gantlineref4_Alloc_give.R (x0 : Option Addr) (x1 : Int) (x2 : Int) (h : H) (K : Int → H → Prop) : gantlineref4_Alloc_give.S x0 x1 x2 h K = funW Tryz.prog Tryz.f105 71 [(.pointer x0), (.int .i64 x1), (.int .i64 x2)] h (resK (false, [(false, [(.i .i64)])]) K) := by kernel_rfl
theorem gantlineref4_Alloc_give.of {x0 : Option Addr} {x1 : Int} {x2 : Int} {h : H} {K : Int → H → Prop} (hs : gantlineref4_Alloc_give.S x0 x1 x2 h K) : gantlineref4_Alloc_give.C x0 x1 x2 h K := by
  unfold gantlineref4_Alloc_give.C
  exact callK_of mixed Tryz.func105 Tryz.call105 (by kernel_rfl) (Eq.mp (gantlineref4_Alloc_give.R x0 x1 x2 h K) hs)

-- 106 gantline/head.may
def head_may.S (x0_0 : Int) (x0_1 : Int) (x0_2 : Int) (h : H) (K : Bool → H → Prop) : Prop :=
  newC h [(.int .i64 x0_0), (.int .i64 x0_1), (.int .i64 x0_2)] 95 (fun a1 h2 => ldI h2 (Addr.add a1 0) .i64 (fun n3 => split (decide (n3 ≥ 1)) (ldI h2 (Addr.add a1 0) .i64 (fun n4 => split (decide (n4 ≤ 64)) (ldI h2 (Addr.add a1 1) .i64 (fun n5 => split (decide (n5 ≥ 0)) (ldI h2 (Addr.add a1 1) .i64 (fun n6 => split (decide (n6 ≤ 3)) (ldI h2 (Addr.add a1 2) .i64 (fun n7 => split (decide (n7 ≥ 0)) (ldI h2 (Addr.add a1 2) .i64 (fun n8 => K (decide (n8 < 65536)) h2)) (K false h2))) (K false h2))) (K false h2))) (K false h2))) (K false h2)))
theorem head_may.R (x0_0 : Int) (x0_1 : Int) (x0_2 : Int) (h : H) (K : Bool → H → Prop) : head_may.S x0_0 x0_1 x0_2 h K = funW Tryz.prog Tryz.f106 7 [(.agg #[(.int .i64 x0_0), (.int .i64 x0_1), (.int .i64 x0_2)])] h (resK (false, [(false, [.b])]) K) := by kernel_rfl
theorem head_may.of {x0_0 : Int} {x0_1 : Int} {x0_2 : Int} {h : H} {K : Bool → H → Prop} (hs : head_may.S x0_0 x0_1 x0_2 h K) : head_may.C x0_0 x0_1 x0_2 h K := by
  unfold head_may.C
  exact callK_of mixed Tryz.func106 Tryz.call106 (by kernel_rfl) (Eq.mp (head_may.R x0_0 x0_1 x0_2 h K) hs)

-- 107 gantline/bits.With
def bits_With.S (x0 : Int) (x1 : Int) (x2 : Int) (x3 : Int) (h : H) (K : Int → H → Prop) : Prop :=
  bits_within.C x1 x2 h (fun b3 h2 => split (!b3) (K x0 h2) (bits_mask.C x2 h2 (fun n6 h5 => need (((0 : Int) ≤ (IntKind.wrap .u64 x1))) (bits_mask.C x2 h5 (fun n9 h8 => need (((0 : Int) ≤ (IntKind.wrap .u64 x1))) (K (bitsI .or .u64 (bitsI .andNot .u64 x0 (shlI .u64 n6 (IntKind.wrap .u64 x1))) (shlI .u64 (bitsI .and .u64 x3 n9) (IntKind.wrap .u64 x1))) h8))))))
theorem bits_With.R (x0 : Int) (x1 : Int) (x2 : Int) (x3 : Int) (h : H) (K : Int → H → Prop) : bits_With.S x0 x1 x2 x3 h K = funW Tryz.prog Tryz.f107 271 [(.int .u64 x0), (.int .i64 x1), (.int .i64 x2), (.int .u64 x3)] h (resK (false, [(false, [(.i .u64)])]) K) := by kernel_rfl
theorem bits_With.of {x0 : Int} {x1 : Int} {x2 : Int} {x3 : Int} {h : H} {K : Int → H → Prop} (hs : bits_With.S x0 x1 x2 x3 h K) : bits_With.C x0 x1 x2 x3 h K := by
  unfold bits_With.C
  exact callK_of mixed Tryz.func107 Tryz.call107 (by kernel_rfl) (Eq.mp (bits_With.R x0 x1 x2 x3 h K) hs)

-- 108 (*gantline/arena.Arena).Write
def arena_Arena_Write.S (x0 : Option Addr) (x1 : Int) (x2 : Int) (x3 : Int) (h : H) (K : Int → H → Prop) : Prop :=
  arena_Arena_word.C x0 x1 x2 h (fun p3 h2 => split (Option.isNone p3) (K 1 h2) (nilC p3 (fun a4 => stC h2 (Addr.add a4 0) (.int .i64 x3) (fun h5 => K 0 h5))))
theorem arena_Arena_Write.R (x0 : Option Addr) (x1 : Int) (x2 : Int) (x3 : Int) (h : H) (K : Int → H → Prop) : arena_Arena_Write.S x0 x1 x2 x3 h K = funW Tryz.prog Tryz.f108 783 [(.pointer x0), (.int .i64 x1), (.int .i64 x2), (.int .i64 x3)] h (resK (false, [(false, [(.i .i64)])]) K) := by kernel_rfl
theorem arena_Arena_Write.of {x0 : Option Addr} {x1 : Int} {x2 : Int} {x3 : Int} {h : H} {K : Int → H → Prop} (hs : arena_Arena_Write.S x0 x1 x2 x3 h K) : arena_Arena_Write.C x0 x1 x2 x3 h K := by
  unfold arena_Arena_Write.C
  exact callK_of mixed Tryz.func108 Tryz.call108 (by kernel_rfl) (Eq.mp (arena_Arena_Write.R x0 x1 x2 x3 h K) hs)

-- 109 (*gantline/gantlineref4.Arena).Find
def gantlineref4_Arena_Find.S (x0 : Option Addr) (x1 : Int) (h : H) (K : Int → H → Prop) : Prop :=
  loopT (σ := (Int × Unit)) (fun J1 s2 h3 => nilC x0 (fun a4 => ldL h3 (Addr.add a4 1) (fun p5 k6 k7 => split (decide (s2.1 < ((k6 : Nat) : Int))) (nilC x0 (fun a8 => ldL h3 (Addr.add a8 1) (fun p9 k10 k11 => idx p9 k10 s2.1 3 (fun a12 => ldI h3 (Addr.add a12 0) .i64 (fun n13 => split (n13 == x1) (K s2.1 h3) (J1 ((IntKind.wrap .i64 (s2.1 + 1)), ()) h3)))))) (K (-1) h3)))) (0, ()) h
theorem gantlineref4_Arena_Find.R (x0 : Option Addr) (x1 : Int) (h : H) (K : Int → H → Prop) : gantlineref4_Arena_Find.S x0 x1 h K = funW Tryz.prog Tryz.f109 51 [(.pointer x0), (.int .i64 x1)] h (resK (false, [(false, [(.i .i64)])]) K) := by kernel_rfl
theorem gantlineref4_Arena_Find.of {x0 : Option Addr} {x1 : Int} {h : H} {K : Int → H → Prop} (hs : gantlineref4_Arena_Find.S x0 x1 h K) : gantlineref4_Arena_Find.C x0 x1 h K := by
  unfold gantlineref4_Arena_Find.C
  exact callK_of mixed Tryz.func109 Tryz.call109 (by kernel_rfl) (Eq.mp (gantlineref4_Arena_Find.R x0 x1 h K) hs)

-- 110 slices.Collect[int64]
def slices_Collect_int64.S (x0 : Value) (h : H) (K : Option Addr → Nat → Nat → H → Prop) : Prop :=
  slices_AppendSeq_int64_int64.C none 0 0 x0 h (fun p3 k4 k5 h2 => K p3 k4 k5 h2)
theorem slices_Collect_int64.R (x0 : Value) (h : H) (K : Option Addr → Nat → Nat → H → Prop) : slices_Collect_int64.S x0 h K = funW Tryz.prog Tryz.f110 5 [x0] h (resK (false, [(false, [.l])]) K) := by kernel_rfl
theorem slices_Collect_int64.of {x0 : Value} {h : H} {K : Option Addr → Nat → Nat → H → Prop} (hs : slices_Collect_int64.S x0 h K) : slices_Collect_int64.C x0 h K := by
  unfold slices_Collect_int64.C
  exact callK_of mixed Tryz.func110 Tryz.call110 (by kernel_rfl) (Eq.mp (slices_Collect_int64.R x0 h K) hs)

-- 111 slices.Sort[[]int64,int64]
def slices_Sort_int64_int64.S (x0p : Option Addr) (x0n : Nat) (x0c : Nat) (h : H) (K : H → Prop) : Prop :=
  math_bits_Len.C (IntKind.wrap .u64 ((x0n : Nat) : Int)) h (fun n3 h2 => slices_pdqsortOrdered_int64.C x0p x0n x0c 0 ((x0n : Nat) : Int) n3 h2 (fun h5 => K h5))
theorem slices_Sort_int64_int64.R (x0p : Option Addr) (x0n : Nat) (x0c : Nat) (h : H) (K : H → Prop) : slices_Sort_int64_int64.S x0p x0n x0c h K = funW Tryz.prog Tryz.f111 5 [(.slice x0p x0n x0c)] h (resK (true, []) K) := by kernel_rfl
theorem slices_Sort_int64_int64.of {x0p : Option Addr} {x0n : Nat} {x0c : Nat} {h : H} {K : H → Prop} (hs : slices_Sort_int64_int64.S x0p x0n x0c h K) : slices_Sort_int64_int64.C x0p x0n x0c h K := by
  unfold slices_Sort_int64_int64.C
  exact callK_of mixed Tryz.func111 Tryz.call111 (by kernel_rfl) (Eq.mp (slices_Sort_int64_int64.R x0p x0n x0c h K) hs)

-- 113 gantline/geom.Place
def geom_Place.S (x0 : Int) (x1 : Int) (h : H) (K : Int → H → Prop) : Prop :=
  joinP (fun (h1 : H) => need (((64 : Int) ≠ 0)) (geom_Words.C x1 h1 (fun n4 h3 => need ((n4 ≠ 0)) (split ((Int.tmod (Int.tmod x0 64) n4) != 0) (K (-1) h3) (geom_Words.C x1 h3 (fun n7 h6 => need ((n7 ≠ 0)) (K (IntKind.wrap .i64 (Int.tdiv (Int.tmod x0 64) n7)) h6))))))) (fun J8 => geom_Words.C x1 h (fun n11 h10 => split (n11 == 0) (K (-1) h10) (geom_Span.C x0 h10 (fun n14 h13 => split (n14 == (-1)) (K (-1) h13) (J8 h13)))))
theorem geom_Place.R (x0 : Int) (x1 : Int) (h : H) (K : Int → H → Prop) : geom_Place.S x0 x1 h K = funW Tryz.prog Tryz.f113 51 [(.int .i64 x0), (.int .i64 x1)] h (resK (false, [(false, [(.i .i64)])]) K) := by kernel_rfl
theorem geom_Place.of {x0 : Int} {x1 : Int} {h : H} {K : Int → H → Prop} (hs : geom_Place.S x0 x1 h K) : geom_Place.C x0 x1 h K := by
  unfold geom_Place.C
  exact callK_of mixed Tryz.func113 Tryz.call113 (by kernel_rfl) (Eq.mp (geom_Place.R x0 x1 h K) hs)

-- 114 (*gantline/arena.Arena).has
def arena_Arena_has.S (x0 : Option Addr) (x1 : Int) (h : H) (K : Bool → H → Prop) : Prop :=
  split (decide (x1 ≥ 1)) (nilC x0 (fun a1 => ldL h (Addr.add a1 1) (fun p2 k3 k4 => K (decide (x1 < ((k3 : Nat) : Int))) h))) (K false h)
theorem arena_Arena_has.R (x0 : Option Addr) (x1 : Int) (h : H) (K : Bool → H → Prop) : arena_Arena_has.S x0 x1 h K = funW Tryz.prog Tryz.f114 19 [(.pointer x0), (.int .i64 x1)] h (resK (false, [(false, [.b])]) K) := by kernel_rfl
theorem arena_Arena_has.of {x0 : Option Addr} {x1 : Int} {h : H} {K : Bool → H → Prop} (hs : arena_Arena_has.S x0 x1 h K) : arena_Arena_has.C x0 x1 h K := by
  unfold arena_Arena_has.C
  exact callK_of mixed Tryz.func114 Tryz.call114 (by kernel_rfl) (Eq.mp (arena_Arena_has.R x0 x1 h K) hs)

-- 115 (*gantline/cycle.Cycle).shades
def cycle_Cycle_shades.S (x0 : Option Addr) (h : H) (K : Bool → H → Prop) : Prop :=
  nilC x0 (fun a1 => ldI h (Addr.add a1 4) .i64 (fun n2 => split (n2 == 1) (K true h) (nilC x0 (fun a3 => ldI h (Addr.add a3 4) .i64 (fun n4 => K (n4 == 2) h)))))
theorem cycle_Cycle_shades.R (x0 : Option Addr) (h : H) (K : Bool → H → Prop) : cycle_Cycle_shades.S x0 h K = funW Tryz.prog Tryz.f115 5 [(.pointer x0)] h (resK (false, [(false, [.b])]) K) := by kernel_rfl
theorem cycle_Cycle_shades.of {x0 : Option Addr} {h : H} {K : Bool → H → Prop} (hs : cycle_Cycle_shades.S x0 h K) : cycle_Cycle_shades.C x0 h K := by
  unfold cycle_Cycle_shades.C
  exact callK_of mixed Tryz.func115 Tryz.call115 (by kernel_rfl) (Eq.mp (cycle_Cycle_shades.R x0 h K) hs)

-- 116 slices.Contains[[]int,int]
def slices_Contains_int_int.S (x0p : Option Addr) (x0n : Nat) (x0c : Nat) (x1 : Int) (h : H) (K : Bool → H → Prop) : Prop :=
  slices_Index_int_int.C x0p x0n x0c x1 h (fun n3 h2 => K (decide (n3 ≥ 0)) h2)
theorem slices_Contains_int_int.R (x0p : Option Addr) (x0n : Nat) (x0c : Nat) (x1 : Int) (h : H) (K : Bool → H → Prop) : slices_Contains_int_int.S x0p x0n x0c x1 h K = funW Tryz.prog Tryz.f116 19 [(.slice x0p x0n x0c), (.int .i64 x1)] h (resK (false, [(false, [.b])]) K) := by kernel_rfl
theorem slices_Contains_int_int.of {x0p : Option Addr} {x0n : Nat} {x0c : Nat} {x1 : Int} {h : H} {K : Bool → H → Prop} (hs : slices_Contains_int_int.S x0p x0n x0c x1 h K) : slices_Contains_int_int.C x0p x0n x0c x1 h K := by
  unfold slices_Contains_int_int.C
  exact callK_of mixed Tryz.func116 Tryz.call116 (by kernel_rfl) (Eq.mp (slices_Contains_int_int.R x0p x0n x0c x1 h K) hs)

-- 117 (*gantline/gantlineref4.Cycle).marking
def gantlineref4_Cycle_marking.S (x0 : Option Addr) (h : H) (K : Bool → H → Prop) : Prop :=
  nilC x0 (fun a1 => ldI h (Addr.add a1 3) .i64 (fun n2 => split (n2 == 1) (K true h) (nilC x0 (fun a3 => ldI h (Addr.add a3 3) .i64 (fun n4 => K (n4 == 2) h)))))
theorem gantlineref4_Cycle_marking.R (x0 : Option Addr) (h : H) (K : Bool → H → Prop) : gantlineref4_Cycle_marking.S x0 h K = funW Tryz.prog Tryz.f117 5 [(.pointer x0)] h (resK (false, [(false, [.b])]) K) := by kernel_rfl
theorem gantlineref4_Cycle_marking.of {x0 : Option Addr} {h : H} {K : Bool → H → Prop} (hs : gantlineref4_Cycle_marking.S x0 h K) : gantlineref4_Cycle_marking.C x0 h K := by
  unfold gantlineref4_Cycle_marking.C
  exact callK_of mixed Tryz.func117 Tryz.call117 (by kernel_rfl) (Eq.mp (gantlineref4_Cycle_marking.R x0 h K) hs)

-- 118 (*gantline/gantlineref4.Arena).Mark
def gantlineref4_Arena_Mark.S (x0 : Option Addr) (x1 : Int) (h : H) (K : Bool → H → Prop) : Prop :=
  gantlineref4_Arena_Find.C x0 x1 h (fun n3 h2 => joinP (fun (h4 : H) => nilC x0 (fun a5 => ldL h4 (Addr.add a5 1) (fun p6 k7 k8 => idx p6 k7 n3 3 (fun a9 => stC h4 (Addr.add (Addr.add a9 2) 0) (.bool true) (fun h10 => K true h10))))) (fun J11 => split (decide (n3 < 0)) (K false h2) (nilC x0 (fun a12 => ldL h2 (Addr.add a12 1) (fun p13 k14 k15 => idx p13 k14 n3 3 (fun a16 => ldB h2 (Addr.add a16 2) (fun b17 => split b17 (K false h2) (J11 h2))))))))
theorem gantlineref4_Arena_Mark.R (x0 : Option Addr) (x1 : Int) (h : H) (K : Bool → H → Prop) : gantlineref4_Arena_Mark.S x0 x1 h K = funW Tryz.prog Tryz.f118 51 [(.pointer x0), (.int .i64 x1)] h (resK (false, [(false, [.b])]) K) := by kernel_rfl
theorem gantlineref4_Arena_Mark.of {x0 : Option Addr} {x1 : Int} {h : H} {K : Bool → H → Prop} (hs : gantlineref4_Arena_Mark.S x0 x1 h K) : gantlineref4_Arena_Mark.C x0 x1 h K := by
  unfold gantlineref4_Arena_Mark.C
  exact callK_of mixed Tryz.func118 Tryz.call118 (by kernel_rfl) (Eq.mp (gantlineref4_Arena_Mark.R x0 x1 h K) hs)

-- 119 (*gantline/gantlineref4.Arena).Clear
def gantlineref4_Arena_Clear.S (x0 : Option Addr) (h : H) (K : H → Prop) : Prop :=
  loopT (σ := (Int × Unit)) (fun J1 s2 h3 => nilC x0 (fun a4 => ldL h3 (Addr.add a4 1) (fun p5 k6 k7 => split (decide (s2.1 < ((k6 : Nat) : Int))) (nilC x0 (fun a8 => ldL h3 (Addr.add a8 1) (fun p9 k10 k11 => idx p9 k10 s2.1 3 (fun a12 => stC h3 (Addr.add (Addr.add a12 2) 0) (.bool false) (fun h13 => J1 ((IntKind.wrap .i64 (s2.1 + 1)), ()) h13))))) (K h3)))) (0, ()) h
theorem gantlineref4_Arena_Clear.R (x0 : Option Addr) (h : H) (K : H → Prop) : gantlineref4_Arena_Clear.S x0 h K = funW Tryz.prog Tryz.f119 5 [(.pointer x0)] h (resK (true, []) K) := by kernel_rfl
theorem gantlineref4_Arena_Clear.of {x0 : Option Addr} {h : H} {K : H → Prop} (hs : gantlineref4_Arena_Clear.S x0 h K) : gantlineref4_Arena_Clear.C x0 h K := by
  unfold gantlineref4_Arena_Clear.C
  exact callK_of mixed Tryz.func119 Tryz.call119 (by kernel_rfl) (Eq.mp (gantlineref4_Arena_Clear.R x0 h K) hs)

-- 120 (*gantline/gantlineref4.Marker).Shade
def gantlineref4_Marker_Shade.S (x0 : Option Addr) (x1 : Int) (h : H) (K : Bool → H → Prop) : Prop :=
  nilC x0 (fun a1 => ldP h (Addr.add a1 0) (fun p2 => gantlineref4_Arena_Mark.C p2 x1 h (fun b5 h4 => split (!b5) (K false h4) (nilC x0 (fun a6 => ldL h4 (Addr.add a6 2) (fun p7 k8 k9 => newC h4 [(.int .i64 x1)] 2 (fun a10 h11 => rawN Tryz.prog (builtin .append #[28, 28] 28 #[false, false] #[(.slice p7 k8 k9), (.slice (some a10) 1 1)]) h11 (fun v12 h13 => exL v12 (fun p14 k15 k16 => nilC x0 (fun a17 => stC h13 (Addr.add (Addr.add a17 2) 0) (.slice p14 k15 k16) (fun h18 => K true h18)))))))))))
theorem gantlineref4_Marker_Shade.R (x0 : Option Addr) (x1 : Int) (h : H) (K : Bool → H → Prop) : gantlineref4_Marker_Shade.S x0 x1 h K = funW Tryz.prog Tryz.f120 19 [(.pointer x0), (.int .i64 x1)] h (resK (false, [(false, [.b])]) K) := by kernel_rfl
theorem gantlineref4_Marker_Shade.of {x0 : Option Addr} {x1 : Int} {h : H} {K : Bool → H → Prop} (hs : gantlineref4_Marker_Shade.S x0 x1 h K) : gantlineref4_Marker_Shade.C x0 x1 h K := by
  unfold gantlineref4_Marker_Shade.C
  exact callK_of mixed Tryz.func120 Tryz.call120 (by kernel_rfl) (Eq.mp (gantlineref4_Marker_Shade.R x0 x1 h K) hs)

-- 121 (*gantline/gantlinelaw8.holder).Stack
def gantlinelaw8_holder_Stack.S (x0 : Option Addr) (x1 : Int) (h : H) (K : Option Addr → Nat → Nat → H → Prop) : Prop :=
  joinP (fun (h1 : H) => newC h1 [] 2 (fun a2 h3 => nilC x0 (fun a4 => idxA (Addr.add a4 1) 4 (IntKind.wrap .i64 (x1 - 1)) 1 (fun a5 => ldL h3 a5 (fun p6 k7 k8 => rawN Tryz.prog (builtin .append #[28, 28] 28 #[false, false] #[(.slice (some a2) 0 0), (.slice p6 k7 k8)]) h3 (fun v9 h10 => exL v9 (fun p11 k12 k13 => K p11 k12 k13 h10))))))) (fun J14 => split (decide (x1 < 1)) (K none 0 0 h) (split (decide (x1 > 4)) (K none 0 0 h) (J14 h)))
theorem gantlinelaw8_holder_Stack.R (x0 : Option Addr) (x1 : Int) (h : H) (K : Option Addr → Nat → Nat → H → Prop) : gantlinelaw8_holder_Stack.S x0 x1 h K = funW Tryz.prog Tryz.f121 19 [(.pointer x0), (.int .i64 x1)] h (resK (false, [(false, [.l])]) K) := by kernel_rfl
theorem gantlinelaw8_holder_Stack.of {x0 : Option Addr} {x1 : Int} {h : H} {K : Option Addr → Nat → Nat → H → Prop} (hs : gantlinelaw8_holder_Stack.S x0 x1 h K) : gantlinelaw8_holder_Stack.C x0 x1 h K := by
  unfold gantlinelaw8_holder_Stack.C
  exact callK_of mixed Tryz.func121 Tryz.call121 (by kernel_rfl) (Eq.mp (gantlinelaw8_holder_Stack.R x0 x1 h K) hs)

-- 122 (*gantline/gantlineref4.Cycle).white
def gantlineref4_Cycle_white.S (x0 : Option Addr) (x1_0p : Option Addr) (x1_0n : Nat) (x1_0c : Nat) (x1_1p : Option Addr) (x1_1n : Nat) (x1_1c : Nat) (x1_2p : Option Addr) (x1_2n : Nat) (x1_2c : Nat) (h : H) (K : Int → H → Prop) : Prop :=
  newC h [(.slice x1_0p x1_0n x1_0c), (.slice x1_1p x1_1n x1_1c), (.slice x1_2p x1_2n x1_2c)] 133 (fun a1 h2 => loopT (σ := (Int × (Int × Unit))) (fun J3 s4 h5 => ldL h5 (Addr.add a1 1) (fun p6 k7 k8 => split (decide (s4.1 < ((k7 : Nat) : Int))) (joinP (fun (n9 : Int) (h10 : H) => J3 ((IntKind.wrap .i64 (s4.1 + 1)), (n9, ())) h10) (fun J11 => ldL h5 (Addr.add a1 1) (fun p12 k13 k14 => idx p12 k13 s4.1 1 (fun a15 => ldI h5 a15 .i64 (fun n16 => gantlineref4_Cycle_IsBlack.C x0 n16 h5 (fun b19 h18 => need (ldL h18 (Addr.add a1 1) (fun p20 k21 k22 => ((.slice p20 k21 k22) : Value) = (.slice p12 k13 k14))) (split (!b19) (split (decide (s4.2.1 < 0)) (J11 s4.1 h18) (ldL h18 (Addr.add a1 1) (fun p23 k24 k25 => idx p23 k24 s4.1 1 (fun a26 => ldI h18 a26 .i64 (fun n27 => ldL h18 (Addr.add a1 1) (fun p28 k29 k30 => idx p28 k29 s4.2.1 1 (fun a31 => ldI h18 a31 .i64 (fun n32 => split (decide (n27 < n32)) (J11 s4.1 h18) (J11 s4.2.1 h18))))))))) (J11 s4.2.1 h18)))))))) (K s4.2.1 h5))) (0, ((-1), ())) h2)
theorem gantlineref4_Cycle_white.R (x0 : Option Addr) (x1_0p : Option Addr) (x1_0n : Nat) (x1_0c : Nat) (x1_1p : Option Addr) (x1_1n : Nat) (x1_1c : Nat) (x1_2p : Option Addr) (x1_2n : Nat) (x1_2c : Nat) (h : H) (K : Int → H → Prop) : gantlineref4_Cycle_white.S x0 x1_0p x1_0n x1_0c x1_1p x1_1n x1_1c x1_2p x1_2n x1_2c h K = funW Tryz.prog Tryz.f122 123 [(.pointer x0), (.agg #[(.slice x1_0p x1_0n x1_0c), (.slice x1_1p x1_1n x1_1c), (.slice x1_2p x1_2n x1_2c)])] h (resK (false, [(false, [(.i .i64)])]) K) := by kernel_rfl
theorem gantlineref4_Cycle_white.of {x0 : Option Addr} {x1_0p : Option Addr} {x1_0n : Nat} {x1_0c : Nat} {x1_1p : Option Addr} {x1_1n : Nat} {x1_1c : Nat} {x1_2p : Option Addr} {x1_2n : Nat} {x1_2c : Nat} {h : H} {K : Int → H → Prop} (hs : gantlineref4_Cycle_white.S x0 x1_0p x1_0n x1_0c x1_1p x1_1n x1_1c x1_2p x1_2n x1_2c h K) : gantlineref4_Cycle_white.C x0 x1_0p x1_0n x1_0c x1_1p x1_1n x1_1c x1_2p x1_2n x1_2c h K := by
  unfold gantlineref4_Cycle_white.C
  exact callK_of mixed Tryz.func122 Tryz.call122 (by kernel_rfl) (Eq.mp (gantlineref4_Cycle_white.R x0 x1_0p x1_0n x1_0c x1_1p x1_1n x1_1c x1_2p x1_2n x1_2c h K) hs)

-- 123 (*gantline/gantlineref4.Marker).Step
def gantlineref4_Marker_Step.S (x0 : Option Addr) (h : H) (K : Bool → H → Prop) : Prop :=
  nilC x0 (fun a1 => ldL h (Addr.add a1 2) (fun p2 k3 k4 => split (((k3 : Nat) : Int) == 0) (K false h) (nilC x0 (fun a5 => ldL h (Addr.add a5 2) (fun p6 k7 k8 => idx p6 k7 0 1 (fun a9 => ldI h a9 .i64 (fun n10 => gantlineref4_Marker_Fields.C x0 n10 h (fun p13 k14 k15 h12 => nilC x0 (fun a16 => ldL h12 (Addr.add a16 2) (fun p17 k18 k19 => slc p17 k18 k19 1 (some 1) none (fun p20 k21 k22 => nilC x0 (fun a23 => stC h12 (Addr.add (Addr.add a23 2) 0) (.slice p20 k21 k22) (fun h24 => loopT (σ := (Int × Unit)) (fun J25 s26 h27 => split (decide (s26.1 < ((k14 : Nat) : Int))) (idx p13 k14 s26.1 1 (fun a28 => ldI h27 a28 .i64 (fun n29 => gantlineref4_Marker_Shade.C x0 n29 h27 (fun b32 h31 => J25 ((IntKind.wrap .i64 (s26.1 + 1)), ()) h31)))) (K true h27)) (0, ()) h24)))))))))))))
theorem gantlineref4_Marker_Step.R (x0 : Option Addr) (h : H) (K : Bool → H → Prop) : gantlineref4_Marker_Step.S x0 h K = funW Tryz.prog Tryz.f123 29 [(.pointer x0)] h (resK (false, [(false, [.b])]) K) := by kernel_rfl
theorem gantlineref4_Marker_Step.of {x0 : Option Addr} {h : H} {K : Bool → H → Prop} (hs : gantlineref4_Marker_Step.S x0 h K) : gantlineref4_Marker_Step.C x0 h K := by
  unfold gantlineref4_Marker_Step.C
  exact callK_of mixed Tryz.func123 Tryz.call123 (by kernel_rfl) (Eq.mp (gantlineref4_Marker_Step.R x0 h K) hs)

-- 124 (*gantline/gantlineref4.Alloc).MakeStale
def gantlineref4_Alloc_MakeStale.S (x0 : Option Addr) (h : H) (K : H → Prop) : Prop :=
  loopT (σ := (Int × Unit)) (fun J1 s2 h3 => nilC x0 (fun a4 => ldL h3 (Addr.add a4 1) (fun p5 k6 k7 => split (decide (s2.1 < ((k6 : Nat) : Int))) (nilC x0 (fun a8 => nilC x0 (fun a9 => ldL h3 (Addr.add a8 1) (fun p10 k11 k12 => ldP h3 (Addr.add a9 0) (fun p13 => nilC p13 (fun a14 => ldL h3 (Addr.add a14 0) (fun p15 k16 k17 => idx p15 k16 s2.1 1 (fun a18 => ldI h3 a18 .i64 (fun n19 => idx p10 k11 s2.1 1 (fun a20 => stC h3 (Addr.add a20 0) (.bool (decide (n19 ≥ 0))) (fun h21 => J1 ((IntKind.wrap .i64 (s2.1 + 1)), ()) h21))))))))))) (K h3)))) (0, ()) h
theorem gantlineref4_Alloc_MakeStale.R (x0 : Option Addr) (h : H) (K : H → Prop) : gantlineref4_Alloc_MakeStale.S x0 h K = funW Tryz.prog Tryz.f124 5 [(.pointer x0)] h (resK (true, []) K) := by kernel_rfl
theorem gantlineref4_Alloc_MakeStale.of {x0 : Option Addr} {h : H} {K : H → Prop} (hs : gantlineref4_Alloc_MakeStale.S x0 h K) : gantlineref4_Alloc_MakeStale.C x0 h K := by
  unfold gantlineref4_Alloc_MakeStale.C
  exact callK_of mixed Tryz.func124 Tryz.call124 (by kernel_rfl) (Eq.mp (gantlineref4_Alloc_MakeStale.R x0 h K) hs)

-- 125 (*gantline/gantlineref4.Alloc).SweepOne
def gantlineref4_Alloc_SweepOne.S (x0 : Option Addr) (h : H) (K : Bool → H → Prop) : Prop :=
  loopT (σ := (Int × Unit)) (fun J1 s2 h3 => nilC x0 (fun a4 => ldL h3 (Addr.add a4 1) (fun p5 k6 k7 => split (decide (s2.1 < ((k6 : Nat) : Int))) (gantlineref4_Alloc_sweep.C x0 s2.1 h3 (fun b10 h9 => split b10 (K true h9) (J1 ((IntKind.wrap .i64 (s2.1 + 1)), ()) h9))) (K false h3)))) (0, ()) h
theorem gantlineref4_Alloc_SweepOne.R (x0 : Option Addr) (h : H) (K : Bool → H → Prop) : gantlineref4_Alloc_SweepOne.S x0 h K = funW Tryz.prog Tryz.f125 13 [(.pointer x0)] h (resK (false, [(false, [.b])]) K) := by kernel_rfl
theorem gantlineref4_Alloc_SweepOne.of {x0 : Option Addr} {h : H} {K : Bool → H → Prop} (hs : gantlineref4_Alloc_SweepOne.S x0 h K) : gantlineref4_Alloc_SweepOne.C x0 h K := by
  unfold gantlineref4_Alloc_SweepOne.C
  exact callK_of mixed Tryz.func125 Tryz.call125 (by kernel_rfl) (Eq.mp (gantlineref4_Alloc_SweepOne.R x0 h K) hs)

-- 126 (*gantline/gantlineref4.Alloc).Used
def gantlineref4_Alloc_Used.S (x0 : Option Addr) (h : H) (K : Int → H → Prop) : Prop :=
  loopT (σ := (Int × (Int × Unit))) (fun J1 s2 h3 => nilC x0 (fun a4 => ldP h3 (Addr.add a4 0) (fun p5 => nilC p5 (fun a6 => ldL h3 (Addr.add a6 1) (fun p7 k8 k9 => split (decide (s2.1 < ((k8 : Nat) : Int))) (nilC x0 (fun a10 => ldP h3 (Addr.add a10 0) (fun p11 => nilC p11 (fun a12 => ldL h3 (Addr.add a12 1) (fun p13 k14 k15 => idx p13 k14 s2.1 3 (fun a16 => ldL h3 (Addr.add a16 1) (fun p17 k18 k19 => J1 ((IntKind.wrap .i64 (s2.1 + 1)), ((IntKind.wrap .i64 (s2.2.1 + ((k18 : Nat) : Int))), ())) h3))))))) (K s2.2.1 h3)))))) (0, (0, ())) h
theorem gantlineref4_Alloc_Used.R (x0 : Option Addr) (h : H) (K : Int → H → Prop) : gantlineref4_Alloc_Used.S x0 h K = funW Tryz.prog Tryz.f126 29 [(.pointer x0)] h (resK (false, [(false, [(.i .i64)])]) K) := by kernel_rfl
theorem gantlineref4_Alloc_Used.of {x0 : Option Addr} {h : H} {K : Int → H → Prop} (hs : gantlineref4_Alloc_Used.S x0 h K) : gantlineref4_Alloc_Used.C x0 h K := by
  unfold gantlineref4_Alloc_Used.C
  exact callK_of mixed Tryz.func126 Tryz.call126 (by kernel_rfl) (Eq.mp (gantlineref4_Alloc_Used.R x0 h K) hs)

-- 127 (*gantline/gantlineref4.Cycle).IsBlack
def gantlineref4_Cycle_IsBlack.S (x0 : Option Addr) (x1 : Int) (h : H) (K : Bool → H → Prop) : Prop :=
  loopT (σ := (Int × Unit)) (fun J1 s2 h3 => nilC x0 (fun a4 => ldL h3 (Addr.add a4 4) (fun p5 k6 k7 => split (decide (s2.1 < ((k6 : Nat) : Int))) (nilC x0 (fun a8 => ldL h3 (Addr.add a8 4) (fun p9 k10 k11 => idx p9 k10 s2.1 1 (fun a12 => ldI h3 a12 .i64 (fun n13 => split (n13 == x1) (K true h3) (J1 ((IntKind.wrap .i64 (s2.1 + 1)), ()) h3)))))) (K false h3)))) (0, ()) h
theorem gantlineref4_Cycle_IsBlack.R (x0 : Option Addr) (x1 : Int) (h : H) (K : Bool → H → Prop) : gantlineref4_Cycle_IsBlack.S x0 x1 h K = funW Tryz.prog Tryz.f127 51 [(.pointer x0), (.int .i64 x1)] h (resK (false, [(false, [.b])]) K) := by kernel_rfl
theorem gantlineref4_Cycle_IsBlack.of {x0 : Option Addr} {x1 : Int} {h : H} {K : Bool → H → Prop} (hs : gantlineref4_Cycle_IsBlack.S x0 x1 h K) : gantlineref4_Cycle_IsBlack.C x0 x1 h K := by
  unfold gantlineref4_Cycle_IsBlack.C
  exact callK_of mixed Tryz.func127 Tryz.call127 (by kernel_rfl) (Eq.mp (gantlineref4_Cycle_IsBlack.R x0 x1 h K) hs)


end Go.Proofs.YtkfdbgpegekcfaaGreatDoorP
