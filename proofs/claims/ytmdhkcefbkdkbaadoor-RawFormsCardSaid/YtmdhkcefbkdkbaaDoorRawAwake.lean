/- The contract of layer 2's awake. -/
import Derived.Test.YtmdhkcefbkdkbaaDoorRawFree6
import Derived.Test.YtmdhkcefbkdkbaaDoorRawRSame
set_option linter.unusedVariables false
set_option linter.unusedSimpArgs false
namespace Lfc
def awS : Raw := .node 1 [115] 0 []
def awZ : Raw := .node 1 [122] 0 []
def awR : Raw := .node 5 [] 0 [awS, awZ]
def awN : Raw := .node 0 [] 0 []
end Lfc
namespace Go.Proofs.YtmdhkcefbkdkbaaDoor
open Go.RowKit

structure AwE (h : Nat) (w : World) : Prop where
  le : h + 4 ≤ w.heap.size
  s0 : w.cell? ⟨h, 0, none⟩ = some (.int .i64 1) ∧ w.cell? ⟨h, 1, none⟩ = some (S [115]) ∧ w.cell? ⟨h, 2, none⟩ = some (.int .i64 0) ∧ w.cell? ⟨h, 3, none⟩ = some (.slice none 0 0)
  z0 : w.cell? ⟨h + 1, 0, none⟩ = some (.int .i64 1) ∧ w.cell? ⟨h + 1, 1, none⟩ = some (S [122]) ∧ w.cell? ⟨h + 1, 2, none⟩ = some (.int .i64 0) ∧ w.cell? ⟨h + 1, 3, none⟩ = some (.slice none 0 0)
  r0 : w.cell? ⟨h + 1 + 1 + 1, 0, none⟩ = some (.int .i64 5) ∧ w.cell? ⟨h + 1 + 1 + 1, 1, none⟩ = some (S []) ∧ w.cell? ⟨h + 1 + 1 + 1, 2, none⟩ = some (.int .i64 0) ∧ w.cell? ⟨h + 1 + 1 + 1, 3, none⟩ = some (.slice (some ⟨h + 1 + 1, 0, none⟩) 2 2)
  s : TreeV w Lfc.awS (.agg #[.int .i64 1, S [115], .int .i64 0, .slice none 0 0])
  z : TreeV w Lfc.awZ (.agg #[.int .i64 1, S [122], .int .i64 0, .slice none 0 0])
  r : TreeV w Lfc.awR (.agg #[.int .i64 5, S [], .int .i64 0, .slice (some ⟨h + 1 + 1, 0, none⟩) 2 2])
theorem AwE.below {h : Nat} {w w' : World} (e : AwE h w) (hb : Below w.heap.size w w') : AwE h w' := by
  have hl := e.le
  refine ⟨Nat.le_trans hl hb.size, ?_, ?_, ?_, e.s.below hb, e.z.below hb, e.r.below hb⟩
  · exact ⟨(hb.cell (p := ⟨h, 0, none⟩) (by simp only; omega)).trans e.s0.1, (hb.cell (p := ⟨h, 1, none⟩) (by simp only; omega)).trans e.s0.2.1, (hb.cell (p := ⟨h, 2, none⟩) (by simp only; omega)).trans e.s0.2.2.1, (hb.cell (p := ⟨h, 3, none⟩) (by simp only; omega)).trans e.s0.2.2.2⟩
  · exact ⟨(hb.cell (p := ⟨h + 1, 0, none⟩) (by simp only; omega)).trans e.z0.1, (hb.cell (p := ⟨h + 1, 1, none⟩) (by simp only; omega)).trans e.z0.2.1, (hb.cell (p := ⟨h + 1, 2, none⟩) (by simp only; omega)).trans e.z0.2.2.1, (hb.cell (p := ⟨h + 1, 3, none⟩) (by simp only; omega)).trans e.z0.2.2.2⟩
  · exact ⟨(hb.cell (p := ⟨h + 1 + 1 + 1, 0, none⟩) (by simp only; omega)).trans e.r0.1, (hb.cell (p := ⟨h + 1 + 1 + 1, 1, none⟩) (by simp only; omega)).trans e.r0.2.1, (hb.cell (p := ⟨h + 1 + 1 + 1, 2, none⟩) (by simp only; omega)).trans e.r0.2.2.1, (hb.cell (p := ⟨h + 1 + 1 + 1, 3, none⟩) (by simp only; omega)).trans e.r0.2.2.2⟩
theorem treeV_nil (w : World) (k p : Int) (n : List UInt8) (hn : n.length ≤ 1000000) : TreeV w (.node k n p []) (.agg #[.int .i64 k, S n, .int .i64 p, .slice none 0 0]) :=
  TreeV.mk (ts := []) hn (Nat.le_refl _) (fun h => absurd rfl h)

theorem awEnv (w : World) : ∃ w4, (((w.alloc (.cells #[.int .i64 1, S [115], .int .i64 0, .slice none 0 0] 42)).alloc (.cells #[.int .i64 1, S [122], .int .i64 0, .slice none 0 0] 42)).alloc (.cells #[.int .i64 1, S [115], .int .i64 0, .slice none 0 0, .int .i64 1, S [122], .int .i64 0, .slice none 0 0] 42)).alloc (.cells #[.int .i64 5, S [], .int .i64 0, .slice (some ⟨w.heap.size + 1 + 1, 0, none⟩) 2 2] 42) = w4 ∧ AwE w.heap.size w4 ∧ Below w.heap.size w w4 := by
  obtain ⟨w4, hw4⟩ : ∃ w4, (((w.alloc (.cells #[.int .i64 1, S [115], .int .i64 0, .slice none 0 0] 42)).alloc (.cells #[.int .i64 1, S [122], .int .i64 0, .slice none 0 0] 42)).alloc (.cells #[.int .i64 1, S [115], .int .i64 0, .slice none 0 0, .int .i64 1, S [122], .int .i64 0, .slice none 0 0] 42)).alloc (.cells #[.int .i64 5, S [], .int .i64 0, .slice (some ⟨w.heap.size + 1 + 1, 0, none⟩) 2 2] 42) = w4 := ⟨_, rfl⟩
  have hn := fun (W : World) (o : Obj) (k : Nat) (h : k = W.heap.size) => (h ▸ heap_alloc_new W o : (W.alloc o).heap[k]? = some o)
  have q0 : w4.heap[w.heap.size]? = some (.cells #[.int .i64 1, S [115], .int .i64 0, .slice none 0 0] 42) := by
    rw [← hw4]; exact heap_alloc_old _ _ _ _ (heap_alloc_old _ _ _ _ (heap_alloc_old _ _ _ _ (heap_alloc_new _ _)))
  have q1 : w4.heap[w.heap.size + 1]? = some (.cells #[.int .i64 1, S [122], .int .i64 0, .slice none 0 0] 42) := by
    rw [← hw4]; exact heap_alloc_old _ _ _ _ (heap_alloc_old _ _ _ _ (hn _ _ _ (by simp)))
  have q2 : w4.heap[w.heap.size + 1 + 1]? = some (.cells #[.int .i64 1, S [115], .int .i64 0, .slice none 0 0, .int .i64 1, S [122], .int .i64 0, .slice none 0 0] 42) := by
    rw [← hw4]; exact heap_alloc_old _ _ _ _ (hn _ _ _ (by simp))
  have q3 : w4.heap[w.heap.size + 1 + 1 + 1]? = some (.cells #[.int .i64 5, S [], .int .i64 0, .slice (some ⟨w.heap.size + 1 + 1, 0, none⟩) 2 2] 42) := by
    rw [← hw4]; exact hn _ _ _ (by simp)
  have hb : Below w.heap.size w w4 := by
    rw [← hw4]; exact ((((Below.refl _ _).alloc (Nat.le_refl _) _).alloc (by simp) _).alloc (by simp; omega) _).alloc (by simp; omega) _
  have hsz : w4.heap.size = w.heap.size + 4 := by rw [← hw4]; simp
  refine ⟨w4, hw4, ⟨by omega, ⟨Lib.cell_of_heap q0 0, Lib.cell_of_heap q0 1, Lib.cell_of_heap q0 2, Lib.cell_of_heap q0 3⟩, ⟨Lib.cell_of_heap q1 0, Lib.cell_of_heap q1 1, Lib.cell_of_heap q1 2, Lib.cell_of_heap q1 3⟩, ⟨Lib.cell_of_heap q3 0, Lib.cell_of_heap q3 1, Lib.cell_of_heap q3 2, Lib.cell_of_heap q3 3⟩, treeV_nil _ _ _ _ (by simp), treeV_nil _ _ _ _ (by simp), ?_⟩, hb⟩
  refine TreeV.mk (ts := [Lfc.awS, Lfc.awZ]) (by simp) (Nat.le_refl _) (fun _ => ⟨_, _, rfl, by omega, ?_⟩)
  refine ⟨⟨_, _, _, _, Lib.cell_of_heap q2 0, Lib.cell_of_heap q2 1, Lib.cell_of_heap q2 2, Lib.cell_of_heap q2 3, ?_⟩, ⟨_, _, _, _, Lib.cell_of_heap q2 4, Lib.cell_of_heap q2 5, Lib.cell_of_heap q2 6, Lib.cell_of_heap q2 7, ?_⟩, trivial⟩
  · exact ⟨rfl, rfl, by simp, rfl, none, 0, rfl, Nat.le_refl _, fun h => absurd rfl h⟩
  · exact ⟨rfl, rfl, by simp, rfl, none, 0, rfl, Nat.le_refl _, fun h => absurd rfl h⟩

set_option maxRecDepth 100000 in
set_option maxHeartbeats 2000000 in
theorem awake2_any (w : World) : Calls Tryd.prog 37 #[] w fun e w' => e = .returned (.bool true) ∧ Below w.heap.size w w' := by
  obtain ⟨w4, hw4, E4, b4⟩ := awEnv w
  have x1 : Lfc.awR.fmt [] = [40, 115, 32, 122, 41] := by decide
  have x2 : Lfc.awR.wf = 0 := by decide
  have x3 : Lfc.awN.wf = 1 := by decide
  have x4 : Lfc.awR.size = 3 := by decide
  have x5 : Lfc.awR.depth = 2 := by decide
  have x6 : Lfc.awR.freeN.length = 2 := by decide
  have x7 : Lfc.Raw.same false Lfc.awR Lfc.awR = true := by decide
  have x8 : Lfc.Raw.same false Lfc.awS Lfc.awZ = false := by decide
  have HX := Lib.hid (And.intro x1 (And.intro x2 (And.intro x3 (And.intro x4 (And.intro x5 (And.intro x6 (And.intro x7 x8)))))))
  clear x1 x2 x3 x4 x5 x6 x7 x8
  go_enter Tryd.func37, Tryd.ntmps37
  go_upto_region 3 with fail
  clear hw4
  obtain ⟨⟨s0, s1, s2, s3⟩, ⟨z0, z1, z2, z3⟩, ⟨r0, r1, r2, r3⟩⟩ := And.intro E4.s0 (And.intro E4.z0 E4.r0)
  have H4 := Lib.hid E4
  have hl := E4.le
  clear E4
  go_wp2_with fail
  refine (format_any Lfc.awR _ [] none 0 _ (by rw [HX.out.2.2.2.1]; omega) H4.out.r (by simp) (fun h => absurd h (by simp))).mono ?_
  rintro e w5 ⟨rfl, hb5⟩
  rw [HX.out.1]
  have H5 := Lib.hid (H4.out.below hb5)
  have hs5 := hb5.size
  clear s0 s1 s2 s3 z0 z1 z2 z3 r0 r1 r2 r3
  obtain ⟨⟨s0, s1, s2, s3⟩, ⟨z0, z1, z2, z3⟩, ⟨r0, r1, r2, r3⟩⟩ := And.intro H5.out.s0 (And.intro H5.out.z0 H5.out.r0)
  go_wp2_with fail
  refine (wf_any Lfc.awR _ _ (by rw [HX.out.2.2.2.1]; omega) H5.out.r).mono ?_
  rintro e w6 ⟨rfl, hb6⟩
  rw [HX.out.2.1]
  have H6 := Lib.hid (H5.out.below hb6)
  have hs6 := hb6.size
  clear s0 s1 s2 s3 z0 z1 z2 z3 r0 r1 r2 r3
  obtain ⟨⟨s0, s1, s2, s3⟩, ⟨z0, z1, z2, z3⟩, ⟨r0, r1, r2, r3⟩⟩ := And.intro H6.out.s0 (And.intro H6.out.z0 H6.out.r0)
  go_wp2_with fail
  refine (wf_any Lfc.awN _ _ (by decide) (treeV_nil _ _ _ _ (by simp))).mono ?_
  rintro e w7 ⟨rfl, hb7⟩
  rw [HX.out.2.2.1]
  have H7 := Lib.hid (H6.out.below hb7)
  have hs7 := hb7.size
  clear s0 s1 s2 s3 z0 z1 z2 z3 r0 r1 r2 r3
  obtain ⟨⟨s0, s1, s2, s3⟩, ⟨z0, z1, z2, z3⟩, ⟨r0, r1, r2, r3⟩⟩ := And.intro H7.out.s0 (And.intro H7.out.z0 H7.out.r0)
  go_wp2_with fail
  refine (size_any 3 Lfc.awR _ _ (by rw [HX.out.2.2.2.1]; omega) (by rw [HX.out.2.2.2.1]; omega) H7.out.r).mono ?_
  rintro e w8 ⟨rfl, hb8⟩
  rw [HX.out.2.2.2.1]
  have H8 := Lib.hid (H7.out.below hb8)
  have hs8 := hb8.size
  clear s0 s1 s2 s3 z0 z1 z2 z3 r0 r1 r2 r3
  obtain ⟨⟨s0, s1, s2, s3⟩, ⟨z0, z1, z2, z3⟩, ⟨r0, r1, r2, r3⟩⟩ := And.intro H8.out.s0 (And.intro H8.out.z0 H8.out.r0)
  go_wp2_with fail
  refine (depth_any 3 Lfc.awR _ _ (by rw [HX.out.2.2.2.1]; omega) (by rw [HX.out.2.2.2.1]; omega) H8.out.r).mono ?_
  rintro e w9 ⟨rfl, hb9⟩
  rw [HX.out.2.2.2.2.1]
  have H9 := Lib.hid (H8.out.below hb9)
  have hs9 := hb9.size
  clear s0 s1 s2 s3 z0 z1 z2 z3 r0 r1 r2 r3
  obtain ⟨⟨s0, s1, s2, s3⟩, ⟨z0, z1, z2, z3⟩, ⟨r0, r1, r2, r3⟩⟩ := And.intro H9.out.s0 (And.intro H9.out.z0 H9.out.r0)
  go_wp2_with fail
  refine (free_any Lfc.awR _ _ (by rw [HX.out.2.2.2.1]; omega) H9.out.r).mono ?_
  rintro e w10 ⟨⟨Af, cf, rfl, _⟩, hb10⟩
  rw [HX.out.2.2.2.2.2.1]
  have H10 := Lib.hid (H9.out.below hb10)
  have hs10 := hb10.size
  clear s0 s1 s2 s3 z0 z1 z2 z3 r0 r1 r2 r3
  obtain ⟨⟨s0, s1, s2, s3⟩, ⟨z0, z1, z2, z3⟩, ⟨r0, r1, r2, r3⟩⟩ := And.intro H10.out.s0 (And.intro H10.out.z0 H10.out.r0)
  go_wp2_with fail
  refine (same_upto 1000 (by omega) Lfc.awR Lfc.awR _ _ _ (by rw [HX.out.2.2.2.1]; omega) H10.out.r H10.out.r).mono ?_
  rintro e w11 ⟨rfl, hb11⟩
  rw [HX.out.2.2.2.2.2.2.1]
  have H11 := Lib.hid (H10.out.below hb11)
  have hs11 := hb11.size
  clear s0 s1 s2 s3 z0 z1 z2 z3 r0 r1 r2 r3
  obtain ⟨⟨s0, s1, s2, s3⟩, ⟨z0, z1, z2, z3⟩, ⟨r0, r1, r2, r3⟩⟩ := And.intro H11.out.s0 (And.intro H11.out.z0 H11.out.r0)
  go_wp2_with fail
  refine (same_upto 1000 (by omega) Lfc.awS Lfc.awZ _ _ _ (by decide) H11.out.s H11.out.z).mono ?_
  rintro e w12 ⟨rfl, hb12⟩
  rw [HX.out.2.2.2.2.2.2.2]
  have H12 := Lib.hid (H11.out.below hb12)
  have hs12 := hb12.size
  clear s0 s1 s2 s3 z0 z1 z2 z3 r0 r1 r2 r3
  obtain ⟨⟨s0, s1, s2, s3⟩, ⟨z0, z1, z2, z3⟩, ⟨r0, r1, r2, r3⟩⟩ := And.intro H12.out.s0 (And.intro H12.out.z0 H12.out.r0)
  go_wp2_with fail
  go_ret
  exact ⟨rfl, ((((((((b4.trans (hb5.mono (by omega))).trans (hb6.mono (by omega))).trans (hb7.mono (by omega))).trans (hb8.mono (by omega))).trans (hb9.mono (by omega))).trans (hb10.mono (by omega))).trans (hb11.mono (by omega))).trans (hb12.mono (by omega)))⟩
end Go.Proofs.YtmdhkcefbkdkbaaDoor
