/- Parts of the proof: SmPair, SmPair2. -/
import Derived.Test.YtadjpadieljjlaaGreatSvD
import Derived.Test.YtadjpadieljjlaaGreatSmObj
import Derived.Test.YtadjpadieljjlaaGreatSmSpoil
import Derived.Deep.RegionLaw
import Derived.Deep.RegionLawGrows
/- The contract of pair: two terms of bounded size. -/
set_option linter.unusedVariables false
set_option linter.unusedSimpArgs false
namespace Lfc
mutual
theorem posB_mono {b b' : Int} (h : b ≤ b') : ∀ t : Raw, t.posB b = true → t.posB b' = true
  | .node k n p ts => by
    rw [Raw.posB, Raw.posB]
    simp only [Bool.and_eq_true, decide_eq_true_eq]
    exact fun hh => ⟨⟨hh.1.1, by omega⟩, posBs_mono h ts hh.2⟩
theorem posBs_mono {b b' : Int} (h : b ≤ b') : ∀ ts : List Raw, Raw.posBs b ts = true → Raw.posBs b' ts = true
  | [] => fun _ => rfl
  | a :: r => by
    rw [Raw.posBs, Raw.posBs]
    simp only [Bool.and_eq_true]
    exact fun hh => ⟨posB_mono h a hh.1, posBs_mono h r hh.2⟩
end
end Lfc
namespace Go.Proofs.YtadjpadieljjlaaGreat
open Go.RowKit Go.Maps
attribute [local go_sem ↓] Go.wp_at_zero Go.wp_at_succ
theorem results_terms2 {fn : Func} {p u : Tmp} (h : fn.results = #[.cell p 51, .cell u 51]) (tmps : Array Value) (w : World) (g g' : Nat) (v0 v1 v2 v3 u0 u1 u2 u3 : Value) (hp : tmps.getD p undef = .pointer (some ⟨g, 0, none⟩)) (hu : tmps.getD u undef = .pointer (some ⟨g', 0, none⟩)) (hg : w.heap[g]? = some (.cells #[v0, v1, v2, v3] 51 (0, 0))) (hg' : w.heap[g']? = some (.cells #[u0, u1, u2, u3] 51 (0, 0))) :
    (results fn tmps).run Tryz.prog w = .ok (.tuple #[.agg #[v0, v1, v2, v3], .agg #[u0, u1, u2, u3]]) w := by
  have hp' : tmps[p]?.getD undef = .pointer (some ⟨g, 0, none⟩) := by simpa using hp
  have hu' : tmps[u]?.getD undef = .pointer (some ⟨g', 0, none⟩) := by simpa using hu
  simp [results, h, hp', hu', asAddr, run_loadVar_row w g _ _ _ _ _ hg Tryz.underlying51 rfl term_size, run_loadVar_row w g' _ _ _ _ _ hg' Tryz.underlying51 rfl term_size, Sem.run_bind, Result.andThen]
/-- What pair answers. -/
def PairAns (w : World) (T n : Nat) (e : Ending) (w' : World) : Prop :=
  (∃ x u vx vu, e = .returned (.tuple #[vx, vu]) ∧ TreeVP (fun b => b ≠ T) w' x vx ∧ TreeVP (fun b => b ≠ T) w' u vu ∧ x.size ≤ n ∧ u.size ≤ n) ∧ TapeI T w' ∧ Oth T w w'
/-- The results' cells are written. -/
theorem pair_ret {w wr : World} {T n : Nat} {k p k' p' : Int} {nm nm' : List UInt8} {ts ts' : List Lfc.Raw} {A A' : Option Addr} {c c' : Nat} (hT : T < w.heap.size) (ho : Oth T w wr) (ht : TapeI T wr)
    (hq : wr.heap[w.heap.size]? = some (.cells #[.int .i64 0, S [], .int .i64 0, .slice none 0 0] 51 (0, 0))) (hq' : wr.heap[w.heap.size + 1]? = some (.cells #[.int .i64 0, S [], .int .i64 0, .slice none 0 0] 51 (0, 0)))
    (hx : TreeVP (fun b => b ≠ T ∧ b ≠ w.heap.size ∧ b ≠ w.heap.size + 1) wr (.node k nm p ts) (.agg #[.int .i64 k, S nm, .int .i64 p, .slice A ts.length c])) (hu : TreeVP (fun b => b ≠ T ∧ b ≠ w.heap.size ∧ b ≠ w.heap.size + 1) wr (.node k' nm' p' ts') (.agg #[.int .i64 k', S nm', .int .i64 p', .slice A' ts'.length c'])) (hsx : (Lfc.Raw.node k nm p ts).size ≤ n) (hsu : (Lfc.Raw.node k' nm' p' ts').size ≤ n) :
    ∃ s1 s2 s3 s4, wr.setCell ⟨w.heap.size, 0, none⟩ (.int .i64 k) = s1 ∧ s1.setCell ⟨w.heap.size, 1, none⟩ (S nm) = s2 ∧ s2.setCell ⟨w.heap.size, 2, none⟩ (.int .i64 p) = s3 ∧ s3.setCell ⟨w.heap.size, 3, none⟩ (.slice A ts.length c) = s4 ∧
      (wr.cell? ⟨w.heap.size, 0, none⟩ = some (.int .i64 0) ∧ s1.cell? ⟨w.heap.size, 1, none⟩ = some (S []) ∧ s2.cell? ⟨w.heap.size, 2, none⟩ = some (.int .i64 0) ∧ s3.cell? ⟨w.heap.size, 3, none⟩ = some (.slice none 0 0)) ∧
      (wr.frozen? ⟨w.heap.size, 0, none⟩ = false ∧ s1.frozen? ⟨w.heap.size, 1, none⟩ = false ∧ s2.frozen? ⟨w.heap.size, 2, none⟩ = false ∧ s3.frozen? ⟨w.heap.size, 3, none⟩ = false) ∧
      (∀ b j, b < wr.heap.size → b ≠ w.heap.size → s4.cell? ⟨b, j, none⟩ = wr.cell? ⟨b, j, none⟩) ∧
    ∃ s5 s6 s7 s8, s4.setCell ⟨w.heap.size + 1, 0, none⟩ (.int .i64 k') = s5 ∧ s5.setCell ⟨w.heap.size + 1, 1, none⟩ (S nm') = s6 ∧ s6.setCell ⟨w.heap.size + 1, 2, none⟩ (.int .i64 p') = s7 ∧ s7.setCell ⟨w.heap.size + 1, 3, none⟩ (.slice A' ts'.length c') = s8 ∧
      (s4.cell? ⟨w.heap.size + 1, 0, none⟩ = some (.int .i64 0) ∧ s5.cell? ⟨w.heap.size + 1, 1, none⟩ = some (S []) ∧ s6.cell? ⟨w.heap.size + 1, 2, none⟩ = some (.int .i64 0) ∧ s7.cell? ⟨w.heap.size + 1, 3, none⟩ = some (.slice none 0 0)) ∧
      (s4.frozen? ⟨w.heap.size + 1, 0, none⟩ = false ∧ s5.frozen? ⟨w.heap.size + 1, 1, none⟩ = false ∧ s6.frozen? ⟨w.heap.size + 1, 2, none⟩ = false ∧ s7.frozen? ⟨w.heap.size + 1, 3, none⟩ = false) ∧
      Hid (s8.heap[w.heap.size]? = some (.cells #[.int .i64 k, S nm, .int .i64 p, .slice A ts.length c] 51 (0, 0))) ∧ Hid (s8.heap[w.heap.size + 1]? = some (.cells #[.int .i64 k', S nm', .int .i64 p', .slice A' ts'.length c'] 51 (0, 0))) ∧
      Hid (PairAns w T n (.returned (.tuple #[.agg #[.int .i64 k, S nm, .int .i64 p, .slice A ts.length c], .agg #[.int .i64 k', S nm', .int .i64 p', .slice A' ts'.length c']])) s8) := by
  obtain ⟨s1, s2, s3, s4, g1, g2, g3, g4, hy, hf, hq4, hot⟩ := tput4 hq (.int .i64 k) (S nm) (.int .i64 p) (.slice A ts.length c)
  obtain ⟨s5, s6, s7, s8, g5, g6, g7, g8, hy', hf', hq8, hot'⟩ := tput4 (hot.heap hq' (by omega)) (.int .i64 k') (S nm') (.int .i64 p') (.slice A' ts'.length c')
  have hs := ho.size
  have h1 := hot.size
  have h2 := hot'.size
  have keep : ∀ b, (b ≠ T ∧ b ≠ w.heap.size ∧ b ≠ w.heap.size + 1) → b < wr.heap.size → s8.heap[b]? = wr.heap[b]? := fun b hb hlt => (hot'.block b (by omega) (fun e => hb.2.2 (Option.some.inj e))).trans (hot.block b hlt (fun e => hb.2.1 (Option.some.inj e)))
  refine ⟨s1, s2, s3, s4, g1, g2, g3, g4, hy, hf, fun b j hb hne => hot.cell (p := ⟨b, j, none⟩) hb hne, s5, s6, s7, s8, g5, g6, g7, g8, hy', hf', Lib.hid (hot'.heap hq4 (by omega)), Lib.hid hq8, Lib.hid ⟨⟨_, _, _, _, rfl, hx.keep keep (by omega) (fun b _ hb => hb.1), hu.keep keep (by omega) (fun b _ hb => hb.1), hsx, hsu⟩, (ht.oth (by omega) hot).oth (by omega) hot', ?_⟩⟩
  exact ⟨hot'.os.trans (hot.os.trans ho.os), hot'.tape.trans (hot.tape.trans ho.tape), hot'.output.trans (hot.output.trans ho.output), by omega, fun b hb hn => (hot'.block b (by omega) (fun e => by have := Option.some.inj e; omega)).trans ((hot.block b (by omega) (fun e => by have := Option.some.inj e; omega)).trans (ho.block b hb hn))⟩
theorem PairAns.drew {w w' : World} {T n : Nat} {e : Ending} (h : PairAns w T n e w') : PairAns w T n e w'.drew := by
  obtain ⟨⟨x, u, vx, vu, he, hx, hu, h1, h2⟩, ht, ho⟩ := h
  exact ⟨⟨x, u, vx, vu, he, TreeVP.keep (w := w') (w' := w'.drew) (fun _ _ _ => rfl) (Nat.le_refl w'.heap.size) (fun _ _ h => h) hx, TreeVP.keep (w := w') (w' := w'.drew) (fun _ _ _ => rfl) (Nat.le_refl w'.heap.size) (fun _ _ h => h) hu, h1, h2⟩, ht.below (Below.refl _ _).drew, ho.drew⟩
/-- The state ahead of the last statement. -/
structure PairS (w : World) (T Bu Bx n : Nat) (k p : Int) (nm : List UInt8) (ts : List Lfc.Raw) (A : Option Addr) (c : Nat) (wx : World) : Prop where
  x : ∃ k nm p ts A c, wx.heap[Bx]? = some (.cells #[.int .i64 k, S nm, .int .i64 p, .slice A (List.length ts) c] 51 (0, 0)) ∧ TreeVP (fun b => b ≠ T ∧ b ≠ w.heap.size ∧ b ≠ w.heap.size + 1 ∧ b ≠ Bx) wx (.node k nm p ts) (.agg #[.int .i64 k, S nm, .int .i64 p, .slice A (List.length ts) c]) ∧ (Lfc.Raw.node k nm p ts).size ≤ n
  u : wx.heap[Bu]? = some (.cells #[.int .i64 k, S nm, .int .i64 p, .slice A ts.length c] 51 (0, 0))
  uv : TreeVP (fun b => b ≠ T ∧ b ≠ w.heap.size ∧ b ≠ w.heap.size + 1 ∧ b ≠ Bx) wx (.node k nm p ts) (.agg #[.int .i64 k, S nm, .int .i64 p, .slice A ts.length c])
  tape : TapeI T wx
  oth : Oth T w wx
  r4 : wx.heap[w.heap.size]? = some (.cells #[.int .i64 0, S [], .int .i64 0, .slice none 0 0] 51 (0, 0))
  r5 : wx.heap[w.heap.size + 1]? = some (.cells #[.int .i64 0, S [], .int .i64 0, .slice none 0 0] 51 (0, 0))
theorem PairS.mono {w wx : World} {T Bu Bx n n' : Nat} {k p : Int} {nm : List UInt8} {ts : List Lfc.Raw} {A : Option Addr} {c : Nat} (h : PairS w T Bu Bx n k p nm ts A c wx) (hn : n ≤ n') : PairS w T Bu Bx n' k p nm ts A c wx := by
  obtain ⟨k0, nm0, p0, ts0, A0, c0, hq, hv, hz⟩ := h.x
  exact ⟨⟨k0, nm0, p0, ts0, A0, c0, hq, hv, Nat.le_trans hz hn⟩, h.u, h.uv, h.tape, h.oth, h.r4, h.r5⟩
theorem PairS.put {w w8 w10 w11 s4 : World} {T Bu Bx n n' : Nat} {k p k' p' : Int} {nm nm' : List UInt8} {ts ts' : List Lfc.Raw} {A A' : Option Addr} {c c' : Nat} (h : PairS w T Bu Bx n k p nm ts A c w8) (hTl : T < w.heap.size) (hBu : w.heap.size + 2 ≤ Bu) (hux : Bu < Bx) (hBx : Bx < w8.heap.size) (o10 : Oth T w8 w10) (T10 : TapeI T w10) (b11 : Below w10.heap.size w10 w11) (hot : Oth Bx w11 s4) (hq4 : s4.heap[Bx]? = some (.cells #[.int .i64 k', S nm', .int .i64 p', .slice A' ts'.length c'] 51 (0, 0)))
    (hv : TreeVP (fun b => (b ≠ T ∧ b ≠ w.heap.size ∧ b ≠ w.heap.size + 1 ∧ b ≠ Bx) ∨ w10.heap.size ≤ b) w11 (.node k' nm' p' ts') (.agg #[.int .i64 k', S nm', .int .i64 p', .slice A' ts'.length c'])) (hz : (Lfc.Raw.node k' nm' p' ts').size ≤ n') : PairS w T Bu Bx n' k p nm ts A c s4 := by
  have h1 := h.oth.size
  have h2 := o10.size
  have h3 := b11.size
  have h4 := hot.size
  have keep : ∀ b, b < w8.heap.size → b ≠ T → b ≠ Bx → s4.heap[b]? = w8.heap[b]? := fun b hb hT hB => (hot.block b (by omega) (fun e => hB (Option.some.inj e))).trans ((b11.block b (by omega)).trans (o10.block b hb (fun e => hT (Option.some.inj e))))
  refine ⟨⟨k', nm', p', ts', A', c', hq4, hv.keep (fun b hb hlt => hot.block b hlt (fun e => by have e := Option.some.inj e; rcases hb with hb | hb; exact hb.2.2.2 e; omega)) h4 (fun b _ hb => by rcases hb with hb | hb; exact hb; exact ⟨by omega, by omega, by omega, by omega⟩), hz⟩, (keep Bu (by omega) (by omega) (by omega)).trans h.u, h.uv.keep (fun b hb hlt => keep b hlt hb.1 hb.2.2.2) (by omega) (fun b _ hb => hb), (T10.below b11).oth (by omega) hot, ?_, (keep _ (by omega) (by omega) (by omega)).trans h.r4, (keep _ (by omega) (by omega) (by omega)).trans h.r5⟩
  exact ⟨hot.os.trans (b11.os.trans (o10.os.trans h.oth.os)), hot.tape.trans (b11.tape.trans (o10.tape.trans h.oth.tape)), hot.output.trans (b11.output.trans (o10.output.trans h.oth.output)), by omega, fun b hb hn => (keep b (by omega) (fun e => hn (by rw [e])) (by omega)).trans (h.oth.block b hb hn)⟩
end Go.Proofs.YtadjpadieljjlaaGreat

/- The contract of pair: the walk. -/
set_option linter.unusedVariables false
set_option linter.unusedSimpArgs false
namespace Go.Proofs.YtadjpadieljjlaaGreat
open Go.RowKit Go.Maps
attribute [local go_sem ↓] Go.wp_at_zero Go.wp_at_succ
/-- A term's variable in block B, and what it holds. -/
def VarT (w : World) (T B n : Nat) (wx : World) : Prop := ∃ k nm p ts A c, wx.heap[B]? = some (.cells #[.int .i64 k, S nm, .int .i64 p, .slice A (List.length ts) c] 51 (0, 0)) ∧ TreeVP (fun b => b ≠ T ∧ b ≠ w.heap.size ∧ b ≠ w.heap.size + 1) wx (.node k nm p ts) (.agg #[.int .i64 k, S nm, .int .i64 p, .slice A (List.length ts) c]) ∧ (Lfc.Raw.node k nm p ts).size ≤ n
set_option maxRecDepth 100000 in
set_option maxHeartbeats 16000000 in
theorem mPair_any (T : Nat) (ks : List Int) (A0 : Option Addr) (c0 : Nat) (w : World) (hks : ks.length ≤ 40) (hT : TapeI T w) :
    Calls Tryz.prog 18 #[.pointer (some ⟨T, 0, none⟩), .slice A0 ks.length c0] w (PairAns w T 40) := by
  have hTl := hT.lt
  obtain ⟨vars, hvars⟩ : ∃ vars, ks.length = vars := ⟨_, rfl⟩
  rw [hvars] at hks ⊢
  clear hvars
  obtain ⟨w2, hw2⟩ : ∃ w2, (w.alloc (.cells #[.int .i64 0, S [], .int .i64 0, .slice none 0 0] 51)).alloc (.cells #[.int .i64 0, S [], .int .i64 0, .slice none 0 0] 51) = w2 := ⟨_, rfl⟩
  have b12 : Below w.heap.size w w2 := by rw [← hw2]; exact ((Below.refl _ _).alloc (Nat.le_refl _) _).alloc (by simp) _
  have q1 : w2.heap[w.heap.size]? = some (.cells #[.int .i64 0, S [], .int .i64 0, .slice none 0 0] 51 (0, 0)) := by rw [← hw2]; exact (Lib.alloc_old _ _ _ (by simp)).trans (heap_alloc_new _ _)
  have q2 : w2.heap[w.heap.size + 1]? = some (.cells #[.int .i64 0, S [], .int .i64 0, .slice none 0 0] 51 (0, 0)) := by
    rw [← hw2]
    have := heap_alloc_new (w.alloc (.cells #[.int .i64 0, S [], .int .i64 0, .slice none 0 0] 51)) (.cells #[.int .i64 0, S [], .int .i64 0, .slice none 0 0] 51)
    simpa using this
  have hs2 := lt_of_block q2
  have Q1 := Lib.hid q1
  have Q2 := Lib.hid q2
  have T2 := Lib.hid (hT.below b12)
  have O2 : Hid (Oth T w w2) := Lib.hid (Oth.of_below b12)
  clear hT b12 q1 q2
  go_enter Tryz.func18, Tryz.ntmps18
  go_upto_region 1 with fail
  clear hw2
  go_wp2_with fail
  refine (mObj_any 4 (by omega) T vars w2 (by omega) T2.out).mono ?_
  rintro e w3 ⟨⟨u, vu, rfl, hvu, hsu, hpu⟩, T3', o3'⟩
  obtain ⟨ku, nu, pu, us, hue⟩ := Lfc.Raw.ex u
  rw [hue] at hvu hsu hpu
  obtain ⟨Au, cu, rfl, hPu⟩ := hvu.openT
  have hs3 := o3'.size
  obtain ⟨w4, hw4⟩ : ∃ w4, w3.alloc (.cells #[.int .i64 ku, S nu, .int .i64 pu, .slice Au us.length cu] 51) = w4 := ⟨_, rfl⟩
  have b4 : Below w3.heap.size w3 w4 := by rw [← hw4]; exact (Below.refl _ _).alloc (Nat.le_refl _) _
  have q4 : w4.heap[w3.heap.size]? = some (.cells #[.int .i64 ku, S nu, .int .i64 pu, .slice Au us.length cu] 51 (0, 0)) := by rw [← hw4]; exact heap_alloc_new _ _
  have l4 := lt_of_block q4
  have o24 : Oth T w2 w4 := o3'.of_new (b4.mono hs3)
  have T4 := Lib.hid (T3'.below b4)
  have O4 := Lib.hid (O2.out.trans o24)
  have Q14 := Lib.hid (o24.heap Q1.out (by omega))
  have Q24 := Lib.hid (o24.heap Q2.out (by omega))
  have Q4 := Lib.hid q4
  have HVU : Hid (TreeVP (fun b => b ≠ T ∧ b ≠ w.heap.size ∧ b ≠ w.heap.size + 1) w4 (.node ku nu pu us) (.agg #[.int .i64 ku, S nu, .int .i64 pu, .slice Au us.length cu])) := Lib.hid (hvu.keep (fun b _ hlt => b4.block b hlt) b4.size (fun b _ hb => by have hb : w2.heap.size ≤ b := hb; exact ⟨by omega, by omega, by omega⟩))
  have hsu2 : (Lfc.Raw.node ku nu pu us).size ≤ 31 := by omega
  have HPU := Lib.hid (Lfc.posB_mono (b' := 1048576) (by omega) _ hpu)
  have H4 := Lib.hid hw4
  clear hvu hPu hsu hpu T3' o3' b4 q4 o24 hw4 T2 O2 Q1 Q2 hue
  go_upto_region 2 with fail
  rw [H4.out]
  clear H4
  go_wp2_with fail
  refine (tapeI_next T 4 w4 (by omega) (by omega) T4.out).mono ?_
  rintro e w5 ⟨⟨r, hr, rfl⟩, T5', o5'⟩
  have hs5 := o5'.size
  have T5 := Lib.hid T5'
  have O5 := Lib.hid (O4.out.trans o5')
  have Q15 := Lib.hid (o5'.heap Q14.out (by omega))
  have Q25 := Lib.hid (o5'.heap Q24.out (by omega))
  have QU5 := Lib.hid (o5'.heap Q4.out (by omega))
  have HV5 := Lib.hid (HVU.out.keep (fun b hb hlt => o5'.block b hlt (fun e => hb.1 (Option.some.inj e))) o5'.size (fun b _ hb => hb))
  clear T5' o5' T4 O4 Q14 Q24 Q4 HVU
  by_cases hr0 : r = 0
  · subst hr0
    go_upto_region 3 with fail
    have RET : Hid (∀ w6, Oth T w5.drew w6 → TapeI T w6 → ∀ (kx px : Int) (nx : List UInt8) (xs : List Lfc.Raw) (Ax : Option Addr) (cx : Nat), TreeVP (fun b => w5.drew.heap.size ≤ b) w6 (.node kx nx px xs) (.agg #[.int .i64 kx, S nx, .int .i64 px, .slice Ax (List.length xs) cx]) → (Lfc.Raw.node kx nx px xs).size + 1 ≤ 2 ^ (2 + 1) →
      (w6.cell? ⟨w3.heap.size, 0, none⟩ = some (.int .i64 ku) ∧ w6.cell? ⟨w3.heap.size, 1, none⟩ = some (S nu) ∧ w6.cell? ⟨w3.heap.size, 2, none⟩ = some (.int .i64 pu) ∧ w6.cell? ⟨w3.heap.size, 3, none⟩ = some (.slice Au us.length cu)) ∧
      ∃ s1 s2 s3 s4, w6.setCell ⟨w.heap.size, 0, none⟩ (.int .i64 kx) = s1 ∧ s1.setCell ⟨w.heap.size, 1, none⟩ (S nx) = s2 ∧ s2.setCell ⟨w.heap.size, 2, none⟩ (.int .i64 px) = s3 ∧ s3.setCell ⟨w.heap.size, 3, none⟩ (.slice Ax (List.length xs) cx) = s4 ∧
      (w6.cell? ⟨w.heap.size, 0, none⟩ = some (.int .i64 0) ∧ s1.cell? ⟨w.heap.size, 1, none⟩ = some (S []) ∧ s2.cell? ⟨w.heap.size, 2, none⟩ = some (.int .i64 0) ∧ s3.cell? ⟨w.heap.size, 3, none⟩ = some (.slice none 0 0)) ∧
      (w6.frozen? ⟨w.heap.size, 0, none⟩ = false ∧ s1.frozen? ⟨w.heap.size, 1, none⟩ = false ∧ s2.frozen? ⟨w.heap.size, 2, none⟩ = false ∧ s3.frozen? ⟨w.heap.size, 3, none⟩ = false) ∧
      (s4.cell? ⟨w3.heap.size, 0, none⟩ = some (.int .i64 ku) ∧ s4.cell? ⟨w3.heap.size, 1, none⟩ = some (S nu) ∧ s4.cell? ⟨w3.heap.size, 2, none⟩ = some (.int .i64 pu) ∧ s4.cell? ⟨w3.heap.size, 3, none⟩ = some (.slice Au us.length cu)) ∧
      ∃ s5 s6 s7 s8, s4.setCell ⟨w.heap.size + 1, 0, none⟩ (.int .i64 ku) = s5 ∧ s5.setCell ⟨w.heap.size + 1, 1, none⟩ (S nu) = s6 ∧ s6.setCell ⟨w.heap.size + 1, 2, none⟩ (.int .i64 pu) = s7 ∧ s7.setCell ⟨w.heap.size + 1, 3, none⟩ (.slice Au us.length cu) = s8 ∧
      (s4.cell? ⟨w.heap.size + 1, 0, none⟩ = some (.int .i64 0) ∧ s5.cell? ⟨w.heap.size + 1, 1, none⟩ = some (S []) ∧ s6.cell? ⟨w.heap.size + 1, 2, none⟩ = some (.int .i64 0) ∧ s7.cell? ⟨w.heap.size + 1, 3, none⟩ = some (.slice none 0 0)) ∧
      (s4.frozen? ⟨w.heap.size + 1, 0, none⟩ = false ∧ s5.frozen? ⟨w.heap.size + 1, 1, none⟩ = false ∧ s6.frozen? ⟨w.heap.size + 1, 2, none⟩ = false ∧ s7.frozen? ⟨w.heap.size + 1, 3, none⟩ = false) ∧
      Hid (s8.heap[w.heap.size]? = some (.cells #[.int .i64 kx, S nx, .int .i64 px, .slice Ax (List.length xs) cx] 51 (0, 0))) ∧ Hid (s8.heap[w.heap.size + 1]? = some (.cells #[.int .i64 ku, S nu, .int .i64 pu, .slice Au us.length cu] 51 (0, 0))) ∧
      Hid (PairAns w T 40 (.returned (.tuple #[.agg #[.int .i64 kx, S nx, .int .i64 px, .slice Ax (List.length xs) cx], .agg #[.int .i64 ku, S nu, .int .i64 pu, .slice Au us.length cu]])) s8)) := Lib.hid (fun w6 o6 t6 kx px nx xs Ax cx hvx hsx => by
        have o6' : Oth T w5 w6 := ⟨o6.os, o6.tape, o6.output, o6.size, o6.block⟩
        have hz := cells4t (o6'.heap QU5.out (by omega))
        have hs6 := o6'.size
        obtain ⟨s1, s2, s3, s4, g1, g2, g3, g4, hy, hf, hk4, hrest⟩ := pair_ret (n := 40) hTl (O5.out.trans o6') t6 (o6'.heap Q15.out (by omega)) (o6'.heap Q25.out (by omega)) (hvx.keep (fun _ _ _ => rfl) (Nat.le_refl _) (fun b _ hb => by have hb : w5.heap.size ≤ b := hb; exact ⟨by omega, by omega, by omega⟩)) (HV5.out.keep (fun b hb hlt => o6'.block b hlt (fun e => hb.1 (Option.some.inj e))) o6'.size (fun b _ hb => hb)) (by omega) (by omega)
        have hkk : ∀ j, s4.cell? ⟨w3.heap.size, j, none⟩ = w6.cell? ⟨w3.heap.size, j, none⟩ := fun j => hk4 _ j (by omega) (by omega)
        exact ⟨hz, s1, s2, s3, s4, g1, g2, g3, g4, hy, hf, ⟨(hkk 0).trans hz.1, (hkk 1).trans hz.2.1, (hkk 2).trans hz.2.2.1, (hkk 3).trans hz.2.2.2⟩, hrest⟩)
    obtain ⟨v0, v1, v2, v3⟩ := cells4t QU5.out
    go_region_law (go_simp; go_at_call 28; refine (mObj_any 2 (by omega) T vars _ (by omega) (T5.out.below (Below.refl _ _).drew)).mono ?_; rintro e w6 ⟨⟨x, vx, rfl, hvx, hsx, hpx⟩, T6, o6⟩; obtain ⟨kx, nx, px, xs, hxe⟩ := Lfc.Raw.ex x; rw [hxe] at hvx hsx; obtain ⟨Ax, cx, rfl, hPx⟩ := hvx.openT; obtain ⟨⟨z0, z1, z2, z3⟩, s1, s2, s3, s4, g1, g2, g3, g4, ⟨y0, y1, y2, y3⟩, ⟨f0, f1, f2, f3⟩, ⟨z4, z5, z6, z7⟩, s5, s6, s7, s8, g5, g6, g7, g8, ⟨y4, y5, y6, y7⟩, ⟨f4, f5, f6, f7⟩, HQa, HQb, HZ⟩ := RET.out w6 o6 T6 kx px nx xs Ax cx hvx hsx)
    all_goals
      clear hvx hPx T6 o6
      go_wp2_with fail
      refine bodyPost_ret (results_terms2 rfl _ _ _ _ _ _ _ _ _ _ _ _ rfl rfl HQa.out HQb.out) rfl ?_
      exact HZ.out
  · have hr1 : ((r : Int) == 0) = false := by simp; omega
    clear hr0
    obtain ⟨v0, v1, v2, v3⟩ := cells4t QU5.out
    go_wp2_with fail
    refine (mPart_any (fun b => b ≠ T ∧ b ≠ w.heap.size ∧ b ≠ w.heap.size + 1) T vars 31 _ _ w5 (by omega) (by omega) hsu2 HPU.out T5.out (fun b hb => hb.1) (fun b hb => ⟨by have := T5.out.lt; omega, by omega, by omega⟩) HV5.out).mono ?_
    rintro e w6 ⟨⟨kx, nx, px, xs, Ax, cx, rfl, hvx, hsx⟩, T6', o6'⟩
    have hs6 := o6'.size
    obtain ⟨w7, hw7⟩ : ∃ w7, w6.alloc (.cells #[.int .i64 kx, S nx, .int .i64 px, .slice Ax xs.length cx] 51) = w7 := ⟨_, rfl⟩
    have b7 : Below w6.heap.size w6 w7 := by rw [← hw7]; exact (Below.refl _ _).alloc (Nat.le_refl _) _
    have q7 : w7.heap[w6.heap.size]? = some (.cells #[.int .i64 kx, S nx, .int .i64 px, .slice Ax xs.length cx] 51 (0, 0)) := by rw [← hw7]; exact heap_alloc_new _ _
    have o57 : Oth T w5 w7 := o6'.of_new (b7.mono hs6)
    have PS7 : Hid (PairS w T w3.heap.size w6.heap.size 31 ku pu nu us Au cu w7) := Lib.hid {
      x := ⟨kx, nx, px, xs, Ax, cx, q7, hvx.keep (fun b _ hlt => b7.block b hlt) b7.size (fun b hlt hb => ⟨hb.1, hb.2.1, hb.2.2, by omega⟩), by omega⟩
      u := o57.heap QU5.out (by omega)
      uv := HV5.out.keep (fun b hb hlt => o57.block b hlt (fun e => hb.1 (Option.some.inj e))) o57.size (fun b hlt hb => ⟨hb.1, hb.2.1, hb.2.2, by omega⟩)
      tape := T6'.below b7
      oth := O5.out.trans o57
      r4 := o57.heap Q15.out (by omega)
      r5 := o57.heap Q25.out (by omega) }
    have H7 := Lib.hid hw7
    have hBx : w3.heap.size < w6.heap.size := by omega
    clear hvx hsx T6' o6' b7 q7 o57 hw7 v0 v1 v2 v3 T5 O5 Q15 Q25 QU5 HV5
    go_upto_region 5 with fail
    rw [H7.out]
    clear H7
    go_wp2_with fail
    refine (tapeI_next T 6 w7 (by omega) (by omega) PS7.out.tape).mono ?_
    rintro e w8 ⟨⟨r2, hr2, rfl⟩, T8', o8'⟩
    have PS8 : Hid (PairS w T w3.heap.size w6.heap.size 31 ku pu nu us Au cu w8) := Lib.hid (by
      obtain ⟨k, nm, p, ts, A, c, hq, hv, hz⟩ := PS7.out.x
      exact ⟨⟨k, nm, p, ts, A, c, o8'.heap hq (by omega), hv.keep (fun b hb hlt => o8'.block b hlt (fun e => hb.1 (Option.some.inj e))) o8'.size (fun b _ hb => hb), hz⟩, o8'.heap PS7.out.u (by omega), PS7.out.uv.keep (fun b hb hlt => o8'.block b hlt (fun e => hb.1 (Option.some.inj e))) o8'.size (fun b _ hb => hb), T8', PS7.out.oth.trans o8', o8'.heap PS7.out.r4 (by omega), o8'.heap PS7.out.r5 (by omega)⟩)
    clear T8' o8' PS7
    go_upto_if 27 with fail
    go_cut [] (fun wx => Hid (PairS w T w3.heap.size w6.heap.size 40 ku pu nu us Au cu wx))
    case first =>
      by_cases hr20 : r2 = 0
      · subst hr20
        obtain ⟨k, nm, p, ts, A, c, hq, hv, hz⟩ := PS8.out.x
        obtain ⟨x0, x1, x2, x3⟩ := cells4t hq
        have HQ8 := Lib.hid hq
        have HV8 := Lib.hid hv
        have T8 := Lib.hid PS8.out.tape
        have hB8 := lt_of_block hq
        have hz39 : (Lfc.Raw.node k nm p ts).size ≤ 31 := hz
        have hBT : w6.heap.size ≠ T := by omega
        have FAC : Hid (∀ w9 w10, Oth T w8.drew w9 → Oth T w9 w10 → (w9.heap[w6.heap.size]? = some (.cells #[.int .i64 k, S nm, .int .i64 p, .slice A ts.length c] 51 (0, 0)) ∧ w10.heap[w6.heap.size]? = some (.cells #[.int .i64 k, S nm, .int .i64 p, .slice A ts.length c] 51 (0, 0))) ∧ Oth T w8 w10 ∧ TreeVP (fun b => b ≠ T ∧ b ≠ w.heap.size ∧ b ≠ w.heap.size + 1 ∧ b ≠ w6.heap.size) w10 (.node k nm p ts) (.agg #[.int .i64 k, S nm, .int .i64 p, .slice A ts.length c])) := Lib.hid (fun w9 w10 o9 o10 => by
          have o9' : Oth T w8 w9 := ⟨o9.os, o9.tape, o9.output, o9.size, o9.block⟩
          have q9 := o9'.heap HQ8.out hBT
          exact ⟨⟨q9, o10.heap q9 hBT⟩, o9'.trans o10, HV8.out.keep (fun b hb hlt => (o9'.trans o10).block b hlt (fun e => hb.1 (Option.some.inj e))) (o9'.trans o10).size (fun b _ hb => hb)⟩)
        clear hq hv hz
        go_upto_region 6 with fail
        go_region_law (first
          | (go_simp; go_at_call 12; refine (tapeI_next T 99 _ (by omega) (by omega) (T8.out.below (Below.refl _ _).drew)).mono ?_; rintro e w9 ⟨⟨a, ha, rfl⟩, T9, o9⟩; have q9 := (FAC.out w9 w9 o9 (Oth.refl _ _)).1.1; obtain ⟨e0, e1, e2, e3⟩ := cells4t q9)
          | (go_simp; go_at_call 12; refine (tapeI_next T 99 w9 (by omega) (by omega) T9).mono ?_; rintro e w10 ⟨⟨b, hb, rfl⟩, T10, o10⟩; obtain ⟨⟨_, q10⟩, o810, hv10⟩ := FAC.out w9 w10 o9 o10; obtain ⟨d0, d1, d2, d3⟩ := cells4t q10)
          | (go_simp; go_at_call 39; refine (s_spoil_any 40 (by omega) _ _ w10 _ _ _ (by omega) hv10).mono ?_; rintro e w11 ⟨⟨t', v', rfl, hv', hz'⟩, b11⟩; obtain ⟨k', n', p', ts', ht'⟩ := Lfc.Raw.ex t'; rw [ht'] at hv' hz'; obtain ⟨A', c', rfl, hP'⟩ := hv'.openT; obtain ⟨s1, s2, s3, s4, g1, g2, g3, g4, ⟨y0, y1, y2, y3⟩, ⟨f0, f1, f2, f3⟩, hq4, hot⟩ := tput4 ((b11.block _ (lt_of_block q10)).trans q10) (.int .i64 k') (S n') (.int .i64 p') (.slice A' ts'.length c')))
        all_goals
          have HN := Lib.hid (PS8.out.put (n' := 40) hTl (by omega) hBx hB8 o810 T10 b11 hot hq4 hv' (by omega))
          clear T9 o9 q9 T10 o10 q10 o810 hv10 b11 hot hq4 hv' hP' hz'
          go_wp2_with fail
          go_meet
          exact HN
      · have hr21 : ((r2 : Int) == 0) = false := by simp; omega
        clear hr20
        go_wp2_with fail
        go_meet
        exact Lib.hid (PS8.out.mono (by omega))
    case rest =>
      have PS := hcut
      clear PS8 hcut
      obtain ⟨k, nm, p, ts, A, c, hq, hv, hz⟩ := PS.out.x
      obtain ⟨x0, x1, x2, x3⟩ := cells4t hq
      obtain ⟨z0, z1, z2, z3⟩ := cells4t PS.out.u
      have hb1 := lt_of_block hq
      have hb2 := lt_of_block PS.out.u
      obtain ⟨s1, s2, s3, s4, g1, g2, g3, g4, ⟨y0, y1, y2, y3⟩, ⟨f0, f1, f2, f3⟩, hk4, s5, s6, s7, s8, g5, g6, g7, g8, ⟨y4, y5, y6, y7⟩, ⟨f4, f5, f6, f7⟩, HQa, HQb, HZ⟩ := pair_ret (n := 40) hTl PS.out.oth PS.out.tape PS.out.r4 PS.out.r5 (hv.keep (fun _ _ _ => rfl) (Nat.le_refl _) (fun b _ hb => ⟨hb.1, hb.2.1, hb.2.2.1⟩)) (PS.out.uv.keep (fun _ _ _ => rfl) (Nat.le_refl _) (fun b _ hb => ⟨hb.1, hb.2.1, hb.2.2.1⟩)) hz (by omega)
      have hkx : ∀ j, s4.cell? ⟨w6.heap.size, j, none⟩ = wc.cell? ⟨w6.heap.size, j, none⟩ := fun j => hk4 _ j hb1 (by omega)
      have hku : ∀ j, s4.cell? ⟨w3.heap.size, j, none⟩ = wc.cell? ⟨w3.heap.size, j, none⟩ := fun j => hk4 _ j hb2 (by omega)
      have a0 := (hkx 0).trans x0
      have a1 := (hkx 1).trans x1
      have a2 := (hkx 2).trans x2
      have a3 := (hkx 3).trans x3
      have c0' := (hku 0).trans z0
      have c1' := (hku 1).trans z1
      have c2' := (hku 2).trans z2
      have c3' := (hku 3).trans z3
      have HZD := Lib.hid HZ.out.drew
      clear hkx hku hk4 hq hv hz PS
      go_upto_region 7 with fail
      go_region_law (fail)
      all_goals
        go_wp2_with fail
        refine bodyPost_ret (results_terms2 rfl _ _ _ _ _ _ _ _ _ _ _ _ rfl rfl HQa.out HQb.out) rfl ?_
        first | exact HZD.out | exact HZ.out
end Go.Proofs.YtadjpadieljjlaaGreat
