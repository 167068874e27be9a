/- The contract of links. -/
import Derived.Test.YtadjpadieljjlaaOrLinks
set_option linter.unusedVariables false
set_option linter.unusedSimpArgs false
namespace Go.Proofs.Ytadjpadieljjlaa
open Go.RowKit Go.Maps
/-- The state of the loop of links. -/
def LkI (w : World) (l : List Lfc.Link) (v : Value) (wr : World) : Prop := ∃ xs, wr.ownsRow w.heap.size 104 7 v l.length xs ∧ LinkRow (fun b => w.heap.size ≤ b ∧ v.ownBlock ≠ some b) wr l xs ∧ Below w.heap.size w wr
theorem oneCell7 {a k p f : Int} {n : List UInt8} {A B : Option Addr} {i c j d : Nat} : ∀ u ∈ [Value.int .i64 a, .int .i64 k, S n, .int .i64 p, .slice A i c, .slice B j d, .int .i64 f], u.oneCell' = true := by
  intro u hu
  simp only [List.mem_cons, List.not_mem_nil, or_false] at hu
  rcases hu with rfl | rfl | rfl | rfl | rfl | rfl | rfl <;> rfl
theorem LkI.step {w wr W w' : World} {l : List Lfc.Link} {v v' : Value} {x : Lfc.Link} {xs : List Value} {k p : Int} {n : List UInt8} {ts : List Lfc.Raw} {At A : Option Addr} {ct c : Nat} {o : Obj}
    (hown : wr.ownsRow w.heap.size 104 7 v l.length xs) (hrow : LinkRow (fun b => w.heap.size ≤ b ∧ v.ownBlock ≠ some b) wr l xs) (hb : Below w.heap.size w wr) (hW : Below wr.heap.size wr W)
    (ht : x.term = .node k n p ts) (hc : x.path.length ≤ c) (hp : IntsP (fun b => wr.heap.size ≤ b) W A x.path) (hv : TreeVP (fun b => wr.heap.size ≤ b) W x.term (.agg #[.int .i64 k, S n, .int .i64 p, .slice At (List.length ts) ct]))
    (h' : w'.ownsRow w.heap.size 104 7 v' (l.length + 1) (xs ++ [.int .i64 x.kind, .int .i64 k, S n, .int .i64 p, .slice At (List.length ts) ct, .slice A x.path.length c, .int .i64 x.fact])) (hg : (W.alloc o).grownBy w' v.ownBlock) (hloc : v'.ownBlock = v.ownBlock ∨ v'.ownBlock = some (W.alloc o).heap.size) : LkI w (l ++ [x]) v' w' := by
  have hsz : (W.alloc o).heap.size = W.heap.size + 1 := by simp
  have hs1 := hW.size
  have hs2 := hg.size
  have hold : ∀ b, v.ownBlock ≠ some b → b < W.heap.size → w'.heap[b]? = W.heap[b]? := fun b hne hlt => (hg.block b (by omega) (fun e => hne e.symm)).trans (Lib.alloc_old _ _ _ hlt)
  have hvb : ∀ b, v.ownBlock = some b → b < wr.heap.size := fun b e => (hown.lt b e).2
  have hne' : ∀ b, b < W.heap.size → v.ownBlock ≠ some b → v'.ownBlock ≠ some b := fun b hlt hne e => by
    rcases hloc with e2 | e2
    · exact hne (e2 ▸ e)
    · rw [e2] at e; have := Option.some.inj e; omega
  refine ⟨_, by rw [List.length_append]; exact h', LinkRow.append ?_ (hrow.keep (fun b hq hlt => (hold b hq.2 (by omega)).trans (hW.block b hlt)) (by omega) (fun b hlt hq => ⟨hq.1, hne' b (by omega) hq.2⟩)), ?_⟩
  · rw [LinkRow]
    have hq : ∀ b, wr.heap.size ≤ b → v.ownBlock ≠ some b := fun b hb2 e => by have := hvb b e; omega
    refine ⟨k, n, p, ts, At, ct, A, c, [], ht, rfl, hc, hp.keep (fun b hb2 hlt => hold b (hq b hb2) hlt) (by omega) (fun b hlt hb2 => ⟨by have := hb.size; have hb2 : wr.heap.size ≤ b := hb2; omega, hne' b hlt (hq b hb2)⟩), hv.keep (fun b hb2 hlt => hold b (hq b hb2) hlt) (by omega) (fun b hlt hb2 => ⟨by have := hb.size; have hb2 : wr.heap.size ≤ b := hb2; omega, hne' b hlt (hq b hb2)⟩), by rw [LinkRow]⟩
  · have hb1 : Below w.heap.size w (W.alloc o) := (hb.trans (hW.mono hb.size)).alloc (by have := hb.size; omega) _
    exact Below.grown hb1 hg (by have := hb.size; omega) (fun b e => (hown.lt b e).1)

set_option maxRecDepth 100000 in
set_option maxHeartbeats 8000000 in
theorem oLinks_any (q : Nat → Prop) (l : List Lfc.Link) (A : Option Addr) (c : Nat) (w : World) (hn : l.length ≤ 100000) (hst : ∀ x ∈ l, x.term.size ≤ 1000000 ∧ x.path.length ≤ 10000000) (hl : LinksP q w A l) :
    Calls Try.prog 54 #[.slice A l.length c] w fun e w' => (∃ A' c', e = .returned (.slice A' l.length c') ∧ l.length ≤ c' ∧ LinksP (fun b => w.heap.size ≤ b) w' A' l) ∧ Below w.heap.size w w' := by
  obtain ⟨i0, hi, hz0, hz1, hz2⟩ := info_parts linkInfo
  have HL := Lib.hid hl
  have HST := Lib.hid hst
  obtain ⟨N, hN⟩ : ∃ N, l.length = N := ⟨_, rfl⟩
  rw [hN] at hn ⊢
  have HN := Lib.hid hN
  have I0 : Hid (LkI w (l.take 0) (.slice none 0 0) w) := Lib.hid ⟨[], World.ownsRow_nil w w.heap.size _ 7, by rw [List.take_zero, LinkRow], Below.refl _ _⟩
  clear hl hst hN
  go_enter Try.func54, Try.ntmps54
  go_wp2_with fail
  go_loopw [3, 8] (fun v i wr => ∃ (k : Nat), k ≤ N ∧ i = .int .i64 (k : Int) ∧ Hid (LkI w (l.take k) v wr)) (fun _ i _ => N - (intOf i).toNat)
  case atStart => exact ⟨0, by omega, rfl, I0⟩
  case round =>
    clear I0
    obtain ⟨k, hk, rfl, HI⟩ := hrel
    obtain ⟨xs, hown, hrow, hbw⟩ := HI.out
    have htk : (l.take k).length = k := by rw [List.length_take, HN.out]; omega
    by_cases hlt : k < N
    · have hlt2 : k < l.length := by rw [HN.out]; exact hlt
      have HT := Lib.hid (List.take_succ_eq_append_getElem hlt2)
      obtain ⟨b, o, rfl, hb, _, hall⟩ := HL.out (by intro h; rw [h] at hlt2; cases hlt2)
      obtain ⟨kk, nn, pp, us, At, ct, Ap, cp, he, d0, d1, d2, d3, d4, d5, d6, hcp, hip, htv⟩ := hall k hlt2
      obtain ⟨hsz, hpl⟩ := HST.out _ (List.getElem_mem hlt2)
      generalize l[k] = x at *
      obtain ⟨xk, xt, xp, xf⟩ := x
      simp only at he d0 d5 d6 hcp hip htv hsz hpl
      have HE := Lib.hid he
      have HTK := Lib.hid htk
      rw [htk] at hown
      have f0 := (hbw.cell (p := ⟨b, o + k * 7, none⟩) hb).trans d0
      have f1 := (hbw.cell (p := ⟨b, o + k * 7 + 1, none⟩) hb).trans d1
      have f2 := (hbw.cell (p := ⟨b, o + k * 7 + 2, none⟩) hb).trans d2
      have f3 := (hbw.cell (p := ⟨b, o + k * 7 + 3, none⟩) hb).trans d3
      have f4 := (hbw.cell (p := ⟨b, o + k * 7 + 4, none⟩) hb).trans d4
      have f5 := (hbw.cell (p := ⟨b, o + k * 7 + 5, none⟩) hb).trans d5
      have f6 := (hbw.cell (p := ⟨b, o + k * 7 + 6, none⟩) hb).trans d6
      have hi0 : (0 : Int) ≤ (k : Int) := Int.natCast_nonneg _
      have hi1 : (k : Int) < (N : Int) := by omega
      obtain ⟨wx, hwx⟩ : ∃ wx, wr.alloc (.cells #[.int .i64 xk, .int .i64 kk, S nn, .int .i64 pp, .slice At us.length ct, .slice Ap xp.length cp, .int .i64 xf] 104) = wx := ⟨_, rfl⟩
      have bx : Below wr.heap.size wr wx := by rw [← hwx]; exact (Below.refl _ _).alloc (Nat.le_refl _) _
      have qx : wx.heap[wr.heap.size]? = some (.cells #[.int .i64 xk, .int .i64 kk, S nn, .int .i64 pp, .slice At us.length ct, .slice Ap xp.length cp, .int .i64 xf] 104 (0, 0)) := by rw [← hwx]; exact heap_alloc_new _ _
      have lx := lt_of_block qx
      have BX := Lib.hid bx
      have HWX := Lib.hid hwx
      have HB := Lib.hid hbw
      have hox := hown.kept (Oth.of_below (T := wx.heap.size) bx) (.inr fun e => by have := (hown.lt _ e).2; have := bx.size; omega)
      have SC : Hid (∀ W, Below wx.heap.size wx W → W.cell? ⟨wr.heap.size, 0, none⟩ = some (.int .i64 xk) ∧ (W.cell? ⟨wr.heap.size, 1, none⟩ = some (.int .i64 kk) ∧ W.cell? ⟨wr.heap.size, 2, none⟩ = some (S nn) ∧ W.cell? ⟨wr.heap.size, 3, none⟩ = some (.int .i64 pp) ∧ W.cell? ⟨wr.heap.size, 4, none⟩ = some (.slice At us.length ct)) ∧ W.cell? ⟨wr.heap.size, 5, none⟩ = some (.slice Ap xp.length cp) ∧ W.cell? ⟨wr.heap.size, 6, none⟩ = some (.int .i64 xf)) := Lib.hid (fun W hW => by
        have e := (hW.block _ lx).trans qx
        exact ⟨Lib.cell_of_heap e 0, ⟨Lib.cell_of_heap e 1, Lib.cell_of_heap e 2, Lib.cell_of_heap e 3, Lib.cell_of_heap e 4⟩, Lib.cell_of_heap e 5, Lib.cell_of_heap e 6⟩)
      have SB : Hid (∀ W : World, W.heap[wr.heap.size]? = wx.heap[wr.heap.size]? → W.cell? ⟨wr.heap.size, 0, none⟩ = some (.int .i64 xk) ∧ (W.cell? ⟨wr.heap.size, 1, none⟩ = some (.int .i64 kk) ∧ W.cell? ⟨wr.heap.size, 2, none⟩ = some (S nn) ∧ W.cell? ⟨wr.heap.size, 3, none⟩ = some (.int .i64 pp) ∧ W.cell? ⟨wr.heap.size, 4, none⟩ = some (.slice At us.length ct)) ∧ W.cell? ⟨wr.heap.size, 5, none⟩ = some (.slice Ap xp.length cp) ∧ W.cell? ⟨wr.heap.size, 6, none⟩ = some (.int .i64 xf)) := Lib.hid (fun W hW => by
        have e := hW.trans qx
        exact ⟨Lib.cell_of_heap e 0, ⟨Lib.cell_of_heap e 1, Lib.cell_of_heap e 2, Lib.cell_of_heap e 3, Lib.cell_of_heap e 4⟩, Lib.cell_of_heap e 5, Lib.cell_of_heap e 6⟩)
      have hvne : u3.ownBlock ≠ some wr.heap.size := fun e => by have := (hown.lt _ e).2; omega
      have hv0 := (htv.toV.below hbw).below bx
      have hp0 := (hip.toO.below hbw).below bx
      have CT : Hid (∀ W, Below wx.heap.size wx W → Calls Try.prog 64 #[.agg #[.int .i64 kk, S nn, .int .i64 pp, .slice At us.length ct]] W fun e w' => (∃ A' c', e = .returned (.agg #[.int .i64 kk, S nn, .int .i64 pp, .slice A' us.length c']) ∧ TreeVP (fun b => W.heap.size ≤ b) w' xt (.agg #[.int .i64 kk, S nn, .int .i64 pp, .slice A' us.length c'])) ∧ Below W.heap.size W w') := Lib.hid (fun W hW => by
        refine (ownTerm_upto _ hsz xt _ W (Nat.le_refl _) (hv0.below hW)).mono ?_
        rintro e w' ⟨⟨v', rfl, h⟩, hb⟩
        rw [HE.out] at h
        obtain ⟨A', c', rfl, _⟩ := h.openT
        rw [← HE.out] at h
        exact ⟨⟨A', c', rfl, h⟩, hb⟩)
      have CC : Hid (∀ W, Below wx.heap.size wx W → Calls Try.prog 65 #[.slice Ap xp.length cp] W fun e w' => (∃ A' c', e = .returned (.slice A' xp.length c') ∧ xp.length ≤ c' ∧ IntsP (fun b => W.heap.size ≤ b) w' A' xp) ∧ Below W.heap.size W w') := Lib.hid (fun W hW => cloneInts_any xp Ap cp W hpl (hp0.below hW))
      have OW : Hid (∀ W, Below wx.heap.size wx W → W.ownsRow w.heap.size 104 7 u3 k xs) := Lib.hid (fun W hW => hox.kept (Oth.of_below (T := W.heap.size) hW) (.inr fun e => by have := (hox.lt _ e).2; have := hW.size; omega))
      have HOWN := Lib.hid hown
      have HROW := Lib.hid hrow
      have hlm : k + 1 ≤ maxLen := by unfold maxLen; omega
      have hlb : (k + 1) * 96 ≤ 140737488355328 := by omega
      have hsw : w.heap.size ≤ wx.heap.size := Nat.le_trans hbw.size bx.size
      have G0 : Below wx.heap.size wx wx.drew := (Below.refl _ _).drew
      have aa : ∀ W W', Below wx.heap.size wx W → Below W.heap.size W W' → Below wx.heap.size wx W' := fun W W' h h' => h.trans (h'.mono h.size)
      clear hown hrow hbw hox hv0 hp0 htv hip he hwx bx qx d0 d1 d2 d3 d4 d5 d6 hall HI htk hlt2 hb hsz hpl
      go_upto_region 5 with fail
      rw [HWX.out]
      clear HWX f0 f1 f2 f3 f4 f5 f6
      go_region_held3 (fun W => W.cell? ⟨wr.heap.size, 0, none⟩ = some (.int .i64 xk) ∧ (W.cell? ⟨wr.heap.size, 1, none⟩ = some (.int .i64 kk) ∧ W.cell? ⟨wr.heap.size, 2, none⟩ = some (S nn) ∧ W.cell? ⟨wr.heap.size, 3, none⟩ = some (.int .i64 pp) ∧ W.cell? ⟨wr.heap.size, 4, none⟩ = some (.slice At us.length ct)) ∧ W.cell? ⟨wr.heap.size, 5, none⟩ = some (.slice Ap xp.length cp) ∧ W.cell? ⟨wr.heap.size, 6, none⟩ = some (.int .i64 xf))
        (first | exact SC.out _ G0 | assumption | (refine SC.out _ ?_; assumption) | (refine SC.out _ ?_; refine Below.alloc ?_ (Below.size (by assumption)) _; assumption))
        (first
          | (go_at_call 64; ((with_reducible refine (CT.out _ ?_).mono ?_)); assumption; rintro e w5 ⟨⟨A5, c5, rfl, h5⟩, hb5'⟩; have hb5 := aa _ _ (by assumption) hb5')
          | (go_at_call 65; ((with_reducible refine (CC.out _ ?_).mono ?_)); assumption; rintro e w6 ⟨⟨A6, c6, rfl, hc6, h6⟩, hb6'⟩; have hb6 := aa _ _ (by assumption) hb6')
          | (refine step_append_own_at _ (by rfl) _ _ 56 (by rfl) w.heap.size 104 i0 _ 7 96 Try.underlying56 hi hz0 hz1 hz2 rfl (by decide) _ _ _ (by rfl) ((OW.out w6 hb6).alloc _) ⟨w6.heap.size, 0, none⟩ 1 1 [.int .i64 xk, .int .i64 kk, S nn, .int .i64 pp, .slice A5 us.length c5, .slice A6 xp.length c6, .int .i64 xf] (by rfl) (by rfl) (fun j u h => ocells_new w6 _ rfl [.int .i64 xk, .int .i64 kk, S nn, .int .i64 pp, .slice A5 us.length c5, .slice A6 xp.length c6, .int .i64 xf] _ j u h) oneCell7 hlm hlb (oalloc_le (Nat.le_trans hsw hb6.size)) ?_; intro v9 w9 hown9 hg9 hloc9; have HN9 : Hid (LkI w (l.take (k + 1)) v9 w9) := Lib.hid (by rw [HT.out]; exact LkI.step (x := ⟨xk, xt, xp, xf⟩) (by rw [HTK.out]; exact HOWN.out) HROW.out HB.out (BX.out.trans (hb6.mono BX.out.size)) HE.out hc6 (h6.keep (fun _ _ _ => rfl) (Nat.le_refl _) (fun b _ h => Nat.le_trans (Nat.le_trans BX.out.size hb5.size) h)) (h5.keep (fun b _ hlt => hb6'.block b hlt) hb6'.size (fun b _ h => Nat.le_trans BX.out.size h)) (by rw [HTK.out]; exact hown9) hg9 hloc9); have h9c := SB.out w9 ((hg9.block wr.heap.size (by have := hb6.size; simp; omega) (fun e => hvne e.symm)).trans ((Lib.alloc_old _ _ _ (by have := hb6.size; omega)).trans (hb6.block _ lx))); (try dsimp only at h9c); clear hg9 hloc9 hown9)
          | (refine step_append_own_at _ (by rfl) _ _ 56 (by rfl) w.heap.size 104 i0 _ 7 96 Try.underlying56 hi hz0 hz1 hz2 rfl (by decide) _ _ _ (by rfl) ((OW.out w5 hb5).alloc _) ⟨w5.heap.size, 0, none⟩ 1 1 [.int .i64 xk, .int .i64 kk, S nn, .int .i64 pp, .slice A5 us.length c5, .slice A6 xp.length c6, .int .i64 xf] (by rfl) (by rfl) (fun j u h => ocells_new w5 _ rfl [.int .i64 xk, .int .i64 kk, S nn, .int .i64 pp, .slice A5 us.length c5, .slice A6 xp.length c6, .int .i64 xf] _ j u h) oneCell7 hlm hlb (oalloc_le (Nat.le_trans hsw hb5.size)) ?_; intro v9 w9 hown9 hg9 hloc9; have HN9 : Hid (LkI w (l.take (k + 1)) v9 w9) := Lib.hid (by rw [HT.out]; exact LkI.step (x := ⟨xk, xt, xp, xf⟩) (by rw [HTK.out]; exact HOWN.out) HROW.out HB.out (BX.out.trans (hb5.mono BX.out.size)) HE.out hc6 (h6.keep (fun b _ hlt => hb5'.block b hlt) hb5'.size (fun b _ h => Nat.le_trans BX.out.size h)) (h5.keep (fun _ _ _ => rfl) (Nat.le_refl _) (fun b _ h => Nat.le_trans (Nat.le_trans BX.out.size hb6.size) h)) (by rw [HTK.out]; exact hown9) hg9 hloc9); have h9c := SB.out w9 ((hg9.block wr.heap.size (by have := hb5.size; simp; omega) (fun e => hvne e.symm)).trans ((Lib.alloc_old _ _ _ (by have := hb5.size; omega)).trans (hb5.block _ lx))); (try dsimp only at h9c); clear hg9 hloc9 hown9))
      all_goals
        go_wp2_with fail
        go_roundw
        case rel => exact ⟨k + 1, by omega, by go_num, HN9⟩
        case measure => simp [intOf]; omega
    · obtain rfl : k = N := by omega
      have HZ : Hid ((∃ A' c', Ending.returned u3 = .returned (.slice A' k c') ∧ k ≤ c' ∧ LinksP (fun b => w.heap.size ≤ b) wr A' l) ∧ Below w.heap.size w wr) := Lib.hid (by
        rw [← HN.out, List.take_length] at hown hrow
        obtain ⟨A', c', hv, hc⟩ := own_form hown
        subst hv
        rw [HN.out] at hc
        refine ⟨⟨A', c', by rw [HN.out], hc, linksP_own hown (fun _ h => h) (hrow.keep (fun _ _ _ => rfl) (Nat.le_refl _) (fun b _ h => h.1))⟩, hbw⟩)
      clear hown hrow hbw HI
      go_wp2_with fail
      go_ret
      exact HZ.out
end Go.Proofs.Ytadjpadieljjlaa
