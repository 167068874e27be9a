/- Parts of the proof: OpLev1. -/
import Derived.Test.YtkhfnkokdmoipaaOpLevCZ
/- The walk of the law OperatorLevels. -/
set_option linter.unusedVariables false
set_option linter.unusedSimpArgs false
namespace Go.Proofs.Ytkhfnkokdmoipaa
open Go.RowKit Go.Maps Go.WideMaps

theorem ops_levels {w : World} {g : Nat} {f : Int} (h : w.heap[g]? = some (.cells #[S [43], .int .i64 f, .int .i64 10, S [42], .int .i64 4, .int .i64 20, S [94], .int .i64 5, .int .i64 30] 25 (0, 0))) : OpsAt w (some ⟨g, 0, none⟩) (Lfc.lvOps f) := by
  refine ⟨fun x hx => ?_, fun _ => ⟨g, 0, rfl, lt_of_block h, fun i hi => ?_⟩⟩
  · simp only [Lfc.lvOps, List.mem_cons, List.not_mem_nil, or_false] at hx
    rcases hx with rfl | rfl | rfl <;> simp [Lfc.lvPlus]
  · match i, hi with
    | 0, _ => exact ⟨Lib.cell_of_heap h 0, Lib.cell_of_heap h 1, Lib.cell_of_heap h 2⟩
    | 1, _ => exact ⟨Lib.cell_of_heap h 3, Lib.cell_of_heap h 4, Lib.cell_of_heap h 5⟩
    | 2, _ => exact ⟨Lib.cell_of_heap h 6, Lib.cell_of_heap h 7, Lib.cell_of_heap h 8⟩
/-- The cells of an operand of the chain. -/
theorem ch_cells {w W : World} {s : List Lfc.Opd} {A : Option Addr} {c : Nat} (h : ChI w s (.slice A s.length c) W) (hp : 0 < s.length) : ∃ g, A = some ⟨g, 0, none⟩ ∧ g < W.heap.size ∧ ∀ W', Below W.heap.size W W' → ∀ k (hk : k < s.length) n, s[k] = Lfc.nmO n → W'.cell? ⟨g, k * 5, none⟩ = some (.int .i64 1) ∧ W'.cell? ⟨g, k * 5 + 1, none⟩ = some (S n) ∧ W'.cell? ⟨g, k * 5 + 2, none⟩ = some (.int .i64 0) ∧ W'.cell? ⟨g, k * 5 + 3, none⟩ = some (.slice none 0 0) ∧ W'.cell? ⟨g, k * 5 + 4, none⟩ = some (.bool false) := by
  rcases h.own.2 with ⟨_, h0⟩ | ⟨g, cap, cur, hv, hbg, hg, _⟩
  · omega
  · injection hv with e1 _ e3
    subst e1 e3
    have hc := own_cells h.own
    refine ⟨g, rfl, lt_of_block hg, fun W' hb k hk n hn => ?_⟩
    obtain ⟨c0, c1, c2, c3, c4⟩ := nCells_get s k hk
    have e : s[k].tree.name = n := by rw [hn]; rfl
    rw [e] at c1
    have up : ∀ j u, (nCells s)[j]? = some u → W'.cell? ⟨g, j, none⟩ = some u := fun j u hj => by
      have := hc j u hj
      rw [Nat.zero_add] at this
      exact (hb.cell (p := ⟨g, _, none⟩) (lt_of_block hg)).trans this
    exact ⟨up _ _ c0, up _ _ c1, up _ _ c2, up _ _ c3, up _ _ c4⟩
/-- A new block of one operand. -/
theorem lay5g (w : World) (v0 v1 v2 v3 v4 : Value) : ∃ w', w.alloc (.cells #[v0, v1, v2, v3, v4] 37) = w' ∧ Below w.heap.size w w' ∧ (w.heap.size + 1 ≤ w'.heap.size ∧ w'.heap.size ≤ w.heap.size + 1) ∧ (∀ j u, [v0, v1, v2, v3, v4][j]? = some u → w'.cell? ((⟨w.heap.size, 0, none⟩ : Addr).add j) = some u) :=
  ⟨_, rfl, (Below.refl _ _).alloc (Nat.le_refl _) _, by simp, fun j u h => cells_new w _ rfl [v0, v1, v2, v3, v4] 37 j u h⟩
theorem oneCell5 {k p : Int} {n : List UInt8} {A : Option Addr} {l c : Nat} {b : Bool} : ∀ u ∈ [Value.int .i64 k, S n, .int .i64 p, .slice A l c, .bool b], u.oneCell' = true := by
  intro u hu
  simp at hu
  rcases hu with rfl | rfl | rfl | rfl | rfl <;> rfl
theorem names_of_alt {s : List Lfc.Opd} (h : Lfc.AltP s) : NamesO s ∧ ∀ x ∈ s, x.tree.args = [] := by
  refine ⟨fun x hx => ?_, fun x hx => ?_⟩
  · obtain ⟨n, hn, e⟩ := Lfc.alt_mem h hx
    exact ⟨n, e, Lfc.lev_len hn⟩
  · obtain ⟨n, hn, rfl⟩ := Lfc.alt_mem h hx
    rfl

set_option maxRecDepth 100000 in
set_option maxHeartbeats 4000000 in
theorem operatorLevels_walk {p0 : Prop} (v0 : Value) (zs : List Int) (fx : Int) (w : World) (i0 : IntsAt w v0 zs) (i1 : p0) :
    Calls Try.prog 3 #[v0, .int .i64 fx] w fun e w' => e = .returned (.bool true) ∧ Below w.heap.size w w' := by
  clear i1
  obtain ⟨it, hi, hz0, hz1, hz2⟩ := opd_info
  have hcut := cutI_lt fx 2 (by omega)
  have CC := Lib.hid (cut_any fx 2 w (by omega) (by omega))
  generalize cutI fx 2 = q at *
  have HF : Hid (4 + (q : Int) = 4 ∨ 4 + (q : Int) = 5) := Lib.hid (by omega)
  obtain ⟨w2, hw2⟩ : ∃ w2, w.alloc (.cells #[S [43], .int .i64 (4 + (q : Int)), .int .i64 10, S [42], .int .i64 4, .int .i64 20, S [94], .int .i64 5, .int .i64 30] 25) = w2 := ⟨_, rfl⟩
  have b2 : Below w.heap.size w w2 := by rw [← hw2]; exact (Below.refl _ _).alloc (Nat.le_refl _) _
  have q2 : w2.heap[w.heap.size]? = some (.cells #[S [43], .int .i64 (4 + (q : Int)), .int .i64 10, S [42], .int .i64 4, .int .i64 20, S [94], .int .i64 5, .int .i64 30] 25 (0, 0)) := by rw [← hw2]; exact heap_alloc_new _ _
  have HL2 := Lib.hid (ops_levels q2)
  obtain ⟨w3, hw3⟩ : ∃ w3, w2.alloc (.cells #[S [43], S [42], S [94], S [42]] 9) = w3 := ⟨_, rfl⟩
  have b3 : Below w2.heap.size w2 w3 := by rw [← hw3]; exact (Below.refl _ _).alloc (Nat.le_refl _) _
  have q3 : w3.heap[w2.heap.size]? = some (.cells #[S [43], S [42], S [94], S [42]] 9 (0, 0)) := by rw [← hw3]; exact heap_alloc_new _ _
  have C3 := Lib.hid (chain_any v0 zs w3 w2.heap.size ((i0.below b2).below b3) q3)
  have B3 := Lib.hid (b2.trans (b3.mono b2.size))
  have HL3 := Lib.hid (HL2.out.below b3)
  have HW2 := Lib.hid hw2
  have HW3 := Lib.hid hw3
  clear i0 b2 q2 b3 q3 hw2 hw3
  go_enter Try.func3, Try.ntmps3
  go_wp2_with fail
  refine CC.out.mono ?_
  rintro e w1 ⟨rfl, hw1⟩
  obtain rfl := hw1.symm
  clear CC
  go_upto_region 3 with fail
  rw [HW2.out]
  go_upto_region 4 with fail
  rw [HW3.out]
  go_wp2_with fail
  refine C3.out.mono ?_
  unfold ChPost
  rintro e w4 ⟨s, As, cs, rfl, hch, hsl⟩
  have hpos : 0 < s.length := by have := hch.alt.1; omega
  obtain ⟨gs, rfl, hgs, hfc⟩ := ch_cells hch hpos
  obtain ⟨A', c', hv', hcs'⟩ := own_cap hch.own
  have hcs : s.length ≤ cs := by injection hv' with _ _ e3; omega
  have hnm := names_of_alt hch.alt
  obtain ⟨t, ht, hts, hres, _⟩ := Lfc.lv_resolved (4 + (q : Int)) HF.out s hch.alt hsl
  have hws := Lfc.wsum_nm s (fun x hx => by obtain ⟨n, e, _⟩ := hnm.1 x hx; exact ⟨n, e⟩)
  have HL4 := Lib.hid (HL3.out.below hch.bel)
  have HS4 := Lib.hid (OpdsAt.of_own hnm.1 hch.own)
  have C4 := Lib.hid (show Calls Try.prog 7 #[.slice (some ⟨w.heap.size, 0, none⟩) 3 3, .slice (some ⟨gs, 0, none⟩) s.length cs] w4 _ from resolve_any (Lfc.lvOps (4 + (q : Int))) s (some ⟨w.heap.size, 0, none⟩) (some ⟨gs, 0, none⟩) 3 cs w4 (by simp [Lfc.lvOps]) (by omega) hcs (by omega) HL4.out HS4.out)
  rw [hres] at C4
  have HRES := Lib.hid hres
  have HALT := Lib.hid hch.alt
  have HFC := Lib.hid hfc
  have B4 := Lib.hid (B3.out.trans (hch.bel.mono B3.out.size))
  clear hch hfc hv' hnm hres hws C3 HL3 B3 HW2 HW3 hcs' ht
  go_wp2_with fail
  refine C4.out.mono ?_
  rintro e w5 ⟨⟨v5, rfl, hv5⟩, b5⟩
  obtain ⟨k1, n1, p1, us1, A1, c1, e1, rfl⟩ := TreeV.node3 hv5
  obtain ⟨w6, hw6⟩ : ∃ w6, w5.alloc (.cells #[.int .i64 k1, S n1, .int .i64 p1, .slice A1 us1.length c1] 32) = w6 := ⟨_, rfl⟩
  have b6 : Below w5.heap.size w5 w6 := by rw [← hw6]; exact (Below.refl _ _).alloc (Nat.le_refl _) _
  have q6 : w6.heap[w5.heap.size]? = some (.cells #[.int .i64 k1, S n1, .int .i64 p1, .slice A1 us1.length c1] 32 (0, 0)) := by rw [← hw6]; exact heap_alloc_new _ _
  have b46 := b5.trans (b6.mono b5.size)
  have B46 := Lib.hid b46
  have B6 := Lib.hid (B4.out.trans (b46.mono B4.out.size))
  have HV6 := Lib.hid (hv5.below b6)
  have Q6 := Lib.hid q6
  have HL6 := Lib.hid (HL4.out.below b46)
  have HW6 := Lib.hid hw6
  clear hv5 b5 b6 q6 hw6 e1 b46 C4 HL4 HS4
  go_upto_region 5 with fail
  rw [HW6.out]
  go_wp2_with fail
  go_loopw [10, 11, 12] (fun vc vp i wr => ∃ (k : Nat) (ps : List (List Lfc.Opd)) (cur K : List Lfc.Opd) (xs : List Value) (Ac : Option Addr) (cc : Nat) (Ap : Option Addr) (cp : Nat), i = .int .i64 k ∧ k ≤ s.length + 1 ∧ vc = .slice Ac K.length cc ∧ vp = .slice Ap cur.length cp ∧ Hid (LevI w6 K cur (.slice Ac K.length cc) (.slice Ap cur.length cp) xs wr) ∧ Hid (Lfc.LevR (4 + (q : Int)) s k ps cur K)) (fun _ _ i _ => s.length + 1 - (intOf i).toNat)
  case atStart => exact ⟨0, [], [], [], [], none, 0, none, 0, rfl, by omega, rfl, rfl, Lib.hid (LevI.start w6), Lib.hid (Lfc.LevR.start _ s)⟩
  case round =>
    obtain ⟨k, ps, cur, K, xs, Ac, cc, Ap, cp, rfl, hk, rfl, rfl, HI, HR⟩ := hrel
    have hbd := HR.out.bound
    have hcl : cur.length ≤ 41 := by omega
    have hKl : K.length ≤ 83 := by omega
    clear hbd
    have b4r : Below w4.heap.size w4 wr := B46.out.trans (HI.out.bel.mono B46.out.size)
    have hs6 := HI.out.bel.size
    by_cases hk1 : k ≤ s.length
    · have hd0 : (k : Int) ≤ (s.length : Int) := by omega
      by_cases hkp : ∃ h : k < s.length, s[k] ≠ Lfc.nmO [43]
      · obtain ⟨hlt, hne⟩ := hkp
        obtain ⟨n, hn, hsk⟩ := Lfc.lev_name HALT.out hlt
        have hne2 : n ≠ [43] := fun e => hne (by rw [hsk, e])
        have HR2 := Lib.hid (HR.out.part hlt hsk hn hne2)
        obtain ⟨x0, x1, x2, x3, x4⟩ := HFC.out wr b4r k hlt n hsk
        obtain ⟨wa, hwa, ba, qa, sa, hca, _⟩ := lay5 wr n
        have Ia := Lib.hid (HI.out.new ba)
        have HCA := Lib.hid hca
        have hsza : w6.heap.size ≤ wa.heap.size := by omega
        have hd1 : decide (k < s.length) = true := by simp; omega
        have hd2 : (n == [43]) = false := by simpa using hne2
        clear HR hne hsk hn ba qa hca
        go_wp2_with (at_builtin; refine wpList_append_own_at _ rfl _ _ 27 rfl w6.heap.size 37 it (.agg #[.int .i64 0, S [], .int .i64 0, .slice none 0 0, .bool false]) 5 64 Try.underlying27 hi hz0 hz1 hz2 rfl (by decide) _ cur.length (nCells cur) rfl Ia.out.part ⟨wr.heap.size, 0, none⟩ 1 1 (nC n) rfl rfl HCA.out (nC_one _) (by unfold maxLen; omega) (by omega) hsza ?_)
        intro v5' w5' hown5 hg5 _ hloc5
        obtain ⟨A5, c5, rfl⟩ := own_form hown5
        have HL5 : (cur ++ [Lfc.nmO n]).length = cur.length + 1 := by simp
        have I5 : Hid (LevI w6 K (cur ++ [Lfc.nmO n]) (.slice Ac K.length cc) (.slice A5 (cur ++ [Lfc.nmO n]).length c5) xs w5') := Lib.hid (by rw [HL5]; exact Ia.out.pushP hg5 hown5 hloc5)
        clear hown5 hg5 hloc5 hwa x0 x1 x2 x3 x4 hd2
        go_wp2_with fail
        go_roundw
        case rel => exact ⟨k + 1, ps, cur ++ [Lfc.nmO n], K, xs, Ac, cc, A5, c5, by go_num, by omega, rfl, by simp, I5, HR2⟩
        case measure => simp [intOf]; omega
      · have hkp' : k = s.length ∨ ∃ h : k < s.length, s[k] = Lfc.nmO [43] := by
          rcases Nat.lt_or_ge k s.length with h | h
          · refine .inr ⟨h, ?_⟩
            by_cases e : s[k] = Lfc.nmO [43]
            · exact e
            · exact absurd ⟨h, e⟩ hkp
          · exact .inl (by omega)
        have halc := HR.out.alt HALT.out hkp'
        obtain ⟨tc, _, htcs, hrc, _⟩ := Lfc.lv_resolved (4 + (q : Int)) HF.out cur halc hcl
        obtain ⟨hnmc, hlfc⟩ := names_of_alt halc
        have hwsc := Lfc.wsum_nm cur (fun x hx => by obtain ⟨n, e, _⟩ := hnmc x hx; exact ⟨n, e⟩)
        obtain ⟨A', c', hv', hcp'⟩ := own_cap HI.out.part
        have hcp : cur.length ≤ cp := by injection hv' with _ _ e3; omega
        have C7 := Lib.hid (show Calls Try.prog 7 #[.slice (some ⟨w.heap.size, 0, none⟩) 3 3, .slice Ap cur.length cp] wr _ from resolve_leaf (Lfc.lvOps (4 + (q : Int))) cur (some ⟨w.heap.size, 0, none⟩) Ap 3 cp wr (by simp [Lfc.lvOps]) (by omega) hcp (by omega) (HL6.out.below HI.out.bel) (OpdsAt.of_own hnmc HI.out.part) hlfc)
        rw [hrc] at C7
        have HTC : Hid ((Lfc.clO (4 + (q : Int)) cur).tree = tc) := Lib.hid (by show (Lfc.resolved _ cur).1 = tc; rw [hrc])
        have hvlt : ∀ b, (Value.slice Ac K.length cc).ownBlock = some b → b < wr.heap.size := fun b hb => (HI.out.own.lt b hb).2
        have HVLT := Lib.hid hvlt
        clear halc hrc hnmc hlfc hwsc hv' hcp' hvlt hkp
        rcases hkp' with hke | ⟨hlt, hsk⟩
        · subst hke
          have hd1 : decide (s.length < s.length) = false := by simp
          have HRN := Lib.hid HR.out.last
          go_wp2_with fail
          refine C7.out.mono ?_
          rintro e w7 ⟨⟨v7, rfl, hv7⟩, b7⟩
          obtain ⟨k7, n7, p7, us7, A7, c7, e7, rfl, tp7⟩ := hv7.parts4
          obtain ⟨w8, hw8⟩ : ∃ w8, w7.alloc (.cells #[.int .i64 k7, S n7, .int .i64 p7, .slice A7 us7.length c7] 32) = w8 := ⟨_, rfl⟩
          have b8 : Below w7.heap.size w7 w8 := by rw [← hw8]; exact (Below.refl _ _).alloc (Nat.le_refl _) _
          have q8 : w8.heap[w7.heap.size]? = some (.cells #[.int .i64 k7, S n7, .int .i64 p7, .slice A7 us7.length c7] 32 (0, 0)) := by rw [← hw8]; exact heap_alloc_new _ _
          obtain ⟨y0, y1, y2, y3⟩ := cells4 q8
          obtain ⟨w9, hw9, b9, s9, hc9⟩ := lay5g w8 (.int .i64 k7) (S n7) (.int .i64 p7) (.slice A7 us7.length c7) (.bool true)
          have b79 := b8.trans (b9.mono b8.size)
          have I9 := Lib.hid (HI.out.new (b7.trans (b79.mono b7.size)))
          have TP9 : Hid (TreeP (fun b => some b ≠ (Value.slice Ac K.length cc).ownBlock) w9 (Lfc.clO (4 + (q : Int)) cur).tree (.int .i64 k7) (S n7) (.int .i64 p7) (.slice A7 us7.length c7)) := Lib.hid (by
            rw [HTC.out]
            exact TreeP.keep (fun b _ hlt => b79.block b hlt) b79.size (fun b _ hb e => by have := HVLT.out b e.symm; omega) _ _ _ _ _ tp7)
          have HC9 := Lib.hid hc9
          have hsz9 : w6.heap.size ≤ w9.heap.size := I9.out.bel.size
          have HW8 := Lib.hid hw8
          clear hv7 b7 b8 q8 hw8 b9 hc9 b79 tp7 e7 C7 HI
          go_upto_region 12 with fail
          rw [HW8.out]
          go_wp2_with (at_builtin; refine wpList_append_own_at _ rfl _ _ 27 rfl w6.heap.size 37 it (.agg #[.int .i64 0, S [], .int .i64 0, .slice none 0 0, .bool false]) 5 64 Try.underlying27 hi hz0 hz1 hz2 rfl (by decide) _ K.length xs rfl I9.out.own ⟨w8.heap.size, 0, none⟩ 1 1 [.int .i64 k7, S n7, .int .i64 p7, .slice A7 us7.length c7, .bool true] rfl rfl HC9.out oneCell5 (by unfold maxLen; omega) (by omega) hsz9 ?_)
          intro v10 w10 hown10 hg10 _ hloc10
          obtain ⟨A10, c10, rfl⟩ := own_form hown10
          have HLK : (K ++ [Lfc.clO (4 + (q : Int)) cur]).length = K.length + 1 := by simp
          have I10 : Hid (LevI w6 (K ++ [Lfc.clO (4 + (q : Int)) cur]) [] (.slice A10 (K.length + 1) c10) (.slice none 0 0) (xs ++ [.int .i64 k7, S n7, .int .i64 p7, .slice A7 us7.length c7, .bool (Lfc.clO (4 + (q : Int)) cur).closed]) w10) := Lib.hid (I9.out.pushK hg10 hown10 hloc10 TP9.out)
          clear hown10 hg10 hloc10 hw9 y0 y1 y2 y3
          go_wp2_with fail
          go_roundw
          case rel => exact ⟨s.length + 1, ps, [], K ++ [Lfc.clO (4 + (q : Int)) cur], _, A10, c10, none, 0, by go_num, by omega, by rw [HLK], rfl, by rw [HLK]; exact I10, HRN⟩
          case measure => simp [intOf] <;> omega
        · have hd1 : decide (k < s.length) = true := by simp; omega
          have HRN := Lib.hid (HR.out.plus hlt hsk)
          have FC := Lib.hid (fun W' hb => HFC.out W' hb k hlt [43] hsk)
          obtain ⟨x0, x1, x2, x3, x4⟩ := FC.out wr b4r
          clear hsk HR
          go_wp2_with fail
          refine C7.out.mono ?_
          rintro e w7 ⟨⟨v7, rfl, hv7⟩, b7⟩
          obtain ⟨k7, n7, p7, us7, A7, c7, e7, rfl, tp7⟩ := hv7.parts4
          obtain ⟨w8, hw8⟩ : ∃ w8, w7.alloc (.cells #[.int .i64 k7, S n7, .int .i64 p7, .slice A7 us7.length c7] 32) = w8 := ⟨_, rfl⟩
          have b8 : Below w7.heap.size w7 w8 := by rw [← hw8]; exact (Below.refl _ _).alloc (Nat.le_refl _) _
          have q8 : w8.heap[w7.heap.size]? = some (.cells #[.int .i64 k7, S n7, .int .i64 p7, .slice A7 us7.length c7] 32 (0, 0)) := by rw [← hw8]; exact heap_alloc_new _ _
          obtain ⟨y0, y1, y2, y3⟩ := cells4 q8
          obtain ⟨w9, hw9, b9, s9, hc9⟩ := lay5g w8 (.int .i64 k7) (S n7) (.int .i64 p7) (.slice A7 us7.length c7) (.bool true)
          have b79 := b8.trans (b9.mono b8.size)
          have I9 := Lib.hid (HI.out.new (b7.trans (b79.mono b7.size)))
          have TP9 : Hid (TreeP (fun b => some b ≠ (Value.slice Ac K.length cc).ownBlock) w9 (Lfc.clO (4 + (q : Int)) cur).tree (.int .i64 k7) (S n7) (.int .i64 p7) (.slice A7 us7.length c7)) := Lib.hid (by
            rw [HTC.out]
            exact TreeP.keep (fun b _ hlt => b79.block b hlt) b79.size (fun b _ hb e => by have := HVLT.out b e.symm; omega) _ _ _ _ _ tp7)
          have HC9 := Lib.hid hc9
          have hsz9 : w6.heap.size ≤ w9.heap.size := I9.out.bel.size
          have HW8 := Lib.hid hw8
          clear hv7 b7 b8 q8 hw8 b9 hc9 b79 tp7 e7 C7 HI
          go_upto_region 12 with fail
          rw [HW8.out]
          go_wp2_with (at_builtin; refine wpList_append_own_at _ rfl _ _ 27 rfl w6.heap.size 37 it (.agg #[.int .i64 0, S [], .int .i64 0, .slice none 0 0, .bool false]) 5 64 Try.underlying27 hi hz0 hz1 hz2 rfl (by decide) _ K.length xs rfl I9.out.own ⟨w8.heap.size, 0, none⟩ 1 1 [.int .i64 k7, S n7, .int .i64 p7, .slice A7 us7.length c7, .bool true] rfl rfl HC9.out oneCell5 (by unfold maxLen; omega) (by omega) hsz9 ?_)
          intro v10 w10 hown10 hg10 _ hloc10
          obtain ⟨A10, c10, rfl⟩ := own_form hown10
          have HLK : (K ++ [Lfc.clO (4 + (q : Int)) cur]).length = K.length + 1 := by simp
          have I10 : Hid (LevI w6 (K ++ [Lfc.clO (4 + (q : Int)) cur]) [] (.slice A10 (K.length + 1) c10) (.slice none 0 0) (xs ++ [.int .i64 k7, S n7, .int .i64 p7, .slice A7 us7.length c7, .bool (Lfc.clO (4 + (q : Int)) cur).closed]) w10) := Lib.hid (I9.out.pushK hg10 hown10 hloc10 TP9.out)
          clear hown10 hg10 hloc10 hw9 y0 y1 y2 y3
          have b410 : Below w4.heap.size w4 w10 := B46.out.trans (I10.out.bel.mono B46.out.size)
          clear x0 x1 x2 x3 x4
          obtain ⟨x0, x1, x2, x3, x4⟩ := FC.out w10 b410
          obtain ⟨wb, hwb, bb, qb, sb, hcb, _⟩ := lay5 w10 [43]
          have Ib := Lib.hid (I10.out.new bb)
          have HCB := Lib.hid hcb
          have hszb : w6.heap.size ≤ wb.heap.size := Ib.out.bel.size
          obtain ⟨K1, hK1⟩ : ∃ K1, K ++ [Lfc.clO (4 + (q : Int)) cur] = K1 := ⟨_, rfl⟩
          rw [hK1] at Ib HLK HRN
          rw [← HLK] at Ib
          obtain ⟨xs1, hx1⟩ : ∃ xs1, xs ++ [.int .i64 k7, S n7, .int .i64 p7, .slice A7 us7.length c7, .bool (Lfc.clO (4 + (q : Int)) cur).closed] = xs1 := ⟨_, rfl⟩
          rw [hx1] at Ib
          have hK1l : K1.length ≤ 84 := by omega
          have HK1 := Lib.hid HLK
          rw [← HLK]
          clear bb qb hcb I10 b410 hK1 hx1 HLK
          go_wp2_with (at_builtin; refine wpList_append_own_at _ rfl _ _ 27 rfl w6.heap.size 37 it (.agg #[.int .i64 0, S [], .int .i64 0, .slice none 0 0, .bool false]) 5 64 Try.underlying27 hi hz0 hz1 hz2 rfl (by decide) _ K1.length xs1 rfl Ib.out.own ⟨w10.heap.size, 0, none⟩ 1 1 (nC [43]) rfl rfl HCB.out (nC_one _) (by unfold maxLen; omega) (by omega) hszb ?_)
          intro v12 w12 hown12 hg12 _ hloc12
          obtain ⟨A12, c12, rfl⟩ := own_form hown12
          have HL12 : (K1 ++ [Lfc.nmO [43]]).length = K1.length + 1 := by simp
          have I12 : Hid (LevI w6 (K1 ++ [Lfc.nmO [43]]) [] (.slice A12 (K1 ++ [Lfc.nmO [43]]).length c12) (.slice none 0 0) (xs1 ++ [.int .i64 1, S [43], .int .i64 0, .slice none 0 0, .bool (Lfc.nmO [43]).closed]) w12) := Lib.hid (by rw [HL12]; exact Ib.out.pushK hg12 hown12 hloc12 (nmP [43] (by simp)))
          clear hown12 hg12 hloc12 hwb x0 x1 x2 x3 x4
          go_wp2_with fail
          go_roundw
          case rel => exact ⟨k + 1, ps ++ [cur], [], K1 ++ [Lfc.nmO [43]], _, A12, c12, none, 0, by go_num, by omega, by rw [HL12], rfl, I12, HRN⟩
          case measure => simp [intOf]; omega
    · obtain rfl : k = s.length + 1 := by omega
      have hd0 : ¬ ((s.length + 1 : Nat) : Int) ≤ (s.length : Int) := by omega
      obtain ⟨hrK, hwK⟩ := HR.out.fin HF.out HALT.out hsl
      obtain ⟨A', c', hv', hcc'⟩ := own_cap HI.out.own
      have hcc : K.length ≤ cc := by injection hv' with _ _ e3; omega
      have C7 := Lib.hid (show Calls Try.prog 7 #[.slice (some ⟨w.heap.size, 0, none⟩) 3 3, .slice Ac K.length cc] wr _ from resolve_any (Lfc.lvOps (4 + (q : Int))) K (some ⟨w.heap.size, 0, none⟩) Ac 3 cc wr (by simp [Lfc.lvOps]) (by omega) hcc (by omega) (HL6.out.below HI.out.bel) (RowO.opds HI.out.own HI.out.row))
      rw [hrK, HRES.out] at C7
      have BR := Lib.hid HI.out.bel
      clear HI HR hv' hcc' hrK hwK
      go_wp2_with fail
      refine C7.out.mono ?_
      rintro e w7 ⟨⟨v7, rfl, hv7⟩, b7⟩
      obtain ⟨k7, n7, p7, us7, A7, c7, e7, rfl⟩ := TreeV.node3 hv7
      obtain ⟨w8, hw8⟩ : ∃ w8, w7.alloc (.cells #[.int .i64 k7, S n7, .int .i64 p7, .slice A7 us7.length c7] 32) = w8 := ⟨_, rfl⟩
      have b8 : Below w7.heap.size w7 w8 := by rw [← hw8]; exact (Below.refl _ _).alloc (Nat.le_refl _) _
      have q8 : w8.heap[w7.heap.size]? = some (.cells #[.int .i64 k7, S n7, .int .i64 p7, .slice A7 us7.length c7] 32 (0, 0)) := by rw [← hw8]; exact heap_alloc_new _ _
      have b68 : Below w6.heap.size w6 w8 := BR.out.trans ((b7.trans (b8.mono b7.size)).mono BR.out.size)
      obtain ⟨y0, y1, y2, y3⟩ := cells4 q8
      obtain ⟨x0, x1, x2, x3⟩ := cells4 ((b68.block _ (lt_of_block Q6.out)).trans Q6.out)
      have CS := Lib.hid (rSame_any true t t _ _ w8 (by omega) (HV6.out.below b68) (hv7.below b8))
      rw [Lfc.lvSame true t] at CS
      have B8 := Lib.hid (B6.out.trans (b68.mono B6.out.size))
      have HW8 := Lib.hid hw8
      clear hv7 b7 b8 q8 hw8 b68 e7 C7
      go_upto_region 19 with fail
      rw [HW8.out]
      go_wp2_with fail
      refine CS.out.mono ?_
      rintro e w9 ⟨rfl, b9⟩
      go_wp2_with fail
      refine (awake3_any _).mono ?_
      rintro e wx ⟨rfl, bx⟩
      go_wp2_with fail
      go_ret
      exact ⟨rfl, B8.out.trans ((b9.trans (bx.mono b9.size)).mono B8.out.size)⟩
end Go.Proofs.Ytkhfnkokdmoipaa
