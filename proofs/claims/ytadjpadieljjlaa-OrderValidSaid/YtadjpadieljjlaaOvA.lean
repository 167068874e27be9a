/- Parts of the proof: OrPrv, OrHold. -/
import Derived.Test.YtadjpadieljjlaaOvD
/- The contract of Prove at two bare arguments, Less, without facts. -/
set_option linter.unusedVariables false
set_option linter.unusedSimpArgs false
namespace Lfc
theorem vld_arg {i n : Nat} (h : i < n) : (Ord.node 1 (i : Int) []).vld (n : Int) = 0 := by
  rw [Ord.vld, if_neg, if_neg]
  · rw [Ord.rng]; simp; omega
  · rintro (h | h)
    · rw [Ord.size, Ord.sizes] at h; omega
    · rw [Ord.form] at h; simp at h
theorem shp_arg (i j : Int) : Ord.shp (Ord.node 1 i []) (Ord.node 1 j []) = true := by
  rw [Ord.shp]; simp [Ord.shps]
mutual
theorem pth_len {ks : List Int} {t : Raw} : ∀ (s : Raw) (cr : Nat) (q : List Int), Raw.pth ks t s cr = some q → q.length ≤ s.size
  | .node k n p xs, cr, q, h => by
    rw [Raw.pth] at h
    split at h
    · cases h; exact Nat.zero_le _
    · split at h
      · cases h
      · have := pths_len xs _ _ q h
        rw [Raw.size]; omega
theorem pths_len {ks : List Int} {t : Raw} : ∀ (xs : List Raw) (cr : Nat) (i : Int) (q : List Int), Raw.pths ks t xs cr i = some q → q.length ≤ Raw.sizes xs + 1
  | [], _, _, q, h => by rw [Raw.pths] at h; cases h
  | a :: r, cr, i, q, h => by
    rw [Raw.pths] at h
    rw [Raw.sizes]
    split at h
    · rename_i q' hq'
      cases h
      have := pth_len a cr q' hq'
      simp; omega
    · have := pths_len r cr (i + 1) q h
      omega
end
theorem path_len {ks : List Int} {t u : Raw} {q : List Int} (h : Raw.path ks t u = some q) : q.length ≤ u.size := by
  rw [Raw.path] at h
  split at h
  · exact pth_len u 0 q h
  · cases h
end Lfc
namespace Go.Proofs.Ytadjpadieljjlaa
open Go.RowKit Go.Maps
theorem ord_arg (w : World) (i : Int) : OrdV w (.node 1 i []) (.agg #[.int .i64 1, .int .i64 i, .slice none 0 0]) := ⟨_, _, _, rfl, by rw [OrdC]; exact ⟨rfl, rfl, none, 0, rfl, Nat.le_refl _, fun h => absurd rfl h⟩⟩
/-- What Prove answers. -/
def PrvAns (w : World) (r : Option (List Lfc.Link)) (e : Ending) (w' : World) : Prop :=
  ((r = none ∧ e = .returned (.tuple #[.agg #[.int .i64 0, .slice none 0 0, .slice none 0 0, .slice none 0 0], .bool false])) ∨ (∃ l A c B d, r = some l ∧ e = .returned (.tuple #[.agg #[.int .i64 0, .slice none 0 0, .slice A l.length c, .slice B 0 d], .bool true]) ∧ l.length ≤ c ∧ LinksP (fun b => w.heap.size ≤ b) w' A l)) ∧ Below w.heap.size w w'
/-- The proof of Less that is found. -/
def Lfc.prv0 (ks : List Int) (all : List Lfc.Raw) (t u : Lfc.Raw) : Option (List Lfc.Link) := if Lfc.chkE all = 0 then Lfc.chain0 ks t u 2 else none
theorem up_links (ks : List Int) (t u : Lfc.Raw) (hu : u.size ≤ 1000000) (hp : ∀ q, Lfc.Raw.path ks t u = some q → q.length ≤ 10000000) : (Lfc.Raw.up ks t u).2.length ≤ 1 ∧ ∀ x ∈ (Lfc.Raw.up ks t u).2, x.term.size ≤ 1000000 ∧ x.path.length ≤ 10000000 := by
  unfold Lfc.Raw.up
  cases hr : Lfc.Raw.path ks t u with
  | none => exact ⟨Nat.zero_le _, fun x h => by cases h⟩
  | some q =>
    cases q with
    | nil => exact ⟨Nat.zero_le _, fun x h => by cases h⟩
    | cons i r =>
      refine ⟨Nat.le_refl _, fun x h => ?_⟩
      simp only [Lfc.upOf, List.mem_singleton] at h
      subst h
      exact ⟨hu, hp _ hr⟩

set_option maxRecDepth 100000 in
set_option maxHeartbeats 8000000 in
theorem oProve1_any (i j : Nat) (ts us : List Lfc.Raw) (L R A0 : Option Addr) (cl cr c0 : Nat) (ks : List Int) (w : World) (hks : ks.length ≤ 1000000) (hA0 : IntsO w A0 ks)
    (hn : ts.length ≤ 1000) (hm : us.length ≤ 1000) (hi : i < ts.length) (hj : j < us.length) (hst : ∀ t ∈ ts ++ us, t.size ≤ 1000000) (hL : L = none → ts.length = 0 ∧ cl = 0) (hR : R = none → us.length = 0 ∧ cr = 0) (hts : TreesAt w L ts) (hus : TreesAt w R us) :
    Calls Try.prog 27 #[.slice none 0 0, .int .i64 1, .agg #[.int .i64 1, .int .i64 (i : Int), .slice none 0 0], .slice L ts.length cl, .agg #[.int .i64 1, .int .i64 (j : Int), .slice none 0 0], .slice R us.length cr, .slice A0 ks.length c0] w (PrvAns w (Lfc.prv0 ks (ts ++ us) ts[i] us[j])) := by
  have hsi := hst ts[i] (List.mem_append_left _ (List.getElem_mem _))
  have hsj := hst us[j] (List.mem_append_right _ (List.getElem_mem _))
  obtain ⟨w1, hw1⟩ : ∃ w1, w.alloc (.cells #[.int .i64 1, .int .i64 (i : Int), .slice none 0 0] 28) = w1 := ⟨_, rfl⟩
  obtain ⟨w2, hw2⟩ : ∃ w2, w1.alloc (.cells #[.int .i64 1, .int .i64 (j : Int), .slice none 0 0] 28) = w2 := ⟨_, rfl⟩
  obtain ⟨w3, hw3⟩ : ∃ w3, w2.alloc (.cells #[.int .i64 0, .slice none 0 0, .slice none 0 0, .slice none 0 0] 58) = w3 := ⟨_, rfl⟩
  have b1 : Below w.heap.size w w1 := by rw [← hw1]; exact (Below.refl _ _).alloc (Nat.le_refl _) _
  have b2 : Below w1.heap.size w1 w2 := by rw [← hw2]; exact (Below.refl _ _).alloc (Nat.le_refl _) _
  have b3 : Below w2.heap.size w2 w3 := by rw [← hw3]; exact (Below.refl _ _).alloc (Nat.le_refl _) _
  have q1 : w1.heap[w.heap.size]? = some (.cells #[.int .i64 1, .int .i64 (i : Int), .slice none 0 0] 28 (0, 0)) := by rw [← hw1]; exact heap_alloc_new _ _
  have q2 : w2.heap[w1.heap.size]? = some (.cells #[.int .i64 1, .int .i64 (j : Int), .slice none 0 0] 28 (0, 0)) := by rw [← hw2]; exact heap_alloc_new _ _
  have q3 : w3.heap[w2.heap.size]? = some (.cells #[.int .i64 0, .slice none 0 0, .slice none 0 0, .slice none 0 0] 58 (0, 0)) := by rw [← hw3]; exact heap_alloc_new _ _
  have e1 := lt_of_block q1
  have e2 := lt_of_block q2
  have e3 := lt_of_block q3
  have b03 : Below w.heap.size w w3 := (b1.trans (b2.mono (by omega))).trans (b3.mono (by omega))
  have Q1 := Lib.hid ((b3.block _ (by omega)).trans ((b2.block _ e1).trans q1))
  have Q2 := Lib.hid ((b3.block _ e2).trans q2)
  have Q3 := Lib.hid q3
  have B03 := Lib.hid b03
  have s03 : w.heap.size ≤ w3.heap.size := by omega
  obtain ⟨y0, y1, y2⟩ := cells3o Q1.out
  obtain ⟨z0, z1, z2⟩ := cells3o Q2.out
  have CK := Lib.hid (oCheck0_any (.node 1 (i : Int) []) (.node 1 (j : Int) []) _ _ ts us L R cl cr w3 (by rw [Lfc.Ord.size, Lfc.Ord.sizes]; omega) (by rw [Lfc.Ord.size, Lfc.Ord.sizes]; omega) (ord_arg w3 (i : Int)) (ord_arg w3 (j : Int)) (Lfc.vld_arg hi) (Lfc.vld_arg hj) (Lfc.shp_arg _ _) hn hm hst hL hR (hts.below b03) (hus.below b03))
  have HRES : Hid (Lfc.prv0 ks (ts ++ us) ts[i] us[j] = if Lfc.chkE (ts ++ us) = 0 then Lfc.chain0 ks ts[i] us[j] 2 else none) := Lib.hid rfl
  have HKS := Lib.hid hA0
  have HTS := Lib.hid hts
  have HUS := Lib.hid hus
  obtain ⟨res, hres⟩ : ∃ res, Lfc.prv0 ks (ts ++ us) ts[i] us[j] = res := ⟨_, rfl⟩
  rw [hres] at HRES ⊢
  obtain ⟨z, hz⟩ : ∃ z, Lfc.chkE (ts ++ us) = z := ⟨_, rfl⟩
  rw [hz] at CK HRES
  have CA := Lib.hid (fun (W : World) (Bx : Nat) (hP : ProvO W Bx none A0 L R 0 0 ks c0 ts us cl cr) => oArgProve_any Bx none A0 L R 0 ks c0 ts us cl cr i j W hks hP hi hj hsi hsj (by omega) (by omega))
  have HLK : Hid (∀ l, Lfc.chain0 ks ts[i] us[j] 2 = some l → l.length ≤ 100000 ∧ ∀ x ∈ l, x.term.size ≤ 1000000 ∧ x.path.length ≤ 10000000) := Lib.hid (fun l h => by
    unfold Lfc.chain0 at h
    split at h
    · cases h
      obtain ⟨h1, h2⟩ := up_links ks ts[i] us[j] hsj (fun q hq => by have := Lfc.path_len hq; omega)
      exact ⟨by omega, h2⟩
    · cases h)
  have HSZ := Lib.hid (And.intro hi hj)
  clear hz hres hsi hsj hst hL hR hts hus hA0 b1 b2 b3 q1 q2 q3 b03
  by_cases hz0 : z = 0
  · have HRES2 : Hid (res = Lfc.chain0 ks ts[i] us[j] 2) := Lib.hid (by rw [HRES.out, if_pos hz0])
    obtain ⟨rc, hrc⟩ : ∃ rc, Lfc.chain0 ks ts[i] us[j] 2 = rc := ⟨_, rfl⟩
    rw [hrc] at CA HLK HRES2
    clear HRES hrc
    subst hz0
    obtain ⟨n, hnn⟩ : ∃ n, ts.length = n := ⟨_, rfl⟩
    obtain ⟨m, hmm⟩ : ∃ m, us.length = m := ⟨_, rfl⟩
    have HNM := Lib.hid (And.intro hnn hmm)
    rw [hnn] at CK hn ⊢
    rw [hmm] at CK hm ⊢
    clear hnn hmm hi hj
    have hmk : ∀ W : World, (Instr.makeMap 74 none).run Try.prog W = .ok (.map (some W.heap.size)) (W.alloc (.map #[] 0)) := fun W => rfl
    have hme : ∀ (k : Nat) (w : World), (method (k + 1) 98 (.agg #[.int .i64 (i : Int), .int .i64 (j : Int)]) "lfcheck/order.prove").run Try.prog w = .ok (105, .agg #[.int .i64 (i : Int), .int .i64 (j : Int)]) w := fun _ _ => by rfl
    go_enter Try.func27, Try.ntmps27
    go_wp2_with fail
    refine CK.out.mono ?_
    rintro e w4 ⟨rfl, b4⟩
    clear hw1 hw2 hw3 CK
    obtain ⟨w5, hw5⟩ : ∃ w5, w4.alloc (.map #[] 0) = w5 := ⟨_, rfl⟩
    obtain ⟨w6, hw6⟩ : ∃ w6, w5.alloc (.cells #[.slice none 0 0, .slice A0 ks.length c0, .slice L n cl, .slice R m cr, .map (some w4.heap.size)] 76) = w6 := ⟨_, rfl⟩
    have b5 : Below w4.heap.size w4 w5 := by rw [← hw5]; exact (Below.refl _ _).alloc (Nat.le_refl _) _
    have b6 : Below w5.heap.size w5 w6 := by rw [← hw6]; exact (Below.refl _ _).alloc (Nat.le_refl _) _
    have q6 : w6.heap[w5.heap.size]? = some (.cells #[.slice none 0 0, .slice A0 ks.length c0, .slice L n cl, .slice R m cr, .map (some w4.heap.size)] 76 (0, 0)) := by rw [← hw6]; exact heap_alloc_new _ _
    have b36 : Below w3.heap.size w3 w6 := b4.trans ((b5.trans (b6.mono b5.size)).mono b4.size)
    have hP6 : Hid (ProvO w6 w5.heap.size none A0 L R 0 0 ks c0 ts us cl cr) := Lib.hid (by
      have b06 := B03.out.trans (b36.mono s03)
      refine ⟨lt_of_block q6, Lib.cell_of_heap q6 0, Lib.cell_of_heap q6 1, ?_, ?_, HKS.out.below b06, HTS.out.below b06, HUS.out.below b06⟩
      · rw [HNM.out.1]; exact Lib.cell_of_heap q6 2
      · rw [HNM.out.2]; exact Lib.cell_of_heap q6 3)
    have B36 := Lib.hid b36
    clear y0 y1 y2 z0 z1 z2
    obtain ⟨y0, y1, y2⟩ := cells3o ((b36.block _ (by omega)).trans Q1.out)
    obtain ⟨z0, z1, z2⟩ := cells3o ((b36.block _ (by omega)).trans Q2.out)
    have CB := Lib.hid (oBothArg_any (i : Int) (j : Int) w6)
    clear b4 b5 b6 q6 b36
    go_wp2_with fail
    refine CB.out.mono ?_
    rintro e w7 ⟨rfl, b7⟩
    have CA7 := Lib.hid (CA.out w7 w5.heap.size (hP6.out.below b7))
    have B37 := Lib.hid (B36.out.trans (b7.mono B36.out.size))
    clear b7 y0 y1 y2 z0 z1 z2 CB CA hw5 hw6
    go_wp2_with fail
    refine CA7.out.mono ?_
    rintro e w8 ⟨⟨rfl, rfl⟩ | ⟨l, Al, cll, rfl, rfl, hcl, hl⟩, b8⟩
    · obtain ⟨w9, hw9⟩ : ∃ w9, w8.alloc (.cells #[.int .i64 0, .slice none 0 0, .slice none 0 0, .slice none 0 0] 58) = w9 := ⟨_, rfl⟩
      have b9 : Below w8.heap.size w8 w9 := by rw [← hw9]; exact (Below.refl _ _).alloc (Nat.le_refl _) _
      have b39 := B37.out.trans ((b8.trans (b9.mono b8.size)).mono B37.out.size)
      obtain ⟨s1, s2, s3, s4, h1, h2, h3, h4, ⟨c0', c1', c2', c3'⟩, ⟨t0, t1, t2, t3⟩, hq, ho⟩ := put4 ((b39.block _ e3).trans Q3.out) (.int .i64 0) (.slice none 0 0) (.slice none 0 0) (.slice none 0 0)
      have HQ := Lib.hid hq
      have HW9 := Lib.hid hw9
      have HZ : Hid (PrvAns w res (.returned (.tuple #[.agg #[.int .i64 0, .slice none 0 0, .slice none 0 0, .slice none 0 0], .bool false])) s4) := Lib.hid ⟨.inl ⟨HRES2.out, rfl⟩, Oth.below (B03.out.trans (b39.mono s03)) ho (by omega) (Nat.le_trans s03 b39.size)⟩
      clear hq ho b9 b39 b8 CA7 hw9
      go_upto_region 5 with fail
      rw [HW9.out]
      go_wp2_with fail
      refine bodyPost_ret (results_proof2 rfl _ _ _ _ _ _ _ rfl HQ.out) rfl ?_
      exact HZ.out
    · obtain ⟨hl1, hl2⟩ := HLK.out l rfl
      obtain ⟨w9, hw9⟩ : ∃ w9, w8.alloc (.cells #[.int .i64 0, .slice none 0 0, .slice Al l.length cll, .slice none 0 0] 58) = w9 := ⟨_, rfl⟩
      have b9 : Below w8.heap.size w8 w9 := by rw [← hw9]; exact (Below.refl _ _).alloc (Nat.le_refl _) _
      have q9 : w9.heap[w8.heap.size]? = some (.cells #[.int .i64 0, .slice none 0 0, .slice Al l.length cll, .slice none 0 0] 58 (0, 0)) := by rw [← hw9]; exact heap_alloc_new _ _
      have b39 := B37.out.trans ((b8.trans (b9.mono b8.size)).mono B37.out.size)
      obtain ⟨x0, x1, x2, x3⟩ := cells4t q9
      have CC := Lib.hid (oCopied0_any (fun b => w7.heap.size ≤ b) (fun _ => True) 0 l [] Al none cll 0 w9 hl1 (by simp) hl2 (fun x h => by cases h) (hl.below b9) LinksP.nil)
      have B39 := Lib.hid b39
      have HW9 := Lib.hid hw9
      clear hl b9 q9 b39 b8 CA7 hw9 hl1 hl2
      go_upto_region 5 with fail
      rw [HW9.out]
      go_wp2_with fail
      refine CC.out.mono ?_
      rintro e w10 ⟨⟨A', c', B', d', rfl, hcA, _, hlA, _⟩, b10⟩
      have b3a := B39.out.trans (b10.mono B39.out.size)
      obtain ⟨s1, s2, s3, s4, h1, h2, h3, h4, ⟨c0', c1', c2', c3'⟩, ⟨t0, t1, t2, t3⟩, hq, ho⟩ := put4 ((b3a.block _ e3).trans Q3.out) (.int .i64 0) (.slice none 0 0) (.slice A' l.length c') (.slice B' 0 d')
      have HQ := Lib.hid hq
      have HZ : Hid (PrvAns w res (.returned (.tuple #[.agg #[.int .i64 0, .slice none 0 0, .slice A' l.length c', .slice B' 0 d'], .bool true])) s4) := Lib.hid ⟨.inr ⟨l, A', c', B', d', HRES2.out, rfl, hcA, hlA.keep (fun b hb hlt => ho.block b hlt (fun e => by have e := Option.some.inj e; have hb : w9.heap.size ≤ b := hb; have := B39.out.size; omega)) ho.size (fun b _ hb => Nat.le_trans s03 (Nat.le_trans B39.out.size hb))⟩, Oth.below (B03.out.trans (b3a.mono s03)) ho (by omega) (Nat.le_trans s03 b3a.size)⟩
      clear hq ho b3a b10 CC hlA x0 x1 x2 x3 HW9
      go_wp2_with fail
      refine bodyPost_ret (results_proof2 rfl _ _ _ _ _ _ _ rfl HQ.out) rfl ?_
      exact HZ.out
  · have HRES2 : Hid (res = none) := Lib.hid (by rw [HRES.out, if_neg hz0])
    have hz1 : (z == 0) = false := by simpa using hz0
    have hz2 : (z != 0) = true := by simpa using hz0
    have hz3 : decide (z = 0) = false := by simpa using hz0
    clear HRES CA HLK hz0
    obtain ⟨n, hnn⟩ : ∃ n, ts.length = n := ⟨_, rfl⟩
    obtain ⟨m, hmm⟩ : ∃ m, us.length = m := ⟨_, rfl⟩
    rw [hnn] at CK hn ⊢
    rw [hmm] at CK hm ⊢
    clear hnn hmm hi hj
    go_enter Try.func27, Try.ntmps27
    go_wp2_with fail
    refine CK.out.mono ?_
    rintro e w4 ⟨rfl, b4⟩
    obtain ⟨s1, s2, s3, s4, h1, h2, h3, h4, ⟨c0', c1', c2', c3'⟩, ⟨t0, t1, t2, t3⟩, hq, ho⟩ := put4 ((b4.block _ e3).trans Q3.out) (.int .i64 0) (.slice none 0 0) (.slice none 0 0) (.slice none 0 0)
    have HQ := Lib.hid hq
    have HZ : Hid (PrvAns w res (.returned (.tuple #[.agg #[.int .i64 0, .slice none 0 0, .slice none 0 0, .slice none 0 0], .bool false])) s4) := Lib.hid ⟨.inl ⟨HRES2.out, rfl⟩, Oth.below (B03.out.trans (b4.mono s03)) ho (by omega) (Nat.le_trans s03 b4.size)⟩
    clear hq ho b4 y0 y1 y2 z0 z1 z2 CK
    go_wp2_with fail
    refine bodyPost_ret (results_proof2 rfl _ _ _ _ _ _ _ rfl HQ.out) rfl ?_
    exact HZ.out
end Go.Proofs.Ytadjpadieljjlaa

/- The contracts of Holds and Verify at two bare arguments, Less, without facts. -/
set_option linter.unusedVariables false
set_option linter.unusedSimpArgs false
namespace Go.Proofs.Ytadjpadieljjlaa
open Go.RowKit Go.Maps
set_option maxRecDepth 100000 in
set_option maxHeartbeats 8000000 in
theorem oHolds1_any (i j : Nat) (ts us : List Lfc.Raw) (L R A0 : Option Addr) (cl cr c0 : Nat) (ks : List Int) (w : World) (hks : ks.length ≤ 1000000) (hA0 : IntsO w A0 ks)
    (hn : ts.length ≤ 1000) (hm : us.length ≤ 1000) (hi : i < ts.length) (hj : j < us.length) (hst : ∀ t ∈ ts ++ us, t.size ≤ 1000000) (hL : L = none → ts.length = 0 ∧ cl = 0) (hR : R = none → us.length = 0 ∧ cr = 0) (hts : TreesAt w L ts) (hus : TreesAt w R us) :
    Calls Try.prog 25 #[.slice none 0 0, .int .i64 1, .agg #[.int .i64 1, .int .i64 (i : Int), .slice none 0 0], .slice L ts.length cl, .agg #[.int .i64 1, .int .i64 (j : Int), .slice none 0 0], .slice R us.length cr, .slice A0 ks.length c0] w fun e w' => e = .returned (.tuple #[.bool (Lfc.prv0 ks (ts ++ us) ts[i] us[j]).isSome, .int .i64 (Lfc.chkE (ts ++ us))]) ∧ Below w.heap.size w w' := by
  have hsi := hst ts[i] (List.mem_append_left _ (List.getElem_mem _))
  have hsj := hst us[j] (List.mem_append_right _ (List.getElem_mem _))
  obtain ⟨w1, hw1⟩ : ∃ w1, w.alloc (.cells #[.int .i64 1, .int .i64 (i : Int), .slice none 0 0] 28) = w1 := ⟨_, rfl⟩
  obtain ⟨w2, hw2⟩ : ∃ w2, w1.alloc (.cells #[.int .i64 1, .int .i64 (j : Int), .slice none 0 0] 28) = w2 := ⟨_, rfl⟩
  have b1 : Below w.heap.size w w1 := by rw [← hw1]; exact (Below.refl _ _).alloc (Nat.le_refl _) _
  have b2 : Below w1.heap.size w1 w2 := by rw [← hw2]; exact (Below.refl _ _).alloc (Nat.le_refl _) _
  have q1 : w1.heap[w.heap.size]? = some (.cells #[.int .i64 1, .int .i64 (i : Int), .slice none 0 0] 28 (0, 0)) := by rw [← hw1]; exact heap_alloc_new _ _
  have q2 : w2.heap[w1.heap.size]? = some (.cells #[.int .i64 1, .int .i64 (j : Int), .slice none 0 0] 28 (0, 0)) := by rw [← hw2]; exact heap_alloc_new _ _
  have e1 := lt_of_block q1
  have e2 := lt_of_block q2
  have b02 : Below w.heap.size w w2 := b1.trans (b2.mono (by omega))
  have Q1 := Lib.hid ((b2.block _ e1).trans q1)
  have Q2 := Lib.hid q2
  have B02 := Lib.hid b02
  have s02 : w.heap.size ≤ w2.heap.size := by omega
  obtain ⟨y0, y1, y2⟩ := cells3o Q1.out
  obtain ⟨z0, z1, z2⟩ := cells3o Q2.out
  have CK := Lib.hid (oCheck0_any (.node 1 (i : Int) []) (.node 1 (j : Int) []) _ _ ts us L R cl cr w2 (by rw [Lfc.Ord.size, Lfc.Ord.sizes]; omega) (by rw [Lfc.Ord.size, Lfc.Ord.sizes]; omega) (ord_arg w2 (i : Int)) (ord_arg w2 (j : Int)) (Lfc.vld_arg hi) (Lfc.vld_arg hj) (Lfc.shp_arg _ _) hn hm hst hL hR (hts.below b02) (hus.below b02))
  have CP := Lib.hid (fun W (hW : Below w2.heap.size w2 W) => oProve1_any i j ts us L R A0 cl cr c0 ks W hks (hA0.below (b02.trans (hW.mono s02))) hn hm hi hj hst hL hR (hts.below (b02.trans (hW.mono s02))) (hus.below (b02.trans (hW.mono s02))))
  have HP0 : Hid (Lfc.chkE (ts ++ us) ≠ 0 → (Lfc.prv0 ks (ts ++ us) ts[i] us[j]).isSome = false) := Lib.hid (fun h => by rw [Lfc.prv0, if_neg h]; rfl)
  obtain ⟨res, hres⟩ : ∃ res, Lfc.prv0 ks (ts ++ us) ts[i] us[j] = res := ⟨_, rfl⟩
  rw [hres] at CP HP0 ⊢
  obtain ⟨z, hz⟩ : ∃ z, Lfc.chkE (ts ++ us) = z := ⟨_, rfl⟩
  rw [hz] at CK HP0 ⊢
  obtain ⟨n, hnn⟩ : ∃ n, ts.length = n := ⟨_, rfl⟩
  obtain ⟨m, hmm⟩ : ∃ m, us.length = m := ⟨_, rfl⟩
  rw [hnn] at CK CP ⊢
  rw [hmm] at CK CP ⊢
  clear hz hres hsi hsj hst hL hR hts hus hA0 b1 b2 q1 q2 b02 hnn hmm hi hj hn hm
  by_cases hz0 : z = 0
  · subst hz0
    go_enter Try.func25, Try.ntmps25
    go_wp2_with fail
    refine CK.out.mono ?_
    rintro e w4 ⟨rfl, b4⟩
    clear hw1 hw2 CK y0 y1 y2 z0 z1 z2
    obtain ⟨y0, y1, y2⟩ := cells3o ((b4.block _ (by omega)).trans Q1.out)
    obtain ⟨z0, z1, z2⟩ := cells3o ((b4.block _ (by omega)).trans Q2.out)
    have CPW := Lib.hid (CP.out _ b4)
    have B4 := Lib.hid b4
    clear b4 CP
    go_wp2_with fail
    refine CPW.out.mono ?_
    rintro e w5 ⟨⟨rfl, rfl⟩ | ⟨l, Al, cll, B', d', rfl, rfl, hcl, hl⟩, b5⟩
    · have HZ := Lib.hid (B02.out.trans ((B4.out.trans (b5.mono B4.out.size)).mono s02))
      obtain ⟨w6, hw6⟩ : ∃ w6, w5.alloc (.cells #[.int .i64 0, .slice none 0 0, .slice none 0 0, .slice none 0 0] 58) = w6 := ⟨_, rfl⟩
      have HW6 := Lib.hid hw6
      have HZ6 : Hid (Below w.heap.size w w6) := Lib.hid (by rw [← hw6]; exact HZ.out.alloc HZ.out.size _)
      clear hw6 b5
      go_upto_region 5 with fail
      rw [HW6.out]
      go_wp2_with fail
      refine bodyPost_ret (results_tmp2 rfl _ _ _) rfl ?_
      exact ⟨rfl, HZ6.out⟩
    · have HZ := Lib.hid (B02.out.trans ((B4.out.trans (b5.mono B4.out.size)).mono s02))
      obtain ⟨w6, hw6⟩ : ∃ w6, w5.alloc (.cells #[.int .i64 0, .slice none 0 0, .slice Al l.length cll, .slice B' 0 d'] 58) = w6 := ⟨_, rfl⟩
      have HW6 := Lib.hid hw6
      have HZ6 : Hid (Below w.heap.size w w6) := Lib.hid (by rw [← hw6]; exact HZ.out.alloc HZ.out.size _)
      clear hw6 b5 hl
      go_upto_region 5 with fail
      rw [HW6.out]
      go_wp2_with fail
      refine bodyPost_ret (results_tmp2 rfl _ _ _) rfl ?_
      exact ⟨rfl, HZ6.out⟩
  · have hz1 : (z == 0) = false := by simpa using hz0
    have hz2 : (z != 0) = true := by simpa using hz0
    have hz3 : decide (z = 0) = false := by simpa using hz0
    have HRES := Lib.hid (HP0.out hz0)
    clear hz0 HP0
    rw [HRES.out]
    go_enter Try.func25, Try.ntmps25
    go_wp2_with fail
    refine CK.out.mono ?_
    rintro e w4 ⟨rfl, b4⟩
    have HZ := Lib.hid (B02.out.trans (b4.mono s02))
    clear b4 CK y0 y1 y2 z0 z1 z2
    go_wp2_with fail
    refine bodyPost_ret (results_tmp2 rfl _ _ _) rfl ?_
    exact ⟨rfl, HZ.out⟩

set_option maxRecDepth 100000 in
set_option maxHeartbeats 8000000 in
theorem oVerify1_any (q : List Int) (qq : Nat → Prop) (C Bk : Option Addr) (cC dk : Nat) (i j : Nat) (ts us : List Lfc.Raw) (L R A0 : Option Addr) (cl cr c0 : Nat) (ks : List Int) (w : World) (hks : ks.length ≤ 1000000) (hA0 : IntsO w A0 ks)
    (hn : ts.length ≤ 1000) (hm : us.length ≤ 1000) (hi : i < ts.length) (hj : j < us.length) (hst : ∀ t ∈ ts ++ us, t.size ≤ 1000000) (hL : L = none → ts.length = 0 ∧ cl = 0) (hR : R = none → us.length = 0 ∧ cr = 0) (hts : TreesAt w L ts) (hus : TreesAt w R us) (hck : Lfc.chkE (ts ++ us) = 0) (hql : q.length ≤ 1000000) (hq : q.length ≠ 0) (hl : LinksP qq w C [⟨1, us[j], q, 0⟩]) (hfit : Lfc.Raw.fits ks ts[i] us[j] q = true) (hsm : Lfc.Raw.tsm us[j] us[j] = true) (huk : ∀ k n p ts, us[j] = .node k n p ts → k ≠ 0) :
    Calls Try.prog 28 #[.slice none 0 0, .int .i64 1, .agg #[.int .i64 1, .int .i64 (i : Int), .slice none 0 0], .slice L ts.length cl, .agg #[.int .i64 1, .int .i64 (j : Int), .slice none 0 0], .slice R us.length cr, .slice A0 ks.length c0, .agg #[.int .i64 0, .slice none 0 0, .slice C 1 cC, .slice Bk 0 dk]] w fun e w' => e = .returned (.bool true) ∧ Below w.heap.size w w' := by
  have hsi := hst ts[i] (List.mem_append_left _ (List.getElem_mem _))
  have hsj := hst us[j] (List.mem_append_right _ (List.getElem_mem _))
  obtain ⟨w1, hw1⟩ : ∃ w1, w.alloc (.cells #[.int .i64 1, .int .i64 (i : Int), .slice none 0 0] 28) = w1 := ⟨_, rfl⟩
  obtain ⟨w2, hw2⟩ : ∃ w2, w1.alloc (.cells #[.int .i64 1, .int .i64 (j : Int), .slice none 0 0] 28) = w2 := ⟨_, rfl⟩
  obtain ⟨w3, hw3⟩ : ∃ w3, w2.alloc (.cells #[.int .i64 0, .slice none 0 0, .slice C 1 cC, .slice Bk 0 dk] 58) = w3 := ⟨_, rfl⟩
  have b1 : Below w.heap.size w w1 := by rw [← hw1]; exact (Below.refl _ _).alloc (Nat.le_refl _) _
  have b2 : Below w1.heap.size w1 w2 := by rw [← hw2]; exact (Below.refl _ _).alloc (Nat.le_refl _) _
  have q1 : w1.heap[w.heap.size]? = some (.cells #[.int .i64 1, .int .i64 (i : Int), .slice none 0 0] 28 (0, 0)) := by rw [← hw1]; exact heap_alloc_new _ _
  have q2 : w2.heap[w1.heap.size]? = some (.cells #[.int .i64 1, .int .i64 (j : Int), .slice none 0 0] 28 (0, 0)) := by rw [← hw2]; exact heap_alloc_new _ _
  have b3 : Below w2.heap.size w2 w3 := by rw [← hw3]; exact (Below.refl _ _).alloc (Nat.le_refl _) _
  have q3 : w3.heap[w2.heap.size]? = some (.cells #[.int .i64 0, .slice none 0 0, .slice C 1 cC, .slice Bk 0 dk] 58 (0, 0)) := by rw [← hw3]; exact heap_alloc_new _ _
  have e1 := lt_of_block q1
  have e2 := lt_of_block q2
  have e3 := lt_of_block q3
  have b03 : Below w.heap.size w w3 := (b1.trans (b2.mono (by omega))).trans (b3.mono (by omega))
  have Q1 := Lib.hid ((b3.block _ (by omega)).trans ((b2.block _ e1).trans q1))
  have Q2 := Lib.hid ((b3.block _ e2).trans q2)
  have Q3 := Lib.hid q3
  have B03 := Lib.hid b03
  have s03 : w.heap.size ≤ w3.heap.size := by omega
  obtain ⟨y0, y1, y2⟩ := cells3o Q1.out
  obtain ⟨z0, z1, z2⟩ := cells3o Q2.out
  have CK := Lib.hid (oCheck0_any (.node 1 (i : Int) []) (.node 1 (j : Int) []) _ _ ts us L R cl cr w3 (by rw [Lfc.Ord.size, Lfc.Ord.sizes]; omega) (by rw [Lfc.Ord.size, Lfc.Ord.sizes]; omega) (ord_arg w3 (i : Int)) (ord_arg w3 (j : Int)) (Lfc.vld_arg hi) (Lfc.vld_arg hj) (Lfc.shp_arg _ _) hn hm hst hL hR (hts.below b03) (hus.below b03))
  rw [hck] at CK
  have CA := Lib.hid (fun (W : World) (Bx : Nat) (hW : Below w3.heap.size w3 W) (hP : ProvO W Bx none A0 L R 0 0 ks c0 ts us cl cr) => oArgVerify1_any q qq C Bk cC dk Bx none A0 L R 0 ks c0 ts us cl cr i j W hks hP hi hj hsi hsj (by omega) (by omega) hql hq (hl.below (b03.trans (hW.mono s03))) hfit hsm huk)
  have HKS := Lib.hid hA0
  have HTS := Lib.hid hts
  have HUS := Lib.hid hus
  obtain ⟨n, hnn⟩ : ∃ n, ts.length = n := ⟨_, rfl⟩
  obtain ⟨m, hmm⟩ : ∃ m, us.length = m := ⟨_, rfl⟩
  have HNM := Lib.hid (And.intro hnn hmm)
  rw [hnn] at CK ⊢
  rw [hmm] at CK ⊢
  clear hsi hsj hst hL hR hts hus hA0 b1 b2 b3 q1 q2 q3 b03 hnn hmm hi hj hn hm hck hq hl hfit hsm huk
  have hme : ∀ (k : Nat) (w : World), (method (k + 1) 98 (.agg #[.int .i64 (i : Int), .int .i64 (j : Int)]) "lfcheck/order.verify").run Try.prog w = .ok (106, .agg #[.int .i64 (i : Int), .int .i64 (j : Int)]) w := fun _ _ => by rfl
  go_enter Try.func28, Try.ntmps28
  go_wp2_with fail
  refine CK.out.mono ?_
  rintro e w4 ⟨rfl, b4⟩
  clear hw1 hw2 hw3 CK y0 y1 y2 z0 z1 z2
  obtain ⟨w6, hw6⟩ : ∃ w6, w4.alloc (.cells #[.slice none 0 0, .slice A0 ks.length c0, .slice L n cl, .slice R m cr, .map none] 76) = w6 := ⟨_, rfl⟩
  have b6 : Below w4.heap.size w4 w6 := by rw [← hw6]; exact (Below.refl _ _).alloc (Nat.le_refl _) _
  have q6 : w6.heap[w4.heap.size]? = some (.cells #[.slice none 0 0, .slice A0 ks.length c0, .slice L n cl, .slice R m cr, .map none] 76 (0, 0)) := by rw [← hw6]; exact heap_alloc_new _ _
  have b36 : Below w3.heap.size w3 w6 := b4.trans (b6.mono b4.size)
  have hP6 : Hid (ProvO w6 w4.heap.size none A0 L R 0 0 ks c0 ts us cl cr) := Lib.hid (by
    have b06 := B03.out.trans (b36.mono s03)
    refine ⟨lt_of_block q6, Lib.cell_of_heap q6 0, Lib.cell_of_heap q6 1, ?_, ?_, HKS.out.below b06, HTS.out.below b06, HUS.out.below b06⟩
    · rw [HNM.out.1]; exact Lib.cell_of_heap q6 2
    · rw [HNM.out.2]; exact Lib.cell_of_heap q6 3)
  have B36 := Lib.hid b36
  have s6 := b36.size
  have SC : Hid (∀ W, Below w6.heap.size w6 W → (W.cell? ⟨w.heap.size, 0, none⟩ = some (.int .i64 1) ∧ W.cell? ⟨w.heap.size, 1, none⟩ = some (.int .i64 (i : Int)) ∧ W.cell? ⟨w.heap.size, 2, none⟩ = some (.slice none 0 0)) ∧ (W.cell? ⟨w1.heap.size, 0, none⟩ = some (.int .i64 1) ∧ W.cell? ⟨w1.heap.size, 1, none⟩ = some (.int .i64 (j : Int)) ∧ W.cell? ⟨w1.heap.size, 2, none⟩ = some (.slice none 0 0)) ∧ (W.cell? ⟨w2.heap.size, 0, none⟩ = some (.int .i64 0) ∧ W.cell? ⟨w2.heap.size, 1, none⟩ = some (.slice none 0 0) ∧ W.cell? ⟨w2.heap.size, 2, none⟩ = some (.slice C 1 cC) ∧ W.cell? ⟨w2.heap.size, 3, none⟩ = some (.slice Bk 0 dk))) := Lib.hid (fun W hW => by
    have hw := b36.trans (hW.mono s6)
    exact ⟨cells3o ((hw.block _ (by omega)).trans Q1.out), cells3o ((hw.block _ (by omega)).trans Q2.out), cells4t ((hw.block _ e3).trans Q3.out)⟩)
  have CB := Lib.hid (fun W => oBothArg_any (i : Int) (j : Int) W)
  have CV := Lib.hid (fun W (hW : Below w6.heap.size w6 W) => CA.out W w4.heap.size (b36.trans (hW.mono s6)) (hP6.out.below hW))
  have G0 : Below w6.heap.size w6 w6.drew := (Below.refl _ _).drew
  have aa : ∀ W W', Below w6.heap.size w6 W → Below W.heap.size W W' → Below w6.heap.size w6 W' := fun W W' h h' => h.trans (h'.mono h.size)
  obtain ⟨v0, v1, v2⟩ := SC.out _ (Below.refl _ _)
  have HW6 := Lib.hid hw6
  clear b4 b6 q6 b36 CA
  go_upto_region 4 with fail
  clear hw6 v0 v1 v2
  go_region_held3 (fun W => (W.cell? ⟨w.heap.size, 0, none⟩ = some (.int .i64 1) ∧ W.cell? ⟨w.heap.size, 1, none⟩ = some (.int .i64 (i : Int)) ∧ W.cell? ⟨w.heap.size, 2, none⟩ = some (.slice none 0 0)) ∧ (W.cell? ⟨w1.heap.size, 0, none⟩ = some (.int .i64 1) ∧ W.cell? ⟨w1.heap.size, 1, none⟩ = some (.int .i64 (j : Int)) ∧ W.cell? ⟨w1.heap.size, 2, none⟩ = some (.slice none 0 0)) ∧ (W.cell? ⟨w2.heap.size, 0, none⟩ = some (.int .i64 0) ∧ W.cell? ⟨w2.heap.size, 1, none⟩ = some (.slice none 0 0) ∧ W.cell? ⟨w2.heap.size, 2, none⟩ = some (.slice C 1 cC) ∧ W.cell? ⟨w2.heap.size, 3, none⟩ = some (.slice Bk 0 dk)))
    (first | exact SC.out _ G0 | (refine SC.out _ ?_; assumption))
    (first
      | (go_at_call 41; ((with_reducible refine (CB.out _).mono ?_)); rintro e w7 ⟨rfl, b7'⟩; have b7 := aa _ _ (by assumption) b7')
      | (go_at_call 106; ((with_reducible refine (CV.out _ ?_).mono ?_)); assumption; rintro e w8 ⟨rfl, b8'⟩; have b8 := aa _ _ (by assumption) b8'))
  all_goals
    have HZ := Lib.hid (B03.out.trans ((B36.out.trans (b8.mono s6)).mono s03))
    go_wp2_with fail
    go_ret
    exact ⟨rfl, HZ.out⟩
end Go.Proofs.Ytadjpadieljjlaa
