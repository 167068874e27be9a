/- The walk of the law TokenComments. -/
import Derived.Test.YtmdhkcefbkdkbaaDoorWalkA
import Derived.Deep.RegionHeld3
import Derived.Deep.AppendLies
import Derived.Deep.DeepCutAuto
namespace Go.Proofs.YtmdhkcefbkdkbaaDoor
open Go.RowKit

section
variable {P : Program} (w : World)
theorem step_append_str {ops : Array Oper} {o : Oper} {a : Act} {K : Act → World → Prop} {Q : Exit → Act → World → Prop} {E : Prop} (hgd : o.guard = none) (sl x : Operand) (t u : TypeId)
    (ho : o.op = .call { callee := .builtin .append, args := #[sl, x], argTypes := #[t, u] })
    (base : Nat) (e : TypeId) (i : TypeInfo) (ht : P.underlying t = some (.slice e)) (hu : P.underlying u = some .string) (hi : P.info? e = some i) (hz : i.zero = some (.int .u8 0))
    (hsize : i.size = 1) (hby : i.bytes = 1)
    (v : Value) (n : Nat) (xs : List Value) (hs : a.eval sl = v) (hown : w.ownsRow base e 1 v n xs) (s : ByteArray) (hx : a.eval x = .string s)
    (h63 : n + s.size ≤ maxLen) (hbytes : n + s.size ≤ 140737488355328) (hbase : base ≤ w.heap.size)
    (h : ∀ v' w', w'.ownsRow base e 1 v' (n + s.size) (xs ++ Lib.strCells s) → w.grownBy w' v.ownBlock → K (a.put o.dst v') w') :
    if Region.wanted o (yielded ops a.tmps) = true then Oper.wp P o a w K Q else E := by
  have hw : Region.wanted o (yielded ops a.tmps) = true := by simp [Region.wanted, hgd]
  rw [if_pos hw]
  obtain ⟨v', w', hr, h2, h3, _⟩ := Lib.run_append_own_string (P := P) w base t u o.type e i ht hu hi hz hsize hby v n xs hown s h63 hbytes hbase
  unfold Oper.wp execOp
  simp only [ho, resolve, invoke, builtin, Sem.run_bind, Sem.run_pure, Result.andThen_ok, List.map_toArray, List.map_cons, List.map_nil, hs, hx, hr]
  exact h v' w' h2 h3
end

theorem gaps_len (q : Nat) : (Lfc.gaps.getD q []).length ≤ 20 := by
  have h : ∀ p ∈ Lfc.gaps, p.length ≤ 20 := by decide
  rw [List.getD_eq_getElem?_getD]
  cases e : Lfc.gaps[q]? with
  | none => simp
  | some p => exact h p (List.mem_of_getElem? e)

/-- The gap behind token number i. -/
def gapAt (zs : List Int) (i : Nat) : List UInt8 := Lfc.gaps.getD (if i < zs.length then cutI (zs.getD i 0) 8 else 0) []
def withGaps (zs : List Int) (l : List Lfc.Tok) : List (Lfc.Tok × List UInt8) := (List.range l.length).map fun i => (l.getD i ⟨0, [], 0⟩, gapAt zs i)

theorem withGaps_len (zs : List Int) (l : List Lfc.Tok) : (withGaps zs l).length = l.length := by simp [withGaps]
theorem withGaps_at (zs : List Int) (l : List Lfc.Tok) (k : Nat) (h : k < l.length) : (withGaps zs l)[k]? = some (l[k], gapAt zs k) := by
  simp [withGaps, h]
theorem rend_step (zs : List Int) (l : List Lfc.Tok) (k : Nat) (h : k < l.length) : Lfc.rend ((withGaps zs l).take (k + 1)) = Lfc.rend ((withGaps zs l).take k) ++ (Lfc.spT l[k] ++ gapAt zs k) := by
  have e := withGaps_at zs l k h
  obtain ⟨h', e'⟩ := List.getElem?_eq_some_iff.1 e
  rw [List.take_succ_eq_append_getElem h', e', Lfc.rend, Lfc.rend]
  simp
theorem rend_len (zs : List Int) (l : List Lfc.Tok) : ∀ k, k ≤ l.length → (Lfc.rend ((withGaps zs l).take k)).length ≤ ((l.take k).flatMap Lfc.spT).length + 20 * k := by
  intro k
  induction k with
  | zero => intro _; simp [Lfc.rend]
  | succ k ih =>
    intro h
    have h1 := ih (by omega)
    have h2 : (gapAt zs k).length ≤ 20 := gaps_len _
    rw [rend_step zs l k (by omega), List.take_succ_eq_append_getElem (by omega : k < l.length)]
    simp only [List.length_append, List.flatMap_append, List.flatMap_cons, List.flatMap_nil, List.append_nil]
    omega
theorem flatMap_take (l : List Lfc.Tok) (k : Nat) : ((l.take k).flatMap Lfc.spT).length ≤ (l.flatMap Lfc.spT).length := by
  have e : l.flatMap Lfc.spT = (l.take k).flatMap Lfc.spT ++ (l.drop k).flatMap Lfc.spT := by rw [← List.flatMap_append, List.take_append_drop]
  rw [e, List.length_append]
  omega
theorem withGaps_ok (zs : List Int) (l : List Lfc.Tok) (hv : ∀ t ∈ l, Lfc.valid t) : ∀ p ∈ withGaps zs l, Lfc.valid p.1 ∧ Lfc.gapOk p.2 := by
  intro p hp
  obtain ⟨k, hk, e⟩ := List.getElem_of_mem hp
  rw [withGaps_len] at hk
  have := withGaps_at zs l k hk
  rw [List.getElem?_eq_getElem (by rw [withGaps_len]; exact hk), e] at this
  cases this
  refine ⟨hv _ (List.getElem_mem _), Lfc.gaps_ok _ ?_⟩
  have hq : (if k < zs.length then cutI (zs.getD k 0) 8 else 0) < Lfc.gaps.length := by
    split
    · exact cutI_lt _ 8 (by omega)
    · decide
  unfold gapAt
  rw [List.getD_eq_getElem?_getD, List.getElem?_eq_getElem hq]
  exact List.getElem_mem _
theorem withGaps_fst (zs : List Int) (l : List Lfc.Tok) : (withGaps zs l).map (·.1) = l := by
  apply List.ext_getElem?
  intro k
  rw [List.getElem?_map]
  by_cases h : k < l.length
  · rw [withGaps_at zs l k h, List.getElem?_eq_getElem h]; rfl
  · rw [List.getElem?_eq_none (by rw [withGaps_len]; omega), List.getElem?_eq_none (by omega)]; rfl

set_option maxRecDepth 100000 in
set_option maxHeartbeats 2000000 in
theorem comments_walk (v1 v2 : Value) (z1 z2 : List Int) (w : World) (h1 : IntsAt w v1 z1) (h2 : IntsAt w v2 z2) (hp : PiecesAt w) :
    Calls Tryd.prog 8 #[v1, v2] w fun e w' => e = .returned (.bool true) ∧ Below w.heap.size w w' := by
  obtain ⟨i0, hi0, hz0, hz1, hz2⟩ := info_parts byteInfo
  have hl1 := tx_len z1
  have hb1 := tx_brk z1
  have H1 := Lib.hid (textX v1 z1 w h1 hp)
  generalize tx z1 = s at *
  clear h1 hp
  obtain ⟨r, hr⟩ : ∃ r, Lfc.sc 0 s = r := ⟨_, rfl⟩
  have hcnt := Lfc.sc_count s 0
  have hval := Lfc.sc_valid s 0
  have hst := Lfc.sc_stands s s 0 0 (Nat.zero_le _) rfl (Nat.le_refl _)
  rw [hr] at hcnt hval hst
  have HL1 := Lib.hid (fun W => lexX s W (by omega) (by omega) r hr)
  obtain ⟨toks, e, n⟩ := r
  simp only at hcnt hval hst
  clear hr
  by_cases h0 : e = 0
  · subst h0
    obtain ⟨A2, c2, rfl, hm2, hA2⟩ := h2
    have hlen := Lfc.stands_len s toks 0 (Nat.zero_le _) hst
    have HA2 := Lib.hid hA2
    have HV := Lib.hid hval
    have HLEN := Lib.hid hlen
    unfold maxLen at hm2
    have hcl : toks.length ≤ 1200 := by omega
    clear hA2 hval hst hlen hcnt
    go_enter Tryd.func8, Tryd.ntmps8
    go_wp2_with fail
    refine H1.out.mono ?_
    rintro e' w1 ⟨rfl, hbw1⟩
    go_wp2_with fail
    refine (HL1.out _).mono ?_
    rintro e' w2 ⟨v, rfl, hown, hbw2⟩
    have hta := TokAt.of_own hown
    obtain ⟨A, c, rfl⟩ := own_form hown
    have b2 := hbw1.trans (hbw2.mono hbw1.size)
    clear hown hbw1 hbw2
    go_wp2_with fail
    generalize hW3 : w2.alloc _ = w3
    have hG : ∀ q, q < 8 → w3.cell? ⟨w2.heap.size, q, none⟩ = some (S (Lfc.gaps.getD q [])) := by
      intro q hq
      have := cells_new w2 w2.heap.size rfl (Lfc.gaps.map S) 9 q (S (Lfc.gaps.getD q [])) (by
        have hq' : q < Lfc.gaps.length := hq
        rw [List.getElem?_map, List.getD_eq_getElem?_getD, List.getElem?_eq_getElem hq']; rfl)
      rw [addr_add] at this
      rw [← hW3]
      exact this
    have b3 : Below w2.heap.size w2 w3 := by rw [← hW3]; exact (Below.refl _ _).alloc (Nat.le_refl _) _
    have hs3 : w2.heap.size < w3.heap.size := by rw [← hW3]; simp
    have b23 := b2.trans (b3.mono b2.size)
    have hta3 := hta.below b3
    generalize w2.heap.size = G at *
    have HG := Lib.hid hG
    obtain ⟨A', c', e2, hc, hA⟩ := hta3
    injection e2 with q1 q2 q3
    subst q1 q3
    have HA := Lib.hid hA
    clear hG hW3 hta b3 b2 hA q2
    go_loopw [8, 10] (fun o i wr => ∃ (k : Nat) (acc : List UInt8), k ≤ toks.length ∧ i = .int .i64 k ∧ wr.ownsRow w3.heap.size 5 1 o acc.length (Lib.byteCells acc) ∧ Below w3.heap.size w3 wr ∧ acc.length ≤ 19200 + 20 * k ∧ Hid (acc = Lfc.rend ((withGaps z2 toks).take k))) (fun _ i _ => toks.length - (intOf i).toNat)
    case atStart => exact ⟨0, [], by omega, rfl, own_nil _ _ _ _, Below.refl _ _, by simp, Lib.hid (by simp [Lfc.rend])⟩
    case round =>
      obtain ⟨k, acc, hk, rfl, hown, hbw, hal, hr⟩ := hrel
      obtain ⟨OA, oc, rfl⟩ := own_form hown
      by_cases hlt : k < toks.length
      · obtain ⟨b, o, rfl, hb, hcs⟩ := HA.out (by omega)
        obtain ⟨a0, a1, _⟩ := hcs k toks[k] (List.getElem?_eq_getElem hlt)
        have hstep := rend_step z2 toks k hlt
        have hlen1 := rend_len z2 toks (k + 1) (by omega)
        have hlen2 := flatMap_take toks (k + 1)
        have hlen3 := HLEN.out
        rw [hstep, List.length_append, List.length_append, ← hr.out] at hlen1
        have a0' := (hbw.cell (p := ⟨b, _, none⟩) hb).trans a0
        have a1' := (hbw.cell (p := ⟨b, _, none⟩) hb).trans a1
        have HA1 := Lib.hid a1
        clear a0 a1 hcs
        have hgl : (gapAt z2 k).length ≤ 20 := gaps_len _
        have hsl : acc.length + ((Lfc.spT toks[k]).length + (gapAt z2 k).length) ≤ 19200 + 20 * (k + 1) := by omega
        have HST := Lib.hid hstep
        clear hstep hlen1 hlen2 hlen3
        generalize hT : toks[k] = T at *
        have HT := Lib.hid hT
        clear hT
        have htl : T.text.length ≤ (Lfc.spT T).length := by unfold Lfc.spT; split <;> simp
        obtain ⟨q, hq, hqe⟩ : ∃ q, q < 8 ∧ (if k < z2.length then cutI (z2.getD k 0) 8 else 0) = q := ⟨_, by
          split
          · exact cutI_lt _ 8 (by omega)
          · omega, rfl⟩
        have hcg := (hbw.cell (p := ⟨G, q, none⟩) hs3).trans (HG.out _ hq)
        have hga : gapAt z2 k = Lfc.gaps.getD q [] := by unfold gapAt; rw [hqe]
        rw [← hga] at hcg
        have HGAW := Lib.hid hga
        generalize hGA : gapAt z2 k = ga at *
        have HGA := Lib.hid hGA
        have HQ := Lib.hid hqe
        clear hGA hga hqe
        have hq1 : (q : Int) < 8 := by omega
        go_upto_if 35 with fail
        go_cut [11] (fun s11 wx => s11 = .int .i64 q ∧ wx = wr)
        case first =>
          by_cases hz : k < z2.length
          · obtain ⟨zb, zo, rfl, hzb, hzc⟩ := HA2.out (by omega)
            have hzb3 : zb < w3.heap.size := by have := b23.size; omega
            have hcz := (hbw.cell (p := ⟨zb, zo + k, none⟩) hzb3).trans ((b23.cell (p := ⟨zb, zo + k, none⟩) hzb).trans (hzc k hz))
            have hqe := HQ.out
            rw [if_pos hz] at hqe
            generalize z2.getD k 0 = x at *
            clear hzc
            have HQ' := Lib.hid hqe
            clear hqe
            go_wp2_with fail
            refine (cut_any x 8 _ (by omega) (by omega)).mono ?_
            rintro e' w' ⟨rfl, rfl⟩
            rw [HQ'.out]
            go_wp2_with fail
            go_meet
            exact ⟨rfl, rfl⟩
          · have hqe := HQ.out
            rw [if_neg hz] at hqe
            subst hqe
            go_wp2_with fail
            go_meet
            exact ⟨rfl, rfl⟩
        case rest =>
          obtain ⟨rfl, rfl⟩ := hcut
          go_upto_if 48 with fail
          go_cut [8] (fun s8 wx => ∃ (pre : List UInt8) (A8 : Option Addr) (c8 : Nat), s8 = .slice A8 (acc ++ pre).length c8 ∧ Hid (Lfc.spT T = pre ++ T.text) ∧ wx.ownsRow w3.heap.size 5 1 (.slice A8 (acc ++ pre).length c8) (acc ++ pre).length (Lib.byteCells (acc ++ pre)) ∧ Below w3.heap.size w3 wx)
          case first =>
            by_cases h3 : T.kind = 3
            · have hk3 : (T.kind == 3) = true := by simp [h3]
              have hsp : Lfc.spT T = [37] ++ T.text := by simp [Lfc.spT, h3]
              have HSP := Lib.hid hsp
              clear h3 hsp
              have hown1 := hown.alloc (Obj.cells #[.int .u8 37] 5)
              go_wp2_with (at_builtin; refine wpList_append_own _ rfl _ _ 37 rfl w3.heap.size 5 i0 (.int .u8 0) 1 1 Tryd.underlying37 hi0 hz0 hz1 hz2 rfl (by decide) _ _ _ rfl hown1 ⟨wc.heap.size, 0, none⟩ 1 1 [.int .u8 37] rfl rfl ?c1 ?c2 ?c3 ?c4 ?c5 ?_)
              case c1 => exact fun j u h => cells_new _ _ (by simp) _ _ j u h
              case c2 => intro u hu; simp at hu; subst hu; rfl
              case c3 => unfold maxLen; omega
              case c4 => omega
              case c5 => have := hbw.size; simp; omega
              intro v' w5 hown2 hg2 _
              have hb2 : Below w3.heap.size w3 w5 := (hbw.alloc hbw.size _).grown hg2 (by have := hbw.size; simp; omega) (own_block_ge hown1)
              have hown3 : w5.ownsRow w3.heap.size 5 1 v' (acc ++ [37]).length (Lib.byteCells (acc ++ [37])) := by
                have e : Lib.byteCells (acc ++ [37]) = Lib.byteCells acc ++ [.int .u8 37] := by simp [Lib.byteCells]
                rw [e, List.length_append]; exact hown2
              obtain ⟨A5, c5, rfl⟩ := own_form hown3
              clear hown2 hg2 hown1
              go_wp2_with fail
              go_meet
              exact ⟨[37], A5, c5, rfl, HSP, hown3, hb2⟩
            · have hk3 : (T.kind == 3) = false := by simp [h3]
              have hsp : Lfc.spT T = [] ++ T.text := by simp [Lfc.spT, h3]
              have HSP := Lib.hid hsp
              clear h3 hsp
              go_wp2_with fail
              go_meet
              exact ⟨[], OA, oc, by rw [List.append_nil], HSP, by rw [List.append_nil]; exact hown, hbw⟩
          case rest =>
            obtain ⟨pre, A8, c8, rfl, hpre, hown8, hbw8⟩ := hcut
            clear hown a0' a1' hcg hbw
            have c1 : wc.cell? ⟨b, o + k * 3 + 1, none⟩ = some (S T.text) := (hbw8.cell (p := ⟨b, _, none⟩) hb).trans HA1.out
            have HG2 : Hid (w3.cell? ⟨G, q, none⟩ = some (S ga)) := Lib.hid (by rw [HGAW.out]; exact HG.out _ hq)
            have c2' : wc.cell? ⟨G, q, none⟩ = some (S ga) := (hbw8.cell (p := ⟨G, _, none⟩) hs3).trans (by rw [HGAW.out]; exact HG.out _ hq)
            have hl8 : (acc ++ pre).length + T.text.length = acc.length + (Lfc.spT T).length := by rw [hpre.out]; simp; omega
            generalize hacc8 : acc ++ pre = acc8 at *
            have HACC := Lib.hid hacc8
            clear hacc8
            have hk0 : (0 : Int) ≤ (k : Int) := Int.natCast_nonneg _
            have hk1 : (k : Int) < (toks.length : Int) := by omega
            have hq0 : (0 : Int) ≤ (q : Int) := Int.natCast_nonneg _
            go_upto_region 14 with fail
            go_region_held3 (fun w' => w'.cell? ⟨b, o + k * 3 + 1, none⟩ = some (S T.text) ∧ w'.cell? ⟨G, q, none⟩ = some (S ga))
              (first | go_keep | exact ⟨(hb10.cell (p := ⟨b, _, none⟩) hb).trans HA1.out, (hb10.cell (p := ⟨G, _, none⟩) hs3).trans HG2.out⟩ | exact ⟨(hb9.cell (p := ⟨b, _, none⟩) hb).trans HA1.out, (hb9.cell (p := ⟨G, _, none⟩) hs3).trans HG2.out⟩)
              (first
                | (refine step_append_str _ (by rfl) _ _ 37 9 (by rfl) w3.heap.size 5 i0 Tryd.underlying37 Tryd.underlying9 hi0 hz0 hz1 hz2 _ _ _ (by rfl) hown9 ⟨ga.toArray⟩ (by rfl) (by rw [bsize]; unfold maxLen; omega) (by rw [bsize]; omega) hb9.size ?_; intro v10 w10 hown10 hg10; have hb10 : Below w3.heap.size w3 w10 := hb9.grown hg10 hb9.size (own_block_ge hown9))
                | (refine step_append_str _ (by rfl) _ _ 37 9 (by rfl) w3.heap.size 5 i0 Tryd.underlying37 Tryd.underlying9 hi0 hz0 hz1 hz2 _ _ _ (by rfl) hown8.drew ⟨T.text.toArray⟩ (by rfl) (by rw [bsize]; unfold maxLen; omega) (by rw [bsize]; omega) hbw8.size ?_; intro v9 w9 hown9 hg9; rw [bsize] at hown9; have hb9 : Below w3.heap.size w3 w9 := hbw8.drew.grown hg9 hbw8.size (own_block_ge hown8.drew)))
            have hown' : w10.ownsRow w3.heap.size 5 1 v10 (acc ++ (Lfc.spT T ++ ga)).length (Lib.byteCells (acc ++ (Lfc.spT T ++ ga))) := by
              have e1 : acc ++ (Lfc.spT T ++ ga) = acc8 ++ T.text ++ ga := by rw [← HACC.out, hpre.out]; simp
              have e2 : Lib.byteCells (acc8 ++ T.text ++ ga) = Lib.byteCells acc8 ++ Lib.strCells ⟨T.text.toArray⟩ ++ Lib.strCells ⟨ga.toArray⟩ := by simp [Lib.byteCells, Lib.strCells]
              rw [e1, e2, List.length_append, List.length_append]
              rw [bsize] at hown10
              exact hown10
            clear hown9 hown10 hg9 hg10 hown8 c1 c2'
            go_wp2_with fail
            go_roundw
            case rel =>
              exact ⟨k + 1, acc ++ (Lfc.spT T ++ ga), by omega, by go_num, hown', hb10, by rw [List.length_append, List.length_append]; omega, Lib.hid (by rw [HST.out, ← hr.out])⟩
            case measure => simp [intOf]; omega
      · have hkl : k = toks.length := by omega
        have hacc : acc = Lfc.rend (withGaps z2 toks) := by
          rw [hr.out, List.take_of_length_le (by rw [withGaps_len]; omega)]
        obtain ⟨ts, hts, hsame⟩ := Lfc.sc_rend (withGaps z2 toks) (withGaps_ok z2 toks HV.out) 0
        rw [withGaps_fst] at hsame
        have hT := sameT_of hsame
        have htn : ts.length ≤ 1200 := by have := hT.1; omega
        rw [← hacc, Nat.zero_add] at hts
        have HL2 := Lib.hid (fun W => lexOk acc W (by omega) ts _ hts (by omega))
        have hconv := own_string Tryd.underlying37 Tryd.underlying5 Tryd.underlying9 hown
        have HT2 := Lib.hid hT
        have hta : TokAt wr (.slice A toks.length c) toks := ⟨A, c, rfl, hc, fun hp => by
          obtain ⟨b, o, hA', hb', hcs⟩ := HA.out hp
          refine ⟨b, o, hA', Nat.lt_of_lt_of_le hb' hbw.size, fun j t ht => ?_⟩
          obtain ⟨x0, x1, x2⟩ := hcs j t ht
          exact ⟨(hbw.cell (p := ⟨b, _, none⟩) hb').trans x0, (hbw.cell (p := ⟨b, _, none⟩) hb').trans x1, (hbw.cell (p := ⟨b, _, none⟩) hb').trans x2⟩⟩
        have HTA := Lib.hid hta
        clear hkl hacc hts hsame hT hta
        go_wp2_with fail
        refine (HL2.out _).mono ?_
        rintro e' w5 ⟨v', rfl, hown', hbw5⟩
        clear hconv
        go_wp2_with fail
        refine (same_any _ v' toks ts false _ (HTA.out.below hbw5) (TokAt.of_own hown') HT2.out (by omega)).mono ?_
        rintro e' w6 ⟨rfl, hbw6⟩
        go_wp2_with fail
        refine (awake_any _).mono ?_
        rintro e' w7 ⟨rfl, hbw7⟩
        go_wp2_with fail
        go_ret
        have b4 := b23.trans (hbw.mono b23.size)
        have b5 := b4.trans (hbw5.mono b4.size)
        have b6 := b5.trans (hbw6.mono b5.size)
        exact ⟨rfl, b6.trans (hbw7.mono b6.size)⟩
  · have g1 : ((e : Int) != 0) = true := by simp [h0]
    clear hval hst h0
    go_enter Tryd.func8, Tryd.ntmps8
    go_wp2_with fail
    refine H1.out.mono ?_
    rintro e' w1 ⟨rfl, hbw1⟩
    go_wp2_with fail
    refine (HL1.out _).mono ?_
    rintro e' w2 ⟨v, rfl, hown, hbw2⟩
    go_wp2_with fail
    refine (awake_any _).mono ?_
    rintro e' w3 ⟨rfl, hbw3⟩
    go_wp2_with fail
    go_ret
    have b2 := hbw1.trans (hbw2.mono hbw1.size)
    exact ⟨rfl, b2.trans (hbw3.mono b2.size)⟩
end Go.Proofs.YtmdhkcefbkdkbaaDoor
