/- Contracts of Format's closures binder and write, and of Format. -/
import Derived.Test.YtmdhkcefbkdkbaaDoorRawFmt
set_option linter.unusedVariables false
set_option linter.unusedSimpArgs false
namespace Go.Proofs.YtmdhkcefbkdkbaaDoor
open Go.RowKit

theorem bcat (a b : List UInt8) : (⟨a.toArray⟩ ++ ⟨b.toArray⟩ : ByteArray) = ⟨(a ++ b).toArray⟩ := by
  apply ByteArray.ext; simp

set_option maxRecDepth 100000 in
set_option maxHeartbeats 2000000 in
theorem binder_any (w0 : World) (b Bq : Nat) (q : List (List UInt8)) (m : Nat) (ih : WriteUpto w0 b Bq q m) (k p : Int) (n : List UInt8) (ts : List Lfc.Raw) (v : Value) (w : World) (acc o en : List UInt8)
    (hsz : Lfc.Raw.sizes ts ≤ m) (hf : Lfc.Raw.forms ts = true) (hl : ts.length = 1 ∨ ts.length = 2) (hv : TreeV w0 (.node k n p ts) v) (henv : EnvF w0 b Bq w) (hbld : Bld b b acc w) (hbd : acc.length + (Lfc.bindText n o en (Lfc.Raw.texts q ts)).length ≤ 140737488355328) :
    Calls Tryd.prog 58 #[v, S o, S en, .pointer (some ⟨b, 0, none⟩), .pointer (some ⟨b + 2, 0, none⟩)] w fun e w' => e = .returned (.tuple #[]) ∧ Bld b b (acc ++ Lfc.bindText n o en (Lfc.Raw.texts q ts)) w' ∧ Below b w w' ∧ Kept b w w' := by
  have he := enters_two
  have HT := Lib.hid (two_any w0 b Bq q m ih k p n ts v)
  have HV := Lib.hid hv
  obtain ⟨A, c, rfl, hc, hA⟩ := hv.open_
  have s0 := StF.start #[.int .i64 k, S n, .int .i64 p, .slice A ts.length c] hbld henv
  clear ih hv henv hbld hA
  match ts, hl with
  | [a], hl =>
    simp only [Lfc.Raw.texts, Lfc.twoText, Lfc.bindText, List.length_append, List.length_singleton] at *
    have H0 := Lib.hid s0
    clear s0
    have hcat1 : (⟨#[40]⟩ : ByteArray) ++ ⟨o.toArray⟩ = ⟨([40] ++ o).toArray⟩ := bcat [40] o
    have hcat2 : (⟨en.toArray⟩ : ByteArray) ++ ⟨#[32]⟩ = ⟨(en ++ [32]).toArray⟩ := bcat en [32]
    go_enter Tryd.func58, Tryd.ntmps58
    go_wp2_with fail
    refine (writeString_any b b acc _ _ H0.out.bld (by simp only [List.length_append, List.length_cons, List.length_nil]; omega) H0.out.le).mono ?_
    rintro e w1 ⟨rfl, h1, hb1, hk1⟩
    have H1 := Lib.hid (H0.out.next h1 hb1 hk1)
    clear h1 hb1 hk1
    have hR3 := Lib.cell_of_heap H1.out.box 3
    go_wp2_with fail
    refine (writeString_any b b _ _ _ H1.out.bld (by simp only [List.length_append, List.length_cons, List.length_nil]; omega) H1.out.le).mono ?_
    rintro e w2 ⟨rfl, h2, hb2, hk2⟩
    have H2 := Lib.hid (H1.out.next h2 hb2 hk2)
    clear h2 hb2 hk2 hR3
    have hR0 := Lib.cell_of_heap H2.out.box 0
    have hR1 := Lib.cell_of_heap H2.out.box 1
    have hR2 := Lib.cell_of_heap H2.out.box 2
    have hR3 := Lib.cell_of_heap H2.out.box 3
    have hW := cell_of_one H2.out.env.tw
    go_wp2_with fail
    refine (HT.out w2 _ [] [] [41] hsz hf (by simp) HV.out H2.out.env H2.out.bld (by simp only [List.length_append, List.length_cons, List.length_nil]; omega)).mono ?_
    rintro e w3 ⟨rfl, h3, hb3, hk3⟩
    have H3 := Lib.hid (H2.out.next h3 hb3 hk3)
    clear h3 hb3 hk3
    go_wp2_with fail
    refine bodyPost_ret (results_none rfl _ _ _) rfl ?_
    exact ⟨rfl, by simpa [List.append_assoc] using H3.out.bld, H3.out.bel, H3.out.kept⟩
  | [a, a'], hl =>
    simp only [Lfc.Raw.texts, Lfc.twoText, Lfc.bindText, List.length_append, List.length_cons, List.length_nil, Nat.zero_add, Nat.reduceAdd] at *
    have H0 := Lib.hid s0
    clear s0
    have hcat1 : (⟨#[40]⟩ : ByteArray) ++ ⟨o.toArray⟩ = ⟨([40] ++ o).toArray⟩ := bcat [40] o
    have hcat2 : (⟨en.toArray⟩ : ByteArray) ++ ⟨#[32]⟩ = ⟨(en ++ [32]).toArray⟩ := bcat en [32]
    go_enter Tryd.func58, Tryd.ntmps58
    go_wp2_with fail
    refine (writeString_any b b acc _ _ H0.out.bld (by simp only [List.length_append, List.length_cons, List.length_nil]; omega) H0.out.le).mono ?_
    rintro e w1 ⟨rfl, h1, hb1, hk1⟩
    have H1 := Lib.hid (H0.out.next h1 hb1 hk1)
    clear h1 hb1 hk1
    have hR0 := Lib.cell_of_heap H1.out.box 0
    have hR1 := Lib.cell_of_heap H1.out.box 1
    have hR2 := Lib.cell_of_heap H1.out.box 2
    have hR3 := Lib.cell_of_heap H1.out.box 3
    have hW := cell_of_one H1.out.env.tw
    go_wp2_with fail
    refine (HT.out w1 _ [58] _ [41] hsz hf (by simp) HV.out H1.out.env H1.out.bld (by simp only [List.length_append, List.length_cons, List.length_nil]; omega)).mono ?_
    rintro e w3 ⟨rfl, h3, hb3, hk3⟩
    have H3 := Lib.hid (H1.out.next h3 hb3 hk3)
    clear h3 hb3 hk3
    go_wp2_with fail
    go_end0
    exact ⟨rfl, by simpa [List.append_assoc] using H3.out.bld, H3.out.bel, H3.out.kept⟩
  | [], h => simp at h
  | _ :: _ :: _ :: _, h => simp at h
end Go.Proofs.YtmdhkcefbkdkbaaDoor
