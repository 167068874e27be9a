/- Parts of the proof that no input makes the law false: RawNames, Build, RawFmt, RawFmt2, RawFmt3, RawFmt4, Oth, RawTape. -/
import Derived.Shelf.Strings.BuilderK
import Derived.Test.YthajalgkjonaaaaGreatDoorShelf
import Derived.StillTailTactics
import Derived.Test.YthajalgkjonaaaaGreatDoorPxB
import Derived.Test.YthajalgkjonaaaaGreatDoorPxC
set_option linter.unusedVariables false
set_option linter.unusedSimpArgs false
namespace Go.Proofs.YthajalgkjonaaaaGreatDoor
open Go.RowKit
def NamesAt (w : World) (A : Option Addr) (l : List (List UInt8)) : Prop := 0 < l.length → ∃ b o, A = some ⟨b, o, none⟩ ∧ b < w.heap.size ∧ ∀ k (h : k < l.length), w.cell? ⟨b, o + k, none⟩ = some (S l[k])
theorem NamesAt.below {w w' : World} {A : Option Addr} {l : List (List UInt8)} (h : NamesAt w A l) (hb : Below w.heap.size w w') : NamesAt w' A l := fun hne => by
 obtain ⟨b, o, hA, hlt, h⟩ := h hne
 exact ⟨b, o, hA, Nat.lt_of_lt_of_le hlt hb.size, fun k hk => (hb.cell (p := ⟨b, o + k, none⟩) hlt).trans (h k hk)⟩
theorem mem_at {l : List (List UInt8)} {x : List UInt8} (k : Nat) (h : k < l.length) (e : x = l[k]) : decide (x ∈ l) = true := by
 subst e; simp
theorem mem_none {l : List (List UInt8)} {x : List UInt8} (h : ∀ k (h : k < l.length), x ≠ l[k]) : decide (x ∈ l) = false := by
 simp only [decide_eq_false_iff_not, List.mem_iff_getElem, not_exists]
 exact fun k hk e => h k hk e.symm
set_option maxRecDepth 100000 in
set_option maxHeartbeats 1000000 in
theorem index_any (l : List (List UInt8)) (x : List UInt8) (A : Option Addr) (c : Nat) (w : World) (hl : l.length ≤ 1000000000) (h : NamesAt w A l) :
  Calls Tryz.prog 187 #[.slice A l.length c, S x] w fun e w' => ∃ i : Int, e = .returned (.int .i64 i) ∧ decide (i ≥ 0) = decide (x ∈ l) ∧ w = w' := by
 have HA := Lib.hid h
 clear h
 go_enter Tryz.func187, Tryz.ntmps187
 go_wp2_with fail
 go_loop [8] (fun i => ∃ k : Nat, k ≤ l.length ∧ i = .int .i64 k ∧ Hid (∀ j (h : j < l.length), j < k → x ≠ l[j])) (fun i => l.length - (intOf i).toNat)
 case atStart => exact ⟨0, by omega, rfl, Lib.hid fun j _ hj => by omega⟩
 case round =>
  obtain ⟨k, hk, rfl, hp⟩ := hrel
  by_cases hlt : k < l.length
  ·obtain ⟨b, o, rfl, hb, hcells⟩ := HA.out (by omega)
   have hc := hcells k hlt
   clear hcells
   obtain ⟨q, g1, d1⟩ : ∃ q, (x == l[k]) = q ∧ decide (x = l[k]) = q := ⟨_, rfl, by rw [Bool.eq_iff_iff]; simp⟩
   cases q
   ·have HD := Lib.hid (of_decide_eq_false d1)
    clear d1
    go_wp2_with fail
    go_round
    case rel =>
     refine ⟨k + 1, by omega, by go_num, Lib.hid fun j h hj => ?_⟩
     rcases Nat.lt_or_ge j k with h1 | h1
     ·exact hp.out j h h1
     ·obtain rfl : j = k := by omega
      exact HD.out
    case measure => simp [intOf]; omega
   ·have HD := Lib.hid (mem_at k hlt (of_decide_eq_true d1))
    clear d1
    go_wp2_with fail
    go_ret
    exact ⟨k, rfl, ⟨fun _ => of_decide_eq_true HD.out, fun _ => Int.natCast_nonneg k⟩, rfl⟩
  ·have HD := Lib.hid (mem_none fun j h => hp.out j h (by omega))
   go_wp2_with fail
   go_ret
   exact ⟨-1, rfl, ⟨fun h => absurd h (by decide), fun h => absurd h (of_decide_eq_false HD.out)⟩, rfl⟩
set_option maxRecDepth 100000 in
set_option maxHeartbeats 1000000 in
theorem contains_any (l : List (List UInt8)) (x : List UInt8) (A : Option Addr) (c : Nat) (w : World) (hl : l.length ≤ 1000000000) (h : NamesAt w A l) :
  Calls Tryz.prog 163 #[.slice A l.length c, S x] w fun e w' => e = .returned (.bool (decide (x ∈ l))) ∧ w = w' := by
 have IH := Lib.hid (index_any l x A c w hl h)
 clear h
 go_enter Tryz.func163, Tryz.ntmps163
 go_wp2_with fail
 refine IH.out.mono ?_
 rintro e w1 ⟨i, rfl, hi, rfl⟩
 have HI := Lib.hid hi
 clear hi
 go_wp2_with fail
 go_ret
 exact ⟨ret_bool HI.out, rfl⟩
set_option maxRecDepth 100000 in
set_option maxHeartbeats 1000000 in
theorem rIn_any (l : List (List UInt8)) (x : List UInt8) (A : Option Addr) (c : Nat) (w : World) (hl : l.length ≤ 1000000000) (h : NamesAt w A l) :
  Calls Tryz.prog 44 #[.slice A l.length c, S x] w fun e w' => e = .returned (.bool (decide (x ∈ l))) ∧ w = w' := by
 have HA := Lib.hid h
 clear h
 generalize hd : decide (x ∈ l) = res at *
 have HR := Lib.hid hd
 clear hd
 go_enter Tryz.func44, Tryz.ntmps44
 go_wp2_with fail
 go_loop [5] (fun i => ∃ k : Nat, k ≤ l.length ∧ i = .int .i64 k ∧ Hid (∀ j (h : j < l.length), j < k → x ≠ l[j])) (fun i => l.length - (intOf i).toNat)
 case atStart => exact ⟨0, by omega, rfl, Lib.hid fun j _ hj => by omega⟩
 case round =>
  obtain ⟨k, hk, rfl, hp⟩ := hrel
  by_cases hlt : k < l.length
  ·obtain ⟨b, o, rfl, hb, hcells⟩ := HA.out (by omega)
   have hc := hcells k hlt
   clear hcells
   obtain ⟨q, g1, d1⟩ : ∃ q, (l[k] == x) = q ∧ decide (x = l[k]) = q := ⟨_, rfl, by rw [Bool.eq_iff_iff]; simp; exact eq_comm⟩
   cases q
   ·have HD := Lib.hid (of_decide_eq_false d1)
    clear d1
    go_wp2_with fail
    go_round
    case rel =>
     refine ⟨k + 1, by omega, by go_num, Lib.hid fun j h hj => ?_⟩
     rcases Nat.lt_or_ge j k with h1 | h1
     ·exact hp.out j h h1
     ·obtain rfl : j = k := by omega
      exact HD.out
    case measure => simp [intOf]; omega
   ·have HD := Lib.hid (mem_at k hlt (of_decide_eq_true d1))
    clear d1
    go_wp2_with fail
    go_ret
    exact ⟨ret_bool (by rw [← HR.out, HD.out]), rfl⟩
  ·have HD := Lib.hid (mem_none fun j h => hp.out j h (by omega))
   go_wp2_with fail
   go_ret
   exact ⟨ret_bool (by rw [← HR.out, HD.out]), rfl⟩
end Go.Proofs.YthajalgkjonaaaaGreatDoor
namespace Go.Proofs.YthajalgkjonaaaaGreatDoor
open Go.RowKit Go.Shelf
theorem info_builder : ∃ j, Tryz.prog.info? 78 = some j ∧ j.size = 2 := by
 obtain ⟨j, hj, hs⟩ := Option.map_eq_some_iff.1 (show (Tryz.prog.info? 78).map (·.size) = some 2 by kernel_rfl)
 exact ⟨j, hj, hs⟩
theorem under_ptr : Tryz.prog.underlying 76 = some (.pointer 78) := by kernel_rfl
set_option maxHeartbeats 1000000 in
set_option maxRecDepth 100000 in
theorem copyCheck_used (b : Nat) (w : World) (h0 : w.cell? ⟨b, 0, none⟩ = some (.pointer (some ⟨b, 0, none⟩))) :
  Calls Tryz.prog 55 #[.pointer (some ⟨b, 0, none⟩)] w fun e w' => e = .returned (.tuple #[]) ∧ w' = w := by
 obtain ⟨j, hj, hjs⟩ := info_builder
 go_enter Tryz.func55, Tryz.ntmps55
 go_wp2
 rw [Lib.run_neq_ptr_same w _ under_ptr hj]
 go_wp2
 go_end0
 exact ⟨rfl, rfl⟩
set_option maxHeartbeats 1000000 in
set_option maxRecDepth 100000 in
theorem copyCheck_fresh (b : Nat) (w : World) (h0 : w.cell? ⟨b, 0, none⟩ = some (.pointer none)) (hsh : w.shape? b = some (78, 2)) (hfz : w.frozen? ⟨b, 0, none⟩ = false) :
  Calls Tryz.prog 55 #[.pointer (some ⟨b, 0, none⟩)] w fun e w' => e = .returned (.tuple #[]) ∧ w' = w.setCell ⟨b, 0, none⟩ (.pointer (some ⟨b, 0, none⟩)) := by
 obtain ⟨j, hj, hjs⟩ := info_builder
 have t94 : Tryz.prog.underlying 163 = some .unsafePointer := by kernel_rfl
 go_enter Tryz.func55, Tryz.ntmps55
 go_wp2
 rw [Lib.run_to_unsafe w ⟨b, 0, none⟩ under_ptr t94 hj (by rw [hjs]; decide) hsh (Nat.zero_lt_succ 1)]
 simp only [Result.andThen]
 rw [Oper.upon_value]
 go_wp2
 rw [run_callFunc_extern Tryz.func113 (by kernel_rfl) (by kernel_rfl) (by kernel_rfl) (e := Extern.AbiNoEscape.same) (by kernel_rfl)]
 rw [Lib.run_noEscape]
 simp only [Result.andThen]
 rw [Oper.upon_value]
 go_wp2
 rw [Lib.run_from_unsafe w ⟨b, 0, none⟩ t94 under_ptr hj hsh (by kernel_rfl)]
 simp only [Result.andThen]
 rw [Oper.upon_value]
 go_wp2
 go_end0
 exact ⟨rfl, rfl⟩
def Bld (B b : Nat) (l : List UInt8) (w : World) : Prop := Lib.IsBuilderF 78 5 B b (Lib.byteCells l) w
def Kept (b : Nat) (w w' : World) : Prop := Lib.OthersKept 5 (some b) w w'
theorem Kept.cells {b : Nat} {w w' : World} (h : Kept b w w') {k : Nat} {c : Array Value} {t : TypeId} (hk : w.heap[k]? = some (.cells c t (0, 0))) (hb : k ≠ b) (ht : t ≠ 5) : w'.heap[k]? = some (.cells c t (0, 0)) :=
 h k _ hk (by simpa using hb) (by intro c' fz e; cases e; exact ht rfl)
theorem copyCheck_any (B b : Nat) (l : List UInt8) (w : World) (h : Bld B b l w) :
  Calls Tryz.prog 55 #[.pointer (some ⟨b, 0, none⟩)] w fun e w' => e = .returned (.tuple #[]) ∧ Lib.BuilderAtF 78 5 B b (.pointer (some ⟨b, 0, none⟩)) (Lib.byteCells l) w' ∧ Below B w w' ∧ Kept b w w' := by
 rcases h with h | h
 ·refine (copyCheck_fresh b w h.cell0 h.shape h.frozen0).mono ?_
  rintro e w' ⟨rfl, rfl⟩
  exact ⟨rfl, h.used _, (Below.refl B w).setCell (p := ⟨b, 0, none⟩) h.1 _, (Lib.OthersKept.refl _ _ w).setCell ⟨b, 0, none⟩ rfl _⟩
 ·refine (copyCheck_used b w h.cell0).mono ?_
  rintro e w' ⟨rfl, rfl⟩
  exact ⟨rfl, h, Below.refl B _, Lib.OthersKept.refl _ _ _⟩
set_option maxHeartbeats 2000000 in
set_option maxRecDepth 100000 in
theorem writeString_any (B b : Nat) (acc l : List UInt8) (w : World) (h : Bld B b acc w) (hlen : acc.length + l.length ≤ 140737488355328) (hBw : B ≤ w.heap.size) :
  Calls Tryz.prog 28 #[.pointer (some ⟨b, 0, none⟩), S l] w fun e w' => e = .returned (.tuple #[.int .i64 l.length, .nilIface]) ∧ Bld B b (acc ++ l) w' ∧ Below B w w' ∧ Kept b w w' := by
 obtain ⟨i0, hi, hz0, hz1, hz2⟩ := info_parts (show (Tryz.prog.info? 5).map (fun i => (i.zero, i.size, i.bytes)) = some (some (.int .u8 0), 1, 1) by kernel_rfl)
 have t37 : Tryz.prog.underlying 68 = some (.slice 5) := by kernel_rfl
 have t9 : Tryz.prog.underlying 9 = some .string := by kernel_rfl
 have HC := Lib.hid (copyCheck_any B b acc w h)
 clear h
 go_enter Tryz.func28, Tryz.ntmps28
 go_wp2_with fail
 refine HC.out.mono ?_
 rintro e w1 ⟨rfl, h1, hb1, hk1⟩
 obtain ⟨hB, v, hbk, hown, hne⟩ := h1
 have c0 : w1.cell? ⟨b, 0, none⟩ = some (.pointer (some ⟨b, 0, none⟩)) := by rw [Lib.cell_of_heap hbk]; rfl
 have c1 : w1.cell? ⟨b, 1, none⟩ = some v := by rw [Lib.cell_of_heap hbk]; rfl
 go_wp2_with (at_builtin; refine Lib.wpList_append_own_stringF _ rfl _ _ 68 9 rfl B 5 i0 t37 t9 hi hz0 hz1 hz2 _ _ _ rfl hown ⟨l.toArray⟩ rfl ?c3 ?c4 ?c5 ?_)
 case c3 => simp only [Lib.byteCells_length]; show acc.length + l.toArray.size ≤ maxLen; unfold maxLen; simp; omega
 case c4 => simp only [Lib.byteCells_length]; show acc.length + l.toArray.size ≤ _; simp; omega
 case c5 => have := hb1.size; omega
 intro v' w2 hown' hgrow _
 have hlt : b < w1.heap.size := by
  rcases Nat.lt_or_ge b w1.heap.size with h' | h'
  ·exact h'
  ·simp [Array.getElem?_eq_none h'] at hbk
 have hb2 : w2.heap[b]? = some (.cells #[.pointer (some ⟨b, 0, none⟩), v] 78 (0, 0)) := by
  rw [hgrow.block b hlt (fun e => hne e.symm)]
  exact hbk
 have d0 : w2.cell? ⟨b, 0, none⟩ = some (.pointer (some ⟨b, 0, none⟩)) := by rw [Lib.cell_of_heap hb2]; rfl
 have d1 : w2.cell? ⟨b, 1, none⟩ = some v := by rw [Lib.cell_of_heap hb2]; rfl
 have f1 : w2.frozen? ⟨b, 1, none⟩ = false := Lib.frozen_of_heap hb2 1
 obtain ⟨ao, n', cap, rfl⟩ : ∃ ao n' cap, v' = .slice ao n' cap := by
  rcases hown'.2 with ⟨hv, _⟩ | ⟨g, cap, cur, fz, hv, _⟩
  ·exact ⟨_, _, _, hv⟩
  ·exact ⟨_, _, _, hv⟩
 have hcells : Lib.byteCells acc ++ Lib.strCells ⟨l.toArray⟩ = Lib.byteCells (acc ++ l) := by rw [Lib.byteCells_append]; rfl
 have hput := Lib.BuilderAtF.put (T := 78) (e := 5) hB hb2 (bs' := Lib.byteCells (acc ++ l)) (by rw [hcells] at hown'; simpa [Lib.byteCells_length] using hown') (by decide)
 have hbel := (hb1.grown hgrow (by have := hb1.size; omega) (fun k hk => (hown.lt k hk).1)).setCell (p := ⟨b, 1, none⟩) hB (.slice ao n' cap)
 have hkept := (hk1.grown hgrow (Lib.ownsRowF_kind hown)).setCell ⟨b, 1, none⟩ rfl (.slice ao n' cap)
 clear hown hown' hgrow hcells
 go_wp2_with fail
 go_ret2
 exact ⟨rfl, .inr hput, hbel, hkept⟩
theorem string_any (B b : Nat) (l : List UInt8) (w : World) (h : Bld B b l w) (hBw : B ≤ w.heap.size) :
  Calls Tryz.prog 30 #[.pointer (some ⟨b, 0, none⟩)] w fun e w' => e = .returned (S l) ∧ Bld B b l w' ∧ Below B w w' ∧ Kept b w w' :=
 Any.Builder_String_any_k Tryz.lays169 Tryz.Builder_Extra_169 B b l w h hBw
theorem bld_new (w : World) : Bld w.heap.size w.heap.size [] (w.alloc (.cells #[.pointer none, .slice none 0 0] 78)) :=
 .inl ⟨Nat.le_refl _, .slice none 0 0, heap_alloc_new w _, ⟨by simp, .inl ⟨rfl, rfl⟩⟩, by simp [Value.ownBlock]⟩
end Go.Proofs.YthajalgkjonaaaaGreatDoor
namespace Go.Proofs.YthajalgkjonaaaaGreatDoor
open Go.RowKit
def P (b : Nat) : Value := .pointer (some ⟨b, 0, none⟩)
theorem enters_two : ∀ args w, (callFunc 160 args).run Tryz.prog w = .ok (.enter 160 args) w := enters_of Tryz.func160 (by kernel_rfl) rfl
theorem enters_binder : ∀ args w, (callFunc 161 args).run Tryz.prog w = .ok (.enter 161 args) w := enters_of Tryz.func161 (by kernel_rfl) rfl
theorem enters_write : ∀ args w, (callFunc 162 args).run Tryz.prog w = .ok (.enter 162 args) w := enters_of Tryz.func162 (by kernel_rfl) rfl
structure EnvF (w0 : World) (b Bq : Nat) (w : World) : Prop where
 at_ : b = w0.heap.size
 bel : Below w0.heap.size w0 w
 wr : w.heap[b + 1]? = some (.cells #[.func (.func 162) #[] #[.pointer (some ⟨Bq, 0, none⟩), .pointer (some ⟨b, 0, none⟩), .pointer (some ⟨b + 2, 0, none⟩), .pointer (some ⟨b + 3, 0, none⟩)]] 114 (0, 0))
 tw : w.heap[b + 2]? = some (.cells #[.func (.func 160) #[] #[.pointer (some ⟨b, 0, none⟩), .pointer (some ⟨b + 1, 0, none⟩)]] 192 (0, 0))
 bi : w.heap[b + 3]? = some (.cells #[.func (.func 161) #[] #[.pointer (some ⟨b, 0, none⟩), .pointer (some ⟨b + 2, 0, none⟩)]] 193 (0, 0))
theorem EnvF.next {w0 w w' : World} {b Bq : Nat} (h : EnvF w0 b Bq w) (hb : Below b w w') (hk : Kept b w w') : EnvF w0 b Bq w' :=
 ⟨h.at_, h.bel.trans (by rw [← h.at_]; exact hb), hk.cells h.wr (by omega) (by decide), hk.cells h.tw (by omega) (by decide), hk.cells h.bi (by omega) (by decide)⟩
structure StF (w0 : World) (b Bq : Nat) (w : World) (R : Nat) (box : Array Value) (acc : List UInt8) (w' : World) : Prop where
 bld : Bld b b acc w'
 env : EnvF w0 b Bq w'
 box : w'.heap[R]? = some (.cells box 46 (0, 0))
 bel : Below b w w'
 kept : Kept b w w'
 ne : R ≠ b
 le : b ≤ w'.heap.size
theorem StF.next {w0 w w1 w2 : World} {b Bq R : Nat} {box : Array Value} {acc acc' : List UInt8} (h : StF w0 b Bq w R box acc w1) (hd : Bld b b acc' w2) (hb : Below b w1 w2) (hk : Kept b w1 w2) : StF w0 b Bq w R box acc' w2 :=
 ⟨hd, h.env.next hb hk, hk.cells h.box h.ne (by decide), h.bel.trans hb, h.kept.trans hk, h.ne, Nat.le_trans h.le hb.size⟩
theorem Bld.lt {B b : Nat} {l : List UInt8} {w : World} (h : Bld B b l w) : b < w.heap.size := by
 rcases h with ⟨_, v, hv, _⟩ | ⟨_, v, hv, _⟩
 ·exact lt_of_block hv
 ·exact lt_of_block hv
theorem Bld.alloc {B b : Nat} {l : List UInt8} {w : World} (h : Bld B b l w) (o : Obj) : Bld B b l (w.alloc o) := Lib.IsBuilderF.alloc h o
theorem Bld.drew {B b : Nat} {l : List UInt8} {w : World} (h : Bld B b l w) : Bld B b l w.drew := h
theorem StF.start {w0 w : World} {b Bq : Nat} {acc : List UInt8} (box : Array Value) (hd : Bld b b acc w) (he : EnvF w0 b Bq w) : StF w0 b Bq w w.heap.size box acc (w.alloc (.cells box 46)) := by
 have hlt := hd.lt
 have hb : Below b w (w.alloc (.cells box 46)) := (Below.refl _ _).alloc (by omega) _
 have hk : Kept b w (w.alloc (.cells box 46)) := (Lib.OthersKept.refl _ _ w).alloc _
 exact ⟨hd.alloc _, he.next hb hk, heap_alloc_new w _, hb, hk, by omega, by simp; omega⟩
theorem StF.drew {w0 w w1 : World} {b Bq R : Nat} {box : Array Value} {acc : List UInt8} (h : StF w0 b Bq w R box acc w1) : StF w0 b Bq w R box acc w1.drew :=
 h.next h.bld.drew (Below.refl _ _).drew (Lib.OthersKept.refl _ _ w1).drew
def WriteUpto (w0 : World) (b Bq : Nat) (q : List (List UInt8)) (m : Nat) : Prop := ∀ (t : Lfc.Raw) (v : Value) (w : World) (acc : List UInt8), t.size ≤ m → t.form = true → TreeV w0 t v → EnvF w0 b Bq w → Bld b b acc w → acc.length + (t.text q).length ≤ 140737488355328 →
  Calls Tryz.prog 162 #[v, .pointer (some ⟨Bq, 0, none⟩), .pointer (some ⟨b, 0, none⟩), .pointer (some ⟨b + 2, 0, none⟩), .pointer (some ⟨b + 3, 0, none⟩)] w fun e w' => e = .returned (.tuple #[]) ∧ Bld b b (acc ++ t.text q) w' ∧ Below b w w' ∧ Kept b w w'
set_option maxRecDepth 100000 in
set_option maxHeartbeats 2000000 in
theorem two_any (w0 : World) (b Bq : Nat) (q : List (List UInt8)) (m : Nat) (ih : WriteUpto w0 b Bq q m) (k p : Int) (n : List UInt8) (ts : List Lfc.Raw) (v : Value) (w : World) (acc o mid en : List UInt8)
  (hsz : Lfc.Raw.sizes ts ≤ m) (hf : Lfc.Raw.forms ts = true) (hl : ts.length = 1 ∨ ts.length = 2) (hv : TreeV w0 (.node k n p ts) v) (henv : EnvF w0 b Bq w) (hbld : Bld b b acc w) (hbd : acc.length + (Lfc.twoText o mid en (Lfc.Raw.texts q ts)).length ≤ 140737488355328) :
  Calls Tryz.prog 160 #[v, S o, S mid, S en, .pointer (some ⟨b, 0, none⟩), .pointer (some ⟨b + 1, 0, none⟩)] w fun e w' => e = .returned (.tuple #[]) ∧ Bld b b (acc ++ Lfc.twoText o mid en (Lfc.Raw.texts q ts)) w' ∧ Below b w w' ∧ Kept b w w' := by
 have he := enters_write
 obtain ⟨A, c, rfl, hc, hA⟩ := hv.open_
 have IH := Lib.hid ih
 have s0 := StF.start #[.int .i64 k, S n, .int .i64 p, .slice A ts.length c] hbld henv
 clear ih hv henv hbld
 match ts, hl with
 | [a], _ =>
  simp only [Lfc.Raw.texts, Lfc.twoText, Lfc.Raw.sizes, Lfc.Raw.forms, Bool.and_true, List.length_append, List.length_singleton, Nat.add_zero] at *
  obtain ⟨B, O, k1, n1, p1, xs, B1, c1, rfl, hb, ht, d0, d1, d2, d3, hcu, hB, hT⟩ := hA.at_ (i := 0) (by simp)
  simp only [List.getElem_cons_zero, Nat.zero_mul, Nat.add_zero] at hT ht d0 d1 d2 d3
  clear ht hB hA
  have H0 := Lib.hid s0
  clear s0
  go_enter Tryz.func160, Tryz.ntmps160
  go_wp2_with fail
  refine (writeString_any b b acc o _ H0.out.bld (by omega) H0.out.le).mono ?_
  rintro e w1 ⟨rfl, h1, hb1, hk1⟩
  have H1 := Lib.hid (H0.out.next h1 hb1 hk1)
  clear h1 hb1 hk1
  have hRf := Lib.cell_of_heap H1.out.box 3
  have hWf := cell_of_one H1.out.env.wr
  have f0 := (H1.out.env.bel.cell (p := ⟨B, _, none⟩) hb).trans d0
  have f1 := (H1.out.env.bel.cell (p := ⟨B, _, none⟩) hb).trans d1
  have f2 := (H1.out.env.bel.cell (p := ⟨B, _, none⟩) hb).trans d2
  have f3 := (H1.out.env.bel.cell (p := ⟨B, _, none⟩) hb).trans d3
  go_wp2_with fail
  have hzw1 : IntKind.i64.wrap 0 = 0 := by decide
  refine wp_region_still_tail 9 (by kernel_rfl) (by kernel_rfl) ?_
  simp only [List.take_succ_cons, List.take_zero, List.drop_succ_cons, List.drop_zero]
  change wpStill Tryz.prog _ w1.drew _ _ _
  repeat still_step
  try refine wpStill_nil ?_
  change wpList _ _ _ _ _ w1.drew
  go_wp2_with fail
  refine (IH.out a _ w1.drew (acc ++ o) hsz hf hT H1.out.drew.env H1.out.drew.bld (by simp only [List.length_append]; omega)).mono ?_
  rintro e w2 ⟨rfl, h2, hb2, hk2⟩
  have H2 := Lib.hid (H1.out.drew.next h2 hb2 hk2)
  clear h2 hb2 hk2
  go_wp2_with fail
  refine (writeString_any b b _ en _ H2.out.bld (by simp only [List.length_append]; omega) H2.out.le).mono ?_
  rintro e w3 ⟨rfl, h3, hb3, hk3⟩
  have H3 := Lib.hid (H2.out.next h3 hb3 hk3)
  clear h3 hb3 hk3
  go_wp2_with fail
  go_end0
  exact ⟨rfl, by simpa [List.append_assoc] using H3.out.bld, H3.out.bel, H3.out.kept⟩
 | [a, a'], _ =>
  simp only [Lfc.Raw.texts, Lfc.twoText, Lfc.Raw.sizes, Lfc.Raw.forms, Bool.and_true, Bool.and_eq_true, List.length_append, List.length_cons, List.length_nil, Nat.zero_add, Nat.reduceAdd, Nat.add_zero] at *
  obtain ⟨hfa, hfa'⟩ := hf
  obtain ⟨B, O, k1, n1, p1, xs, B1, c1, rfl, hb, ht, d0, d1, d2, d3, hcu, hB, hT⟩ := hA.at_ (i := 0) (by simp)
  obtain ⟨B', O', k2, n2, p2, ys, B2, c2, hBO, hb', ht', e0, e1, e2, e3, hcu', hB', hT'⟩ := hA.at_ (i := 1) (by simp)
  simp only [List.getElem_cons_zero, List.getElem_cons_succ, Nat.zero_mul, Nat.one_mul, Nat.add_zero] at hT ht d0 d1 d2 d3 hT' ht' e0 e1 e2 e3
  cases hBO
  clear ht hB hA ht' hB' hb'
  have H0 := Lib.hid s0
  clear s0
  go_enter Tryz.func160, Tryz.ntmps160
  go_wp2_with fail
  refine (writeString_any b b acc o _ H0.out.bld (by omega) H0.out.le).mono ?_
  rintro e w1 ⟨rfl, h1, hb1, hk1⟩
  have H1 := Lib.hid (H0.out.next h1 hb1 hk1)
  clear h1 hb1 hk1
  have hRf := Lib.cell_of_heap H1.out.box 3
  have hWf := cell_of_one H1.out.env.wr
  have f0 := (H1.out.env.bel.cell (p := ⟨B, _, none⟩) hb).trans d0
  have f1 := (H1.out.env.bel.cell (p := ⟨B, _, none⟩) hb).trans d1
  have f2 := (H1.out.env.bel.cell (p := ⟨B, _, none⟩) hb).trans d2
  have f3 := (H1.out.env.bel.cell (p := ⟨B, _, none⟩) hb).trans d3
  go_wp2_with fail
  have hzw1 : IntKind.i64.wrap 0 = 0 := by decide
  refine wp_region_still_tail 5 (by kernel_rfl) (by kernel_rfl) ?_
  simp only [List.take_succ_cons, List.take_zero, List.drop_succ_cons, List.drop_zero]
  change wpStill Tryz.prog _ w1.drew _ _ _
  repeat still_step
  try refine wpStill_nil ?_
  change wpList _ _ _ _ _ w1.drew
  go_wp2_with fail
  refine (IH.out a _ w1.drew (acc ++ o) (by omega) hfa hT H1.out.drew.env H1.out.drew.bld (by simp only [List.length_append]; omega)).mono ?_
  rintro e w2 ⟨rfl, h2, hb2, hk2⟩
  have H2 := Lib.hid (H1.out.drew.next h2 hb2 hk2)
  clear h2 hb2 hk2
  go_wp2_with fail
  refine (writeString_any b b _ mid _ H2.out.bld (by simp only [List.length_append]; omega) H2.out.le).mono ?_
  rintro e w3 ⟨rfl, h3, hb3, hk3⟩
  have H3 := Lib.hid (H2.out.next h3 hb3 hk3)
  clear h3 hb3 hk3
  have hRg := Lib.cell_of_heap H3.out.box 3
  have hWg := cell_of_one H3.out.env.wr
  have g0 := (H3.out.env.bel.cell (p := ⟨B, _, none⟩) hb).trans e0
  have g1 := (H3.out.env.bel.cell (p := ⟨B, _, none⟩) hb).trans e1
  have g2 := (H3.out.env.bel.cell (p := ⟨B, _, none⟩) hb).trans e2
  have g3 := (H3.out.env.bel.cell (p := ⟨B, _, none⟩) hb).trans e3
  go_wp2_with fail
  have hzw3 : IntKind.i64.wrap 1 = 1 := by decide
  refine wp_region_still_tail 9 (by kernel_rfl) (by kernel_rfl) ?_
  simp only [List.take_succ_cons, List.take_zero, List.drop_succ_cons, List.drop_zero]
  change wpStill Tryz.prog _ w3.drew _ _ _
  repeat still_step
  try refine wpStill_nil ?_
  change wpList _ _ _ _ _ w3.drew
  go_wp2_with fail
  refine (IH.out a' _ w3.drew _ (by omega) hfa' hT' H3.out.drew.env H3.out.drew.bld (by simp only [List.length_append]; omega)).mono ?_
  rintro e w4 ⟨rfl, h4, hb4, hk4⟩
  have H4 := Lib.hid (H3.out.drew.next h4 hb4 hk4)
  clear h4 hb4 hk4
  go_wp2_with fail
  refine (writeString_any b b _ en _ H4.out.bld (by simp only [List.length_append]; omega) H4.out.le).mono ?_
  rintro e w5 ⟨rfl, h5, hb5, hk5⟩
  have H5 := Lib.hid (H4.out.next h5 hb5 hk5)
  clear h5 hb5 hk5
  go_wp2_with fail
  go_end0
  exact ⟨rfl, by simpa [List.append_assoc] using H5.out.bld, H5.out.bel, H5.out.kept⟩
 | [], h => simp at h
 | _ :: _ :: _ :: _, h => simp at h
end Go.Proofs.YthajalgkjonaaaaGreatDoor
namespace Go.Proofs.YthajalgkjonaaaaGreatDoor
open Go.RowKit
theorem bcat (a b : List UInt8) : (⟨a.toArray⟩ ++ ⟨b.toArray⟩ : ByteArray) = ⟨(a ++ b).toArray⟩ := by
 apply ByteArray.ext; simp
set_option maxRecDepth 100000 in
set_option maxHeartbeats 2000000 in
theorem binder_any (w0 : World) (b Bq : Nat) (q : List (List UInt8)) (m : Nat) (ih : WriteUpto w0 b Bq q m) (k p : Int) (n : List UInt8) (ts : List Lfc.Raw) (v : Value) (w : World) (acc o en : List UInt8)
  (hsz : Lfc.Raw.sizes ts ≤ m) (hf : Lfc.Raw.forms ts = true) (hl : ts.length = 1 ∨ ts.length = 2) (hv : TreeV w0 (.node k n p ts) v) (henv : EnvF w0 b Bq w) (hbld : Bld b b acc w) (hbd : acc.length + (Lfc.bindText n o en (Lfc.Raw.texts q ts)).length ≤ 140737488355328) :
  Calls Tryz.prog 161 #[v, S o, S en, .pointer (some ⟨b, 0, none⟩), .pointer (some ⟨b + 2, 0, none⟩)] w fun e w' => e = .returned (.tuple #[]) ∧ Bld b b (acc ++ Lfc.bindText n o en (Lfc.Raw.texts q ts)) w' ∧ Below b w w' ∧ Kept b w w' := by
 have he := enters_two
 have HT := Lib.hid (two_any w0 b Bq q m ih k p n ts v)
 have HV := Lib.hid hv
 obtain ⟨A, c, rfl, hc, hA⟩ := hv.open_
 have s0 := StF.start #[.int .i64 k, S n, .int .i64 p, .slice A ts.length c] hbld henv
 clear ih hv henv hbld hA
 match ts, hl with
 | [a], hl =>
  simp only [Lfc.Raw.texts, Lfc.twoText, Lfc.bindText, List.length_append, List.length_singleton] at *
  have H0 := Lib.hid s0
  clear s0
  have hcat1 : (⟨#[40]⟩ : ByteArray) ++ ⟨o.toArray⟩ = ⟨([40] ++ o).toArray⟩ := bcat [40] o
  have hcat2 : (⟨en.toArray⟩ : ByteArray) ++ ⟨#[32]⟩ = ⟨(en ++ [32]).toArray⟩ := bcat en [32]
  go_enter Tryz.func161, Tryz.ntmps161
  go_wp2_with fail
  refine (writeString_any b b acc _ _ H0.out.bld (by simp only [List.length_append, List.length_cons, List.length_nil]; omega) H0.out.le).mono ?_
  rintro e w1 ⟨rfl, h1, hb1, hk1⟩
  have H1 := Lib.hid (H0.out.next h1 hb1 hk1)
  clear h1 hb1 hk1
  have hR3 := Lib.cell_of_heap H1.out.box 3
  go_wp2_with fail
  refine (writeString_any b b _ _ _ H1.out.bld (by simp only [List.length_append, List.length_cons, List.length_nil]; omega) H1.out.le).mono ?_
  rintro e w2 ⟨rfl, h2, hb2, hk2⟩
  have H2 := Lib.hid (H1.out.next h2 hb2 hk2)
  clear h2 hb2 hk2 hR3
  have hR0 := Lib.cell_of_heap H2.out.box 0
  have hR1 := Lib.cell_of_heap H2.out.box 1
  have hR2 := Lib.cell_of_heap H2.out.box 2
  have hR3 := Lib.cell_of_heap H2.out.box 3
  have hW := cell_of_one H2.out.env.tw
  go_wp2_with fail
  refine (HT.out w2 _ [] [] [41] hsz hf (by simp) HV.out H2.out.env H2.out.bld (by simp only [List.length_append, List.length_cons, List.length_nil]; omega)).mono ?_
  rintro e w3 ⟨rfl, h3, hb3, hk3⟩
  have H3 := Lib.hid (H2.out.next h3 hb3 hk3)
  clear h3 hb3 hk3
  go_wp2_with fail
  refine bodyPost_ret (results_none rfl _ _ _) rfl ?_
  exact ⟨rfl, by simpa [List.append_assoc] using H3.out.bld, H3.out.bel, H3.out.kept⟩
 | [a, a'], hl =>
  simp only [Lfc.Raw.texts, Lfc.twoText, Lfc.bindText, List.length_append, List.length_cons, List.length_nil, Nat.zero_add, Nat.reduceAdd] at *
  have H0 := Lib.hid s0
  clear s0
  have hcat1 : (⟨#[40]⟩ : ByteArray) ++ ⟨o.toArray⟩ = ⟨([40] ++ o).toArray⟩ := bcat [40] o
  have hcat2 : (⟨en.toArray⟩ : ByteArray) ++ ⟨#[32]⟩ = ⟨(en ++ [32]).toArray⟩ := bcat en [32]
  go_enter Tryz.func161, Tryz.ntmps161
  go_wp2_with fail
  refine (writeString_any b b acc _ _ H0.out.bld (by simp only [List.length_append, List.length_cons, List.length_nil]; omega) H0.out.le).mono ?_
  rintro e w1 ⟨rfl, h1, hb1, hk1⟩
  have H1 := Lib.hid (H0.out.next h1 hb1 hk1)
  clear h1 hb1 hk1
  have hR0 := Lib.cell_of_heap H1.out.box 0
  have hR1 := Lib.cell_of_heap H1.out.box 1
  have hR2 := Lib.cell_of_heap H1.out.box 2
  have hR3 := Lib.cell_of_heap H1.out.box 3
  have hW := cell_of_one H1.out.env.tw
  go_wp2_with fail
  refine (HT.out w1 _ [58] _ [41] hsz hf (by simp) HV.out H1.out.env H1.out.bld (by simp only [List.length_append, List.length_cons, List.length_nil]; omega)).mono ?_
  rintro e w3 ⟨rfl, h3, hb3, hk3⟩
  have H3 := Lib.hid (H1.out.next h3 hb3 hk3)
  clear h3 hb3 hk3
  go_wp2_with fail
  go_end0
  exact ⟨rfl, by simpa [List.append_assoc] using H3.out.bld, H3.out.bel, H3.out.kept⟩
 | [], h => simp at h
 | _ :: _ :: _ :: _, h => simp at h
end Go.Proofs.YthajalgkjonaaaaGreatDoor
namespace Go.Proofs.YthajalgkjonaaaaGreatDoor
open Go.RowKit
def QuoteAt (w0 : World) (Bq : Nat) (q : List (List UInt8)) : Prop := Bq < w0.heap.size ∧ q.length ≤ 1000000000 ∧ ∃ A c, w0.cell? ⟨Bq, 0, none⟩ = some (.slice A q.length c) ∧ NamesAt w0 A q
theorem formed_cases {k : Int} {n : List UInt8} {m : Nat} (h : Lfc.formed k n m = true) :
  ((k = 1 ∨ k = 2 ∨ k = 3 ∨ k = 4) ∧ m = 0) ∨ ((k = 5 ∨ k = 6 ∨ k = 9) ∧ m = 2) ∨ ((k = 7 ∨ k = 8) ∧ (m = 1 ∨ m = 2)) := by
 unfold Lfc.formed at h
 split at h
 ·simp at h; omega
 split at h
 ·simp at h; omega
 split at h
 ·simp at h; omega
 split at h
 ·simp at h; omega
 ·cases h
set_option maxRecDepth 100000 in
set_option maxHeartbeats 400000 in
theorem write_upto (w0 : World) (b Bq : Nat) (q : List (List UInt8)) (hq : QuoteAt w0 Bq q) (m : Nat) : WriteUpto w0 b Bq q m := by
 induction m with
 | zero => intro t v w acc h _ _ _ _; have := t.size_pos; omega
 | succ m ih =>
  intro t v w acc hsz hform hv henv hbld hbd
  obtain ⟨k, n, p, ts⟩ := t
  simp only [Lfc.Raw.size] at hsz
  rw [Lfc.Raw.form, Bool.and_eq_true] at hform
  obtain ⟨hfd, hfs⟩ := hform
  have hn := hv.name_le
  have hk := formed_cases hfd
  clear hfd
  simp only [Lfc.Raw.text] at *
  have e1 := enters_two
  have e2 := enters_binder
  have HT := Lib.hid (fun W A o mid en => two_any w0 b Bq q m ih k p n ts v W A o mid en (by omega) hfs)
  have HB := Lib.hid (fun W A o en => binder_any w0 b Bq q m ih k p n ts v W A o en (by omega) hfs)
  have HV := Lib.hid hv
  obtain ⟨A, c, rfl, hc, hA⟩ := hv.open_
  have H0 := Lib.hid (StF.start #[.int .i64 k, S n, .int .i64 p, .slice A ts.length c] hbld henv)
  have hW := cell_of_one H0.out.env.tw
  have hB := cell_of_one H0.out.env.bi
  clear ih hv henv hbld hA
  obtain ⟨hBq, hql, Aq, cq, hqc, hqn⟩ := hq
  have hq1 := (H0.out.env.bel.cell (p := ⟨Bq, 0, none⟩) hBq).trans hqc
  have HN := Lib.hid (contains_any q n Aq cq _ hql (hqn.below H0.out.env.bel))
  clear hqn hqc hBq hql
  rcases hk with ⟨rfl | rfl | rfl | rfl, hm⟩ | ⟨rfl | rfl | rfl, hm⟩ | ⟨rfl | rfl, hm⟩
  ·have HX := Lib.hid (show Lfc.putText q 1 n (Lfc.Raw.texts q ts) = if n ∈ q then [40] ++ n ++ [41] else n from rfl)
   rw [HX.out] at hbd ⊢
   clear hm HX
   by_cases hmem : n ∈ q
   ·rw [decide_eq_true hmem] at HN
    rw [if_pos hmem] at hbd ⊢
    have hcat1 : (⟨#[40]⟩ : ByteArray) ++ ⟨n.toArray⟩ = ⟨([40] ++ n).toArray⟩ := bcat [40] n
    have hcat2 : (⟨([40] ++ n).toArray⟩ : ByteArray) ++ ⟨#[41]⟩ = ⟨([40] ++ n ++ [41]).toArray⟩ := bcat ([40] ++ n) [41]
    clear hmem
    go_enter Tryz.func162, Tryz.ntmps162
    go_wp2_with fail
    refine HN.out.mono ?_
    rintro e w1 ⟨rfl, rfl⟩
    go_wp2_with fail
    refine (writeString_any b b acc ([40] ++ n ++ [41]) _ H0.out.bld hbd H0.out.le).mono ?_
    rintro e w1 ⟨rfl, h1, hb1, hk1⟩
    have H1 := Lib.hid (H0.out.next h1 hb1 hk1)
    clear h1 hb1 hk1
    go_wp2_with fail
    refine bodyPost_ret (results_none rfl _ _ _) rfl ?_
    exact ⟨rfl, H1.out.bld, H1.out.bel, H1.out.kept⟩
   ·rw [decide_eq_false hmem] at HN
    rw [if_neg hmem] at hbd ⊢
    clear hmem
    go_enter Tryz.func162, Tryz.ntmps162
    go_wp2_with fail
    refine HN.out.mono ?_
    rintro e w1 ⟨rfl, rfl⟩
    go_wp2_with fail
    refine (writeString_any b b acc n _ H0.out.bld hbd H0.out.le).mono ?_
    rintro e w1 ⟨rfl, h1, hb1, hk1⟩
    have H1 := Lib.hid (H0.out.next h1 hb1 hk1)
    clear h1 hb1 hk1
    go_wp2_with fail
    go_end0
    exact ⟨rfl, H1.out.bld, H1.out.bel, H1.out.kept⟩
  ·have HX := Lib.hid (show Lfc.putText q 2 n (Lfc.Raw.texts q ts) = [64] ++ n from rfl)
   rw [HX.out] at hbd ⊢
   clear hm HX
   have hcat1 : (⟨#[64]⟩ : ByteArray) ++ ⟨n.toArray⟩ = ⟨([64] ++ n).toArray⟩ := bcat [64] n
   go_enter Tryz.func162, Tryz.ntmps162
   go_wp2_with fail
   refine (writeString_any b b acc _ _ H0.out.bld (by simp only [List.length_append, List.length_cons, List.length_nil] at hbd ⊢; omega) H0.out.le).mono ?_
   rintro e w1 ⟨rfl, h1, hb1, hk1⟩
   have H1 := Lib.hid (H0.out.next h1 hb1 hk1)
   clear h1 hb1 hk1
   go_wp2_with fail
   go_end0
   exact ⟨rfl, H1.out.bld, H1.out.bel, H1.out.kept⟩
  ·have HX := Lib.hid (show Lfc.putText q 3 n (Lfc.Raw.texts q ts) = [95] from rfl)
   rw [HX.out] at hbd ⊢
   clear hm HX
   go_enter Tryz.func162, Tryz.ntmps162
   go_wp2_with fail
   refine (writeString_any b b acc ([95]) _ H0.out.bld (by simp only [List.length_append, List.length_cons, List.length_nil] at hbd ⊢; omega) H0.out.le).mono ?_
   rintro e w1 ⟨rfl, h1, hb1, hk1⟩
   have H1 := Lib.hid (H0.out.next h1 hb1 hk1)
   clear h1 hb1 hk1
   go_wp2_with fail
   go_end0
   exact ⟨rfl, H1.out.bld, H1.out.bel, H1.out.kept⟩
  ·have HX := Lib.hid (show Lfc.putText q 4 n (Lfc.Raw.texts q ts) = [116, 121, 112, 101] from rfl)
   rw [HX.out] at hbd ⊢
   clear hm HX
   go_enter Tryz.func162, Tryz.ntmps162
   go_wp2_with fail
   refine (writeString_any b b acc ([116, 121, 112, 101]) _ H0.out.bld (by simp only [List.length_append, List.length_cons, List.length_nil] at hbd ⊢; omega) H0.out.le).mono ?_
   rintro e w1 ⟨rfl, h1, hb1, hk1⟩
   have H1 := Lib.hid (H0.out.next h1 hb1 hk1)
   clear h1 hb1 hk1
   go_wp2_with fail
   go_end0
   exact ⟨rfl, H1.out.bld, H1.out.bel, H1.out.kept⟩
  ·have HX := Lib.hid (show Lfc.putText q 5 n (Lfc.Raw.texts q ts) = Lfc.twoText [40] [32] [41] (Lfc.Raw.texts q ts) from rfl)
   rw [HX.out] at hbd ⊢
   have HM := Lib.hid hm
   clear hm HX
   go_enter Tryz.func162, Tryz.ntmps162
   go_wp2_with fail
   refine (HT.out _ acc [40] [32] [41] (.inr HM.out) HV.out H0.out.env H0.out.bld hbd).mono ?_
   rintro e w1 ⟨rfl, h1, hb1, hk1⟩
   have H1 := Lib.hid (H0.out.next h1 hb1 hk1)
   clear h1 hb1 hk1
   go_wp2_with fail
   go_end0
   exact ⟨rfl, H1.out.bld, H1.out.bel, H1.out.kept⟩
  ·have HX := Lib.hid (show Lfc.putText q 6 n (Lfc.Raw.texts q ts) = Lfc.twoText [40] [32, 45, 62, 32] [41] (Lfc.Raw.texts q ts) from rfl)
   rw [HX.out] at hbd ⊢
   have HM := Lib.hid hm
   clear hm HX
   go_enter Tryz.func162, Tryz.ntmps162
   go_wp2_with fail
   refine (HT.out _ acc [40] [32, 45, 62, 32] [41] (.inr HM.out) HV.out H0.out.env H0.out.bld hbd).mono ?_
   rintro e w1 ⟨rfl, h1, hb1, hk1⟩
   have H1 := Lib.hid (H0.out.next h1 hb1 hk1)
   clear h1 hb1 hk1
   go_wp2_with fail
   go_end0
   exact ⟨rfl, H1.out.bld, H1.out.bel, H1.out.kept⟩
  ·have HX := Lib.hid (show Lfc.putText q 9 n (Lfc.Raw.texts q ts) = Lfc.twoText [40] [32, 58, 32] [41] (Lfc.Raw.texts q ts) from rfl)
   rw [HX.out] at hbd ⊢
   have HM := Lib.hid hm
   clear hm HX
   go_enter Tryz.func162, Tryz.ntmps162
   go_wp2_with fail
   refine (HT.out _ acc [40] [32, 58, 32] [41] (.inr HM.out) HV.out H0.out.env H0.out.bld hbd).mono ?_
   rintro e w1 ⟨rfl, h1, hb1, hk1⟩
   have H1 := Lib.hid (H0.out.next h1 hb1 hk1)
   clear h1 hb1 hk1
   go_wp2_with fail
   go_end0
   exact ⟨rfl, H1.out.bld, H1.out.bel, H1.out.kept⟩
  ·have HX := Lib.hid (show Lfc.putText q 7 n (Lfc.Raw.texts q ts) = Lfc.bindText n [123] [125] (Lfc.Raw.texts q ts) from rfl)
   rw [HX.out] at hbd ⊢
   have HM := Lib.hid hm
   clear hm HX
   go_enter Tryz.func162, Tryz.ntmps162
   go_wp2_with fail
   refine (HB.out _ acc [123] [125] HM.out HV.out H0.out.env H0.out.bld hbd).mono ?_
   rintro e w1 ⟨rfl, h1, hb1, hk1⟩
   have H1 := Lib.hid (H0.out.next h1 hb1 hk1)
   clear h1 hb1 hk1
   go_wp2_with fail
   go_end0
   exact ⟨rfl, H1.out.bld, H1.out.bel, H1.out.kept⟩
  ·have HX := Lib.hid (show Lfc.putText q 8 n (Lfc.Raw.texts q ts) = Lfc.bindText n [91] [93] (Lfc.Raw.texts q ts) from rfl)
   rw [HX.out] at hbd ⊢
   have HM := Lib.hid hm
   clear hm HX
   go_enter Tryz.func162, Tryz.ntmps162
   go_wp2_with fail
   refine (HB.out _ acc [91] [93] HM.out HV.out H0.out.env H0.out.bld hbd).mono ?_
   rintro e w1 ⟨rfl, h1, hb1, hk1⟩
   have H1 := Lib.hid (H0.out.next h1 hb1 hk1)
   clear h1 hb1 hk1
   go_wp2_with fail
   go_end0
   exact ⟨rfl, H1.out.bld, H1.out.bel, H1.out.kept⟩
end Go.Proofs.YthajalgkjonaaaaGreatDoor
namespace Lfc
def Raw.fmt (q : List (List UInt8)) (t : Raw) : List UInt8 := if t.wf = 0 then t.text q else []
theorem wf_zero {t : Raw} (h : t.wf = 0) : t.form = true ∧ t.size ≤ 4096 ∧ t.depth ≤ 128 := by
 unfold Raw.wf at h
 split at h
 ·cases h
 ·rename_i h1
  split at h
  ·cases h
  ·rename_i h2
   exact ⟨by simpa using h1, by omega, by omega⟩
end Lfc
namespace Go.Proofs.YthajalgkjonaaaaGreatDoor
open Go.RowKit
theorem heap_alloc_old (w : World) (o : Obj) (k : Nat) (x : Obj) (h : w.heap[k]? = some x) : (w.alloc o).heap[k]? = some x :=
 (Lib.alloc_old w o k (lt_of_block h)).trans h
theorem fmtEnv (w : World) (Bq : Nat) : ∃ w4, (((w.alloc (.cells #[.pointer none, .slice none 0 0] 78)).alloc
   (.cells #[.func (.func 162) #[] #[.pointer (some ⟨Bq, 0, none⟩), .pointer (some ⟨w.heap.size, 0, none⟩), .pointer (some ⟨w.heap.size + 1 + 1, 0, none⟩), .pointer (some ⟨w.heap.size + 1 + 1 + 1, 0, none⟩)]] 114)).alloc
   (.cells #[.func (.func 160) #[] #[.pointer (some ⟨w.heap.size, 0, none⟩), .pointer (some ⟨w.heap.size + 1, 0, none⟩)]] 192)).alloc
   (.cells #[.func (.func 161) #[] #[.pointer (some ⟨w.heap.size, 0, none⟩), .pointer (some ⟨w.heap.size + 1 + 1, 0, none⟩)]] 193) = w4 ∧
  EnvF w w.heap.size Bq w4 ∧ Bld w.heap.size w.heap.size [] w4 ∧ Below w.heap.size w w4 ∧ w4.heap.size = w.heap.size + 4 := by
 refine ⟨_, rfl, ⟨rfl, ?_, ?_, ?_, ?_⟩, ?_, ?_, by simp⟩
 ·exact ((((Below.refl _ _).alloc (Nat.le_refl _) _).alloc (by simp) _).alloc (by simp; omega) _).alloc (by simp; omega) _
 ·refine heap_alloc_old _ _ _ _ (heap_alloc_old _ _ _ _ ?_)
  have := heap_alloc_new (w.alloc (.cells #[.pointer none, .slice none 0 0] 78)) (.cells #[.func (.func 162) #[] #[.pointer (some ⟨Bq, 0, none⟩), .pointer (some ⟨w.heap.size, 0, none⟩), .pointer (some ⟨w.heap.size + 1 + 1, 0, none⟩), .pointer (some ⟨w.heap.size + 1 + 1 + 1, 0, none⟩)]] 114)
  simpa using this
 ·refine heap_alloc_old _ _ _ _ ?_
  have := fun W : World => heap_alloc_new W (.cells #[.func (.func 160) #[] #[.pointer (some ⟨w.heap.size, 0, none⟩), .pointer (some ⟨w.heap.size + 1, 0, none⟩)]] 192)
  have h2 := this ((w.alloc (.cells #[.pointer none, .slice none 0 0] 78)).alloc
   (.cells #[.func (.func 162) #[] #[.pointer (some ⟨Bq, 0, none⟩), .pointer (some ⟨w.heap.size, 0, none⟩), .pointer (some ⟨w.heap.size + 1 + 1, 0, none⟩), .pointer (some ⟨w.heap.size + 1 + 1 + 1, 0, none⟩)]] 114))
  simpa using h2
 ·have := fun W : World => heap_alloc_new W (.cells #[.func (.func 161) #[] #[.pointer (some ⟨w.heap.size, 0, none⟩), .pointer (some ⟨w.heap.size + 1 + 1, 0, none⟩)]] 193)
  have h2 := this (((w.alloc (.cells #[.pointer none, .slice none 0 0] 78)).alloc
   (.cells #[.func (.func 162) #[] #[.pointer (some ⟨Bq, 0, none⟩), .pointer (some ⟨w.heap.size, 0, none⟩), .pointer (some ⟨w.heap.size + 1 + 1, 0, none⟩), .pointer (some ⟨w.heap.size + 1 + 1 + 1, 0, none⟩)]] 114)).alloc
   (.cells #[.func (.func 160) #[] #[.pointer (some ⟨w.heap.size, 0, none⟩), .pointer (some ⟨w.heap.size + 1, 0, none⟩)]] 192))
  simpa using h2
 ·exact (((bld_new w).alloc _).alloc _).alloc _
 ·exact ((((Below.refl _ _).alloc (Nat.le_refl _) _).alloc (by simp) _).alloc (by simp; omega) _).alloc (by simp; omega) _
set_option maxRecDepth 100000 in
set_option maxHeartbeats 2000000 in
theorem format_any (t : Lfc.Raw) (v : Value) (q : List (List UInt8)) (Aq : Option Addr) (cq : Nat) (w : World) (hmax : t.size ≤ 1000000000) (hv : TreeV w t v) (hql : q.length ≤ 1000000000) (hq : NamesAt w Aq q) :
  Calls Tryz.prog 109 #[v, .slice Aq q.length cq] w fun e w' => e = .returned (S (t.fmt q)) ∧ Below w.heap.size w w' := by
 have he := enters_write
 have hshort := hv.short
 obtain ⟨A, c, kd, nm, ps, ts, hT, rfl, hc, hA⟩ : ∃ A c kd nm ps ts, t = .node kd nm ps ts ∧ v = .agg #[.int .i64 kd, S nm, .int .i64 ps, .slice A ts.length c] ∧ ts.length ≤ c ∧ TreesAt w A ts := by
  obtain ⟨kd, nm, ps, ts⟩ := t
  obtain ⟨A, c, rfl, hc, hA⟩ := hv.open_
  exact ⟨A, c, kd, nm, ps, ts, rfl, rfl, hc, hA⟩
 clear hT hA
 obtain ⟨wa, hwa⟩ : ∃ wa, w.alloc (.cells #[.int .i64 kd, S nm, .int .i64 ps, .slice A ts.length c] 46) = wa := ⟨_, rfl⟩
 have ba : Below w.heap.size w wa := by rw [← hwa]; exact (Below.refl _ _).alloc (Nat.le_refl _) _
 have sa : wa.heap.size = w.heap.size + 1 := by rw [← hwa]; simp
 have hx0 : wa.cell? ⟨w.heap.size, 0, none⟩ = some (.int .i64 kd) := by rw [← hwa]; simp
 have hx1 : wa.cell? ⟨w.heap.size, 1, none⟩ = some (S nm) := by rw [← hwa]; simp
 have hx2 : wa.cell? ⟨w.heap.size, 2, none⟩ = some (.int .i64 ps) := by rw [← hwa]; simp
 have hx3 : wa.cell? ⟨w.heap.size, 3, none⟩ = some (.slice A ts.length c) := by rw [← hwa]; simp
 obtain ⟨w1, hw1⟩ : ∃ w1, wa.alloc (.cells #[.slice Aq q.length cq] 36) = w1 := ⟨_, rfl⟩
 have b1 : Below wa.heap.size wa w1 := by rw [← hw1]; exact (Below.refl _ _).alloc (Nat.le_refl _) _
 have s1 : w1.heap.size = wa.heap.size + 1 := by rw [← hw1]; simp
 have hqc : w1.cell? ⟨wa.heap.size, 0, none⟩ = some (.slice Aq q.length cq) := by rw [← hw1]; simp
 have b01 : Below w.heap.size w w1 := ba.trans (b1.mono (by omega))
 have hy0 := (b1.cell (p := ⟨w.heap.size, 0, none⟩) (by simp only; omega)).trans hx0
 have hy1 := (b1.cell (p := ⟨w.heap.size, 1, none⟩) (by simp only; omega)).trans hx1
 have hy2 := (b1.cell (p := ⟨w.heap.size, 2, none⟩) (by simp only; omega)).trans hx2
 have hy3 := (b1.cell (p := ⟨w.heap.size, 3, none⟩) (by simp only; omega)).trans hx3
 clear hx0 hx1 hx2 hx3
 have HV := Lib.hid (hv.below b01)
 have HQ := Lib.hid (hq.below b01)
 clear hq hv
 rw [sa] at hqc
 by_cases hz : t.wf = 0
 ·have hf : t.fmt q = t.text q := if_pos hz
  rw [hf]
  go_enter Tryz.func109, Tryz.ntmps109
  go_upto_region 1 with fail
  clear hw1 hwa
  go_wp2_with fail
  refine (wf_any t _ _ hmax HV.out).mono ?_
  rintro e w2 ⟨rfl, hb2⟩
  rw [hz]
  clear hf
  have hs2 := hb2.size
  obtain ⟨w4, hw4, hE, hB, hb4, hs4⟩ := fmtEnv w2 (w.heap.size + 1)
  go_upto_region 8 with fail
  clear hw4
  have b4 : Below w1.heap.size w1 w4 := hb2.trans (hb4.mono hs2)
  have hz0 := (b4.cell (p := ⟨w.heap.size, 0, none⟩) (by simp only; omega)).trans hy0
  have hz1 := (b4.cell (p := ⟨w.heap.size, 1, none⟩) (by simp only; omega)).trans hy1
  have hz2 := (b4.cell (p := ⟨w.heap.size, 2, none⟩) (by simp only; omega)).trans hy2
  have hz3 := (b4.cell (p := ⟨w.heap.size, 3, none⟩) (by simp only; omega)).trans hy3
  clear hy0 hy1 hy2 hy3
  have hW := cell_of_one hE.wr
  obtain ⟨hfm, hsz, _⟩ := Lfc.wf_zero hz
  have hlen := Lfc.text_len q 1000000 t hshort
  have hlen2 : t.size * (1000000 + 20) ≤ 4096 * 1000020 := Nat.mul_le_mul_right _ hsz
  have HWr := Lib.hid (write_upto w2 w2.heap.size (w.heap.size + 1) q ⟨by omega, hql, Aq, cq, (hb2.cell (p := ⟨w.heap.size + 1, 0, none⟩) (by simp only; omega)).trans hqc, HQ.out.below hb2⟩ t.size t _ w4 [] (Nat.le_refl _) hfm (HV.out.below hb2) hE hB (by simp only [List.length_nil]; omega))
  clear hE hB hlen hlen2 hqc hz
  go_wp2_with fail
  refine HWr.out.mono ?_
  rintro e w5 ⟨rfl, hB5, hb5, _⟩
  have hs5 := hb5.size
  go_wp2_with fail
  refine (string_any w2.heap.size w2.heap.size _ w5 hB5 (by omega)).mono ?_
  rintro e w6 ⟨rfl, _, hb6, _⟩
  go_wp2_with fail
  go_ret
  exact ⟨rfl, b01.trans ((b4.mono (by omega)).trans ((hb5.mono (by omega)).trans (hb6.mono (by omega))))⟩
 ·have hf : t.fmt q = [] := if_neg hz
  rw [hf]
  have hg : (t.wf != 0) = true := by simpa using hz
  clear hf hz
  go_enter Tryz.func109, Tryz.ntmps109
  go_upto_region 1 with fail
  clear hw1 hwa
  go_wp2_with fail
  refine (wf_any t _ _ hmax HV.out).mono ?_
  rintro e w2 ⟨rfl, hb2⟩
  go_wp2_with fail
  go_ret
  exact ⟨rfl, b01.trans (hb2.mono (by omega))⟩
end Go.Proofs.YthajalgkjonaaaaGreatDoor
namespace Go.Proofs.YthajalgkjonaaaaGreatDoor
open Go.RowKit
abbrev Oth (T : Nat) (w w' : World) : Prop := w.grownBy w' (some T)
theorem Oth.refl (T : Nat) (w : World) : Oth T w w := ⟨rfl, rfl, rfl, Nat.le_refl _, fun _ _ _ => rfl⟩
theorem Oth.trans {T : Nat} {w w1 w2 : World} (h : Oth T w w1) (h' : Oth T w1 w2) : Oth T w w2 :=
 ⟨h'.os.trans h.os, h'.tape.trans h.tape, h'.output.trans h.output, Nat.le_trans h.size h'.size, fun k hk hn => (h'.block k (Nat.lt_of_lt_of_le hk h.size) hn).trans (h.block k hk hn)⟩
theorem Oth.of_below {T : Nat} {w w' : World} (h : Below w.heap.size w w') : Oth T w w' := ⟨h.os, h.tape, h.output, h.size, fun k hk _ => h.block k hk⟩
theorem Oth.of_new {T : Nat} {w w1 w2 : World} (h : Oth T w w1) (h' : Below w.heap.size w1 w2) : Oth T w w2 :=
 ⟨h'.os.trans h.os, h'.tape.trans h.tape, h'.output.trans h.output, Nat.le_trans h.size h'.size, fun k hk hn => (h'.block k hk).trans (h.block k hk hn)⟩
theorem Oth.set {T j : Nat} (w : World) (v : Value) : Oth T w (w.setCell ⟨T, j, none⟩ v) :=
 ⟨rfl, rfl, rfl, by simp [World.setCell], fun k _ hk => Below.heap_setCell _ _ _ _ (fun e => hk (by simp [e]))⟩
theorem Oth.drew {T : Nat} {w w' : World} (h : Oth T w w') : Oth T w w'.drew := ⟨h.os, h.tape, h.output, h.size, h.block⟩
theorem Oth.cell {T : Nat} {w w' : World} (h : Oth T w w') {p : Addr} (hp : p.block < w.heap.size) (hn : p.block ≠ T) : w'.cell? p = w.cell? p :=
 World.cell?_of_block (h.block _ hp (fun e => hn (Option.some.inj e)))
theorem Oth.heap {T : Nat} {w w' : World} (h : Oth T w w') {k : Nat} {o : Obj} (hk : w.heap[k]? = some o) (hn : k ≠ T) : w'.heap[k]? = some o :=
 (h.block k (lt_of_block hk) (fun e => hn (Option.some.inj e))).trans hk
theorem Oth.below {T B : Nat} {w w1 w2 : World} (h : Below B w w1) (h' : Oth T w1 w2) (hT : B ≤ T) (hB : B ≤ w1.heap.size) : Below B w w2 :=
 ⟨h'.os.trans h.os, h'.tape.trans h.tape, h'.output.trans h.output, Nat.le_trans h.size h'.size, fun k hk => (h'.block k (by omega) (fun e => by have := Option.some.inj e; omega)).trans (h.block k hk)⟩
end Go.Proofs.YthajalgkjonaaaaGreatDoor
namespace Lfc
def words : List (List UInt8) := [[97], [98], [78], [77], [43], [42], [126], [33], [110, 97, 116], [102], [64, 120], [116, 121, 112, 101], []]
theorem words_name (k : Nat) (h : k < 10) : isName (words.getD k []) = true := by
 have : ∀ k : Fin 10, isName (words.getD k.val []) = true := by decide
 exact this ⟨k, h⟩
theorem words_len (k : Nat) : (words.getD k []).length ≤ 4 := by
 by_cases h : k < 13
 ·have : ∀ k : Fin 13, (words.getD k.val []).length ≤ 4 := by decide
  exact this ⟨k, h⟩
 ·have : words.getD k [] = [] := by rw [List.getD_eq_getElem?_getD, List.getElem?_eq_none (by simp [words]; omega)]; rfl
  rw [this]; simp
end Lfc
namespace Go.Proofs.YthajalgkjonaaaaGreatDoor
open Go.RowKit
structure TapeAt (T : Nat) (w : World) : Prop where
 t : ∃ (A : Option Addr) (n c i : Nat), w.heap[T]? = some (.cells #[.slice A n c, .int .i64 (i : Int)] 50 (0, 0)) ∧ i ≤ n ∧ n ≤ maxLen ∧ (0 < n → ∃ b o, A = some ⟨b, o, none⟩ ∧ b < T ∧ ∀ k, k < n → ∃ x, w.cell? ⟨b, o + k, none⟩ = some (.int .i64 x))
 words : ∃ b o c, w.cell? ⟨0, 0, none⟩ = some (.slice (some ⟨b, o, none⟩) 13 c) ∧ b < T ∧ 0 < T ∧ ∀ k, k < 13 → w.cell? ⟨b, o + k, none⟩ = some (S (Lfc.words.getD k []))
theorem TapeAt.lt {T : Nat} {w : World} (h : TapeAt T w) : T < w.heap.size := by
 obtain ⟨A, n, c, i, ht, _⟩ := h.t
 exact lt_of_block ht
theorem TapeAt.below {T : Nat} {w w' : World} (h : TapeAt T w) (hb : Below w.heap.size w w') : TapeAt T w' := by
 have hlt := h.lt
 obtain ⟨A, n, c, i, ht, hi, hn, hc⟩ := h.t
 obtain ⟨b, o, cw, h1, h2, h3, h4⟩ := h.words
 refine ⟨⟨A, n, c, i, (hb.block T hlt).trans ht, hi, hn, fun hp => ?_⟩, ⟨b, o, cw, (hb.cell (p := ⟨_, 0, none⟩) (by simp only; omega)).trans h1, h2, h3, fun k hk => (hb.cell (p := ⟨b, o + k, none⟩) (by simp only; omega)).trans (h4 k hk)⟩⟩
 obtain ⟨b, o, hA, hbT, hx⟩ := hc hp
 refine ⟨b, o, hA, hbT, fun k hk => ?_⟩
 obtain ⟨x, hx⟩ := hx k hk
 exact ⟨x, (hb.cell (p := ⟨b, o + k, none⟩) (by simp only; omega)).trans hx⟩
theorem TapeAt.moved {T : Nat} {w w' : World} (h : TapeAt T w) (ho : Oth T w w') {A : Option Addr} {n c i i' : Nat} (ht : w.heap[T]? = some (.cells #[.slice A n c, .int .i64 (i : Int)] 50 (0, 0))) (ht' : w'.heap[T]? = some (.cells #[.slice A n c, .int .i64 (i' : Int)] 50 (0, 0))) (hi : i' ≤ n) : TapeAt T w' := by
 have hlt := h.lt
 obtain ⟨A0, n0, c0, i0, ht0, _, hn, hc⟩ := h.t
 rw [ht] at ht0
 cases ht0
 obtain ⟨b, o, cw, h1, h2, h3, h4⟩ := h.words
 refine ⟨⟨A, n, c, i', ht', hi, hn, fun hp => ?_⟩, ⟨b, o, cw, (ho.cell (p := ⟨_, 0, none⟩) (by simp only; omega) (by simp only; omega)).trans h1, h2, h3, fun k hk => (ho.cell (p := ⟨b, o + k, none⟩) (by simp only; omega) (by simp only; omega)).trans (h4 k hk)⟩⟩
 obtain ⟨b, o, hA, hbT, hx⟩ := hc hp
 refine ⟨b, o, hA, hbT, fun k hk => ?_⟩
 obtain ⟨x, hx⟩ := hx k hk
 exact ⟨x, (ho.cell (p := ⟨b, o + k, none⟩) (by simp only; omega) (by simp only; omega)).trans hx⟩
set_option maxRecDepth 100000 in
set_option maxHeartbeats 2000000 in
theorem tapeNext_any (T n : Nat) (w : World) (h0 : 0 < n) (h1 : n ≤ 100) (h : TapeAt T w) :
  Calls Tryz.prog 32 #[.pointer (some ⟨T, 0, none⟩), .int .i64 (n : Int)] w fun e w' => (∃ r : Nat, r < n ∧ e = .returned (.int .i64 (r : Int))) ∧ TapeAt T w' ∧ Oth T w w' := by
 obtain ⟨A, l, c, i, ht, hi, hl, hc⟩ := h.t
 have hT := h.lt
 have H := Lib.hid h
 have HT := Lib.hid ht
 have ht0 := Lib.cell_of_heap ht 0
 have ht1 := Lib.cell_of_heap ht 1
 simp at ht0 ht1
 have hf1 := Lib.frozen_of_heap ht 1
 have hl' : l ≤ 9223372036854775807 := by unfold maxLen at hl; omega
 clear h ht hl
 by_cases hil : i < l
 ·obtain ⟨b, o, rfl, hbT, hx⟩ := hc (by omega)
  obtain ⟨x, hx⟩ := hx i hil
  clear hc
  have hd : decide ((i : Int) ≥ (l : Int)) = false := by simp; omega
  obtain ⟨w1, hw1⟩ : ∃ w1, w.setCell ⟨T, 1, none⟩ (.int .i64 ((i : Int) + 1)) = w1 := ⟨_, rfl⟩
  have o1 : Oth T w w1 := by rw [← hw1]; exact Oth.set w _
  have q1 : w1.heap[T]? = some (.cells #[.slice (some ⟨b, o, none⟩) l c, .int .i64 ((i : Int) + 1)] 50 (0, 0)) := by
   rw [← hw1]; simp [World.setCell, Array.getElem?_modify, HT.out]
  have y0 := Lib.cell_of_heap q1 0
  have y1 := Lib.cell_of_heap q1 1
  simp at y0 y1
  have hx1 := (o1.cell (p := ⟨b, o + i, none⟩) (by simp only; omega) (by simp only; omega)).trans hx
  go_enter Tryz.func32, Tryz.ntmps32
  go_upto_region 1 with fail
  refine wp_region_still_tail 9 (by kernel_rfl) (by kernel_rfl) ?_
  simp only [List.take_succ_cons, List.take_zero, List.drop_succ_cons, List.drop_zero]
  change wpStill Tryz.prog _ w.drew _ _ _
  repeat still_step
  try refine wpStill_nil ?_
  change wpList _ _ _ _ _ w.drew
  go_upto_region 4 with fail
  have hq := cutI_lt x n h0
  clear hw1
  have hi2 : IntKind.i64.wrap (i : Int) = (i : Int) := IntWalk.i64_in _ ⟨by omega, by omega⟩
  refine wp_region_still_tail 13 (by kernel_rfl) (by kernel_rfl) ?_
  simp only [List.take_succ_cons, List.take_zero, List.drop_succ_cons, List.drop_zero]
  change wpStill Tryz.prog _ w1.drew.drew _ _ _
  repeat still_step
  still_call (cut_any x n _ h0 (by omega))
  repeat still_step
  try refine wpStill_nil ?_
  change wpList _ _ _ _ _ w1.drew.drew
  go_wp2_with fail
  go_ret
  exact ⟨⟨_, hq, rfl⟩, (H.out.moved o1 HT.out (i' := i + 1) (by simpa using q1) (by omega)).below (Below.refl _ _).drew.drew, o1.drew.drew⟩
 ·have hd : decide ((i : Int) ≥ (l : Int)) = true := by simp; omega
  go_enter Tryz.func32, Tryz.ntmps32
  go_upto_region 1 with fail
  refine wp_region_still_tail 9 (by kernel_rfl) (by kernel_rfl) ?_
  simp only [List.take_succ_cons, List.take_zero, List.drop_succ_cons, List.drop_zero]
  change wpStill Tryz.prog _ w.drew _ _ _
  repeat still_step
  try refine wpStill_nil ?_
  change wpList _ _ _ _ _ w.drew
  go_wp2_with fail
  go_ret
  exact ⟨⟨0, h0, rfl⟩, H.out.below (Below.refl _ _).drew, (Oth.refl _ _).drew⟩
end Go.Proofs.YthajalgkjonaaaaGreatDoor
