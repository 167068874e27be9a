/- The contract of token.Spell. -/
import Derived.Test.YtmdhkcefbkdkbaaDoorSame
import Derived.Laws.MakeOwn
import Derived.Deep.OwnRows
namespace Lfc
def spT (t : Tok) : List UInt8 := if t.kind = 3 then 37 :: t.text else t.text
def spell : List Tok → List UInt8
  | [] => []
  | t :: r => spT t ++ r.flatMap fun u => 32 :: spT u
end Lfc
namespace Go.Proofs.YtmdhkcefbkdkbaaDoor
open Go.RowKit

theorem spell_join (l : List Lfc.Tok) : Lib.join (l.map Lfc.spT) [32] = Lfc.spell l := by
  cases l with
  | nil => rfl
  | cons a r => rw [List.map_cons, Lib.join_cons, Lfc.spell, Lib.joinTail]; simp [List.flatMap, List.map_map]; rfl

theorem spT_le (l : List Lfc.Tok) (t : Lfc.Tok) (h : t ∈ l) : (Lfc.spT t).length ≤ (Lfc.spell l).length := by
  cases l with
  | nil => cases h
  | cons a r =>
    rw [Lfc.spell, List.length_append]
    rcases List.mem_cons.1 h with rfl | h
    · omega
    · have : ((32 : UInt8) :: Lfc.spT t).length ≤ (r.flatMap fun u => (32 : UInt8) :: Lfc.spT u).length := by
        induction r with
        | nil => cases h
        | cons b q ih =>
          rw [List.flatMap_cons, List.length_append]
          rcases List.mem_cons.1 h with rfl | h
          · omega
          · have := ih (List.mem_cons_of_mem _ h) h; omega
      simp at this ⊢; omega
theorem bcons (x : List UInt8) : (⟨#[37]⟩ ++ ⟨x.toArray⟩ : ByteArray) = ⟨(37 :: x).toArray⟩ := by
  apply ByteArray.ext; simp [ByteArray.data_append]

theorem run_make_rowN {P : Program} (t e : TypeId) (i : TypeInfo) (z : Value) (ht : P.underlying t = some (.slice e)) (hi : P.info? e = some i) (hz : i.zero = some z)
    (kl kc : IntKind) (n c : Nat) (hnc : n ≤ c) (hbytes : i.bytes * c ≤ 281474976710656) (h63 : c ≤ 9223372036854775807) (w : World) :
    (Instr.makeSlice t (.int kl (n : Int)) (.int kc (c : Int))).run P w = .ok (.slice (some ⟨w.heap.size, 0, none⟩) n c) (w.alloc (.cells (madeCells z.cells (c * i.size)) e)) := by
  have hb : (i.bytes : Int) * (c : Int) ≤ 281474976710656 := by
    have h : ((i.bytes * c : Nat) : Int) ≤ 281474976710656 := by omega
    rwa [Int.natCast_mul] at h
  have hr := run_make (P := P) w t e i z ht hi hz kl kc n c (by omega) (by omega) hb (by omega)
  simp only [Int.toNat_natCast] at hr
  exact hr

def Blk (w : World) (g : Nat) (t : TypeId) (cs : Array Value) : Prop := w.heap[g]? = some (.cells cs t (0, 0))
section
variable {w w' : World} {g : Nat} {t : TypeId} {cs : Array Value}
theorem Blk.lt (h : Blk w g t cs) : g < w.heap.size := by
  rcases Nat.lt_or_ge g w.heap.size with hlt | hge
  · exact hlt
  · unfold Blk at h; rw [Array.getElem?_eq_none hge] at h; cases h
theorem Blk.cell (h : Blk w g t cs) (i : Nat) : w.cell? ⟨g, i, none⟩ = cs[i]? := cell_of_row w g i cs t (0, 0) h
theorem Blk.frozen (h : Blk w g t cs) (i : Nat) : w.frozen? ⟨g, i, none⟩ = false := by
  unfold Blk at h
  simp [World.frozen?, h]
theorem Blk.new (w : World) (t : TypeId) (cs : Array Value) : Blk (w.alloc (.cells cs t)) w.heap.size t cs := heap_alloc_new w _
theorem Blk.alloc (h : Blk w g t cs) (o : Obj) : Blk (w.alloc o) g t cs := (Below.heap_alloc w o g h.lt).trans h
theorem Blk.set_ (h : Blk w g t cs) (i : Nat) (u : Value) : Blk (w.setCell ⟨g, i, none⟩ u) g t (cs.setIfInBounds i u) := by
  unfold Blk at h ⊢
  simp [World.setCell, Array.getElem?_modify, h]
end

theorem strInfo : (Tryd.prog.info? 9).map (fun i => (i.zero, i.size, i.bytes)) = some (some (.string ⟨#[]⟩), 1, 16) := by kernel_rfl

set_option maxRecDepth 100000 in
set_option maxHeartbeats 2000000 in
theorem spell_any (v : Value) (l : List Lfc.Tok) (w : World) (h : TokAt w v l) (hn : l.length ≤ 100000) (hlen : (Lfc.spell l).length ≤ 1000000) :
    Calls Tryd.prog 22 #[v] w fun e w' => e = .returned (S (Lfc.spell l)) ∧ Below w.heap.size w w' := by
  obtain ⟨A, c, rfl, hc, hA⟩ := h
  obtain ⟨i0, hi, hz0, hz1, hz2⟩ := info_parts strInfo
  have hmk := fun W => run_make_rowN (P := Tryd.prog) 38 9 i0 (.string ⟨#[]⟩) Tryd.underlying38 hi hz0 .i64 .i64 l.length l.length (Nat.le_refl _) (by rw [hz2]; omega) (by omega) W
  rw [hz1, Nat.mul_one] at hmk
  have HA := Lib.hid hA
  clear hA
  have hcs : (madeCells (Value.string ⟨#[]⟩).cells l.length).size = l.length := by simp [madeCells]
  generalize hM : madeCells (Value.string ⟨#[]⟩).cells l.length = M at *
  have HM := Lib.hid hcs
  clear hM hcs
  go_enter Tryd.func22, Tryd.ntmps22
  go_wp2_with fail
  clear hmk
  go_loopw [11] (fun i wr => ∃ (k : Nat) (arr : Array Value), k ≤ l.length ∧ i = .int .i64 k ∧ Below w.heap.size w wr ∧ Blk wr w.heap.size 9 arr ∧ Hid (arr.size = l.length ∧ ∀ j t, j < k → l[j]? = some t → arr[j]? = some (S (Lfc.spT t)))) (fun i _ => l.length - (intOf i).toNat)
  case atStart => exact ⟨0, M, by omega, rfl, (Below.refl _ _).alloc (Nat.le_refl _) _, Blk.new _ _ _, Lib.hid ⟨HM.out, fun j t hj => by omega⟩⟩
  case round =>
    obtain ⟨k, arr, hk, rfl, hbw, hblk, hr⟩ := hrel
    by_cases hlt : k < l.length
    · obtain ⟨b, o, rfl, hb, hcs⟩ := HA.out (by omega)
      obtain ⟨a0, a1, a2⟩ := hcs k l[k] (List.getElem?_eq_getElem hlt)
      have a0' := (hbw.cell (p := ⟨b, _, none⟩) hb).trans a0
      have a1' := (hbw.cell (p := ⟨b, _, none⟩) hb).trans a1
      have a2' := (hbw.cell (p := ⟨b, _, none⟩) hb).trans a2
      clear a0 a1 a2 hcs
      have hv : wr.cell? ⟨w.heap.size, k, none⟩ = some (arr[k]'(by rw [hr.out.1]; exact hlt)) := by rw [hblk.cell k]; exact Array.getElem?_eq_getElem _
      have hfr := hblk.frozen k
      have hlt' := hblk.lt
      generalize hT : l[k] = T at *
      have HT := Lib.hid hT
      clear hT
      have htl : T.text.length ≤ 1000000 := by
        have h1 := spT_le l T (by rw [← HT.out]; exact List.getElem_mem _)
        have h2 : T.text.length ≤ (Lfc.spT T).length := by unfold Lfc.spT; split <;> simp
        omega
      by_cases h3 : T.kind = 3
      · have hk3 : (T.kind == 3) = true := by simp [h3]
        have hsp : Lfc.spT T = 37 :: T.text := by simp [Lfc.spT, h3]
        have Hsp := Lib.hid hsp
        clear h3 hsp
        go_wp2_with fail
        go_roundw
        case rel =>
          refine ⟨k + 1, ((arr.setIfInBounds k (S T.text)).setIfInBounds k (.string (⟨#[37]⟩ ++ ⟨T.text.toArray⟩))), by omega, by go_num, (((hbw.setCell (Nat.le_refl _) _).setCell (Nat.le_refl _) _).alloc (by simp; omega) _), (((hblk.set_ k _).set_ k _).alloc _), Lib.hid ⟨by simp [hr.out.1], fun j t hj ht => ?_⟩⟩
          rcases Nat.lt_or_ge j k with h1 | h1
          · have := hr.out.2 j t h1 ht
            simp [show k ≠ j by omega, this]
          · obtain rfl : j = k := by omega
            obtain rfl : t = T := by rw [← HT.out]; rw [List.getElem?_eq_getElem hlt] at ht; exact (Option.some.inj ht).symm
            have hsz : j < arr.size := by rw [hr.out.1]; exact hlt
            rw [Hsp.out]
            simp [hsz, bcons]
        case measure => simp [intOf]; omega
      · have hk3 : (T.kind == 3) = false := by simp [h3]
        have hsp : Lfc.spT T = T.text := by simp [Lfc.spT, h3]
        have Hsp := Lib.hid hsp
        clear h3 hsp
        go_wp2_with fail
        go_roundw
        case rel =>
          refine ⟨k + 1, (arr.setIfInBounds k (S T.text)), by omega, by go_num, ((hbw.setCell (Nat.le_refl _) _).alloc (by simp; omega) _), ((hblk.set_ k _).alloc _), Lib.hid ⟨by simp [hr.out.1], fun j t hj ht => ?_⟩⟩
          rcases Nat.lt_or_ge j k with h1 | h1
          · have := hr.out.2 j t h1 ht
            simp [show k ≠ j by omega, this]
          · obtain rfl : j = k := by omega
            obtain rfl : t = T := by rw [← HT.out]; rw [List.getElem?_eq_getElem hlt] at ht; exact (Option.some.inj ht).symm
            have hsz : j < arr.size := by rw [hr.out.1]; exact hlt
            rw [Hsp.out]
            simp [hsz]
        case measure => simp [intOf]; omega
    · have hkl : k = l.length := by omega
      have Hk := Lib.hid hkl
      clear hkl
      go_wp2_with fail
      have hj := Tryd.strings_Join w.heap.size 0 l.length (l.map fun t => (⟨(Lfc.spT t).toArray⟩ : ByteArray)) ⟨#[32]⟩ wr (fun j x hx => by
        rw [List.getElem?_map] at hx
        cases ht : l[j]? with
        | none => rw [ht] at hx; cases hx
        | some t =>
          rw [ht] at hx
          cases hx
          rw [Nat.zero_add, hblk.cell j]
          exact hr.out.2 j t (by rw [Hk.out]; exact (List.getElem?_eq_some_iff.1 ht).1) ht) hblk.lt (by simp; omega) (by simp) (by
        rw [List.map_map]; exact Nat.le_trans (Nat.le_of_eq (congrArg List.length (spell_join l))) (by omega))
      rw [List.length_map] at hj
      refine hj.mono ?_
      rintro e w1 ⟨rfl, hb1⟩
      go_wp2_with fail
      go_ret
      refine ⟨?_, hbw.trans (hb1.mono hbw.size)⟩
      rw [← spell_join]
      rfl
end Go.Proofs.YtmdhkcefbkdkbaaDoor
