/- Parts of the proof that no input makes the law false: Leaf, New, RawMem, Oth, OrTape, FrameO, Names, TmForm, TmObj, TmKind. -/
import Derived.WalkKit
import Derived.WalkSpells
import Derived.WalkLawsBesides
import Derived.Lib.Hide
import Derived.Shelf.Abstract
import Derived.Test.YtadjpadieljjlaaGreatRows
import Derived.Test.YtadjpadieljjlaaGreatShelf
import Derived.Deep.RegionHeld
import Derived.Lib.Builder
import Derived.StillTail
import Derived.StillTailTactics
import Derived.Deep.DeepCutAuto
import Derived.Deep.CutBlock
import Derived.Laws.IdiomStrings
import Derived.Lib.AppendStr
import Derived.Lib.BufferRead
import Derived.ProofKit
import Derived.OpenShut
import Derived.LaidMore
import Derived.Deep.DeepHandedRow
import Derived.Deep.DeepWitnessRowRef
import Derived.Laws.EntriesVeiled
import Derived.Test.YtadjpadieljjlaaGreatWvAA
set_option linter.unusedVariables false
set_option linter.unusedSimpArgs false
set_option maxRecDepth 100000
set_option maxHeartbeats 32000000
namespace Go.Proofs.YtadjpadieljjlaaGreat
open Go.RowKit
abbrev B(c:UInt8):Value:=.int .u8 (c.toNat:Int)
abbrev S(l:List UInt8):Value:=.string ⟨l.toArray⟩
theorem bsize(l:List UInt8):(⟨l.toArray⟩:ByteArray).size=l.length:=by simp[ByteArray.size]
@[go_sem] theorem bget (l:List UInt8) (k:Nat) (h:k<(⟨l.toArray⟩:ByteArray).size):(⟨l.toArray⟩:ByteArray)[k]=l[k]'(by rw[bsize] at h;exact h):=rfl
@[go_sem] theorem bext (l:List UInt8) (a b:Nat):(⟨l.toArray⟩:ByteArray).extract a b=⟨((l.drop a).take (b-a)).toArray⟩:=by
 apply ByteArray.ext;apply Array.ext';rw[ByteArray.data_extract,Array.toList_extract]
@[go_sem] theorem takeRest (l:List UInt8) (a:Nat):(l.drop a).take (l.length-a)=l.drop a:=List.take_of_length_le (by rw[List.length_drop];omega)
theorem ret_bool{a b:Bool}(h:a=b):Ending.returned (.bool a)=.returned (.bool b):=by rw[h]
theorem ret_int{k:IntKind}{a b:Int}(h:a=b):Ending.returned (.int k a)=.returned (.int k b):=by rw[h]
set_option maxHeartbeats 1000000 in
theorem rSpecial_any(c:UInt8)(w:World):Calls Tryz.prog 127 #[B c] w fun e w'=>e=.returned (.bool (Lfc.specialB c))∧w=w':=by
 go_enter Tryz.func127,Tryz.ntmps127;go_wp2;all_goals
  go_ret;exact⟨ret_bool (by rw[Bool.eq_iff_iff];simp[Lfc.specialB] <;> omega),rfl⟩
set_option maxHeartbeats 1000000 in
theorem rNameByte_any(c:UInt8)(w:World):Calls Tryz.prog 118 #[B c] w fun e w'=>e=.returned (.bool (Lfc.nameB c))∧w=w':=by
 go_enter Tryz.func118,Tryz.ntmps118;go_wp2_with (go_at_call 127;refine(rSpecial_any c _).mono ?_;rintro e w'⟨rfl,rfl⟩);all_goals
  go_ret;exact⟨ret_bool (by rw[Bool.eq_iff_iff];simp[Lfc.nameB,Lfc.specialB] at * <;> omega),rfl⟩
theorem idx_neg(l:List UInt8)(c:UInt8):(Lib.indexByte l c<0)↔¬c∈l:=by
 constructor
 ·intro h hm;have h1:=Lib.indexByte_ge l c;obtain⟨k,hk⟩:=List.mem_iff_getElem?.1 hm;exact Lib.indexByte_none (by omega) k hk
 intro h;rcases Int.lt_or_le (Lib.indexByte l c) 0 with h0 | h0
 ·exact h0
 obtain⟨o,ho⟩:=Int.eq_ofNat_of_zero_le h0;exact absurd (List.mem_iff_getElem?.2 ⟨o,(Lib.indexByte_some ho).1⟩) h
theorem mem_name(c:UInt8):c∈[(40:UInt8),41,91,93,123,125,58,46,37]↔((c.toNat=40∨c.toNat=41∨c.toNat=91∨c.toNat=93∨c.toNat=123∨c.toNat=125∨c.toNat=58∨c.toNat=46)∨c.toNat=37):=by
 simp[←UInt8.toNat_inj];omega
theorem idxName_any(c:UInt8)(w:World):Calls Tryz.prog 130 #[.string ⟨#[40,41,91,93,123,125,58,46,37]⟩,B c] w fun e w'=>∃i:Int,e=.returned (.int .i64 i)∧(i<0↔¬((c.toNat=40∨c.toNat=41∨c.toNat=91∨c.toNat=93∨c.toNat=123∨c.toNat=125∨c.toNat=58∨c.toNat=46)∨c.toNat=37))∧w=w':=by
 refine(Tryz.strings_IndexByte _ _ _).mono ?_;rintro e w'⟨rfl,rfl⟩;refine⟨_,rfl,?_,rfl⟩;rw[idx_neg,show((c.toNat:Int).toNat.toUInt8)=c by simp,←mem_name]
set_option maxRecDepth 100000 in
set_option maxHeartbeats 1000000 in
theorem nameByte_any(c:UInt8)(w:World):Calls Tryz.prog 122 #[B c] w fun e w'=>e=.returned (.bool (Lfc.nameB c))∧w=w':=by
 go_enter Tryz.func122,Tryz.ntmps122;go_wp2_with (go_at_call 130;refine(idxName_any _ _).mono ?_;rintro e w'⟨i,rfl,hi,rfl⟩;have Hi:=Lib.hid hi;clear hi)
 ·go_ret;have hi:=Hi.out;exact⟨ret_bool (by rw[Bool.eq_iff_iff];simp[Lfc.nameB,hi] at * <;> omega),rfl⟩
 all_goals
  go_ret;exact⟨ret_bool (by rw[Bool.eq_iff_iff];simp[Lfc.nameB] at * <;> omega),rfl⟩
set_option maxHeartbeats 1000000 in
theorem reserved_any(l:List UInt8)(w:World):Calls Tryz.prog 123 #[S l] w fun e w'=>e=.returned (.bool (Lfc.reservedB l))∧w=w':=by
 go_enter Tryz.func123,Tryz.ntmps123;go_wp2;all_goals
  go_ret;exact⟨ret_bool (by simp_all [Lfc.reservedB]),rfl⟩
set_option maxHeartbeats 1000000 in
theorem rReserved_any(l:List UInt8)(w:World):Calls Tryz.prog 117 #[S l] w fun e w'=>e=.returned (.bool (Lfc.reservedB l))∧w=w':=by
 go_enter Tryz.func117,Tryz.ntmps117;go_wp2;all_goals
  go_ret;exact⟨ret_bool (by simp_all [Lfc.reservedB]),rfl⟩
theorem runLen_drop(p:UInt8→Bool)(l:List UInt8)(k:Nat)(h:k<l.length):Lfc.runLen p (l.drop k)=if p l[k] then Lfc.runLen p (l.drop (k+1))+1 else 0:=by
 rw[List.drop_eq_getElem_cons h,Lfc.runLen]
set_option maxHeartbeats 1000000 in
theorem run_any(f:FuncId)(he:∀args w,(callFunc f args).run Tryz.prog w=.ok (.enter f args) w)(p:UInt8→Bool)(hf:∀c w,Calls Tryz.prog f #[B c] w fun e w'=>e=.returned (.bool (p c))∧w=w')(l:List UInt8)(at_:Nat)(w:World)(hl:l.length≤65536)(ha:at_≤l.length) :
  Calls Tryz.prog 121 #[S l,.int .i64 at_,.func (.func f) #[] #[]] w fun e w'=>e=.returned (.int .i64 ((at_+Lfc.runLen p (l.drop at_):Nat):Int))∧w=w':=by
 have Hf:=Lib.hid hf;clear hf;go_enter Tryz.func121,Tryz.ntmps121;go_wp2_with fail
 go_loop [1] (fun i=>∃k:Nat,k≤l.length∧i=.int .i64 k∧Hid (k+Lfc.runLen p (l.drop k)=at_+Lfc.runLen p (l.drop at_))) (fun i=>l.length-(intOf i).toNat)
 case atStart=>exact⟨at_,ha,rfl,Lib.hid rfl⟩
 obtain⟨k,hk,rfl,hr⟩:=hrel;by_cases hlt:k<l.length
 ·have hd:=runLen_drop p l k hlt;cases hp:p l[k]
  ·rw[hp] at hd;have Hd:=Lib.hid hd;have Hp:=Lib.hid hp;clear hd hp;go_wp2_with fail;refine(Hf.out _ _).mono ?_;rintro e w'⟨rfl,rfl⟩;rw[Hp.out];go_wp2_with fail;go_ret;exact⟨ret_int (by have:=Hd.out;have:=hr.out;simp at *;omega),rfl⟩
  rw[hp] at hd;have Hd:=Lib.hid hd;have Hp:=Lib.hid hp;clear hd hp;go_wp2_with fail;refine(Hf.out _ _).mono ?_;rintro e w'⟨rfl,rfl⟩;rw[Hp.out];go_wp2_with fail
  go_round
  case rel=>exact⟨k+1,by omega,by go_num,Lib.hid (by have:=Hd.out;have:=hr.out;simp at *;omega)⟩
  case measure=>simp[intOf];omega
 go_wp2_with fail;go_ret;have hk':k=l.length:=by omega
 exact⟨ret_int (by have:=hr.out;subst hk';simp[Lfc.runLen] at *;omega),rfl⟩
theorem runName_any(l:List UInt8)(at_:Nat)(w:World)(hl:l.length≤65536)(ha:at_≤l.length) :
  Calls Tryz.prog 121 #[S l,.int .i64 at_,.func (.func 122) #[] #[]] w fun e w'=>e=.returned (.int .i64 ((at_+Lfc.runLen Lfc.nameB (l.drop at_):Nat):Int))∧w=w' :=
 run_any 122 (enters_of Tryz.func122 (by kernel_rfl) rfl) _ nameByte_any l at_ w hl ha
end Go.Proofs.YtadjpadieljjlaaGreat
namespace Go.RowKit
theorem Hid.o {p : Prop} (h : Hid p) : p := h.out
end Go.RowKit
namespace Go.Proofs.YtadjpadieljjlaaGreat
section
open Go.RowKit
abbrev zc (W : World) (b o : Nat) (v : Value) : Prop := W.cell? ⟨b, o, none⟩ = some v
abbrev zb (w w' : World) : Prop := Below w.heap.size w w'
abbrev zk (W : World) (b : Nat) (c : Array Value) (t : TypeId) : Prop := W.heap[b]? = some (.cells c t (0, 0))
abbrev zI (x : Int) : Value := .int .i64 x
abbrev zS : Value := .slice none 0 0
abbrev zT {α : Type} (k : Int) (n : List UInt8) (p : Int) (A : Option Addr) (ts : List α) (c : Nat) : Array Value := #[.int .i64 k, S n, .int .i64 p, .slice A ts.length c]
theorem zG {w w1 : World} {o : Obj} (h : w.alloc o = w1) : Below w.heap.size w w1 := by rw [← h]; exact (Below.refl _ _).alloc (Nat.le_refl _) _
theorem zQ {w w1 : World} {c : Array Value} {t : TypeId} (h : w.alloc (.cells c t) = w1) : w1.heap[w.heap.size]? = some (.cells c t (0, 0)) := by rw [← h]; exact heap_alloc_new _ _
theorem zH {p : Prop} (h : p) : Hid p := h
theorem zC {w : World} {b : Nat} {cs : Array Value} {T : TypeId} {fr : Nat × Nat} (hb : w.heap[b]? = some (.cells cs T fr)) (j : Nat) : w.cell? ⟨b, j, none⟩ = cs[j]? := Lib.cell_of_heap hb j
theorem zF {w : World} {b : Nat} {cs : Array Value} {T : TypeId} (hb : w.heap[b]? = some (.cells cs T (0, 0))) (j : Nat) : w.frozen? ⟨b, j, none⟩ = false := Lib.frozen_of_heap hb j
theorem zL {w : World} {b : Nat} {o : Obj} (h : w.heap[b]? = some o) : b < w.heap.size := lt_of_block h
theorem zA (w : World) (o : Obj) (i : Nat) (h : i < w.heap.size) : (w.alloc o).heap[i]? = w.heap[i]? := Lib.alloc_old w o i h
theorem zW (w : World) (o : Obj) : (w.alloc o).heap[w.heap.size]? = some o := heap_alloc_new w o
theorem zO {α : Type} {a b : α} (h : some a = some b) : a = b := Option.some.inj h
theorem zN (n : Nat) : n ≤ n := Nat.le_refl n
theorem zB (B : Nat) (w : World) : Below B w w := Below.refl B w
theorem zU {w w' : World} {b j : Nat} {v : Value} {cs cs' : Array Value} {T : TypeId} {fr : Nat × Nat} (h : w.heap[b]? = some (.cells cs T fr)) (e : w.setCell ⟨b, j, none⟩ v = w') (hc : cs.setIfInBounds j v = cs' := by rfl) : w'.heap[b]? = some (.cells cs' T fr) := by subst e; subst hc; simp [World.setCell, Array.getElem?_modify, h]
theorem zJ {a b : Prop} (x : a) (y : b) : Hid (a ∧ b) := zH ⟨x, y⟩
theorem Zd {p : Prop} [Decidable p] : (decide p = true) = p := decide_eq_true_eq
theorem Zf {p : Prop} [Decidable p] : decide p = false ↔ ¬p := decide_eq_false_iff_not
theorem Zt {p : Prop} [Decidable p] (h : p) : decide p = true := decide_eq_true h
theorem Zu {p : Prop} [Decidable p] (h : ¬p) : decide p = false := decide_eq_false h
theorem zR {a b c : Nat} (h : a ≤ b) (k : b ≤ c) : a ≤ c := Nat.le_trans h k
theorem Zl {a b c : Nat} (h : a < b) (k : b ≤ c) : a < c := Nat.lt_of_lt_of_le h k
theorem zM {α : Type _} {xs : Array α} {i j : Nat} {f : α → α} : (xs.modify i f)[j]? = if i = j then xs[j]?.map f else xs[j]? := Array.getElem?_modify
theorem zP (n : Nat) : (0 : Int) ≤ (n : Int) := Int.natCast_nonneg n
theorem Ze {α : Type _} {l : List α} {n : Nat} (h : n < l.length) : l[n] ∈ l := List.getElem_mem h
theorem Zi (x : Int) (h : -9223372036854775808 ≤ x ∧ x ≤ 9223372036854775807) : IntKind.i64.wrap x = x := IntWalk.i64_in x h
theorem Za (a b : Bool) : ((a && b) = true) = (a = true ∧ b = true) := Bool.and_eq_true a b
theorem Zq {α : Type _} {l m : List α} : (l ++ m).length = l.length + m.length := List.length_append
theorem Zg {α : Type _} {l : List α} {i : Nat} (h : i < l.length) : l[i]? = some l[i] := List.getElem?_eq_getElem h
theorem Zz {α : Type _} {l : List α} (h : l.length = 0) : l = [] := List.length_eq_zero_iff.1 h
theorem Zm {α : Type _} {i : Nat} {l : List α} (h : i < l.length) : l.take (i + 1) = l.take i ++ [l[i]] := List.take_succ_eq_append_getElem h
theorem Zc {α : Type _} {a : α} {l : List α} {i : Nat} : (a :: l).take (i + 1) = a :: l.take i := List.take_succ_cons
theorem Zb {P : Program} {fn : Func} {R : Ending → World → Prop} {a : Act} {w : World} {v : Value} (hr : (results fn a.tmps).run P w = .ok v w) (hR : R (.returned v) w) (hd : a.defers = [] := by rfl) : bodyPost P fn R .ret a w := bodyPost_ret hr hd hR
theorem Zs {P : Program} {id : Nat} {Q : Exit → Act → World → Prop} {a : Act} {w : World} {l : List Oper} (n : Nat) (h : wpStill P l.toArray { w with drawn := w.drawn + 1 } (fun a' => wpList P l.toArray Q (l.drop n) a' { w with drawn := w.drawn + 1 }) (l.take n) a) (hm : P.follows .mixedOrders = true := by kernel_rfl) (hB : Region.lexTailB .any l.toArray n = true := by kernel_rfl) : (Code.region id l.toArray true).wp P Q a w := wp_region_still_tail n hm hB h
section
variable {P : Program} {ops : Array Oper} {Q : Exit → Act → World → Prop} {md : Region.Mode} {S : World → Prop} {fuel : Nat} {l : Array Bool} {a : Act} {w : World}
theorem rd1 (i0 : Nat) {o0 : Oper} (h0 : ∀ K' : Act → World → Prop, Shut (∀ a w, S w → (S w → wpAnyH P md ops Q S fuel (l.setIfInBounds i0 true) a w) → K' a w) → if Region.wanted o0 (yielded ops a.tmps) = true then Oper.wp P o0 a w K' Q else K' (a.put o0.dst undef) w) (e0 : ops[i0]? = some o0 := by rfl) (hr : Region.ready md ops l = [i0] := by kernel_rfl) : wpAnyH P md ops Q S (fuel + 1) l a w := wpAnyH_ready hr (by simp) (AllReadyH.cons e0 h0 AllReadyH.nil)
theorem rd2 (i0 i1 : Nat) {o0 o1 : Oper} (h0 : ∀ K' : Act → World → Prop, Shut (∀ a w, S w → (S w → wpAnyH P md ops Q S fuel (l.setIfInBounds i0 true) a w) → K' a w) → if Region.wanted o0 (yielded ops a.tmps) = true then Oper.wp P o0 a w K' Q else K' (a.put o0.dst undef) w) (h1 : ∀ K' : Act → World → Prop, Shut (∀ a w, S w → (S w → wpAnyH P md ops Q S fuel (l.setIfInBounds i1 true) a w) → K' a w) → if Region.wanted o1 (yielded ops a.tmps) = true then Oper.wp P o1 a w K' Q else K' (a.put o1.dst undef) w) (e0 : ops[i0]? = some o0 := by rfl) (e1 : ops[i1]? = some o1 := by rfl) (hr : Region.ready md ops l = [i0, i1] := by kernel_rfl) : wpAnyH P md ops Q S (fuel + 1) l a w := wpAnyH_ready hr (by simp) (AllReadyH.cons e0 h0 (AllReadyH.cons e1 h1 AllReadyH.nil))
theorem rd3 (i0 i1 i2 : Nat) {o0 o1 o2 : Oper} (h0 : ∀ K' : Act → World → Prop, Shut (∀ a w, S w → (S w → wpAnyH P md ops Q S fuel (l.setIfInBounds i0 true) a w) → K' a w) → if Region.wanted o0 (yielded ops a.tmps) = true then Oper.wp P o0 a w K' Q else K' (a.put o0.dst undef) w) (h1 : ∀ K' : Act → World → Prop, Shut (∀ a w, S w → (S w → wpAnyH P md ops Q S fuel (l.setIfInBounds i1 true) a w) → K' a w) → if Region.wanted o1 (yielded ops a.tmps) = true then Oper.wp P o1 a w K' Q else K' (a.put o1.dst undef) w) (h2 : ∀ K' : Act → World → Prop, Shut (∀ a w, S w → (S w → wpAnyH P md ops Q S fuel (l.setIfInBounds i2 true) a w) → K' a w) → if Region.wanted o2 (yielded ops a.tmps) = true then Oper.wp P o2 a w K' Q else K' (a.put o2.dst undef) w) (e0 : ops[i0]? = some o0 := by rfl) (e1 : ops[i1]? = some o1 := by rfl) (e2 : ops[i2]? = some o2 := by rfl) (hr : Region.ready md ops l = [i0, i1, i2] := by kernel_rfl) : wpAnyH P md ops Q S (fuel + 1) l a w := wpAnyH_ready hr (by simp) (AllReadyH.cons e0 h0 (AllReadyH.cons e1 h1 (AllReadyH.cons e2 h2 AllReadyH.nil)))
theorem rd4 (i0 i1 i2 i3 : Nat) {o0 o1 o2 o3 : Oper} (h0 : ∀ K' : Act → World → Prop, Shut (∀ a w, S w → (S w → wpAnyH P md ops Q S fuel (l.setIfInBounds i0 true) a w) → K' a w) → if Region.wanted o0 (yielded ops a.tmps) = true then Oper.wp P o0 a w K' Q else K' (a.put o0.dst undef) w) (h1 : ∀ K' : Act → World → Prop, Shut (∀ a w, S w → (S w → wpAnyH P md ops Q S fuel (l.setIfInBounds i1 true) a w) → K' a w) → if Region.wanted o1 (yielded ops a.tmps) = true then Oper.wp P o1 a w K' Q else K' (a.put o1.dst undef) w) (h2 : ∀ K' : Act → World → Prop, Shut (∀ a w, S w → (S w → wpAnyH P md ops Q S fuel (l.setIfInBounds i2 true) a w) → K' a w) → if Region.wanted o2 (yielded ops a.tmps) = true then Oper.wp P o2 a w K' Q else K' (a.put o2.dst undef) w) (h3 : ∀ K' : Act → World → Prop, Shut (∀ a w, S w → (S w → wpAnyH P md ops Q S fuel (l.setIfInBounds i3 true) a w) → K' a w) → if Region.wanted o3 (yielded ops a.tmps) = true then Oper.wp P o3 a w K' Q else K' (a.put o3.dst undef) w) (e0 : ops[i0]? = some o0 := by rfl) (e1 : ops[i1]? = some o1 := by rfl) (e2 : ops[i2]? = some o2 := by rfl) (e3 : ops[i3]? = some o3 := by rfl) (hr : Region.ready md ops l = [i0, i1, i2, i3] := by kernel_rfl) : wpAnyH P md ops Q S (fuel + 1) l a w := wpAnyH_ready hr (by simp) (AllReadyH.cons e0 h0 (AllReadyH.cons e1 h1 (AllReadyH.cons e2 h2 (AllReadyH.cons e3 h3 AllReadyH.nil))))
theorem Zw (h : Q .normal a w) (n : Nat) (hr : Region.ready md ops l = [] := by kernel_rfl) : wpAnyH P md ops Q S n l a w := wpAnyH_done hr h n
theorem zX (i : Nat) {oi : Oper} (h : wpAnyH P md ops Q S fuel (l.setIfInBounds i true) (a.put oi.dst undef) w) (hi : ops[i]? = some oi := by rfl) (hs : Region.noSelect ops = true := by kernel_rfl) (hf : Region.free md ops l i = true := by kernel_rfl) (hr : (Region.ready md ops l).contains i = true := by kernel_rfl) (hy : YieldsIf P ops S oi undef a := by exact Or.inr ⟨by rfl, rfl⟩) (hQ : ∀ c a w, Q (.panic c) (a.put oi.dst undef) w → Q (.panic c) a w := by exact fun _ _ _ h => h) (hS : S w := by assumption) : wpAnyH P md ops Q S (fuel + 1) l a w := wpAnyH_take hi hs hf hr hQ hy hS h
end
end
section
open Go.RowKit _root_.Lfc
mutual
def TreeC(w:World):Raw→Value→Value→Value→Value→Prop
 |.node k n p ts,v0,v1,v2,v3=>v0=.int .i64 k∧v1=S n∧n.length≤1000000∧v2=.int .i64 p∧∃A c,v3=.slice A ts.length c∧ts.length≤c∧(ts≠[]→∃b o,A=some ⟨b,o,none⟩∧b<w.heap.size∧TreesO w b ts o)
def TreesO(w:World)(b:Nat):List Raw→Nat→Prop
 |[],_=>True
 |t :: r,o=>(∃v0 v1 v2 v3,w.cell? ⟨b,o,none⟩=some v0∧w.cell? ⟨b,o+1,none⟩=some v1∧w.cell? ⟨b,o+2,none⟩=some v2∧w.cell? ⟨b,o+3,none⟩=some v3∧TreeC w t v0 v1 v2 v3)∧TreesO w b r (o+4)
end
mutual
theorem TreeC.below{w w':World}(hb:Below w.heap.size w w'):∀(t:Raw)(v0 v1 v2 v3:Value),TreeC w t v0 v1 v2 v3→TreeC w' t v0 v1 v2 v3
 |.node k n p ts,v0,v1,v2,v3,h=>by
  rw[TreeC] at h ⊢;obtain⟨h0,h1,hn,h2,A,c,h3,h4,h5⟩:=h;refine⟨h0,h1,hn,h2,A,c,h3,h4,fun hne=>?_⟩;obtain⟨b,o,hA,hlt,hts⟩:=h5 hne;exact⟨b,o,hA,Zl hlt hb.size,TreesO.below hb ts b o hlt hts⟩
theorem TreesO.below{w w':World}(hb:Below w.heap.size w w'):∀(ts:List Raw)(b o:Nat),b<w.heap.size→TreesO w b ts o→TreesO w' b ts o
 |[],_,_,_,_=>by rw[TreesO];trivial
 |t :: r,b,o,hlt,h=>by
  rw[TreesO] at h ⊢;obtain⟨⟨v0,v1,v2,v3,c0,c1,c2,c3,ht⟩,hr⟩:=h;exact⟨⟨v0,v1,v2,v3,(hb.cell (p:=⟨b,_,none⟩) hlt).trans c0,(hb.cell (p:=⟨b,_,none⟩) hlt).trans c1,(hb.cell (p:=⟨b,_,none⟩) hlt).trans c2,(hb.cell (p:=⟨b,_,none⟩) hlt).trans c3,TreeC.below hb t v0 v1 v2 v3 ht⟩,TreesO.below hb r b (o+4) hlt hr⟩
end
theorem TreesO.at_{w:World}{b:Nat}:∀(ts:List Raw)(o i:Nat)(t:Raw),TreesO w b ts o→ts[i]?=some t →
  ∃v0 v1 v2 v3,w.cell? ⟨b,o+i*4,none⟩=some v0∧w.cell? ⟨b,o+i*4+1,none⟩=some v1∧w.cell? ⟨b,o+i*4+2,none⟩=some v2∧w.cell? ⟨b,o+i*4+3,none⟩=some v3∧TreeC w t v0 v1 v2 v3:=by
 intro ts;induction ts with
 |nil=>intro o i t _ h;simp at h
 |cons a r ih =>
  intro o i t h hi;rw[TreesO] at h;cases i with
  |zero=>simp at hi;subst hi;simpa using h.1
  |succ i =>
   have:=ih (o+4) i t h.2 (by simpa using hi);rw[show o+(i+1)*4=o+4+i*4 by omega];exact this
def TreeV(w:World)(t:Raw)(v:Value):Prop:=∃v0 v1 v2 v3,v=.agg #[v0,v1,v2,v3]∧TreeC w t v0 v1 v2 v3
theorem TreeV.below{w w':World}{t:Raw}{v:Value}(h:TreeV w t v)(hb:Below w.heap.size w w'):TreeV w' t v:=by
 obtain⟨v0,v1,v2,v3,rfl,h⟩:=h;exact⟨v0,v1,v2,v3,rfl,TreeC.below hb t _ _ _ _ h⟩
def TreesAt(w:World)(A:Option Addr)(ts:List Raw):Prop:=ts≠[]→∃b o,A=some ⟨b,o,none⟩∧b<w.heap.size∧TreesO w b ts o
theorem TreesAt.below{w w':World}{A:Option Addr}{ts:List Raw}(h:TreesAt w A ts)(hb:Below w.heap.size w w'):TreesAt w' A ts:=fun hne=>by
 obtain⟨b,o,hA,hlt,h⟩:=h hne;exact⟨b,o,hA,Zl hlt hb.size,TreesO.below hb ts b o hlt h⟩
theorem TreeV.open_{w:World}{k p:Int}{n:List UInt8}{ts:List Raw}{v:Value}(h:TreeV w (.node k n p ts) v):∃A c,v=.agg #[.int .i64 k,S n,.int .i64 p,.slice A ts.length c]∧ts.length≤c∧TreesAt w A ts:=by
 obtain⟨v0,v1,v2,v3,rfl,h⟩:=h;rw[TreeC] at h;obtain⟨rfl,rfl,_,rfl,A,c,rfl,hc,h⟩:=h;exact⟨A,c,rfl,hc,h⟩
theorem TreeV.name_le{w:World}{k p:Int}{n:List UInt8}{ts:List Raw}{v:Value}(h:TreeV w (.node k n p ts) v):n.length≤1000000:=by
 obtain⟨v0,v1,v2,v3,rfl,h⟩:=h;rw[TreeC] at h;exact h.2.2.1
theorem TreeV.mk{w:World}{k p:Int}{n:List UInt8}{ts:List Raw}{A:Option Addr}{c:Nat}(hn:n.length≤1000000)(hc:ts.length≤c)(h:TreesAt w A ts):TreeV w (.node k n p ts) (.agg #[.int .i64 k,S n,.int .i64 p,.slice A ts.length c]) :=
 ⟨_,_,_,_,rfl,by rw[TreeC];exact⟨rfl,rfl,hn,rfl,A,c,rfl,hc,h⟩⟩
theorem TreesAt.at_{w:World}{A:Option Addr}{ts:List Raw}(h:TreesAt w A ts){i:Nat}(hi:i<ts.length) :
  ∃b o k n p us B c,A=some ⟨b,o,none⟩∧b<w.heap.size∧ts[i]=.node k n p us∧w.cell? ⟨b,o+i*4,none⟩=some (.int .i64 k)∧w.cell? ⟨b,o+i*4+1,none⟩=some (S n)∧w.cell? ⟨b,o+i*4+2,none⟩=some (.int .i64 p)∧w.cell? ⟨b,o+i*4+3,none⟩=some (.slice B us.length c) ∧
   us.length≤c∧TreesAt w B us∧TreeV w ts[i] (.agg #[.int .i64 k,S n,.int .i64 p,.slice B us.length c]):=by
 obtain⟨b,o,hA,hlt,hts⟩:=h (by intro h0;rw[h0] at hi;simp at hi);obtain⟨v0,v1,v2,v3,c0,c1,c2,c3,ht⟩:=TreesO.at_ ts o i ts[i] hts (Zg hi);cases ht':ts[i] with
 |node k n p us =>
  rw[ht'] at ht;have htv:TreeV w (.node k n p us) (.agg #[v0,v1,v2,v3]):=⟨v0,v1,v2,v3,rfl,ht⟩;rw[TreeC] at ht;obtain⟨rfl,rfl,_,rfl,B,c,rfl,hc,hB⟩:=ht;exact⟨b,o,k,n,p,us,B,c,hA,hlt,rfl,c0,c1,c2,c3,hc,hB,htv⟩
end
section
open Go.RowKit
abbrev Oth(T:Nat)(w w':World):Prop:=w.grownBy w' (some T)
theorem Oth.refl(T:Nat)(w:World):Oth T w w:=⟨rfl,rfl,rfl,zN _,fun _ _ _=>rfl⟩
theorem Oth.trans{T:Nat}{w w1 w2:World}(h:Oth T w w1)(h':Oth T w1 w2):Oth T w w2 :=
 ⟨h'.os.trans h.os,h'.tape.trans h.tape,h'.output.trans h.output,Nat.le_trans h.size h'.size,fun k hk hn=>(h'.block k (Nat.lt_of_lt_of_le hk h.size) hn).trans (h.block k hk hn)⟩
theorem Oth.of_below{T:Nat}{w w':World}(h:Below w.heap.size w w'):Oth T w w':=⟨h.os,h.tape,h.output,h.size,fun k hk _=>h.block k hk⟩
theorem Oth.of_new{T:Nat}{w w1 w2:World}(h:Oth T w w1)(h':Below w.heap.size w1 w2):Oth T w w2 :=
 ⟨h'.os.trans h.os,h'.tape.trans h.tape,h'.output.trans h.output,Nat.le_trans h.size h'.size,fun k hk hn=>(h'.block k hk).trans (h.block k hk hn)⟩
theorem Oth.set{T j:Nat}(w:World)(v:Value):Oth T w (w.setCell ⟨T,j,none⟩ v) :=
 ⟨rfl,rfl,rfl,by simp[World.setCell],fun k _ hk=>Below.heap_setCell _ _ _ _ (fun e=>hk (by simp[e]))⟩
theorem Oth.drew{T:Nat}{w w':World}(h:Oth T w w'):Oth T w w'.drew:=⟨h.os,h.tape,h.output,h.size,h.block⟩
theorem Oth.cell{T:Nat}{w w':World}(h:Oth T w w'){p:Addr}(hp:p.block<w.heap.size)(hn:p.block≠T):w'.cell? p=w.cell? p :=
 World.cell?_of_block (h.block _ hp (fun e=>hn (zO e)))
theorem Oth.heap{T:Nat}{w w':World}(h:Oth T w w'){k:Nat}{o:Obj}(hk:w.heap[k]?=some o)(hn:k≠T):w'.heap[k]?=some o :=
 (h.block k (zL hk) (fun e=>hn (zO e))).trans hk
theorem Oth.below{T B:Nat}{w w1 w2:World}(h:Below B w w1)(h':Oth T w1 w2)(hT:B≤T)(hB:B≤w1.heap.size):Below B w w2 :=
 ⟨h'.os.trans h.os,h'.tape.trans h.tape,h'.output.trans h.output,Nat.le_trans h.size h'.size,fun k hk=>(h'.block k (by omega) (fun e=>by have:=zO e;omega)).trans (h.block k hk)⟩
theorem zV{w w' : World}{T j : Nat}{v : Value}(e : w.setCell ⟨T, j, none⟩ v = w') : Oth T w w' := by subst e; exact Oth.set _ _
theorem zE{T : Nat}{w w' : World}(h : Below w.heap.size w w') : Oth T w w' := Oth.of_below h
def cutO(x:Int)(n:Nat):Nat:=((x % 18446744073709551616) % (n:Int)).toNat
theorem cutO_lt(x:Int)(n:Nat)(h:0<n):cutO x n<n:=by
 unfold cutO;have h1:=Int.emod_nonneg (x % 18446744073709551616) (by omega:(n:Int)≠0);have h2:=Int.emod_lt_of_pos (x % 18446744073709551616) (by omega:0<(n:Int));omega
theorem cutO_any(x:Int)(n:Nat)(w:World)(h0:0<n)(h1:n<=1000000):Calls Tryz.prog 38 #[zI x,zI n] w fun e w'=>e=.returned (zI (cutO x n:Int))/\w'=w:=by
 go_enter Tryz.func38,Tryz.ntmps38;go_wp2;go_ret;refine⟨ret_int ?_,rfl⟩;have hw:IntKind.u64.wrap x=x % 18446744073709551616:=by rw[IntKind.wrap_u64]
 have h2:=Int.emod_nonneg x (by decide:(18446744073709551616:Int)≠0);have h3:=cutO_lt x n h0;rw[hw,Int.tmod_eq_emod_of_nonneg h2];have h4:=Int.emod_nonneg (x % 18446744073709551616) (by omega:(n:Int)≠0);have h5:((x % 18446744073709551616) % (n:Int))=(cutO x n:Int):=by unfold cutO;omega
 rw[h5];exact IntWalk.wrap64_in _ ⟨by omega,by omega⟩
def IntsAt(w:World)(v:Value)(zs:List Int):Prop :=
 ∃A c,v=.slice A zs.length c∧zs.length≤maxLen∧(0<zs.length→∃b o,A=some ⟨b,o,none⟩∧b<w.heap.size∧∀k,k<zs.length→w.cell? ⟨b,o+k,none⟩=some (.int .i64 (zs.getD k 0)))
theorem IntsAt.below{w w':World}{v:Value}{zs:List Int}(h:IntsAt w v zs)(hb:Below w.heap.size w w'):IntsAt w' v zs:=by
 obtain⟨A,c,rfl,h1,h2⟩:=h;refine⟨A,c,rfl,h1,fun hp=>?_⟩;obtain⟨b,o,hA,hlt,hc⟩:=h2 hp;exact⟨b,o,hA,Zl hlt hb.size,fun k hk=>(hb.cell (p:=⟨b,o+k,none⟩) hlt).trans (hc k hk)⟩
structure TapeI(T:Nat)(w:World):Prop where
 t:∃(A:Option Addr)(n c i:Nat),w.heap[T]?=some (.cells #[.slice A n c,.int .i64 (i:Int)] 33 (0,0))∧i≤n∧n≤maxLen∧(0<n→∃b o,A=some ⟨b,o,none⟩∧b<T∧∀k,k<n→∃x,w.cell? ⟨b,o+k,none⟩=some (.int .i64 x))
theorem TapeI.lt{T:Nat}{w:World}(h:TapeI T w):T<w.heap.size:=by
 obtain⟨A,n,c,i,ht,_⟩:=h.t;exact zL ht
theorem TapeI.below{T:Nat}{w w':World}(h:TapeI T w)(hb:Below w.heap.size w w'):TapeI T w':=by
 have hlt:=h.lt;obtain⟨A,n,c,i,ht,hi,hn,hc⟩:=h.t;refine⟨⟨A,n,c,i,(hb.block T hlt).trans ht,hi,hn,fun hp=>?_⟩⟩;obtain⟨b,o,hA,hbT,hx⟩:=hc hp;refine⟨b,o,hA,hbT,fun k hk=>?_⟩;obtain⟨x,hx⟩:=hx k hk;exact⟨x,(hb.cell (p:=⟨b,o+k,none⟩) (by simp only;omega)).trans hx⟩
theorem TapeI.moved{T:Nat}{w w':World}(h:TapeI T w)(ho:Oth T w w'){A:Option Addr}{n c i i':Nat}(ht:w.heap[T]?=some (.cells #[.slice A n c,.int .i64 (i:Int)] 33 (0,0)))(ht':w'.heap[T]?=some (.cells #[.slice A n c,.int .i64 (i':Int)] 33 (0,0)))(hi:i'≤n):TapeI T w':=by
 have hlt:=h.lt;obtain⟨A0,n0,c0,i0,ht0,_,hn,hc⟩:=h.t;rw[ht] at ht0;cases ht0;refine⟨⟨A,n,c,i',ht',hi,hn,fun hp=>?_⟩⟩;obtain⟨b,o,hA,hbT,hx⟩:=hc hp;refine⟨b,o,hA,hbT,fun k hk=>?_⟩;obtain⟨x,hx⟩:=hx k hk;exact⟨x,(ho.cell (p:=⟨b,o+k,none⟩) (by simp only;omega) (by simp only;omega)).trans hx⟩
theorem TapeI.oth{T R:Nat}{w w':World}(h:TapeI T w)(hR:T<R)(ho:Oth R w w'):TapeI T w':=by
 have hlt:=h.lt;obtain⟨A,n,c,i,ht,hi,hn,hc⟩:=h.t;refine⟨⟨A,n,c,i,ho.heap ht (by omega),hi,hn,fun hp=>?_⟩⟩;obtain⟨b,o,hA,hbT,hx⟩:=hc hp;refine⟨b,o,hA,hbT,fun k hk=>?_⟩;obtain⟨x,hx⟩:=hx k hk;exact⟨x,(ho.cell (p:=⟨b,o+k,none⟩) (by simp only;omega) (by simp only;omega)).trans hx⟩
theorem tapeI_next(T n:Nat)(w:World)(h0:0<n)(h1:n<=100)(h:TapeI T w) :
  Calls Tryz.prog 12 #[.pointer (some ⟨T,0,none⟩),zI (n:Int)] w fun e w'=>(∃r:Nat,r<n/\e=.returned (zI (r:Int)))/\TapeI T w'/\Oth T w w':=by
 obtain⟨A,l,c,i,ht,hi,hl,hc⟩:=h.t;have hT:=h.lt;have H:=zH h;have HT:=zH ht;have ht0:=zC ht 0;have ht1:=zC ht 1;simp at ht0 ht1;have hf1:=zF ht 1;have hl':l<=9223372036854775807:=by unfold maxLen at hl;omega
 clear h ht hl;by_cases hil:i<l
 ·obtain⟨b,o,rfl,hbT,hx⟩:=hc (by omega);obtain⟨x,hx⟩:=hx i hil;clear hc;have hd:decide ((i:Int)≥(l:Int))=false:=by simp;omega
  obtain⟨w1,hw1⟩:∃w1,w.setCell ⟨T,1,none⟩ (zI ((i:Int)+1))=w1:=⟨_,rfl⟩;have o1:Oth T w w1:=zV hw1;have q1:w1.heap[T]?=some (.cells #[.slice (some ⟨b,o,none⟩) l c,zI ((i:Int)+1)] 33 (0,0)):=by
   rw[<-hw1];simp[World.setCell,zM,HT.o]
  have y0:=zC q1 0;have y1:=zC q1 1;simp at y0 y1;have hx1:=(o1.cell (p:=⟨b,o+i,none⟩) (by simp only;omega) (by simp only;omega)).trans hx;go_enter Tryz.func12,Tryz.ntmps12;go_upto_region 1 with fail;refine Zs 9 ?_;simp only[Zc,List.take_zero,List.drop_succ_cons,List.drop_zero];change wpStill Tryz.prog _ w.drew _ _ _;repeat still_step
  try refine wpStill_nil ?_
  change wpList _ _ _ _ _ w.drew;go_upto_region 4 with fail;have hq:=cutO_lt x n h0;clear hw1;have hi2:IntKind.i64.wrap (i:Int)=(i:Int):=Zi _ ⟨by omega,by omega⟩;refine Zs 13 ?_;simp only[Zc,List.take_zero,List.drop_succ_cons,List.drop_zero];change wpStill Tryz.prog _ w1.drew.drew _ _ _;repeat still_step
  still_call (cutO_any x n _ h0 (by omega))
  repeat still_step
  try refine wpStill_nil ?_
  change wpList _ _ _ _ _ w1.drew.drew;go_wp2_with fail;go_ret;exact⟨⟨_,hq,rfl⟩,(H.o.moved o1 HT.o (i':=i+1) (by simpa using q1) (by omega)).below (zB _ _).drew.drew,o1.drew.drew⟩
 have hd:decide ((i:Int)≥(l:Int))=true:=by simp;omega
 go_enter Tryz.func12,Tryz.ntmps12;go_upto_region 1 with fail;refine Zs 9 ?_;simp only[Zc,List.take_zero,List.drop_succ_cons,List.drop_zero];change wpStill Tryz.prog _ w.drew _ _ _;repeat still_step
 try refine wpStill_nil ?_
 change wpList _ _ _ _ _ w.drew;go_wp2_with fail;go_ret;exact⟨⟨0,h0,rfl⟩,H.o.below (zB _ _).drew,(Oth.refl _ _).drew⟩
end
section
open Go.ChangeShapes Go.WideShapes Go.ChangeAt Go.RowKit
theorem own:ownKnob Tryz.prog.godebug=none:=by kernel_rfl
theorem laidOut:laidOutB Tryz.prog=true:=by kernel_rfl
section
variable {H:Type} {enc:TypeId × Value→H}
theorem lt_of_cell{w:World}{a:Addr}{v:Value}(h:w.cell? a=some v):a.block<w.heap.size:=by
 rcases Nat.lt_or_ge a.block w.heap.size with h1 | h1
 ·exact h1
 unfold World.cell? at h;rw[Array.getElem?_eq_none h1] at h;cases h
theorem belowAll{W W':World}(hb:Below W.heap.size W W'):∀{ts:List TypeId}{vs:List Value}{ds:List (DataW H)}{ps:List MemPlace},(∀t∈ts,Tryz.prog.readableRec t=true∧t<Tryz.prog.types.size) →
  DataW.TrodAll enc Tryz.prog W 0 (fun _=>true) true ts vs ds ps→(∀x∈ps,x.block<W.heap.size)→DataW.TrodAll enc Tryz.prog W' 0 (fun b=>decide (b<W.heap.size)) true ts vs ds ps
 |[],[],[],_,_,h,_=>h
 |t :: ts,v :: vs,d :: ds,ps,ht,h,hlt=>by
  obtain⟨p,q,h1,h2,rfl⟩:=h;obtain⟨hr,hrow⟩:=ht t List.mem_cons_self;exact⟨p,q,Below.trod laidOut hr hrow h1 hb fun x hx=>hlt x (List.mem_append_left _ hx),belowAll hb (fun u hu=>ht u (List.mem_cons_of_mem _ hu)) h2 fun x hx=>hlt x (List.mem_append_right _ hx),rfl⟩
theorem law_post{f:Func}{s:ChangeSpec}{W W':World}{args:Array Value}{ds:List (DataW H)}{before:List MemPlace}
  (hs:s.vars=[]) (hfn:(s.fn H (ds++[])).results=[.lit (.bool true)]∧(s.fn H (ds++[])).args=ds∧(s.fn H (ds++[])).vars=[])
  (hr:f.resultTypes=#[4]) (hp:∀t∈f.params.toList,Tryz.prog.readableRec t=true∧t<Tryz.prog.types.size)
  (hW:DataW.Whole enc Tryz.prog f.params.toList s.vars false W args.toList ds [] before) (hb:Below W.heap.size W W') :
  s.post enc Tryz.prog f false true false false W args (.bool true) W':=by
 have hlt:∀p∈before,p.block<W.heap.size:=fun p hp=>hW.lt p hp;have hW':=hW;obtain⟨p,q,hA,hV,rfl,hz,hn⟩:=hW';rw[hs] at hV;obtain⟨_,rfl⟩:=trodVars_none hV;refine⟨ds,[],p++[],[],p,[],hW,?_,?_,?_,World.keptBut_mono (fun x hx=>⟨hx,.inr (.inl (by simpa using hx))⟩) (hb.frame (·∈p++[])),fun h=>by cases h⟩
 ·rw[hfn.1,hr];exact trodAll_mk1 (shut_bool Tryz.underlying4 _)
 ·rw[hfn.2.1];exact belowAll hb hp hA fun x hx=>hlt x (by simpa using hx)
 rw[hfn.2.2,hs];rfl
theorem intsAt_of{W:World}{v:Value}{d:DataW H}{p:List MemPlace}{r:Reach}{base:Nat}(hok:Value.okWide Tryz.prog W r base 22 v)(h:DataW.Trod enc Tryz.prog W 0 (fun _=>true) true 22 v d p):∃zs,IntsAt W v zs:=by
 obtain⟨a0,len,cap,rfl⟩:=okWide_slice Tryz.underlying22 hok;obtain⟨fuel,hf⟩:=h;rcases open_ints Tryz.underlying22 Tryz.underlying3 (by kernel_rfl) hf with⟨hcs,_⟩ | ⟨a,len',cap',zs,hcs,_,hl,hm,hz,_,hcell,_⟩
 ·simp only[Value.cells,List.cons.injEq,Value.slice.injEq,and_true] at hcs;obtain⟨rfl,rfl,rfl⟩:=hcs;exact⟨[],none,0,rfl,by simp,fun hp=>by simp at hp⟩
 simp only[Value.cells,List.cons.injEq,Value.slice.injEq,and_true] at hcs;obtain⟨rfl,rfl,rfl⟩:=hcs;simp only[if_true] at hz;have hlen:(zs.take len).length=len:=by rw[List.length_take];omega
 refine⟨zs.take len,some a,cap,by rw[hlen],by rw[hlen];omega,fun hp=>?_⟩;rw[hlen] at hp;obtain⟨b,o,rfl,hc⟩:=ints_at hcell (by omega);refine⟨b,o,rfl,lt_of_cell (hc 0 (by omega)),fun k hk=>?_⟩;rw[hlen] at hk;rw[hc k (by omega)];simp[List.getD,hk]
end
end
section
open Go.RowKit _root_.Lfc
theorem runName0(l:List UInt8)(w:World)(hl:l.length≤65536) :
    Calls Tryz.prog 121 #[S l,.int .i64 0,.func (.func 122) #[] #[]] w fun e w'=>e=.returned (.int .i64 ((runLen nameB l:Nat):Int))∧w=w':=by
  have h:=runName_any l 0 w hl (Nat.zero_le _);rw[List.drop_zero,Nat.zero_add] at h;exact h
theorem isName_any(l:List UInt8)(w:World)(hl:l.length<=9223372036854775807):Calls Tryz.prog 113 #[S l] w fun e w'=>e=.returned (.bool (isName l))/\w=w':=by
  cases l with
  |nil =>
    go_enter Tryz.func113,Tryz.ntmps113;go_wp2_with fail;go_ret;exact⟨ret_bool (by simp[isName]),rfl⟩
  |cons c r =>
    by_cases h64:(c :: r).length<=64
    · have hw:(c :: r).length<=65536:=by omega
      have hd:decide ((r.length:Int)+1<=64)=true:=(by simp at h64 ⊢;omega);generalize hR:runLen nameB (c :: r)=n;generalize hS:reservedB (c :: r)=b;have HR:=zH hR;have HS:=zH hS;clear hR hS;cases b;all_goals
       go_enter Tryz.func113,Tryz.ntmps113;go_wp2_with (first | (go_at_call 121;refine(runName0 _ _ hw).mono ?_;rintro e w'⟨rfl,rfl⟩;rw[HR.o]) | (go_at_call 123;refine(reserved_any _ _).mono ?_;rintro e w'⟨rfl,rfl⟩;rw[HS.o]));all_goals
         go_ret;exact⟨ret_bool (by rw[Bool.eq_iff_iff];have hr:=HR.o;have hs:=HS.o;simp[isName,hr,hs] at *;try omega),rfl⟩
    have hd:decide ((r.length:Int)+1<=64)=false:=(by simp at h64 ⊢;omega);go_enter Tryz.func113,Tryz.ntmps113;go_wp2_with fail;go_ret;exact⟨ret_bool (by simp only[isName];rw[Zu h64];simp),rfl⟩
theorem runLen_all(p:UInt8→Bool)(l:List UInt8):runLen p l=l.length↔∀k(h:k<l.length),p l[k]=true:=by
  induction l with
  |nil=>simp[runLen]
  |cons c r ih =>
    rw[runLen];constructor
    · intro h k hk
      have hle:=runLen_le p r;split at h
      · rename_i hc
        cases k with
        |zero=>exact hc
        |succ k=>exact(ih.1 (by simp at h;omega)) k (by simpa using hk)
      simp at h
    intro h;have hc:p c=true:=h 0 (by simp);rw[if_pos hc,List.length_cons,ih.2 fun k hk=>h (k+1) (by simpa using hk)]
theorem rIsName_any(l:List UInt8)(w:World)(hl:l.length<=9223372036854775807):Calls Tryz.prog 104 #[S l] w fun e w'=>e=.returned (.bool (isName l))/\w=w':=by
  cases l with
  |nil =>
    go_enter Tryz.func104,Tryz.ntmps104;go_wp2_with fail;go_ret;exact⟨ret_bool (by simp[isName]),rfl⟩
  |cons c r =>
    have hz:((r.length:Int)+1 == 0)=false:=(by simp;omega);by_cases h64:(c :: r).length<=64
    · have hd:decide (64<(r.length:Int)+1)=false:=by simp at h64 ⊢;omega
      cases hS:reservedB (c :: r)
      · have HS:=zH hS
        clear hS;by_cases hc:c.toNat=64
        · have hc':((c.toNat:Int) == 64)=true:=by simp;omega
          have hf:isName (c :: r)=false:=(by simp[isName,hc]);rw[hf];clear hc hf;go_enter Tryz.func104,Tryz.ntmps104;go_wp2_with (go_at_call 117;refine(rReserved_any _ _).mono ?_;rintro e w'⟨rfl,rfl⟩;rw[HS.o]);go_ret;exact⟨rfl,rfl⟩
        have hc':((c.toNat:Int) == 64)=false:=(by simp;omega);have hn:isName (c :: r)=decide (runLen nameB (c :: r)=(c :: r).length):=by
          simp only[isName];rw[Zt h64,HS.o];simp[hc]
        have hall:=runLen_all nameB (c :: r);rw[hn];have Hall:=zH hall;clear hc hn hall;go_enter Tryz.func104,Tryz.ntmps104;go_wp2_with (go_at_call 117;refine(rReserved_any _ _).mono ?_;rintro e w'⟨rfl,rfl⟩;rw[HS.o])
        go_loop [3] (fun i=>∃k:Nat,k<=(c :: r).length/\i=zI k/\Hid (∀j(h:j<(c :: r).length),j<k->nameB (c :: r)[j]=true)) (fun i=>(c :: r).length-(intOf i).toNat)
        case atStart=>exact⟨0,by simp,rfl,zH fun j _ h=>by omega⟩
        obtain⟨k,hk,rfl,hp⟩:=hrel;by_cases hlt:k<(c :: r).length
        · have hlt':k<r.length+1:=by simpa using hlt
          cases hb:nameB (c :: r)[k]
          · go_wp2_with fail
            refine(rNameByte_any _ _).mono ?_;rintro e w'⟨rfl,rfl⟩;rw[hb];go_wp2_with fail;go_ret;exact⟨ret_bool (by symm;apply Zu;intro hh;rw[Hall.o.1 hh k hlt] at hb;cases hb),rfl⟩
          have Hb:=zH hb;clear hb;go_wp2_with fail;refine(rNameByte_any _ _).mono ?_;rintro e w'⟨rfl,rfl⟩;rw[Hb.o];go_wp2_with fail
          go_round
          case rel =>
            refine⟨k+1,by omega,by go_num,zH fun j h hj=>?_⟩;rcases Nat.lt_or_ge j k with h1 | h1
            · exact hp.o j h h1
            obtain rfl:j=k:=(by omega);exact Hb.o
          case measure=>simp[intOf] at *;omega
        have hlt':¬k<r.length+1:=(by simpa using hlt);go_wp2_with fail;go_ret;exact⟨ret_bool (by symm;apply Zt;exact Hall.o.2 fun j h=>hp.o j h (by omega)),rfl⟩
      have HS:=zH hS;have hf:isName (c :: r)=false:=(by simp[isName,hS]);rw[hf];clear hS hf;go_enter Tryz.func104,Tryz.ntmps104;go_wp2_with (go_at_call 117;refine(rReserved_any _ _).mono ?_;rintro e w'⟨rfl,rfl⟩;rw[HS.o]);go_ret;exact⟨rfl,rfl⟩
    have hd:decide (64<(r.length:Int)+1)=true:=(by simp at h64 ⊢;omega);have hf:isName (c :: r)=false:=(by simp only[isName];rw[Zu h64];simp);rw[hf];clear hf;go_enter Tryz.func104,Tryz.ntmps104;go_wp2_with fail;go_ret;exact⟨rfl,rfl⟩
theorem tBound_any(k p:Int)(m:Nat)(n:List UInt8)(ts:List Raw)(v:Value)(w:World)(hm:m<=2)(hlen:ts.length<=1000000000)(hv:TreeV w (.node k n p ts) v) :
  Calls Tryz.prog 99 #[v,zI m] w fun e w'=>e=.returned (.bool (tbound n p ts.length m))/\zb w w':=by
 have hn:=hv.name_le;obtain⟨A,c,rfl,hc,hA⟩:=hv.open_;clear hA hv;have HI:=zH (fun W=>isName_any n W (by omega));generalize hl:ts.length=l at *;generalize hq:isName n=q at *;have HQ:=zH hq;clear hq hl;go_enter Tryz.func99,Tryz.ntmps99;go_wp2_with (go_at_call 113;refine(HI.o _).mono ?_;rintro e w1⟨rfl,rfl⟩);all_goals
  go_ret;refine⟨ret_bool ?_,(zB _ _).alloc (zN _) _⟩;have e1:((l:Int)=(m:Int))↔l=m:=by omega
  have hq:=HQ.o;clear HI HQ;rw[Bool.eq_iff_iff]
  simp_all [tbound]
def ObjUpto(m:Nat):Prop:=∀(t:Raw)(v:Value)(w:World),t.size≤m→TreeV w t v →
  Calls Tryz.prog 70 #[v] w fun e w'=>e=.returned (.bool t.obj)∧Below w.heap.size w w'
theorem enters_notObj:∀args w,(callFunc 115 args).run Tryz.prog w=.ok (.enter 115 args) w:=enters_of Tryz.func115 (by kernel_rfl) rfl
theorem notObj_any(m:Nat)(ih:ObjUpto m)(t:Raw)(v:Value)(w:World)(hm:t.size<=m)(hv:TreeV w t v) :
  Calls Tryz.prog 115 #[v] w fun e w'=>e=.returned (.bool (!t.obj))/\zb w w':=by
 obtain⟨kd,nm,ps,ts⟩:=t;obtain⟨A,c,rfl,hc,hA⟩:=hv.open_;have b0:zb w (w.alloc (.cells (zT kd nm ps A ts c) 51)):=(zB _ _).alloc (zN _) _;have IH:=zH (ih _ _ _ hm (hv.below b0));clear ih hv hA;generalize (Raw.node kd nm ps ts).obj=q at *;go_enter Tryz.func115,Tryz.ntmps115;go_wp2_with fail;refine IH.o.mono ?_;rintro e w1⟨rfl,hb1⟩;cases q;all_goals
  go_wp2_with fail;go_ret;exact⟨rfl,b0.trans (hb1.mono b0.size)⟩
theorem indexObj_any(m:Nat)(ih:ObjUpto m)(ts:List Raw)(A:Option Addr)(c:Nat)(w:World)(hm:Raw.sizes ts<=m)(hmax:ts.length<=1000000000)(h:TreesAt w A ts) :
  Calls Tryz.prog 124 #[.slice A ts.length c,.func (.func 115) #[] #[]] w fun e w'=>∃i:Int,e=.returned (zI i)/\decide (i≥0)=!Raw.objs ts/\zb w w':=by
 have he:=enters_notObj;have IH:=zH (notObj_any m ih);have HA:=zH h;have HS:=zH (objs_spec ts);have HF:=zH (objs_false ts);clear ih h;generalize Raw.objs ts=res at *;go_enter Tryz.func124,Tryz.ntmps124;go_wp2_with fail;go_loopw [8] (fun i wr=>∃k:Nat,k<=ts.length/\i=zI k/\zb w wr/\Hid (∀j(h:j<ts.length),j<k->ts[j].obj=true)) (fun i _=>ts.length-(intOf i).toNat);case atStart=>exact⟨0,by omega,rfl,zB _ _,zH fun j _ hj=>by omega⟩
 obtain⟨k,hk,rfl,hbw,hp⟩:=hrel;by_cases hlt:k<ts.length
 ·obtain⟨b,o,k1,n1,p1,xs,B1,c1,rfl,hb,ht,d0,d1,d2,d3,hcu,hB,hT⟩:=(HA.o.below hbw).at_ hlt;have hmem:=Raw.sizes_mem ts ts[k] (Ze _);clear hB ht;have hT2:=zH hT;cases hq:ts[k].obj
  ·have hres:=HF.o k hlt hq;subst hres;have HQ:=zH hq;clear hq;go_wp2_with fail;refine(IH.o ts[k] _ _ (by omega) hT2.o).mono ?_;rintro e w1⟨rfl,hb1⟩;rw[HQ.o];go_wp2_with fail;go_ret;exact⟨k,rfl,by simp,hbw.trans (hb1.mono hbw.size)⟩
  have HQ:=zH hq;clear hq;go_wp2_with fail;refine(IH.o ts[k] _ _ (by omega) hT2.o).mono ?_;rintro e w1⟨rfl,hb1⟩;rw[HQ.o];go_wp2_with fail;go_roundw;case rel =>
   refine⟨k+1,by omega,by go_num,hbw.trans (hb1.mono hbw.size),zH fun j h hj=>?_⟩;rcases Nat.lt_or_ge j k with h1 | h1
   ·exact hp.o j h h1
   obtain rfl:j=k:=(by omega);exact HQ.o
  case measure=>simp[intOf];omega
 have hres:=HS.o.2 fun j h=>hp.o j h (by omega);subst hres;go_wp2_with fail;go_ret;exact⟨-1,rfl,by decide,hbw⟩
theorem containsObj_any(m:Nat)(ih:ObjUpto m)(ts:List Raw)(A:Option Addr)(c:Nat)(w:World)(hm:Raw.sizes ts<=m)(hmax:ts.length<=1000000000)(h:TreesAt w A ts) :
  Calls Tryz.prog 114 #[.slice A ts.length c,.func (.func 115) #[] #[]] w fun e w'=>e=.returned (.bool (!Raw.objs ts))/\zb w w':=by
 have IH:=zH (indexObj_any m ih ts A c w hm hmax h);clear ih h;go_enter Tryz.func114,Tryz.ntmps114;go_wp2_with fail;refine IH.o.mono ?_;rintro e w1⟨i,rfl,hi,hb1⟩;have HI:=zH hi;clear hi;go_wp2_with fail;go_ret;exact⟨ret_bool HI.o,hb1⟩
theorem tAll_any(m:Nat)(ih:ObjUpto m)(k p:Int)(n:List UInt8)(ts:List Raw)(v:Value)(w:World)(hm:Raw.sizes ts<=m)(hmax:ts.length<=1000000000)(hv:TreeV w (.node k n p ts) v) :
  Calls Tryz.prog 101 #[v] w fun e w'=>e=.returned (.bool (Raw.objs ts))/\zb w w':=by
 obtain⟨A,c,rfl,hc,hA⟩:=hv.open_;have b0:zb w (w.alloc (.cells (zT k n p A ts c) 51)):=(zB _ _).alloc (zN _) _;have IH:=zH (containsObj_any m ih ts A c _ hm hmax (hA.below b0));clear ih hv hA;generalize Raw.objs ts=q at *;go_enter Tryz.func101,Tryz.ntmps101;go_wp2_with fail;refine IH.o.mono ?_;rintro e w1⟨rfl,hb1⟩;cases q;all_goals
  go_wp2_with fail;go_ret;exact⟨rfl,b0.trans (hb1.mono b0.size)⟩
theorem tAtom_any(m:Nat)(ih:ObjUpto m)(k p:Int)(n:List UInt8)(ts:List Raw)(v:Value)(w:World)(hm:Raw.sizes ts<=m)(hmax:ts.length<=1000000000)(hv:TreeV w (.node k n p ts) v) :
  Calls Tryz.prog 100 #[v] w fun e w'=>e=.returned (.bool (Raw.atm (.node k n p ts)))/\zb w w':=by
 have hn:=hv.name_le;obtain⟨A,c,rfl,hc,hA⟩:=hv.open_;have HB:Hid (zb w (w.alloc (.cells (zT k n p A ts c) 51))):=zH ((zB _ _).alloc (zN _) _);have IH:=zH (tAll_any m ih k p n ts _ _ hm hmax (hv.below HB.o));have HI:=zH (fun W=>isName_any n W (by omega));have HR:Hid (Raw.atm (.node k n p ts)=(decide (k=4) && isName n && decide (p=0) && Raw.objs ts)):=zH rfl;rw[HR.o];clear ih hv hA HR;generalize Raw.objs ts=r at *;generalize isName n=q at *;by_cases hk:k=4
 ·subst hk;cases q
  ·go_enter Tryz.func100,Tryz.ntmps100;go_wp2_with fail;refine(HI.o _).mono ?_;rintro e w1⟨rfl,rfl⟩;go_wp2_with fail;go_ret;exact⟨rfl,HB.o⟩
  by_cases hp:p=0
  ·subst hp;go_enter Tryz.func100,Tryz.ntmps100;go_wp2_with fail;refine(HI.o _).mono ?_;rintro e w1⟨rfl,rfl⟩;go_wp2_with fail;refine IH.o.mono ?_;rintro e w1⟨rfl,hb1⟩;cases r;all_goals
    go_wp2_with fail;go_ret;exact⟨rfl,HB.o.trans (hb1.mono HB.o.size)⟩
  have hp2:(p == 0)=false:=by simpa using hp
  rw[Zu hp];go_enter Tryz.func100,Tryz.ntmps100;go_wp2_with fail;refine(HI.o _).mono ?_;rintro e w1⟨rfl,rfl⟩;go_wp2_with fail;go_ret;exact⟨by simp,HB.o⟩
 have hk2:(k == 4)=false:=by simpa using hk
 rw[Zu hk];go_enter Tryz.func100,Tryz.ntmps100;go_wp2_with fail;go_ret;exact⟨by simp,HB.o⟩
theorem Lfc.len_one{α:Type}{l:List α}(h:l.length=1):∃a,l=[a]:=List.length_eq_one_iff.1 h
theorem tObj_upto(m:Nat)(hmm:m≤1000000000):ObjUpto m:=by
 induction m with
 |zero=>intro t v w h _;have:=t.size_pos;omega
 |succ m ih0 =>
  intro t v w hsz hv;have ih:=ih0 (by omega);clear ih0;obtain⟨k,n,p,ts⟩:=t;have hn:=hv.name_le;obtain⟨A,c,rfl,hc,hA⟩:=hv.open_;have hsz':=hsz;simp only[Raw.size] at hsz';have hlen:=Raw.sizes_len ts;have hlen1:ts.length≤1000000000:=by omega
  have hszs:Raw.sizes ts≤m:=by omega
  obtain⟨w0,hw0⟩:∃w0,w.alloc (.cells #[.int .i64 k,S n,.int .i64 p,.slice A ts.length c] 51)=w0:=⟨_,rfl⟩;have b0:=zG hw0;have s0:w.heap.size<w0.heap.size:=by rw[←hw0];simp
  have hx0:w0.cell? ⟨w.heap.size,0,none⟩=some (.int .i64 k):=by rw[←hw0];simp
  have hx1:w0.cell? ⟨w.heap.size,1,none⟩=some (S n):=by rw[←hw0];simp
  have hx2:w0.cell? ⟨w.heap.size,2,none⟩=some (.int .i64 p):=by rw[←hw0];simp
  have hx3:w0.cell? ⟨w.heap.size,3,none⟩=some (.slice A ts.length c):=by rw[←hw0];simp
  have HV:=zH (hv.below b0);have HA:=zH (hA.below b0);have HB:=zH b0;by_cases hk3:k=3
  ·subst hk3;have HR:Hid (Raw.obj (.node 3 n p ts)=(tbound n p ts.length 1 && Raw.objs ts)):=zH (by rw[Raw.obj,if_pos rfl]);rw[HR.out];have HC:=zH (tBound_any 3 p 1 n ts _ w0 (by omega) hlen1 HV.out);clear hv hA HR b0;cases hq:tbound n p ts.length 1
   ·rw[hq] at HC;go_enter Tryz.func70,Tryz.ntmps70;go_wp2_with fail;refine HC.out.mono ?_;rintro e w1⟨rfl,hb1⟩;go_wp2_with fail;go_ret;exact⟨rfl,HB.out.trans (hb1.mono (by omega))⟩
   rw[hq] at HC;have hl1:ts.length=1:=by
    have:=hq;simp only[tbound,Za,Zd] at this;exact this.1.2
   obtain⟨a,rfl⟩:=Lfc.len_one hl1;have HO:Hid (Raw.objs [a]=a.obj):=zH (by simp[Raw.objs]);rw[HO.out];have ha:a.size≤m:=(by simp only[Raw.sizes] at hszs;omega);have IA:=zH (fun v w=>ih a v w ha);clear hq HO hl1 ih;generalize hZ:a.obj=z at *;clear hZ;simp only[List.length_singleton] at hw0 hx3 HC HV;go_enter Tryz.func70,Tryz.ntmps70;go_wp2_with fail;refine HC.out.mono ?_;rintro e w1⟨rfl,hb1⟩;have hy3:=(hb1.cell (p:=⟨w.heap.size,3,none⟩) s0).trans hx3;have hs1:=hb1.size;obtain⟨b,o,k1,n1,p1,us,B1,c1,rfl,hb,ht,d0,d1,d2,d3,hcu,hB1,hT⟩:=(HA.out.below hb1).at_ (i:=0) (by simp);simp only[Nat.zero_mul,Nat.add_zero] at d0 d1 d2 d3;have HT:=zH hT;clear hT hB1 ht;go_wp2_with fail;refine(IA.out _ _ HT.out).mono ?_;rintro e w2⟨rfl,hb2⟩;cases z;all_goals
    go_wp2_with fail;go_ret;exact⟨rfl,HB.out.trans ((hb1.trans (hb2.mono hs1)).mono (by omega))⟩
  have hk3f:(k == 3)=false:=by simpa using hk3
  by_cases hk4:k=4
  ·subst hk4;have HR:Hid (Raw.obj (.node 4 n p ts)=Raw.atm (.node 4 n p ts)):=zH (by rw[Raw.obj,if_neg (by decide),if_pos rfl];simp[Raw.atm]);rw[HR.out];have HC:=zH (tAtom_any m ih 4 p n ts _ w0 hszs hlen1 HV.out);clear hv hA HR b0 ih;generalize Raw.atm (.node 4 n p ts)=q at *;go_enter Tryz.func70,Tryz.ntmps70;go_wp2_with fail;refine HC.out.mono ?_;rintro e w1⟨rfl,hb1⟩;go_wp2_with fail;go_ret;exact⟨rfl,HB.out.trans (hb1.mono (by omega))⟩
  have hk4f:(k == 4)=false:=by simpa using hk4
  by_cases hk56:k=5∨k=6
  ·have HC:=zH (tAll_any m ih k p n ts _ w0 hszs hlen1 HV.out);have HR:Hid (Raw.obj (.node k n p ts)=(decide (n=[]) && decide (0≤p) && (if k=5 then decide (p≤1048576) else decide (p<2048)) && Raw.objs ts)):=zH (by
    rw[Raw.obj,if_neg hk3,if_neg hk4];rcases hk56 with rfl | rfl
    ·rfl
    rfl)
   rw[HR.out];clear hv hA HR b0 ih;generalize Raw.objs ts=r at *;by_cases hn0:n=[]
   ·subst hn0;by_cases hp0:0≤p
    ·rw[Zt hp0];rcases hk56 with rfl | rfl
     ·by_cases hp1:p≤1048576
      ·have HD:Hid (decide (p≤1048576)=true):=zH (Zt hp1);rw[if_pos rfl,HD.out];go_enter Tryz.func70,Tryz.ntmps70;go_wp2_with fail;refine HC.out.mono ?_;rintro e w1⟨rfl,hb1⟩;cases r;all_goals
        go_wp2_with fail;go_ret;exact⟨rfl,HB.out.trans (hb1.mono (by omega))⟩
      have HD:Hid (decide (p≤1048576)=false):=zH (Zu hp1);rw[if_pos rfl,HD.out];go_enter Tryz.func70,Tryz.ntmps70;go_wp2_with fail;go_ret;exact⟨rfl,HB.out⟩
     by_cases hp1:p<2048
     ·have HD:Hid (decide (p<2048)=true):=zH (Zt hp1);rw[if_neg (by decide),HD.out];go_enter Tryz.func70,Tryz.ntmps70;go_wp2_with fail;refine HC.out.mono ?_;rintro e w1⟨rfl,hb1⟩;cases r;all_goals
       go_wp2_with fail;go_ret;exact⟨rfl,HB.out.trans (hb1.mono (by omega))⟩
     have HD:Hid (decide (p<2048)=false):=zH (Zu hp1);rw[if_neg (by decide),HD.out];go_enter Tryz.func70,Tryz.ntmps70;go_wp2_with fail;go_ret;exact⟨rfl,HB.out⟩
    have HD:Hid (decide (0≤p)=false):=zH (Zu hp0);rw[HD.out];rcases hk56 with rfl | rfl;all_goals
     go_enter Tryz.func70,Tryz.ntmps70;go_wp2_with fail;go_ret;exact⟨rfl,HB.out⟩
   have hn1:(n == [])=false:=(by simpa using hn0);have HD:Hid (decide (n=[])=false):=zH (Zu hn0);rw[HD.out];rcases hk56 with rfl | rfl;all_goals
    go_enter Tryz.func70,Tryz.ntmps70;go_wp2_with fail;go_ret;exact⟨by simp,HB.out⟩
  have hk5f:(k == 5)=false:=by simp;omega
  have hk6f:(k == 6)=false:=by simp;omega
  have HR:Hid (Raw.obj (.node k n p ts)=false):=zH (by rw[Raw.obj,if_neg hk3,if_neg hk4,if_neg (by omega),if_neg (by omega)]);rw[HR.out];clear hv hA HR b0 ih;go_enter Tryz.func70,Tryz.ntmps70;go_wp2_with fail;go_ret;exact⟨rfl,HB.out⟩
theorem len_two{α:Type}{l:List α}(h:l.length=2):∃a b,l=[a,b]:=by
 match l,h with
 |[a,b],_=>exact⟨a,b,rfl⟩
theorem tAtom_all(k p:Int)(n:List UInt8)(ts:List Raw)(v:Value)(w:World)(hm:Raw.sizes ts≤1000000000)(hv:TreeV w (.node k n p ts) v) :
  Calls Tryz.prog 100 #[v] w fun e w'=>e=.returned (.bool (Raw.atm (.node k n p ts)))∧Below w.heap.size w w' :=
 tAtom_any 1000000000 (tObj_upto _ (zN _)) k p n ts v w hm (zR (Raw.sizes_len ts) hm) hv
theorem tTyp_upto(m:Nat)(hmm:m≤1000000000):∀(t:Raw)(v:Value)(w:World),t.size≤m→TreeV w t v →
  Calls Tryz.prog 90 #[v] w fun e w'=>e=.returned (.bool t.typ)∧Below w.heap.size w w':=by
 induction m with
 |zero=>intro t v w h _;have:=t.size_pos;omega
 |succ m ih0 =>
  intro t v w hsz hv;have ih:=ih0 (by omega);clear ih0;obtain⟨k,n,p,ts⟩:=t;obtain⟨A,c,rfl,hc,hA⟩:=hv.open_;have hsz':=hsz;simp only[Raw.size] at hsz';have hlen:=Raw.sizes_len ts;have hlen1:ts.length≤1000000000:=by omega
  have hszs:Raw.sizes ts≤m:=by omega
  obtain⟨w0,hw0⟩:∃w0,w.alloc (.cells #[.int .i64 k,S n,.int .i64 p,.slice A ts.length c] 51)=w0:=⟨_,rfl⟩;have b0:=zG hw0;have s0:w.heap.size<w0.heap.size:=by rw[←hw0];simp
  have hx0:w0.cell? ⟨w.heap.size,0,none⟩=some (.int .i64 k):=by rw[←hw0];simp
  have hx1:w0.cell? ⟨w.heap.size,1,none⟩=some (S n):=by rw[←hw0];simp
  have hx2:w0.cell? ⟨w.heap.size,2,none⟩=some (.int .i64 p):=by rw[←hw0];simp
  have hx3:w0.cell? ⟨w.heap.size,3,none⟩=some (.slice A ts.length c):=by rw[←hw0];simp
  have HV:=zH (hv.below b0);have HA:=zH (hA.below b0);have HB:=zH b0;have HC:=zH (tAtom_all k p n ts _ w0 (by omega) HV.out);rw[typ_node];clear hv hA b0;cases hq:Raw.atm (.node k n p ts)
  ·rw[hq] at HC;clear hq;rw[Bool.false_or];by_cases hk2:k=2
   ·subst hk2;have HD:=zH (fun W hb=>tBound_any 2 p 2 n ts _ W (by omega) hlen1 (HV.out.below (w':=W) hb));cases hq2:tbound n p ts.length 2
    ·rw[hq2] at HD;go_enter Tryz.func90,Tryz.ntmps90;go_wp2_with fail;refine HC.out.mono ?_;rintro e w1⟨rfl,hb1⟩;have hy0:=(hb1.cell (p:=⟨w.heap.size,0,none⟩) s0).trans hx0;have hy1:=(hb1.cell (p:=⟨w.heap.size,1,none⟩) s0).trans hx1;have hy2:=(hb1.cell (p:=⟨w.heap.size,2,none⟩) s0).trans hx2;have hy3:=(hb1.cell (p:=⟨w.heap.size,3,none⟩) s0).trans hx3;go_wp2_with fail;refine(HD.out _ hb1).mono ?_;rintro e w2⟨rfl,hb2⟩;have hs1:=hb1.size;go_wp2_with fail;go_ret;exact⟨rfl,HB.out.trans ((hb1.trans (hb2.mono hs1)).mono (by omega))⟩
    rw[hq2] at HD;have hl2:ts.length=2:=by
     have:=hq2;simp only[tbound,Za,Zd] at this;exact this.1.2
    obtain⟨a,b,rfl⟩:=len_two hl2;have HO:Hid (Raw.typs [a,b]=(a.typ && b.typ)):=zH (by simp[Raw.typs]);rw[HO.out];have ha:a.size≤m:=(by simp only[Raw.sizes] at hszs;omega);have hb:b.size≤m:=(by simp only[Raw.sizes] at hszs;omega);have IA:=zH (fun v w=>ih a v w ha);have IB:=zH (fun v w=>ih b v w hb);clear hq2 HO hl2 ih;generalize hZ:a.typ=z at *;generalize hY:b.typ=y at *;clear hZ hY;simp only[List.length_cons,List.length_nil,Nat.zero_add,Nat.reduceAdd] at hw0 hx3 HC HV HD;go_enter Tryz.func90,Tryz.ntmps90;go_wp2_with fail;refine HC.out.mono ?_;rintro e w1⟨rfl,hb1⟩;have hy0:=(hb1.cell (p:=⟨w.heap.size,0,none⟩) s0).trans hx0;have hy1:=(hb1.cell (p:=⟨w.heap.size,1,none⟩) s0).trans hx1;have hy2:=(hb1.cell (p:=⟨w.heap.size,2,none⟩) s0).trans hx2;have hy3:=(hb1.cell (p:=⟨w.heap.size,3,none⟩) s0).trans hx3;have hs1:=hb1.size;go_wp2_with fail;refine(HD.out _ hb1).mono ?_;rintro e w2⟨rfl,hb2⟩;have s1:w.heap.size<w1.heap.size:=(by omega);have hz3:=(hb2.cell (p:=⟨w.heap.size,3,none⟩) s1).trans hy3;have hs2:=hb2.size;have HA2:=zH ((HA.out.below hb1).below hb2);obtain⟨b',o,k1,n1,p1,us,B1,c1,rfl,hb',ht,d0,d1,d2,d3,hcu,hB1,hT⟩:=HA2.out.at_ (i:=0) (by simp);simp only[Nat.zero_mul,Nat.add_zero] at d0 d1 d2 d3;have HT:=zH hT;clear hT hB1 ht hy0 hy1 hy2 hy3;go_wp2_with fail;refine(IA.out _ _ HT.out).mono ?_;rintro e w3⟨rfl,hb3⟩;have hs3:=hb3.size;have hz3:=(hb3.cell (p:=⟨w.heap.size,3,none⟩) (by simp only;omega)).trans hz3;obtain⟨b'',o'',k2,n2,p2,us2,B2,c2,ho,hb'',ht2,f0,f1,f2,f3,hcu2,hB2,hT2⟩:=(HA2.out.below hb3).at_ (i:=1) (by simp);cases ho;simp only[Nat.one_mul] at f0 f1 f2 f3;have HT2:=zH hT2;clear hT2 hB2 ht2;cases z
    ·go_wp2_with fail;go_ret;exact⟨rfl,HB.out.trans ((hb1.trans ((hb2.trans (hb3.mono hs2)).mono hs1)).mono (by omega))⟩
    go_wp2_with fail;refine(IB.out _ _ HT2.out).mono ?_;rintro e w4⟨rfl,hb4⟩;cases y;all_goals
     go_wp2_with fail;go_ret;exact⟨rfl,HB.out.trans ((hb1.trans ((hb2.trans ((hb3.trans (hb4.mono hs3)).mono hs2)).mono hs1)).mono (by omega))⟩
   have hk2f:(k == 2)=false:=(by simpa using hk2);have HD:Hid (decide (k=2)=false):=zH (Zu hk2);rw[HD.out];go_enter Tryz.func90,Tryz.ntmps90;go_wp2_with fail;refine HC.out.mono ?_;rintro e w1⟨rfl,hb1⟩;have hy0:=(hb1.cell (p:=⟨w.heap.size,0,none⟩) s0).trans hx0;go_wp2_with fail;go_ret;exact⟨by simp,HB.out.trans (hb1.mono (by omega))⟩
  rw[hq] at HC;clear hq;go_enter Tryz.func90,Tryz.ntmps90;go_wp2_with fail;refine HC.out.mono ?_;rintro e w1⟨rfl,hb1⟩;go_wp2_with fail;go_ret;exact⟨rfl,HB.out.trans (hb1.mono (by omega))⟩
theorem tKnd_upto(m:Nat)(hmm:m≤1000000000):∀(t:Raw)(v:Value)(w:World),t.size≤m→TreeV w t v →
  Calls Tryz.prog 91 #[v] w fun e w'=>e=.returned (.bool t.knd)∧Below w.heap.size w w':=by
 induction m with
 |zero=>intro t v w h _;have:=t.size_pos;omega
 |succ m ih0 =>
  intro t v w hsz hv;have ih:=ih0 (by omega);clear ih0;obtain⟨k,n,p,ts⟩:=t;have hn:=hv.name_le;obtain⟨A,c,rfl,hc,hA⟩:=hv.open_;have hsz':=hsz;simp only[Raw.size] at hsz';have hlen:=Raw.sizes_len ts;have hlen1:ts.length≤1000000000:=by omega
  have hszs:Raw.sizes ts≤m:=by omega
  obtain⟨w0,hw0⟩:∃w0,w.alloc (.cells #[.int .i64 k,S n,.int .i64 p,.slice A ts.length c] 51)=w0:=⟨_,rfl⟩;have b0:=zG hw0;have s0:w.heap.size<w0.heap.size:=by rw[←hw0];simp
  have hx0:w0.cell? ⟨w.heap.size,0,none⟩=some (.int .i64 k):=by rw[←hw0];simp
  have hx1:w0.cell? ⟨w.heap.size,1,none⟩=some (S n):=by rw[←hw0];simp
  have hx2:w0.cell? ⟨w.heap.size,2,none⟩=some (.int .i64 p):=by rw[←hw0];simp
  have hx3:w0.cell? ⟨w.heap.size,3,none⟩=some (.slice A ts.length c):=by rw[←hw0];simp
  have HV:=zH (hv.below b0);have HA:=zH (hA.below b0);have HB:=zH b0;rw[Raw.knd];clear hv hA b0;by_cases hk1:k=1
  ·subst hk1;rw[if_pos rfl];clear ih;by_cases hn0:n=[]
   ·subst hn0;rw[Zt rfl];by_cases hp0:p=0
    ·subst hp0;by_cases hl0:ts.length=0
     ·have hl1:((ts.length:Int) == 0)=true:=(by simp[hl0]);have HD:Hid (decide (ts.length=0)=true):=zH (Zt hl0);rw[HD.out];clear hl0;go_enter Tryz.func91,Tryz.ntmps91;go_wp2_with fail;go_ret;exact⟨rfl,HB.out⟩
     have hl1:((ts.length:Int) == 0)=false:=(by rw[beq_eq_false_iff_ne];omega);have HD:Hid (decide (ts.length=0)=false):=zH (Zu hl0);rw[HD.out];clear hl0;go_enter Tryz.func91,Tryz.ntmps91;go_wp2_with fail;go_ret;exact⟨rfl,HB.out⟩
    have hp1:(p == 0)=false:=(by simpa using hp0);have HD:Hid (decide (p=0)=false):=zH (Zu hp0);rw[HD.out];go_enter Tryz.func91,Tryz.ntmps91;go_wp2_with fail;go_ret;exact⟨rfl,HB.out⟩
   have hn1:(n == [])=false:=(by simpa using hn0);have HD:Hid (decide (n=[])=false):=zH (Zu hn0);rw[HD.out];go_enter Tryz.func91,Tryz.ntmps91;go_wp2_with fail;go_ret;exact⟨by simp,HB.out⟩
  have hk1f:(k == 1)=false:=by simpa using hk1
  rw[if_neg hk1];by_cases hk2:k=2
  ·subst hk2;rw[Zt rfl,Bool.true_and];have HD:=zH (tBound_any 2 p 2 n ts _ w0 (by omega) hlen1 HV.out);cases hq2:tbound n p ts.length 2
   ·rw[hq2] at HD;clear ih;go_enter Tryz.func91,Tryz.ntmps91;go_wp2_with fail;refine HD.out.mono ?_;rintro e w2⟨rfl,hb2⟩;go_wp2_with fail;go_ret;exact⟨rfl,HB.out.trans (hb2.mono (by omega))⟩
   rw[hq2] at HD;have hl2:ts.length=2:=by
    have:=hq2;simp only[tbound,Za,Zd] at this;exact this.1.2
   obtain⟨a,b,rfl⟩:=len_two hl2;have HO:Hid (Raw.knds [a,b]=(a.typ && b.knd)):=zH (by simp[Raw.knds]);rw[HO.out];have ha:a.size≤m:=(by simp only[Raw.sizes] at hszs;omega);have hb:b.size≤m:=(by simp only[Raw.sizes] at hszs;omega);have IA:=zH (fun v w=>tTyp_upto m (by omega) a v w ha);have IB:=zH (fun v w=>ih b v w hb);clear hq2 HO hl2 ih;generalize hZ:a.typ=z at *;generalize hY:b.knd=y at *;clear hZ hY;simp only[List.length_cons,List.length_nil,Nat.zero_add,Nat.reduceAdd] at hw0 hx3 HV HD;go_enter Tryz.func91,Tryz.ntmps91;go_wp2_with fail;refine HD.out.mono ?_;rintro e w2⟨rfl,hb2⟩;have hz3:=(hb2.cell (p:=⟨w.heap.size,3,none⟩) s0).trans hx3;have hs2:=hb2.size;have HA2:=zH (HA.out.below hb2);obtain⟨b',o,k1,n1,p1,us,B1,c1,rfl,hb',ht,d0,d1,d2,d3,hcu,hB1,hT⟩:=HA2.out.at_ (i:=0) (by simp);simp only[Nat.zero_mul,Nat.add_zero] at d0 d1 d2 d3;have HT:=zH hT;clear hT hB1 ht;go_wp2_with fail;refine(IA.out _ _ HT.out).mono ?_;rintro e w3⟨rfl,hb3⟩;have hs3:=hb3.size;have hz3:=(hb3.cell (p:=⟨w.heap.size,3,none⟩) (by simp only;omega)).trans hz3;obtain⟨b'',o'',k2,n2,p2,us2,B2,c2,ho,hb'',ht2,f0,f1,f2,f3,hcu2,hB2,hT2⟩:=(HA2.out.below hb3).at_ (i:=1) (by simp);cases ho;simp only[Nat.one_mul] at f0 f1 f2 f3;have HT2:=zH hT2;clear hT2 hB2 ht2;cases z
   ·go_wp2_with fail;go_ret;exact⟨rfl,HB.out.trans ((hb2.trans (hb3.mono hs2)).mono (by omega))⟩
   go_wp2_with fail;refine(IB.out _ _ HT2.out).mono ?_;rintro e w4⟨rfl,hb4⟩;cases y;all_goals
    go_wp2_with fail;go_ret;exact⟨rfl,HB.out.trans ((hb2.trans ((hb3.trans (hb4.mono hs3)).mono hs2)).mono (by omega))⟩
  have hk2f:(k == 2)=false:=by simpa using hk2
  have HD:Hid (decide (k=2)=false):=zH (Zu hk2);rw[HD.out];clear ih;go_enter Tryz.func91,Tryz.ntmps91;go_wp2_with fail;go_ret;exact⟨by simp,HB.out⟩
end
end Go.Proofs.YtadjpadieljjlaaGreat
