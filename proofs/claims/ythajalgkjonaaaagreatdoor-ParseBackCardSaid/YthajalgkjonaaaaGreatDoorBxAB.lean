/- Parts of the proof that no input makes the law false: Shelf, Leaf, New, Next, Lex, Text, Frame, Names. -/
import Derived.Shelf.Strings.Builder1
import Derived.Shelf.Strings.Builder2
import Derived.Shelf.Strings.OnBuilder
import Derived.Shelf.Small.Strs
import Derived.Shelf.Strings.BuilderF
import Derived.Shelf.Strings.BuilderK
import Derived.Shelf.Strings.Builder2Cap
import Derived.Shelf.Strconv.Itoa0
import Derived.Shelf.Strings.Search1
import Derived.Shelf.Strings.Prefix
import Derived.Shelf.Strings.BuilderCap
import Derived.Shelf.Slices.Turned
import Derived.Ground.Names2Prog
import Derived.Shelf.Slices.Clone
import Derived.Test.YthajalgkjonaaaaGreatDoorProg
import Derived.WalkKit
import Derived.WalkSpells
import Derived.WalkLawsBesides
import Derived.Lib.Hide
import Derived.Shelf.Abstract
import Derived.Test.YthajalgkjonaaaaGreatDoorRows
import Derived.Deep.RegionHeld
import Derived.Lib.Builder
import Derived.StillTail
import Derived.Lib.AppendStr
import Derived.StillTailTactics
import Derived.Lib.BufferRead
import Derived.Laws.IdiomStrings
import Derived.ProofKit
import Derived.OpenShut
import Derived.LaidMore
import Derived.Deep.DeepHandedRow
import Derived.Deep.DeepWitnessRowRef
import Derived.Test.YthajalgkjonaaaaGreatDoorCards
import Derived.Test.YthajalgkjonaaaaGreatDoorTie
import Derived.Test.YthajalgkjonaaaaGreatDoorBxAA
set_option linter.unusedVariables false
set_option linter.unusedSimpArgs false
set_option maxRecDepth 100000
set_option maxHeartbeats 32000000
namespace Go.Proofs
open Go.Shelf Go.RowKit Go.Lib
def Tryz.lays169_ren:Go.Shelf.Ren:=⟨fun | 169=>30 | n=>n,fun | 70=>76 | 9=>9 | 0=>0 | 72=>78 | 37=>68 | 127=>118 | 3=>3 | 5=>5 | n=>n,fun | n=>n⟩
theorem Tryz.lays169:Go.Proofs.Lays.n169 Tryz.prog Tryz.lays169_ren:={
 mixed:=by kernel_rfl
 f169:=Tryz.func30.trans (congrArg some (by kernel_rfl))
 t0:=Tryz.underlying0
 a0:=Tryz.isAgg0
 z0:=Tryz.sizeOf0
 v0:=Tryz.zeroValue0
 t3:=Tryz.underlying3
 a3:=Tryz.isAgg3
 z3:=Tryz.sizeOf3
 v3:=Tryz.zeroValue3
 t9:=Tryz.underlying9
 a9:=Tryz.isAgg9
 z9:=Tryz.sizeOf9
 v9:=Tryz.zeroValue9
 t37:=Tryz.underlying68
 a37:=Tryz.isAgg68
 z37:=Tryz.sizeOf68
 v37:=Tryz.zeroValue68
 t70:=Tryz.underlying76
 a70:=Tryz.isAgg76
 z70:=Tryz.sizeOf76
 v70:=Tryz.zeroValue76
 t72:=Tryz.underlying78
 a72:=Tryz.isAgg78
 z72:=Tryz.sizeOf78
 v72:=Tryz.zeroValue78
 t127:=Tryz.underlying118
 a127:=Tryz.isAgg118
 z127:=Tryz.sizeOf118
 v127:=Tryz.zeroValue118 }
theorem Tryz.Builder_Extra_169:Builder.Extra Tryz.prog Tryz.lays169_ren:={
 sizeBuilder:=by kernel_rfl
 liesBuilder:=by kernel_rfl
 t5:=Tryz.underlying5
 a5:=Tryz.isAgg5
 z5:=Tryz.sizeOf5
 v5:=Tryz.zeroValue5
 infoByte:=by kernel_rfl
 cellsByte:=by kernel_rfl
 sizeByte:=by kernel_rfl
 neB5:=by decide }
def Tryz.lays156_ren:Go.Shelf.Ren:=⟨fun | 156=>29 | 165=>56 | 166=>28 | 169=>30 | 240=>55 | 241=>114 | 276=>113 | 277=>165 | n=>n,fun | 31=>36 | 9=>9 | 3=>3 | 4=>4 | 0=>0 | 20=>20 | 72=>78 | 76=>85 | 70=>76 | 37=>68 | 75=>84 | 127=>118 | 164=>163 | 5=>5 | 80=>88 | n=>n,fun | n=>n⟩
theorem Tryz.lays156:Go.Proofs.Lays.n156 Tryz.prog Tryz.lays156_ren:={
 mixed:=by kernel_rfl
 f156:=Tryz.func29.trans (congrArg some (by kernel_rfl))
 f165:=Tryz.func56.trans (congrArg some (by kernel_rfl))
 f166:=Tryz.func28.trans (congrArg some (by kernel_rfl))
 f169:=Tryz.func30.trans (congrArg some (by kernel_rfl))
 f240:=Tryz.func55.trans (congrArg some (by kernel_rfl))
 f241:=Tryz.func114.trans (congrArg some (by kernel_rfl))
 f276:=Tryz.func113.trans (congrArg some (by kernel_rfl))
 f277:=Tryz.func165.trans (congrArg some (by kernel_rfl))
 t0:=Tryz.underlying0
 a0:=Tryz.isAgg0
 z0:=Tryz.sizeOf0
 v0:=Tryz.zeroValue0
 t3:=Tryz.underlying3
 a3:=Tryz.isAgg3
 z3:=Tryz.sizeOf3
 v3:=Tryz.zeroValue3
 t4:=Tryz.underlying4
 a4:=Tryz.isAgg4
 z4:=Tryz.sizeOf4
 v4:=Tryz.zeroValue4
 t9:=Tryz.underlying9
 a9:=Tryz.isAgg9
 z9:=Tryz.sizeOf9
 v9:=Tryz.zeroValue9
 t20:=Tryz.underlying20
 a20:=Tryz.isAgg20
 z20:=Tryz.sizeOf20
 v20:=Tryz.zeroValue20
 t31:=Tryz.underlying36
 a31:=Tryz.isAgg36
 z31:=Tryz.sizeOf36
 v31:=Tryz.zeroValue36
 t37:=Tryz.underlying68
 a37:=Tryz.isAgg68
 z37:=Tryz.sizeOf68
 v37:=Tryz.zeroValue68
 t70:=Tryz.underlying76
 a70:=Tryz.isAgg76
 z70:=Tryz.sizeOf76
 v70:=Tryz.zeroValue76
 t72:=Tryz.underlying78
 a72:=Tryz.isAgg78
 z72:=Tryz.sizeOf78
 v72:=Tryz.zeroValue78
 t75:=Tryz.underlying84
 a75:=Tryz.isAgg84
 z75:=Tryz.sizeOf84
 v75:=Tryz.zeroValue84
 t76:=Tryz.underlying85
 a76:=Tryz.isAgg85
 z76:=Tryz.sizeOf85
 v76:=Tryz.zeroValue85
 t127:=Tryz.underlying118
 a127:=Tryz.isAgg118
 z127:=Tryz.sizeOf118
 v127:=Tryz.zeroValue118
 t164:=Tryz.underlying163
 a164:=Tryz.isAgg163
 z164:=Tryz.sizeOf163
 v164:=Tryz.zeroValue163 }
theorem Tryz.Builder_Extra_156:Builder.Extra Tryz.prog Tryz.lays156_ren:={
 sizeBuilder:=by kernel_rfl
 liesBuilder:=by kernel_rfl
 t5:=Tryz.underlying5
 a5:=Tryz.isAgg5
 z5:=Tryz.sizeOf5
 v5:=Tryz.zeroValue5
 infoByte:=by kernel_rfl
 cellsByte:=by kernel_rfl
 sizeByte:=by kernel_rfl
 neB5:=by decide }
theorem Tryz.strings_Join(bk o c:Nat)(xs:List ByteArray)(sep:ByteArray)(w:World)(hcells:∀(j:Nat) x,xs[j]?=some x→w.cell? ⟨bk,o+j,none⟩=some (.string x))(hbk:bk<w.heap.size)(hN:xs.length≤140737488355328)(hcap:xs.length≤c)(hlen:(Lib.join (xs.map (·.data.toList)) sep.data.toList).length≤140737488355328) :
  Calls Tryz.prog 29 #[.slice (some ⟨bk,o,none⟩) xs.length c,.string sep] w fun e w'=>e=.returned (.string ⟨(Lib.join (xs.map (·.data.toList)) sep.data.toList).toArray⟩)∧Below w.heap.size w w':=Any.strings_Join Tryz.lays156 Tryz.Builder_Extra_156 bk o c xs sep w hcells hbk hN hcap hlen
def Tryz.lays137_ren:Go.Shelf.Ren:=⟨fun | 137=>79 | 217=>147 | 266=>182 | n=>n,fun | 9=>9 | 5=>5 | 3=>3 | n=>n,fun | n=>n⟩
theorem Tryz.lays137:Go.Proofs.Lays.n137 Tryz.prog Tryz.lays137_ren:={
 mixed:=by kernel_rfl
 f137:=Tryz.func79.trans (congrArg some (by kernel_rfl))
 f217:=Tryz.func147.trans (congrArg some (by kernel_rfl))
 f266:=Tryz.func182.trans (congrArg some (by kernel_rfl))
 t3:=Tryz.underlying3
 a3:=Tryz.isAgg3
 z3:=Tryz.sizeOf3
 v3:=Tryz.zeroValue3
 t5:=Tryz.underlying5
 a5:=Tryz.isAgg5
 z5:=Tryz.sizeOf5
 v5:=Tryz.zeroValue5
 t9:=Tryz.underlying9
 a9:=Tryz.isAgg9
 z9:=Tryz.sizeOf9
 v9:=Tryz.zeroValue9 }
theorem Tryz.strings_IndexByte(s:ByteArray)(c:Int)(w:World) :
  Calls Tryz.prog 79 #[.string s,.int .u8 c] w fun e w'=>e=.returned (.int .i64 (Lib.indexByte s.data.toList c.toNat.toUInt8))∧w'=w:=Any.strings_IndexByte Tryz.lays137 s c w
theorem Tryz.Builder_String_any_k(B b:Nat)(l:List UInt8)(w:World)(h:Lib.IsBuilderF 78 5 B b (Lib.byteCells l) w)(hBw:B≤w.heap.size) :
  Calls Tryz.prog 30 #[.pointer (some ⟨b,0,none⟩)] w fun e w'=>e=.returned (.string ⟨l.toArray⟩)∧(Lib.IsBuilderF 78 5 B b (Lib.byteCells l) w'∧Below B w w'∧Lib.OthersKept 5 (some b) w w'):=Any.Builder_String_any_k Tryz.lays169 Tryz.Builder_Extra_169 B b l w h hBw
def Tryz.lays99_ren:Go.Shelf.Ren:=⟨fun | 99=>142 | 206=>181 | n=>n,fun | 9=>9 | 4=>4 | 3=>3 | n=>n,fun | n=>n⟩
theorem Tryz.lays99:Go.Proofs.Lays.n99 Tryz.prog Tryz.lays99_ren:={
 mixed:=by kernel_rfl
 f99:=Tryz.func142.trans (congrArg some (by kernel_rfl))
 f206:=Tryz.func181.trans (congrArg some (by kernel_rfl))
 t3:=Tryz.underlying3
 a3:=Tryz.isAgg3
 z3:=Tryz.sizeOf3
 v3:=Tryz.zeroValue3
 t4:=Tryz.underlying4
 a4:=Tryz.isAgg4
 z4:=Tryz.sizeOf4
 v4:=Tryz.zeroValue4
 t9:=Tryz.underlying9
 a9:=Tryz.isAgg9
 z9:=Tryz.sizeOf9
 v9:=Tryz.zeroValue9 }
theorem Tryz.strings_HasPrefix(s p:ByteArray)(w:World) :
  Calls Tryz.prog 142 #[.string s,.string p] w fun e w'=>e=.returned (.bool (Lib.hasPrefix s.data.toList p.data.toList))∧w'=w:=Any.strings_HasPrefix Tryz.lays99 s p w
def Tryz.lays109_ren:Go.Shelf.Ren:=⟨fun | 109=>187 | n=>n,fun | 31=>36 | 9=>9 | 3=>3 | 0=>0 | 4=>4 | n=>n,fun | n=>n⟩
theorem Tryz.lays109:Go.Proofs.Lays.n109 Tryz.prog Tryz.lays109_ren:={
 mixed:=by kernel_rfl
 f109:=Tryz.func187.trans (congrArg some (by kernel_rfl))
 t0:=Tryz.underlying0
 a0:=Tryz.isAgg0
 z0:=Tryz.sizeOf0
 v0:=Tryz.zeroValue0
 t3:=Tryz.underlying3
 a3:=Tryz.isAgg3
 z3:=Tryz.sizeOf3
 v3:=Tryz.zeroValue3
 t4:=Tryz.underlying4
 a4:=Tryz.isAgg4
 z4:=Tryz.sizeOf4
 v4:=Tryz.zeroValue4
 t9:=Tryz.underlying9
 a9:=Tryz.isAgg9
 z9:=Tryz.sizeOf9
 v9:=Tryz.zeroValue9
 t31:=Tryz.underlying36
 a31:=Tryz.isAgg36
 z31:=Tryz.sizeOf36
 v31:=Tryz.zeroValue36 }
theorem Tryz.slices_Index_string(b off n c:Nat)(zs:List ByteArray)(x:ByteArray)(w:World)(hz:n≤zs.length)(hbig:n≤9223372036854775807)(hc:∀j,j<zs.length→w.cell? ⟨b,off+j,none⟩=some (.string (zs.getD j ByteArray.empty))) :
  Calls Tryz.prog 187 #[.slice (some ⟨b,off,none⟩) n c,.string x] w fun e w'=>e=.returned (.int .i64 (Lib.idxOfS (zs.take n) x))∧w'=w:=Any.slices_Index_string Tryz.lays109 b off n c zs x w hz hbig hc
end Go.Proofs
namespace Go.Proofs.YthajalgkjonaaaaGreatDoor
open Go.RowKit
abbrev B(c:UInt8):Value:=.int .u8 (c.toNat:Int)
abbrev S(l:List UInt8):Value:=.string ⟨l.toArray⟩
theorem bsize(l:List UInt8):(⟨l.toArray⟩:ByteArray).size=l.length:=by simp[ByteArray.size]
@[go_sem] theorem bget (l:List UInt8) (k:Nat) (h:k<(⟨l.toArray⟩:ByteArray).size):(⟨l.toArray⟩:ByteArray)[k]=l[k]'(by rw[bsize] at h;exact h):=rfl
@[go_sem] theorem bext (l:List UInt8) (a b:Nat):(⟨l.toArray⟩:ByteArray).extract a b=⟨((l.drop a).take (b-a)).toArray⟩:=by
 apply ByteArray.ext;apply Array.ext';rw[ByteArray.data_extract,Array.toList_extract]
@[go_sem] theorem takeRest (l:List UInt8) (a:Nat):(l.drop a).take (l.length-a)=l.drop a:=List.take_of_length_le (by rw[List.length_drop];omega)
theorem ret_bool{a b:Bool}(h:a=b):Ending.returned (.bool a)=.returned (.bool b):=by rw[h]
theorem ret_int{k:IntKind}{a b:Int}(h:a=b):Ending.returned (.int k a)=.returned (.int k b):=by rw[h]
set_option maxHeartbeats 400000 in
theorem blank_any(c:UInt8)(w:World):Calls Tryz.prog 74 #[B c] w fun e w'=>e=.returned (.bool (Lfc.blankB c))∧w=w':=by
 go_enter Tryz.func74,Tryz.ntmps74;go_wp2;all_goals
  go_ret;exact⟨ret_bool (by rw[Bool.eq_iff_iff];simp[Lfc.blankB] <;> omega),rfl⟩
set_option maxHeartbeats 400000 in
theorem letter_any(c:UInt8)(w:World):Calls Tryz.prog 144 #[B c] w fun e w'=>e=.returned (.bool (Lfc.letterB c))∧w=w':=by
 go_enter Tryz.func144,Tryz.ntmps144;go_wp2;all_goals
  go_ret;exact⟨ret_bool (by rw[Bool.eq_iff_iff];simp[Lfc.letterB] <;> omega),rfl⟩
set_option maxHeartbeats 400000 in
theorem notNl_any(c:UInt8)(w:World):Calls Tryz.prog 145 #[B c] w fun e w'=>e=.returned (.bool (Lfc.notNlB c))∧w=w':=by
 go_enter Tryz.func145,Tryz.ntmps145;go_wp2;all_goals
  go_ret;exact⟨ret_bool (by rw[Bool.eq_iff_iff];simp[Lfc.notNlB] <;> omega),rfl⟩
set_option maxHeartbeats 1000000 in
theorem rSpecial_any(c:UInt8)(w:World):Calls Tryz.prog 195 #[B c] w fun e w'=>e=.returned (.bool (Lfc.specialB c))∧w=w':=by
 go_enter Tryz.func195,Tryz.ntmps195;go_wp2;all_goals
  go_ret;exact⟨ret_bool (by rw[Bool.eq_iff_iff];simp[Lfc.specialB] <;> omega),rfl⟩
set_option maxHeartbeats 1000000 in
theorem rNameByte_any(c:UInt8)(w:World):Calls Tryz.prog 173 #[B c] w fun e w'=>e=.returned (.bool (Lfc.nameB c))∧w=w':=by
 go_enter Tryz.func173,Tryz.ntmps173;go_wp2_with (go_at_call 195;refine(rSpecial_any c _).mono ?_;rintro e w'⟨rfl,rfl⟩);all_goals
  go_ret;exact⟨ret_bool (by rw[Bool.eq_iff_iff];simp[Lfc.nameB,Lfc.specialB] at * <;> omega),rfl⟩
theorem idx_neg(l:List UInt8)(c:UInt8):(Lib.indexByte l c<0)↔¬c∈l:=by
 constructor
 ·intro h hm;have h1:=Lib.indexByte_ge l c;obtain⟨k,hk⟩:=List.mem_iff_getElem?.1 hm;exact Lib.indexByte_none (by omega) k hk
 intro h;rcases Int.lt_or_le (Lib.indexByte l c) 0 with h0 | h0
 ·exact h0
 obtain⟨o,ho⟩:=Int.eq_ofNat_of_zero_le h0;exact absurd (List.mem_iff_getElem?.2 ⟨o,(Lib.indexByte_some ho).1⟩) h
theorem mem_name(c:UInt8):c∈[(40:UInt8),41,91,93,123,125,58,46,37]↔((c.toNat=40∨c.toNat=41∨c.toNat=91∨c.toNat=93∨c.toNat=123∨c.toNat=125∨c.toNat=58∨c.toNat=46)∨c.toNat=37):=by
 simp[←UInt8.toNat_inj];omega
theorem mem_special(c:UInt8):c∈[(40:UInt8),41,91,93,123,125,58,46]↔(c.toNat=40∨c.toNat=41∨c.toNat=91∨c.toNat=93∨c.toNat=123∨c.toNat=125∨c.toNat=58∨c.toNat=46):=by
 simp[←UInt8.toNat_inj]
theorem idxName_any(c:UInt8)(w:World):Calls Tryz.prog 79 #[.string ⟨#[40,41,91,93,123,125,58,46,37]⟩,B c] w fun e w'=>∃i:Int,e=.returned (.int .i64 i)∧(i<0↔¬((c.toNat=40∨c.toNat=41∨c.toNat=91∨c.toNat=93∨c.toNat=123∨c.toNat=125∨c.toNat=58∨c.toNat=46)∨c.toNat=37))∧w=w':=by
 refine(Tryz.strings_IndexByte _ _ _).mono ?_;rintro e w'⟨rfl,rfl⟩;refine⟨_,rfl,?_,rfl⟩;rw[idx_neg,show((c.toNat:Int).toNat.toUInt8)=c by simp,←mem_name]
theorem idxSpecial_any(c:UInt8)(w:World):Calls Tryz.prog 79 #[.string ⟨#[40,41,91,93,123,125,58,46]⟩,B c] w fun e w'=>∃i:Int,e=.returned (.int .i64 i)∧(i<0↔¬(c.toNat=40∨c.toNat=41∨c.toNat=91∨c.toNat=93∨c.toNat=123∨c.toNat=125∨c.toNat=58∨c.toNat=46))∧w=w':=by
 refine(Tryz.strings_IndexByte _ _ _).mono ?_;rintro e w'⟨rfl,rfl⟩;refine⟨_,rfl,?_,rfl⟩;rw[idx_neg,show((c.toNat:Int).toNat.toUInt8)=c by simp,←mem_special]
set_option maxRecDepth 100000 in
set_option maxHeartbeats 1000000 in
theorem nameByte_any(c:UInt8)(w:World):Calls Tryz.prog 76 #[B c] w fun e w'=>e=.returned (.bool (Lfc.nameB c))∧w=w':=by
 go_enter Tryz.func76,Tryz.ntmps76;go_wp2_with (go_at_call 79;refine(idxName_any _ _).mono ?_;rintro e w'⟨i,rfl,hi,rfl⟩;have Hi:=Lib.hid hi;clear hi)
 ·go_ret;have hi:=Hi.out;exact⟨ret_bool (by rw[Bool.eq_iff_iff];simp[Lfc.nameB,hi] at * <;> omega),rfl⟩
 all_goals
  go_ret;exact⟨ret_bool (by rw[Bool.eq_iff_iff];simp[Lfc.nameB] at * <;> omega),rfl⟩
set_option maxHeartbeats 1000000 in
theorem reserved_any(l:List UInt8)(w:World):Calls Tryz.prog 146 #[S l] w fun e w'=>e=.returned (.bool (Lfc.reservedB l))∧w=w':=by
 go_enter Tryz.func146,Tryz.ntmps146;go_wp2;all_goals
  go_ret;exact⟨ret_bool (by simp_all [Lfc.reservedB]),rfl⟩
set_option maxHeartbeats 1000000 in
theorem rReserved_any(l:List UInt8)(w:World):Calls Tryz.prog 172 #[S l] w fun e w'=>e=.returned (.bool (Lfc.reservedB l))∧w=w':=by
 go_enter Tryz.func172,Tryz.ntmps172;go_wp2;all_goals
  go_ret;exact⟨ret_bool (by simp_all [Lfc.reservedB]),rfl⟩
theorem runLen_drop(p:UInt8→Bool)(l:List UInt8)(k:Nat)(h:k<l.length):Lfc.runLen p (l.drop k)=if p l[k] then Lfc.runLen p (l.drop (k+1))+1 else 0:=by
 rw[List.drop_eq_getElem_cons h,Lfc.runLen]
set_option maxHeartbeats 1000000 in
theorem run_any(f:FuncId)(he:∀args w,(callFunc f args).run Tryz.prog w=.ok (.enter f args) w)(p:UInt8→Bool)(hf:∀c w,Calls Tryz.prog f #[B c] w fun e w'=>e=.returned (.bool (p c))∧w=w')(l:List UInt8)(at_:Nat)(w:World)(hl:l.length≤65536)(ha:at_≤l.length) :
  Calls Tryz.prog 77 #[S l,.int .i64 at_,.func (.func f) #[] #[]] w fun e w'=>e=.returned (.int .i64 ((at_+Lfc.runLen p (l.drop at_):Nat):Int))∧w=w':=by
 have Hf:=Lib.hid hf;clear hf;go_enter Tryz.func77,Tryz.ntmps77;go_wp2_with fail
 go_loop [1] (fun i=>∃k:Nat,k≤l.length∧i=.int .i64 k∧Hid (k+Lfc.runLen p (l.drop k)=at_+Lfc.runLen p (l.drop at_))) (fun i=>l.length-(intOf i).toNat)
 case atStart=>exact⟨at_,ha,rfl,Lib.hid rfl⟩
 obtain⟨k,hk,rfl,hr⟩:=hrel;by_cases hlt:k<l.length
 ·have hd:=runLen_drop p l k hlt;cases hp:p l[k]
  ·rw[hp] at hd;have Hd:=Lib.hid hd;have Hp:=Lib.hid hp;clear hd hp;go_wp2_with fail;refine(Hf.out _ _).mono ?_;rintro e w'⟨rfl,rfl⟩;rw[Hp.out];go_wp2_with fail;go_ret;exact⟨ret_int (by have:=Hd.out;have:=hr.out;simp at *;omega),rfl⟩
  rw[hp] at hd;have Hd:=Lib.hid hd;have Hp:=Lib.hid hp;clear hd hp;go_wp2_with fail;refine(Hf.out _ _).mono ?_;rintro e w'⟨rfl,rfl⟩;rw[Hp.out];go_wp2_with fail
  go_round
  case rel=>exact⟨k+1,by omega,by go_num,Lib.hid (by have:=Hd.out;have:=hr.out;simp at *;omega)⟩
  case measure=>simp[intOf];omega
 go_wp2_with fail;go_ret;have hk':k=l.length:=by omega
 exact⟨ret_int (by have:=hr.out;subst hk';simp[Lfc.runLen] at *;omega),rfl⟩
theorem runName_any(l:List UInt8)(at_:Nat)(w:World)(hl:l.length≤65536)(ha:at_≤l.length) :
  Calls Tryz.prog 77 #[S l,.int .i64 at_,.func (.func 76) #[] #[]] w fun e w'=>e=.returned (.int .i64 ((at_+Lfc.runLen Lfc.nameB (l.drop at_):Nat):Int))∧w=w' :=
 run_any 76 (enters_of Tryz.func76 (by kernel_rfl) rfl) _ nameByte_any l at_ w hl ha
theorem runLetter_any(l:List UInt8)(at_:Nat)(w:World)(hl:l.length≤65536)(ha:at_≤l.length) :
  Calls Tryz.prog 77 #[S l,.int .i64 at_,.func (.func 144) #[] #[]] w fun e w'=>e=.returned (.int .i64 ((at_+Lfc.runLen Lfc.letterB (l.drop at_):Nat):Int))∧w=w' :=
 run_any 144 (enters_of Tryz.func144 (by kernel_rfl) rfl) _ letter_any l at_ w hl ha
theorem runNl_any(l:List UInt8)(at_:Nat)(w:World)(hl:l.length≤65536)(ha:at_≤l.length) :
  Calls Tryz.prog 77 #[S l,.int .i64 at_,.func (.func 145) #[] #[]] w fun e w'=>e=.returned (.int .i64 ((at_+Lfc.runLen Lfc.notNlB (l.drop at_):Nat):Int))∧w=w' :=
 run_any 145 (enters_of Tryz.func145 (by kernel_rfl) rfl) _ notNl_any l at_ w hl ha
theorem cmt_drop2(d:Nat)(l:List UInt8)(k:Nat)(h:k+1<l.length):Lfc.cmt d (l.drop k)=if l[k].toNat=37∧l[k+1].toNat=123 then Lfc.cmt (d+1) (l.drop (k+2))
  else if l[k].toNat=125∧l[k+1].toNat=37 then(if d≤1 then some (l.drop (k+2)) else Lfc.cmt (d-1) (l.drop (k+2))) else Lfc.cmt d (l.drop (k+1)):=by
 rw[List.drop_eq_getElem_cons (by omega:k<l.length),List.drop_eq_getElem_cons h,Lfc.cmt,←List.drop_eq_getElem_cons h]
theorem cmt_short(d:Nat)(l:List UInt8)(k:Nat)(h:¬k+1<l.length):Lfc.cmt d (l.drop k)=none:=by
 have hl:(l.drop k).length≤1:=by rw[List.length_drop];omega
 match l.drop k,hl with
 |[],_=>simp[Lfc.cmt]
 |[a],_=>simp[Lfc.cmt]
def cmtEnd(l:List UInt8):Option (List UInt8)→Int
 |some r=>((l.length-r.length:Nat):Int)
 |none=>-1
theorem take2(l:List UInt8)(k:Nat)(h:k+1<l.length):(l.drop k).take 2=[l[k],l[k+1]]:=by
 rw[List.drop_eq_getElem_cons (by omega:k<l.length),List.drop_eq_getElem_cons h];rfl
set_option maxHeartbeats 1000000 in
theorem comment_any(l:List UInt8)(at_:Nat)(w:World)(hl:l.length≤65536)(ha:at_+1<l.length)(h1:((l.drop at_).take 2 == [37,123])=true) :
  Calls Tryz.prog 143 #[S l,.int .i64 at_] w fun e w'=>e=.returned (.int .i64 (cmtEnd l (Lfc.cmt 1 (l.drop (at_+2)))))∧w=w':=by
 have h0:=cmt_drop2 0 l at_ ha;rw[if_pos (by rw[take2 l at_ ha] at h1;simp at h1;rw[h1.1,h1.2];exact⟨rfl,rfl⟩)] at h0;have H0:=Lib.hid h0;have H1:=Lib.hid h1;clear h0 h1;go_enter Tryz.func143,Tryz.ntmps143;go_wp2_with fail
 go_loop [1,5] (fun i o=>∃k d:Nat,k≤l.length∧d≤k∧i=.int .i64 k∧o=.int .i64 d∧Hid (Lfc.cmt d (l.drop k)=Lfc.cmt 1 (l.drop (at_+2)))∧Hid (d=0→((l.drop k).take 2 == [37,123])=true)) (fun i _=>l.length-(intOf i).toNat)
 case atStart=>exact⟨at_,0,by omega,by omega,rfl,rfl,H0,Lib.hid fun _=>H1.out⟩
 obtain⟨k,d,hk,hdk,rfl,rfl,hr,hz⟩:=hrel;by_cases hlt:k+1<l.length
 ·have hd:=cmt_drop2 d l k hlt;have ht2:=take2 l k hlt;cases ht:((l.drop k).take 2 == [37,123])
  ·have hne:¬(l[k].toNat=37∧l[k+1].toNat=123):=by
    intro hh;rw[ht2] at ht;simp[←UInt8.toNat_inj,hh] at ht
   rw[if_neg hne] at hd;have hd1:1≤d:=by
    rcases Nat.eq_zero_or_pos d with h0 | h0
    ·rw[hz.out h0] at ht;cases ht
    exact h0
   cases hu:((l.drop k).take 2 == [125,37])
   ·have hne2:¬(l[k].toNat=125∧l[k+1].toNat=37):=by
     intro hh;rw[ht2] at hu;simp[←UInt8.toNat_inj,hh] at hu
    rw[if_neg hne2] at hd;have Hd:=Lib.hid hd;clear hd ht2 hne hne2;go_wp2_with fail
    go_round
    case rel=>exact⟨k+1,d,by omega,by omega,by go_num,rfl,Lib.hid (by rw[←hr.out,Hd.out]),Lib.hid fun h=>by omega⟩
    case measure=>simp[intOf];omega
   have hpos:(l[k].toNat=125∧l[k+1].toNat=37):=by
    rw[ht2] at hu;simp at hu;rw[hu.1,hu.2];exact⟨rfl,rfl⟩
   rw[if_pos hpos] at hd;by_cases hd2:d≤1
   ·rw[if_pos hd2] at hd;obtain rfl:d=1:=(by omega);have Hd:=Lib.hid hd;clear hd ht2 hne hpos;go_wp2_with fail;go_ret;exact⟨ret_int (by rw[←hr.out,Hd.out];simp[cmtEnd];omega),rfl⟩
   rw[if_neg hd2] at hd;have Hd:=Lib.hid hd;clear hd ht2 hne hpos;go_wp2_with fail
   go_round
   case rel=>exact⟨k+2,d-1,by omega,by omega,by go_num,by go_num,Lib.hid (by rw[←hr.out,Hd.out]),Lib.hid fun h=>by omega⟩
   case measure=>simp[intOf];omega
  have hpos:(l[k].toNat=37∧l[k+1].toNat=123):=by
   rw[ht2] at ht;simp at ht;rw[ht.1,ht.2];exact⟨rfl,rfl⟩
  rw[if_pos hpos] at hd;have Hd:=Lib.hid hd;clear hd ht2 hpos;go_wp2_with fail
  go_round
  case rel=>exact⟨k+2,d+1,by omega,by omega,by go_num,by go_num,Lib.hid (by rw[←hr.out,Hd.out]),Lib.hid fun h=>by omega⟩
  case measure=>simp[intOf];omega
 go_wp2_with fail;go_ret;exact⟨ret_int (by rw[←hr.out,cmt_short d l k hlt];rfl),rfl⟩
end Go.Proofs.YthajalgkjonaaaaGreatDoor
namespace Go.RowKit
theorem Hid.o {p : Prop} (h : Hid p) : p := h.out
end Go.RowKit
namespace Go.Proofs.YthajalgkjonaaaaGreatDoor
section
open Go.RowKit
abbrev zc (W : World) (b o : Nat) (v : Value) : Prop := W.cell? ⟨b, o, none⟩ = some v
abbrev zb (w w' : World) : Prop := Below w.heap.size w w'
abbrev zk (W : World) (b : Nat) (c : Array Value) (t : TypeId) : Prop := W.heap[b]? = some (.cells c t (0, 0))
abbrev zI (x : Int) : Value := .int .i64 x
abbrev zS : Value := .slice none 0 0
abbrev zT {α : Type} (k : Int) (n : List UInt8) (p : Int) (A : Option Addr) (ts : List α) (c : Nat) : Array Value := #[.int .i64 k, S n, .int .i64 p, .slice A ts.length c]
theorem zG {w w1 : World} {o : Obj} (h : w.alloc o = w1) : Below w.heap.size w w1 := by rw [← h]; exact (Below.refl _ _).alloc (Nat.le_refl _) _
theorem zQ {w w1 : World} {c : Array Value} {t : TypeId} (h : w.alloc (.cells c t) = w1) : w1.heap[w.heap.size]? = some (.cells c t (0, 0)) := by rw [← h]; exact heap_alloc_new _ _
theorem zH {p : Prop} (h : p) : Hid p := h
theorem zC {w : World} {b : Nat} {cs : Array Value} {T : TypeId} {fr : Nat × Nat} (hb : w.heap[b]? = some (.cells cs T fr)) (j : Nat) : w.cell? ⟨b, j, none⟩ = cs[j]? := Lib.cell_of_heap hb j
theorem zF {w : World} {b : Nat} {cs : Array Value} {T : TypeId} (hb : w.heap[b]? = some (.cells cs T (0, 0))) (j : Nat) : w.frozen? ⟨b, j, none⟩ = false := Lib.frozen_of_heap hb j
theorem zL {w : World} {b : Nat} {o : Obj} (h : w.heap[b]? = some o) : b < w.heap.size := lt_of_block h
theorem zA (w : World) (o : Obj) (i : Nat) (h : i < w.heap.size) : (w.alloc o).heap[i]? = w.heap[i]? := Lib.alloc_old w o i h
theorem zW (w : World) (o : Obj) : (w.alloc o).heap[w.heap.size]? = some o := heap_alloc_new w o
theorem zO {α : Type} {a b : α} (h : some a = some b) : a = b := Option.some.inj h
theorem zN (n : Nat) : n ≤ n := Nat.le_refl n
theorem zB (B : Nat) (w : World) : Below B w w := Below.refl B w
theorem zU {w w' : World} {b j : Nat} {v : Value} {cs cs' : Array Value} {T : TypeId} {fr : Nat × Nat} (h : w.heap[b]? = some (.cells cs T fr)) (e : w.setCell ⟨b, j, none⟩ v = w') (hc : cs.setIfInBounds j v = cs' := by rfl) : w'.heap[b]? = some (.cells cs' T fr) := by subst e; subst hc; simp [World.setCell, Array.getElem?_modify, h]
theorem zJ {a b : Prop} (x : a) (y : b) : Hid (a ∧ b) := zH ⟨x, y⟩
theorem Zd {p : Prop} [Decidable p] : (decide p = true) = p := decide_eq_true_eq
theorem Zf {p : Prop} [Decidable p] : decide p = false ↔ ¬p := decide_eq_false_iff_not
theorem Zt {p : Prop} [Decidable p] (h : p) : decide p = true := decide_eq_true h
theorem Zu {p : Prop} [Decidable p] (h : ¬p) : decide p = false := decide_eq_false h
theorem zR {a b c : Nat} (h : a ≤ b) (k : b ≤ c) : a ≤ c := Nat.le_trans h k
theorem Zl {a b c : Nat} (h : a < b) (k : b ≤ c) : a < c := Nat.lt_of_lt_of_le h k
theorem zM {α : Type _} {xs : Array α} {i j : Nat} {f : α → α} : (xs.modify i f)[j]? = if i = j then xs[j]?.map f else xs[j]? := Array.getElem?_modify
theorem zP (n : Nat) : (0 : Int) ≤ (n : Int) := Int.natCast_nonneg n
theorem Ze {α : Type _} {l : List α} {n : Nat} (h : n < l.length) : l[n] ∈ l := List.getElem_mem h
theorem Zi (x : Int) (h : -9223372036854775808 ≤ x ∧ x ≤ 9223372036854775807) : IntKind.i64.wrap x = x := IntWalk.i64_in x h
theorem Za (a b : Bool) : ((a && b) = true) = (a = true ∧ b = true) := Bool.and_eq_true a b
theorem Zq {α : Type _} {l m : List α} : (l ++ m).length = l.length + m.length := List.length_append
theorem Zg {α : Type _} {l : List α} {i : Nat} (h : i < l.length) : l[i]? = some l[i] := List.getElem?_eq_getElem h
theorem Zz {α : Type _} {l : List α} (h : l.length = 0) : l = [] := List.length_eq_zero_iff.1 h
theorem Zm {α : Type _} {i : Nat} {l : List α} (h : i < l.length) : l.take (i + 1) = l.take i ++ [l[i]] := List.take_succ_eq_append_getElem h
theorem Zc {α : Type _} {a : α} {l : List α} {i : Nat} : (a :: l).take (i + 1) = a :: l.take i := List.take_succ_cons
theorem Zb {P : Program} {fn : Func} {R : Ending → World → Prop} {a : Act} {w : World} {v : Value} (hr : (results fn a.tmps).run P w = .ok v w) (hR : R (.returned v) w) (hd : a.defers = [] := by rfl) : bodyPost P fn R .ret a w := bodyPost_ret hr hd hR
theorem Zs {P : Program} {id : Nat} {Q : Exit → Act → World → Prop} {a : Act} {w : World} {l : List Oper} (n : Nat) (h : wpStill P l.toArray { w with drawn := w.drawn + 1 } (fun a' => wpList P l.toArray Q (l.drop n) a' { w with drawn := w.drawn + 1 }) (l.take n) a) (hm : P.follows .mixedOrders = true := by kernel_rfl) (hB : Region.lexTailB .any l.toArray n = true := by kernel_rfl) : (Code.region id l.toArray true).wp P Q a w := wp_region_still_tail n hm hB h
section
variable {P : Program} {ops : Array Oper} {Q : Exit → Act → World → Prop} {md : Region.Mode} {S : World → Prop} {fuel : Nat} {l : Array Bool} {a : Act} {w : World}
theorem rd1 (i0 : Nat) {o0 : Oper} (h0 : ∀ K' : Act → World → Prop, Shut (∀ a w, S w → (S w → wpAnyH P md ops Q S fuel (l.setIfInBounds i0 true) a w) → K' a w) → if Region.wanted o0 (yielded ops a.tmps) = true then Oper.wp P o0 a w K' Q else K' (a.put o0.dst undef) w) (e0 : ops[i0]? = some o0 := by rfl) (hr : Region.ready md ops l = [i0] := by kernel_rfl) : wpAnyH P md ops Q S (fuel + 1) l a w := wpAnyH_ready hr (by simp) (AllReadyH.cons e0 h0 AllReadyH.nil)
theorem rd2 (i0 i1 : Nat) {o0 o1 : Oper} (h0 : ∀ K' : Act → World → Prop, Shut (∀ a w, S w → (S w → wpAnyH P md ops Q S fuel (l.setIfInBounds i0 true) a w) → K' a w) → if Region.wanted o0 (yielded ops a.tmps) = true then Oper.wp P o0 a w K' Q else K' (a.put o0.dst undef) w) (h1 : ∀ K' : Act → World → Prop, Shut (∀ a w, S w → (S w → wpAnyH P md ops Q S fuel (l.setIfInBounds i1 true) a w) → K' a w) → if Region.wanted o1 (yielded ops a.tmps) = true then Oper.wp P o1 a w K' Q else K' (a.put o1.dst undef) w) (e0 : ops[i0]? = some o0 := by rfl) (e1 : ops[i1]? = some o1 := by rfl) (hr : Region.ready md ops l = [i0, i1] := by kernel_rfl) : wpAnyH P md ops Q S (fuel + 1) l a w := wpAnyH_ready hr (by simp) (AllReadyH.cons e0 h0 (AllReadyH.cons e1 h1 AllReadyH.nil))
theorem rd3 (i0 i1 i2 : Nat) {o0 o1 o2 : Oper} (h0 : ∀ K' : Act → World → Prop, Shut (∀ a w, S w → (S w → wpAnyH P md ops Q S fuel (l.setIfInBounds i0 true) a w) → K' a w) → if Region.wanted o0 (yielded ops a.tmps) = true then Oper.wp P o0 a w K' Q else K' (a.put o0.dst undef) w) (h1 : ∀ K' : Act → World → Prop, Shut (∀ a w, S w → (S w → wpAnyH P md ops Q S fuel (l.setIfInBounds i1 true) a w) → K' a w) → if Region.wanted o1 (yielded ops a.tmps) = true then Oper.wp P o1 a w K' Q else K' (a.put o1.dst undef) w) (h2 : ∀ K' : Act → World → Prop, Shut (∀ a w, S w → (S w → wpAnyH P md ops Q S fuel (l.setIfInBounds i2 true) a w) → K' a w) → if Region.wanted o2 (yielded ops a.tmps) = true then Oper.wp P o2 a w K' Q else K' (a.put o2.dst undef) w) (e0 : ops[i0]? = some o0 := by rfl) (e1 : ops[i1]? = some o1 := by rfl) (e2 : ops[i2]? = some o2 := by rfl) (hr : Region.ready md ops l = [i0, i1, i2] := by kernel_rfl) : wpAnyH P md ops Q S (fuel + 1) l a w := wpAnyH_ready hr (by simp) (AllReadyH.cons e0 h0 (AllReadyH.cons e1 h1 (AllReadyH.cons e2 h2 AllReadyH.nil)))
theorem rd4 (i0 i1 i2 i3 : Nat) {o0 o1 o2 o3 : Oper} (h0 : ∀ K' : Act → World → Prop, Shut (∀ a w, S w → (S w → wpAnyH P md ops Q S fuel (l.setIfInBounds i0 true) a w) → K' a w) → if Region.wanted o0 (yielded ops a.tmps) = true then Oper.wp P o0 a w K' Q else K' (a.put o0.dst undef) w) (h1 : ∀ K' : Act → World → Prop, Shut (∀ a w, S w → (S w → wpAnyH P md ops Q S fuel (l.setIfInBounds i1 true) a w) → K' a w) → if Region.wanted o1 (yielded ops a.tmps) = true then Oper.wp P o1 a w K' Q else K' (a.put o1.dst undef) w) (h2 : ∀ K' : Act → World → Prop, Shut (∀ a w, S w → (S w → wpAnyH P md ops Q S fuel (l.setIfInBounds i2 true) a w) → K' a w) → if Region.wanted o2 (yielded ops a.tmps) = true then Oper.wp P o2 a w K' Q else K' (a.put o2.dst undef) w) (h3 : ∀ K' : Act → World → Prop, Shut (∀ a w, S w → (S w → wpAnyH P md ops Q S fuel (l.setIfInBounds i3 true) a w) → K' a w) → if Region.wanted o3 (yielded ops a.tmps) = true then Oper.wp P o3 a w K' Q else K' (a.put o3.dst undef) w) (e0 : ops[i0]? = some o0 := by rfl) (e1 : ops[i1]? = some o1 := by rfl) (e2 : ops[i2]? = some o2 := by rfl) (e3 : ops[i3]? = some o3 := by rfl) (hr : Region.ready md ops l = [i0, i1, i2, i3] := by kernel_rfl) : wpAnyH P md ops Q S (fuel + 1) l a w := wpAnyH_ready hr (by simp) (AllReadyH.cons e0 h0 (AllReadyH.cons e1 h1 (AllReadyH.cons e2 h2 (AllReadyH.cons e3 h3 AllReadyH.nil))))
theorem Zw (h : Q .normal a w) (n : Nat) (hr : Region.ready md ops l = [] := by kernel_rfl) : wpAnyH P md ops Q S n l a w := wpAnyH_done hr h n
theorem zX (i : Nat) {oi : Oper} (h : wpAnyH P md ops Q S fuel (l.setIfInBounds i true) (a.put oi.dst undef) w) (hi : ops[i]? = some oi := by rfl) (hs : Region.noSelect ops = true := by kernel_rfl) (hf : Region.free md ops l i = true := by kernel_rfl) (hr : (Region.ready md ops l).contains i = true := by kernel_rfl) (hy : YieldsIf P ops S oi undef a := by exact Or.inr ⟨by rfl, rfl⟩) (hQ : ∀ c a w, Q (.panic c) (a.put oi.dst undef) w → Q (.panic c) a w := by exact fun _ _ _ h => h) (hS : S w := by assumption) : wpAnyH P md ops Q S (fuel + 1) l a w := wpAnyH_take hi hs hf hr hQ hy hS h
end
end
section
open Go.RowKit _root_.Lfc
def posOf(k:Int)(at_:Nat):Int:=if k=0 then 0 else(at_:Int)
abbrev tokV(x:Nx)(at_:Nat):Value:=.agg #[.int .i64 x.kind,S x.text,.int .i64 (posOf x.kind at_)]
theorem bcell{W w1:World}(hb:Below W.heap.size W w1):(∀b o,b<W.heap.size→w1.cell? ⟨b,o,none⟩=W.cell? ⟨b,o,none⟩)∧(∀b o,b<W.heap.size→w1.frozen? ⟨b,o,none⟩=W.frozen? ⟨b,o,none⟩) :=
 ⟨fun b o h=>hb.cell (p:=⟨b,o,none⟩) h,fun b o h=>hb.frozen (p:=⟨b,o,none⟩) h⟩
def NxPost(x:Nx)(at_:Nat)(end_:Int)(w:World)(e:Ending)(w':World):Prop :=
 e=.returned (.tuple #[tokV x at_,.int .i64 end_,.int .i64 x.err])∧Below w.heap.size w w'
theorem name_any(word:List UInt8)(a b:Nat)(w:World)(_hl:word.length<=65536) :
  Calls Tryz.prog 78 #[S word,zI a,zI b] w (NxPost (Lfc.nm word) a (if 64<word.length then a else b) w):=by
 by_cases h64:64<word.length
 ·go_enter Tryz.func78,Tryz.ntmps78;go_wp2_with fail;refine bodyPost_ret (v:=.tuple #[.agg #[zI 0,S [],zI 0],zI a,zI 12]) (by simp[results,Tryz.results78,go_sem]) rfl ⟨?_,(zB _ _).alloc (zN _) _⟩;simp[Lfc.nm,h64,posOf]
 cases hr:reservedB word
 ·go_enter Tryz.func78,Tryz.ntmps78;go_wp2_with (go_at_call 146;refine(reserved_any _ _).mono ?_;rintro e w'⟨rfl,rfl⟩);refine bodyPost_ret (v:=.tuple #[.agg #[zI 1,S word,zI a],zI b,zI 0]) (by simp[results,Tryz.results78,go_sem]) rfl ⟨?_,(zB _ _).alloc (zN _) _⟩;simp[Lfc.nm,h64,posOf,hr]
 go_enter Tryz.func78,Tryz.ntmps78;go_wp2_with (go_at_call 146;refine(reserved_any _ _).mono ?_;rintro e w'⟨rfl,rfl⟩);refine bodyPost_ret (v:=.tuple #[.agg #[zI 2,S word,zI a],zI b,zI 0]) (by simp[results,Tryz.results78,go_sem]) rfl ⟨?_,(zB _ _).alloc (zN _) _⟩;simp[Lfc.nm,h64,posOf,hr]
theorem pre2(l:List UInt8)(a:Nat)(ha:a<l.length)(h1:l[a].toNat=37):Lib.hasPrefix (l.drop a) [37,123]=decide (∃h:a+1<l.length,l[a+1].toNat=123):=by
 have h37:l[a]=37:=UInt8.toNat_inj.1 h1;rw[Bool.eq_iff_iff,List.drop_eq_getElem_cons ha,h37];by_cases h:a+1<l.length
 ·rw[List.drop_eq_getElem_cons h];have e:(l[a+1].toNat=123)↔123=l[a+1]:=⟨fun h=>(UInt8.toNat_inj.1 h).symm,fun h=>by rw[←h];rfl⟩;simp only[Lib.hasPrefix,List.isPrefixOf];simp[h,e]
 rw[List.drop_eq_nil_of_le (by omega)];simp[Lib.hasPrefix,h]
theorem percent_any(l:List UInt8)(a:Nat)(w:World)(hl:l.length<=65536)(ha:a<l.length)(h37:Hid (l[a].toNat=37)) :
  Calls Tryz.prog 75 #[S l,zI a] w (NxPost (Lfc.pc (l.drop (a+1))) a ((a+(Lfc.pc (l.drop (a+1))).len:Nat):Int) w):=by
 have hp:=pre2 l a ha h37.o;by_cases hb:∃h:a+1<l.length,l[a+1].toNat=123
 ·rw[Zt hb] at hp;obtain⟨hb1,hb2⟩:=hb;have e1:l.drop (a+1)=l[a+1] :: l.drop (a+2):=List.drop_eq_getElem_cons hb1;have ht:((l.drop a).take 2 == [37,123])=true:=by
   rw[take2 l a hb1];simp[<-UInt8.toNat_inj,h37.o,hb2]
  have Ht:=zH ht;cases hc:cmt 1 (l.drop (a+2)) with
  |none =>
   have hpc:Lfc.pc (l.drop (a+1))=⟨0,[],0,11⟩:=(by rw[e1];simp[Lfc.pc,hb2,hc]);rw[hpc];have Hc:=zH hc;clear hpc hc ht e1 hb2;go_enter Tryz.func75,Tryz.ntmps75;go_wp2_with (first | (go_at_call 142;refine(Tryz.strings_HasPrefix _ _ _).mono ?_;rintro e w'⟨rfl,rfl⟩) | (go_at_call 143;refine(comment_any l a _ hl hb1 Ht.o).mono ?_;rintro e w'⟨rfl,rfl⟩;rw[Hc.o];simp only[cmtEnd]));refine bodyPost_ret (v:=.tuple #[.agg #[zI 0,S [],zI 0],zI a,zI 11]) (by simp[results,Tryz.results75,go_sem]) rfl ⟨?_,(zB _ _).alloc (zN _) _⟩;simp[posOf]
  |some r =>
   have hlen:=cmt_len _ _ (zN _) _ _ hc;rw[List.length_drop] at hlen;have hpc:Lfc.pc (l.drop (a+1))=⟨0,[],2+(l.drop (a+2)).length-r.length,0⟩:=(by rw[e1];simp[Lfc.pc,hb2,hc]);have hN:a+(2+(l.drop (a+2)).length-r.length)=l.length-r.length:=(by rw[List.length_drop];omega);rw[hpc,hN];have Hc:=zH hc;clear hpc hc ht e1 hb2 hN;go_enter Tryz.func75,Tryz.ntmps75;go_wp2_with (first | (go_at_call 142;refine(Tryz.strings_HasPrefix _ _ _).mono ?_;rintro e w'⟨rfl,rfl⟩) | (go_at_call 143;refine(comment_any l a _ hl hb1 Ht.o).mono ?_;rintro e w'⟨rfl,rfl⟩;rw[Hc.o];simp only[cmtEnd]));refine bodyPost_ret (v:=.tuple #[.agg #[zI 0,S [],zI 0],zI ((l.length-r.length:Nat):Int),zI 0]) (by simp[results,Tryz.results75,go_sem]) rfl ⟨?_,(zB _ _).alloc (zN _) _⟩;simp[posOf]
 rw[Zu hb] at hp;have hpc:Lfc.pc (l.drop (a+1))=(if runLen letterB (l.drop (a+1))=0 then⟨0,[],runLen notNlB (l.drop (a+1))+1,0⟩ else if 64<runLen letterB (l.drop (a+1)) then⟨0,[],0,12⟩
   else⟨3,(l.drop (a+1)).take (runLen letterB (l.drop (a+1))),runLen letterB (l.drop (a+1))+1,0⟩):=by
  by_cases h:a+1<l.length
  ·have e1:l.drop (a+1)=l[a+1] :: l.drop (a+2):=List.drop_eq_getElem_cons h;have hne:¬l[a+1].toNat=123:=fun e=>hb ⟨h,e⟩;rw[e1];simp only[Lfc.pc];rw[if_neg hne]
  rw[List.drop_eq_nil_of_le (by omega)];simp[Lfc.pc,runLen]
 have hn:=runLen_le letterB (l.drop (a+1));have hm:=runLen_le notNlB (l.drop (a+1));have hnl:runLen notNlB (l.drop a)=runLen notNlB (l.drop (a+1))+1:=by
  rw[runLen_drop _ l a ha,if_pos (by simp[notNlB,h37.o])]
 rw[List.length_drop] at hn hm;generalize hN:runLen letterB (l.drop (a+1))=n at *;generalize hM:runLen notNlB (l.drop (a+1))=m at *;have HN:=zH hN;have HL:=zH hnl;clear hN hM hnl;by_cases h0:n=0
 ·rw[if_pos h0] at hpc;rw[hpc];subst h0;clear hpc hb;go_enter Tryz.func75,Tryz.ntmps75;go_wp2_with fail;refine(Tryz.strings_HasPrefix _ _ _).mono ?_;rintro e w'⟨rfl,rfl⟩;go_wp2_with fail;rw[show(a:Int)+1=((a+1:Nat):Int) by omega];refine(runLetter_any l (a+1) _ hl (by omega)).mono ?_;rintro e w'⟨rfl,rfl⟩;rw[HN.o];go_wp2_with fail;refine(runNl_any l a _ hl (by omega)).mono ?_;rintro e w'⟨rfl,rfl⟩;rw[HL.o];go_wp2_with fail;refine bodyPost_ret (v:=.tuple #[.agg #[zI 0,S [],zI 0],zI ((a+(m+1):Nat):Int),zI 0]) (by simp[results,Tryz.results75,go_sem]) rfl ⟨?_,(zB _ _).alloc (zN _) _⟩;simp[posOf]
 rw[if_neg h0] at hpc;by_cases h64:64<n
 ·rw[if_pos h64] at hpc;rw[hpc];clear hpc hb;go_enter Tryz.func75,Tryz.ntmps75;go_wp2_with fail;refine(Tryz.strings_HasPrefix _ _ _).mono ?_;rintro e w'⟨rfl,rfl⟩;go_wp2_with fail;rw[show(a:Int)+1=((a+1:Nat):Int) by omega];refine(runLetter_any l (a+1) _ hl (by omega)).mono ?_;rintro e w'⟨rfl,rfl⟩;rw[HN.o];go_wp2_with fail;refine bodyPost_ret (v:=.tuple #[.agg #[zI 0,S [],zI 0],zI a,zI 12]) (by simp[results,Tryz.results75,go_sem]) rfl ⟨?_,(zB _ _).alloc (zN _) _⟩;simp[posOf]
 rw[if_neg h64] at hpc;rw[hpc];clear hpc hb;go_enter Tryz.func75,Tryz.ntmps75;go_wp2_with fail;refine(Tryz.strings_HasPrefix _ _ _).mono ?_;rintro e w'⟨rfl,rfl⟩;go_wp2_with fail;rw[show(a:Int)+1=((a+1:Nat):Int) by omega];refine(runLetter_any l (a+1) _ hl (by omega)).mono ?_;rintro e w'⟨rfl,rfl⟩;rw[HN.o];go_wp2_with fail;refine bodyPost_ret (v:=.tuple #[.agg #[zI 3,S ((l.drop (a+1)).take n),zI a],zI ((a+1+n:Nat):Int),zI 0]) (by simp[results,Tryz.results75,go_sem]) rfl ⟨?_,(zB _ _).alloc (zN _) _⟩;simp[posOf];omega
theorem next_any(l:List UInt8)(a:Nat)(w:World)(hl:l.length<=65536)(ha:a<l.length) :
  Calls Tryz.prog 43 #[S l,zI a] w (NxPost (Lfc.nx (l.drop a)) a ((a+(Lfc.nx (l.drop a)).len:Nat):Int) w):=by
 have e1:l.drop a=l[a] :: l.drop (a+1):=List.drop_eq_getElem_cons ha;cases hb:blankB l[a]
 ·by_cases h37:l[a].toNat=37
  ·have hx:Lfc.nx (l.drop a)=Lfc.pc (l.drop (a+1)):=(by rw[e1];simp only[Lfc.nx];rw[hb,if_neg (by simp),if_pos h37]);rw[hx];have H37:=zH h37;have h37':((l[a].toNat:Int) == 37)=true:=(by simp;omega);clear e1 hx h37;generalize hX:Lfc.pc (l.drop (a+1))=X;have HX:=zH hX;clear hX;go_enter Tryz.func43,Tryz.ntmps43;go_wp2_with (first | (go_at_call 74;refine(blank_any _ _).mono ?_;rintro e w'⟨rfl,rfl⟩));refine(percent_any l a _ hl ha H37).mono ?_;rw[HX.o];rintro e w1⟨rfl,hb1⟩;obtain⟨hc,hf⟩:=bcell hb1;go_wp2_with fail;refine bodyPost_ret (v:=.tuple #[tokV X a,zI (a+X.len),zI X.err]) (by simp[results,Tryz.results43,go_sem,hc]) rfl ⟨by simp,?_⟩;exact((((((zB _ _).alloc (zN _) _).trans (hb1.mono (by simp)))).setCell (by simp) _).setCell (by simp) _).setCell (by simp) _
  have h37':((l[a].toNat:Int) == 37)=false:=by simp;omega
  cases hn:nameB l[a]
  ·cases hs:specialB l[a]
   ·have hx:Lfc.nx (l.drop a)=⟨0,[],0,10⟩:=(by rw[e1];simp only[Lfc.nx];rw[hb,if_neg (by simp),if_neg h37,hn,if_neg (by simp),hs,if_neg (by simp)]);rw[hx];have hs':=of_decide_eq_false hs;have Hs:=zH hs';clear e1 hx h37 hs hs';go_enter Tryz.func43,Tryz.ntmps43;go_wp2_with (first | (go_at_call 74;refine(blank_any _ _).mono ?_;rintro e w'⟨rfl,rfl⟩) | (go_at_call 76;refine(nameByte_any _ _).mono ?_;rintro e w'⟨rfl,rfl⟩));refine(idxSpecial_any l[a] _).mono ?_;rintro e w'⟨i,rfl,hi,rfl⟩;have hi0:i<0:=hi.2 Hs.o;clear hi;go_wp2_with fail;refine bodyPost_ret (v:=.tuple #[.agg #[zI 0,S [],zI 0],zI a,zI 10]) (by simp[results,Tryz.results43,go_sem]) rfl ⟨by simp[posOf],?_⟩;exact(zB _ _).alloc (zN _) _
   have hx:Lfc.nx (l.drop a)=⟨2,[l[a]],1,0⟩:=(by rw[e1];simp only[Lfc.nx];rw[hb,if_neg (by simp),if_neg h37,hn,if_neg (by simp),hs,if_pos rfl]);have ht1:(l.drop a).take 1=[l[a]]:=(by rw[e1];rfl);rw[hx];have hs':=of_decide_eq_true hs;have Hs:=zH hs';have H1:=zH ht1;clear e1 hx h37 hs hs' ht1;go_enter Tryz.func43,Tryz.ntmps43;go_wp2_with (first | (go_at_call 74;refine(blank_any _ _).mono ?_;rintro e w'⟨rfl,rfl⟩) | (go_at_call 76;refine(nameByte_any _ _).mono ?_;rintro e w'⟨rfl,rfl⟩));refine(idxSpecial_any l[a] _).mono ?_;rintro e w'⟨i,rfl,hi,rfl⟩;have hi0:¬i<0:=fun h=>hi.1 h Hs.o;clear hi;go_wp2_with fail;refine bodyPost_ret (v:=.tuple #[.agg #[zI 2,S ((l.drop a).take 1),zI a],zI (a+1),zI 0]) (by simp[results,Tryz.results43,go_sem]) rfl ⟨by rw[H1.o];simp[posOf],?_⟩;exact(zB _ _).alloc (zN _) _
  have hx:Lfc.nx (l.drop a)=Lfc.nm ((l.drop a).take (runLen nameB (l.drop a))):=by rw[e1];simp only[Lfc.nx];rw[hb,if_neg (by simp),if_neg h37,hn,if_pos rfl]
  have hr:=runLen_le nameB (l.drop a);have hlen:((l.drop a).take (runLen nameB (l.drop a))).length=runLen nameB (l.drop a):=by rw[List.length_take];omega
  rw[List.length_drop] at hr;rw[hx];generalize hN:runLen nameB (l.drop a)=n at *;have he:(if 64<((l.drop a).take n).length then(a:Int) else((a+n:Nat):Int))=((a+(Lfc.nm ((l.drop a).take n)).len:Nat):Int):=by
   rw[hlen];simp only[Lfc.nm,hlen];split <;> rfl
  have hw:((l.drop a).take n).length<=65536:=by omega
  generalize hX:Lfc.nm ((l.drop a).take n)=X at *;have HN:=zH hN;have HX:=zH hX;have HE:=zH he;clear hN e1 hx h37 hlen hX he;go_enter Tryz.func43,Tryz.ntmps43;go_wp2_with (first | (go_at_call 74;refine(blank_any _ _).mono ?_;rintro e w'⟨rfl,rfl⟩) | (go_at_call 76;refine(nameByte_any _ _).mono ?_;rintro e w'⟨rfl,rfl⟩));refine(runName_any l a _ hl (by omega)).mono ?_;rintro e w'⟨rfl,rfl⟩;rw[HN.o];go_wp2_with fail;rw[show(a:Int)+n=((a+n:Nat):Int) by omega];refine(name_any ((l.drop a).take n) a (a+n) _ hw).mono ?_;rw[HX.o,HE.o];rintro e w1⟨rfl,hb1⟩;obtain⟨hc,hf⟩:=bcell hb1;go_wp2_with fail;refine bodyPost_ret (v:=.tuple #[tokV X a,zI (a+X.len),zI X.err]) (by simp[results,Tryz.results43,go_sem,hc]) rfl ⟨by simp,?_⟩;exact((((((zB _ _).alloc (zN _) _).trans (hb1.mono (by simp)))).setCell (by simp) _).setCell (by simp) _).setCell (by simp) _
 have hx:Lfc.nx (l.drop a)=⟨0,[],1,0⟩:=by rw[e1];simp only[Lfc.nx];rw[hb,if_pos rfl]
 rw[hx];clear e1 hx;go_enter Tryz.func43,Tryz.ntmps43;go_wp2_with (first | (go_at_call 74;refine(blank_any _ _).mono ?_;rintro e w'⟨rfl,rfl⟩));refine bodyPost_ret (v:=.tuple #[.agg #[zI 0,S [],zI 0],zI (a+1),zI 0]) (by simp[results,Tryz.results43,go_sem]) rfl ⟨by simp[posOf],?_⟩;exact(zB _ _).alloc (zN _) _
def tokCells(l:List Lfc.Tok):List Value:=l.flatMap fun t=>[.int .i64 t.kind,S t.text,.int .i64 (t.pos:Int)]
theorem tokCells_snoc(l:List Lfc.Tok)(t:Lfc.Tok):tokCells (l++[t])=tokCells l++[.int .i64 t.kind,S t.text,.int .i64 (t.pos:Int)]:=by simp[tokCells]
theorem only_of_below{a w:World}(h:Below a.heap.size a w)(row:Option Nat):a.grownBy w row:=⟨h.os,h.tape,h.output,h.size,fun i hi _=>h.block i hi⟩
theorem own_below{w w':World}{base:Nat}{e:TypeId}{size n:Nat}{v:Value}{xs:List Value}(h:w.ownsRow base e size v n xs)(hb:Below w.heap.size w w'):w'.ownsRow base e size v n xs :=
 h.kept (only_of_below hb none) (by cases hv:v.ownBlock <;> simp)
theorem own_form{w:World}{base:Nat}{e:TypeId}{size n:Nat}{v:Value}{xs:List Value}(h:w.ownsRow base e size v n xs):∃A c,v=.slice A n c:=by
 rcases h.2 with⟨rfl,rfl⟩ | ⟨g,cap,cur,rfl,_⟩
 ·exact⟨_,_,rfl⟩
 exact⟨_,_,rfl⟩
theorem own_nil(w:World)(base:Nat)(e:TypeId)(size:Nat):w.ownsRow base e size (.slice none 0 0) 0 []:=⟨by simp,.inl ⟨rfl,rfl⟩⟩
theorem addr_add(b j:Nat):(⟨b,0,none⟩:Addr).add j=⟨b,j,none⟩:=by
 unfold Addr.add;split <;> simp_all
theorem cells_new(W:World)(n:Nat)(hn:n=W.heap.size)(xs:List Value)(e:TypeId)(j:Nat)(u:Value)(h:xs[j]?=some u):(W.alloc (.cells xs.toArray e)).cell? ((⟨n,0,none⟩:Addr).add j)=some u:=by
 subst hn;rw[addr_add,cell_of_row _ _ j xs.toArray e (0,0) (zW W _)];simpa using h
theorem own_block_ge{w:World}{base:Nat}{e:TypeId}{size n:Nat}{v:Value}{xs:List Value}(h:w.ownsRow base e size v n xs):∀k,v.ownBlock=some k→base≤k:=by
 rcases h.2 with⟨rfl,rfl⟩ | ⟨g,cap,cur,rfl,hg,_⟩
 ·intro k hk;cases hk
 intro k hk;cases hk;exact hg
def LexPost(r:List Lfc.Tok × Int × Nat)(w:World)(e:Ending)(w':World):Prop :=
 ∃v,e=.returned (.tuple #[v,.int .i64 r.2.1,.int .i64 (r.2.2:Int)])∧w'.ownsRow w.heap.size 65 3 v r.1.length (tokCells r.1)∧Below w.heap.size w w'
theorem tokInfo:(Tryz.prog.info? 65).map (fun i=>(i.zero,i.size,i.bytes))=some (some (.agg #[.int .i64 0,.string ⟨#[]⟩,.int .i64 0]),3,32):=by kernel_rfl
theorem lexR_at(l:List UInt8)(k:Nat)(acc:List Lfc.Tok)(h:k<l.length):lexR k (l.drop k) acc =
  if (Lfc.nx (l.drop k)).err≠0 then([],(Lfc.nx (l.drop k)).err,k)
  else if (Lfc.nx (l.drop k)).kind=0 then lexR (k+(Lfc.nx (l.drop k)).len) (l.drop (k+(Lfc.nx (l.drop k)).len)) acc
  else if acc.length=20000 then([],7,k)
  else lexR (k+(Lfc.nx (l.drop k)).len) (l.drop (k+(Lfc.nx (l.drop k)).len)) (acc++[⟨(Lfc.nx (l.drop k)).kind,(Lfc.nx (l.drop k)).text,k⟩]):=by
 have e1:l.drop k=l[k] :: l.drop (k+1):=List.drop_eq_getElem_cons h;have e2:∀m,l.drop (k+m)=(l[k] :: l.drop (k+1)).drop m:=fun m=>by rw[←e1,List.drop_drop]
 rw[e2,e1];exact lexR_cons _ _ _ _
theorem nx_at(l:List UInt8)(k:Nat)(h:k<l.length)(he:(Lfc.nx (l.drop k)).err=0):1≤(Lfc.nx (l.drop k)).len∧k+(Lfc.nx (l.drop k)).len≤l.length:=by
 have e1:l.drop k=l[k] :: l.drop (k+1):=List.drop_eq_getElem_cons h;rw[e1] at he ⊢;have:=nx_len _ _ he;rw[List.length_drop] at this;omega
theorem lex_any(l:List UInt8)(w:World)(hmax:l.length<=9223372036854775807):Calls Tryz.prog 22 #[S l] w (LexPost (lex l) w):=by
 by_cases hlong:65536<l.length
 ·have h0:lex l=([],12,0):=by rw[lex_eq,if_pos hlong]
  rw[h0];clear h0;go_enter Tryz.func22,Tryz.ntmps22;go_wp2_with fail
  go_ret3
  exact⟨_,rfl,own_nil _ _ _ _,zB _ _⟩
 have h0:lex l=lexR 0 (l.drop 0) []:=by rw[lex_eq,if_neg hlong];rfl
 rw[h0];clear h0;obtain⟨i0,hi,hz0,hz1,hz2⟩:=info_parts tokInfo;generalize hR:lexR 0 (l.drop 0) []=R;have HR:=zH hR;clear hR;have hl:l.length<=65536:=by omega
 go_enter Tryz.func22,Tryz.ntmps22;go_wp2_with fail;go_loopw [5,6] (fun o i wr=>∃(k:Nat)(acc:List Lfc.Tok),k<=l.length/\i=zI k/\acc.length<=k/\wr.ownsRow w.heap.size 65 3 o acc.length (tokCells acc)/\zb w wr/\Hid (lexR k (l.drop k) acc=R)) (fun _ i _=>l.length-(intOf i).toNat);case atStart=>exact⟨0,[],by omega,rfl,by simp,own_nil _ _ _ _,zB _ _,HR⟩
 obtain⟨k,acc,hk,rfl,hak,hown,hbw,hr⟩:=hrel;obtain⟨A,c,rfl⟩:=own_form hown;by_cases hlt:k<l.length
 ·have hx:=lexR_at l k acc hlt;have hlen:=nx_at l k hlt;generalize hX:Lfc.nx (l.drop k)=X at *;have HX:=zH hX;clear hX;by_cases he:X.err=0
  ·obtain⟨hl1,hl2⟩:=hlen he;rw[if_neg (by simpa using he)] at hx;have he1:(X.err == 0)=true:=(by simp[he]);have he2:(X.err != 0)=false:=(by simp[he]);have He:=zH he;clear hlen he;by_cases hk0:X.kind=0
   ·rw[if_pos hk0] at hx;have Hx:=zH hx;have hk1:(X.kind != 0)=false:=(by simp[hk0]);clear hx hk0;go_wp2_with fail;refine(next_any l k _ hl hlt).mono ?_;rw[HX.o];rintro e w1⟨rfl,hb1⟩;obtain⟨hc,hf⟩:=bcell hb1;go_wp2_with fail;go_roundw;case rel=>exact⟨k+X.len,acc,hl2,by go_num,by omega,(own_below hown hb1).alloc _,(hbw.trans (hb1.mono hbw.size)).alloc (zR hbw.size hb1.size) _,zH (by rw[<-hr.o,Hx.o])⟩
    case measure=>simp[intOf];omega
   rw[if_neg hk0] at hx;have hk1:(X.kind != 0)=true:=(by simp[hk0]);have hpos:posOf X.kind k=k:=(by simp[posOf,hk0]);have Hpos:=zH hpos;clear hk0 hpos;by_cases hm:acc.length=20000
   ·rw[if_pos hm] at hx;have hm1:((acc.length:Int) == 20000)=true:=(by simp;omega);have Hx:=zH hx;clear hx hm;go_wp2_with fail;refine(next_any l k _ hl hlt).mono ?_;rw[HX.o];rintro e w1⟨rfl,hb1⟩;obtain⟨hc,hf⟩:=bcell hb1;go_wp2_with fail
    go_ret3
    rw[<-hr.o,Hx.o];exact⟨_,rfl,own_nil _ _ _ _,(hbw.trans (hb1.mono hbw.size)).alloc (zR hbw.size hb1.size) _⟩
   rw[if_neg hm] at hx;have hm1:((acc.length:Int) == 20000)=false:=(by simp;omega);have Hx:=zH hx;clear hx hm;go_wp2_with fail;refine(next_any l k _ hl hlt).mono ?_;rw[HX.o];rintro e w1⟨rfl,hb1⟩;obtain⟨hc,hf⟩:=bcell hb1;have hown1:=((own_below hown hb1).alloc (Obj.cells #[zI X.kind,S X.text,zI (posOf X.kind k)] 65)).alloc (Obj.cells #[zI X.kind,S X.text,zI (posOf X.kind k)] 65);have hsz:=zR hbw.size hb1.size;go_wp2_with (at_builtin;refine wpList_append_own _ rfl _ _ 61 rfl w.heap.size 65 i0 (.agg #[zI 0,.string ⟨#[]⟩,zI 0]) 3 32 Tryz.underlying61 hi hz0 hz1 hz2 rfl (by decide) _ _ _ rfl hown1 ⟨w1.heap.size+1,0,none⟩ 1 1 [zI X.kind,S X.text,zI (posOf X.kind k)] rfl rfl ?c1 ?c2 ?c3 ?c4 ?c5 ?_);case c1=>exact fun j u h=>cells_new _ _ (by simp) _ _ j u h
   case c2=>intro u hu;simp at hu;rcases hu with rfl | rfl | rfl <;> rfl
   case c3=>unfold maxLen;omega
   case c4=>omega
   case c5=>simp;omega
   intro v' w2 hown2 hg2 _;have hb2:zb w w2:=(((hbw.trans (hb1.mono hbw.size)).alloc hsz _).alloc (by simp;omega) _).grown hg2 (by simp;omega) (own_block_ge hown1);rw[Hpos.o] at hown2;have hown3:w2.ownsRow w.heap.size 65 3 v' (acc++[(⟨X.kind,X.text,k⟩:Lfc.Tok)]).length (tokCells (acc++[⟨X.kind,X.text,k⟩])):=by
    rw[tokCells_snoc,Zq];exact hown2
   clear hown2 hg2 hown1;go_wp2_with fail;go_roundw;case rel=>exact⟨k+X.len,acc++[⟨X.kind,X.text,k⟩],hl2,by go_num,by simp;omega,hown3,hb2,zH (by rw[<-hr.o,Hx.o])⟩
   case measure=>simp[intOf];omega
  rw[if_pos he] at hx;have he1:(X.err == 0)=false:=by simp[he]
  have he2:(X.err != 0)=true:=by simp[he]
  have Hx:=zH hx;clear hx hlen he;go_wp2_with fail;refine(next_any l k _ hl hlt).mono ?_;rw[HX.o];rintro e w1⟨rfl,hb1⟩;obtain⟨hc,hf⟩:=bcell hb1;go_wp2_with fail
  go_ret3
  rw[<-hr.o,Hx.o];exact⟨_,rfl,own_nil _ _ _ _,(hbw.trans (hb1.mono hbw.size)).alloc (zR hbw.size hb1.size) _⟩
 have hkl:k=l.length:=by omega
 have Hk:=zH hkl;clear hkl;go_wp2_with fail
 go_ret3
 have e0:lexR k (l.drop k) acc=(acc,0,l.length):=by rw[Hk.o,List.drop_length,lexR_nil]
 rw[<-hr.o,e0];exact⟨_,rfl,hown,hbw⟩
end
section
open Go.RowKit
def cutI(x:Int)(n:Nat):Nat:=((x % 18446744073709551616) % (n:Int)).toNat
theorem cutI_lt(x:Int)(n:Nat)(h:0<n):cutI x n<n:=by
 unfold cutI;have h1:=Int.emod_nonneg (x % 18446744073709551616) (by omega:(n:Int)≠0);have h2:=Int.emod_lt_of_pos (x % 18446744073709551616) (by omega:0<(n:Int));omega
theorem cut_any(x:Int)(n:Nat)(w:World)(h0:0<n)(h1:n<=1000000):Calls Tryz.prog 23 #[zI x,zI n] w fun e w'=>e=.returned (zI (cutI x n:Int))/\w'=w:=by
 go_enter Tryz.func23,Tryz.ntmps23;go_wp2;go_ret;refine⟨ret_int ?_,rfl⟩;have hw:IntKind.u64.wrap x=x % 18446744073709551616:=by rw[IntKind.wrap_u64]
 have h2:=Int.emod_nonneg x (by decide:(18446744073709551616:Int)≠0);have h3:=cutI_lt x n h0;rw[hw,Int.tmod_eq_emod_of_nonneg h2];have h4:=Int.emod_nonneg (x % 18446744073709551616) (by omega:(n:Int)≠0);have h5:((x % 18446744073709551616) % (n:Int))=(cutI x n:Int):=by unfold cutI;omega
 rw[h5];exact IntWalk.wrap64_in _ ⟨by omega,by omega⟩
def IntsAt(w:World)(v:Value)(zs:List Int):Prop :=
 ∃A c,v=.slice A zs.length c∧zs.length≤maxLen∧(0<zs.length→∃b o,A=some ⟨b,o,none⟩∧b<w.heap.size∧∀k,k<zs.length→w.cell? ⟨b,o+k,none⟩=some (.int .i64 (zs.getD k 0)))
theorem IntsAt.below{w w':World}{v:Value}{zs:List Int}(h:IntsAt w v zs)(hb:Below w.heap.size w w'):IntsAt w' v zs:=by
 obtain⟨A,c,rfl,h1,h2⟩:=h;refine⟨A,c,rfl,h1,fun hp=>?_⟩;obtain⟨b,o,hA,hlt,hc⟩:=h2 hp;exact⟨b,o,hA,Zl hlt hb.size,fun k hk=>(hb.cell (p:=⟨b,o+k,none⟩) hlt).trans (hc k hk)⟩
theorem own_string{P:Program}{w:World}{base:Nat}{e src dst:TypeId}{A:Option Addr}{c:Nat}{l:List UInt8}(hs:P.underlying src=some (.slice e))(he:P.underlying e=some (.int .u8))(hd:P.underlying dst=some .string)
  (h:w.ownsRow base e 1 (.slice A l.length c) l.length (Lib.byteCells l)):(convert src dst (.slice A l.length c)).run P w=.ok (S l) w:=by
 rcases h.2 with⟨hv,hn⟩ | ⟨g,cap,cur,hv,_⟩
 ·obtain rfl:=List.eq_nil_of_length_eq_zero hn;injection hv with h1 h2 h3;subst h1 h3;exact Lib.run_convert_nil_bytes w src dst e 0 hs he hd
 injection hv with h1 h2 h3;subst h1;refine run_convert_bytes_back w src dst e ⟨g,0,none⟩ c l hs he hd fun j hj=>?_;exact h.cells (g:=g) rfl j _ (by simp[Lib.byteCells,hj])
theorem byteInfo:(Tryz.prog.info? 5).map (fun i=>(i.zero,i.size,i.bytes))=some (some (.int .u8 0),1,1):=by kernel_rfl
end
section
open Go.ChangeShapes Go.WideShapes Go.ChangeAt Go.RowKit
theorem own:ownKnob Tryz.prog.godebug=none:=by kernel_rfl
theorem laidOut:laidOutB Tryz.prog=true:=by kernel_rfl
section
variable {H:Type} {enc:TypeId × Value→H}
theorem lt_of_cell{w:World}{a:Addr}{v:Value}(h:w.cell? a=some v):a.block<w.heap.size:=by
 rcases Nat.lt_or_ge a.block w.heap.size with h1 | h1
 ·exact h1
 unfold World.cell? at h;rw[Array.getElem?_eq_none h1] at h;cases h
theorem belowAll{W W':World}(hb:Below W.heap.size W W'):∀{ts:List TypeId}{vs:List Value}{ds:List (DataW H)}{ps:List MemPlace},(∀t∈ts,Tryz.prog.readableRec t=true∧t<Tryz.prog.types.size) →
  DataW.TrodAll enc Tryz.prog W 0 (fun _=>true) true ts vs ds ps→(∀x∈ps,x.block<W.heap.size)→DataW.TrodAll enc Tryz.prog W' 0 (fun b=>decide (b<W.heap.size)) true ts vs ds ps
 |[],[],[],_,_,h,_=>h
 |t :: ts,v :: vs,d :: ds,ps,ht,h,hlt=>by
  obtain⟨p,q,h1,h2,rfl⟩:=h;obtain⟨hr,hrow⟩:=ht t List.mem_cons_self;exact⟨p,q,Below.trod laidOut hr hrow h1 hb fun x hx=>hlt x (List.mem_append_left _ hx),belowAll hb (fun u hu=>ht u (List.mem_cons_of_mem _ hu)) h2 fun x hx=>hlt x (List.mem_append_right _ hx),rfl⟩
theorem law_post{f:Func}{s:ChangeSpec}{W W':World}{args:Array Value}{ds:List (DataW H)}{before:List MemPlace}
  (hs:s.vars=[]) (hfn:(s.fn H (ds++[])).results=[.lit (.bool true)]∧(s.fn H (ds++[])).args=ds∧(s.fn H (ds++[])).vars=[])
  (hr:f.resultTypes=#[4]) (hp:∀t∈f.params.toList,Tryz.prog.readableRec t=true∧t<Tryz.prog.types.size)
  (hW:DataW.Whole enc Tryz.prog f.params.toList s.vars false W args.toList ds [] before) (hb:Below W.heap.size W W') :
  s.post enc Tryz.prog f false true false false W args (.bool true) W':=by
 have hlt:∀p∈before,p.block<W.heap.size:=fun p hp=>hW.lt p hp;have hW':=hW;obtain⟨p,q,hA,hV,rfl,hz,hn⟩:=hW';rw[hs] at hV;obtain⟨_,rfl⟩:=trodVars_none hV;refine⟨ds,[],p++[],[],p,[],hW,?_,?_,?_,World.keptBut_mono (fun x hx=>⟨hx,.inr (.inl (by simpa using hx))⟩) (hb.frame (·∈p++[])),fun h=>by cases h⟩
 ·rw[hfn.1,hr];exact trodAll_mk1 (shut_bool Tryz.underlying4 _)
 ·rw[hfn.2.1];exact belowAll hb hp hA fun x hx=>hlt x (by simpa using hx)
 rw[hfn.2.2,hs];rfl
theorem intsAt_of{W:World}{v:Value}{d:DataW H}{p:List MemPlace}{r:Reach}{base:Nat}(hok:Value.okWide Tryz.prog W r base 22 v)(h:DataW.Trod enc Tryz.prog W 0 (fun _=>true) true 22 v d p):∃zs,IntsAt W v zs:=by
 obtain⟨a0,len,cap,rfl⟩:=okWide_slice Tryz.underlying22 hok;obtain⟨fuel,hf⟩:=h;rcases open_ints Tryz.underlying22 Tryz.underlying3 (by kernel_rfl) hf with⟨hcs,_⟩ | ⟨a,len',cap',zs,hcs,_,hl,hm,hz,_,hcell,_⟩
 ·simp only[Value.cells,List.cons.injEq,Value.slice.injEq,and_true] at hcs;obtain⟨rfl,rfl,rfl⟩:=hcs;exact⟨[],none,0,rfl,by simp,fun hp=>by simp at hp⟩
 simp only[Value.cells,List.cons.injEq,Value.slice.injEq,and_true] at hcs;obtain⟨rfl,rfl,rfl⟩:=hcs;simp only[if_true] at hz;have hlen:(zs.take len).length=len:=by rw[List.length_take];omega
 refine⟨zs.take len,some a,cap,by rw[hlen],by rw[hlen];omega,fun hp=>?_⟩;rw[hlen] at hp;obtain⟨b,o,rfl,hc⟩:=ints_at hcell (by omega);refine⟨b,o,rfl,lt_of_cell (hc 0 (by omega)),fun k hk=>?_⟩;rw[hlen] at hk;rw[hc k (by omega)];simp[List.getD,hk]
end
end
section
open Go.RowKit _root_.Lfc
theorem runName0(l:List UInt8)(w:World)(hl:l.length≤65536) :
    Calls Tryz.prog 77 #[S l,.int .i64 0,.func (.func 76) #[] #[]] w fun e w'=>e=.returned (.int .i64 ((runLen nameB l:Nat):Int))∧w=w':=by
  have h:=runName_any l 0 w hl (Nat.zero_le _);rw[List.drop_zero,Nat.zero_add] at h;exact h
theorem isName_any(l:List UInt8)(w:World)(hl:l.length<=9223372036854775807):Calls Tryz.prog 80 #[S l] w fun e w'=>e=.returned (.bool (isName l))/\w=w':=by
  cases l with
  |nil =>
    go_enter Tryz.func80,Tryz.ntmps80;go_wp2_with fail;go_ret;exact⟨ret_bool (by simp[isName]),rfl⟩
  |cons c r =>
    by_cases h64:(c :: r).length<=64
    · have hw:(c :: r).length<=65536:=by omega
      have hd:decide ((r.length:Int)+1<=64)=true:=(by simp at h64 ⊢;omega);generalize hR:runLen nameB (c :: r)=n;generalize hS:reservedB (c :: r)=b;have HR:=zH hR;have HS:=zH hS;clear hR hS;cases b;all_goals
       go_enter Tryz.func80,Tryz.ntmps80;go_wp2_with (first | (go_at_call 77;refine(runName0 _ _ hw).mono ?_;rintro e w'⟨rfl,rfl⟩;rw[HR.o]) | (go_at_call 146;refine(reserved_any _ _).mono ?_;rintro e w'⟨rfl,rfl⟩;rw[HS.o]));all_goals
         go_ret;exact⟨ret_bool (by rw[Bool.eq_iff_iff];have hr:=HR.o;have hs:=HS.o;simp[isName,hr,hs] at *;try omega),rfl⟩
    have hd:decide ((r.length:Int)+1<=64)=false:=(by simp at h64 ⊢;omega);go_enter Tryz.func80,Tryz.ntmps80;go_wp2_with fail;go_ret;exact⟨ret_bool (by simp only[isName];rw[Zu h64];simp),rfl⟩
theorem runLen_all(p:UInt8→Bool)(l:List UInt8):runLen p l=l.length↔∀k(h:k<l.length),p l[k]=true:=by
  induction l with
  |nil=>simp[runLen]
  |cons c r ih =>
    rw[runLen];constructor
    · intro h k hk
      have hle:=runLen_le p r;split at h
      · rename_i hc
        cases k with
        |zero=>exact hc
        |succ k=>exact(ih.1 (by simp at h;omega)) k (by simpa using hk)
      simp at h
    intro h;have hc:p c=true:=h 0 (by simp);rw[if_pos hc,List.length_cons,ih.2 fun k hk=>h (k+1) (by simpa using hk)]
theorem rIsName_any(l:List UInt8)(w:World)(hl:l.length<=9223372036854775807):Calls Tryz.prog 124 #[S l] w fun e w'=>e=.returned (.bool (isName l))/\w=w':=by
  cases l with
  |nil =>
    go_enter Tryz.func124,Tryz.ntmps124;go_wp2_with fail;go_ret;exact⟨ret_bool (by simp[isName]),rfl⟩
  |cons c r =>
    have hz:((r.length:Int)+1 == 0)=false:=(by simp;omega);by_cases h64:(c :: r).length<=64
    · have hd:decide (64<(r.length:Int)+1)=false:=by simp at h64 ⊢;omega
      cases hS:reservedB (c :: r)
      · have HS:=zH hS
        clear hS;by_cases hc:c.toNat=64
        · have hc':((c.toNat:Int) == 64)=true:=by simp;omega
          have hf:isName (c :: r)=false:=(by simp[isName,hc]);rw[hf];clear hc hf;go_enter Tryz.func124,Tryz.ntmps124;go_wp2_with (go_at_call 172;refine(rReserved_any _ _).mono ?_;rintro e w'⟨rfl,rfl⟩;rw[HS.o]);go_ret;exact⟨rfl,rfl⟩
        have hc':((c.toNat:Int) == 64)=false:=(by simp;omega);have hn:isName (c :: r)=decide (runLen nameB (c :: r)=(c :: r).length):=by
          simp only[isName];rw[Zt h64,HS.o];simp[hc]
        have hall:=runLen_all nameB (c :: r);rw[hn];have Hall:=zH hall;clear hc hn hall;go_enter Tryz.func124,Tryz.ntmps124;go_wp2_with (go_at_call 172;refine(rReserved_any _ _).mono ?_;rintro e w'⟨rfl,rfl⟩;rw[HS.o])
        go_loop [3] (fun i=>∃k:Nat,k<=(c :: r).length/\i=zI k/\Hid (∀j(h:j<(c :: r).length),j<k->nameB (c :: r)[j]=true)) (fun i=>(c :: r).length-(intOf i).toNat)
        case atStart=>exact⟨0,by simp,rfl,zH fun j _ h=>by omega⟩
        obtain⟨k,hk,rfl,hp⟩:=hrel;by_cases hlt:k<(c :: r).length
        · have hlt':k<r.length+1:=by simpa using hlt
          cases hb:nameB (c :: r)[k]
          · go_wp2_with fail
            refine(rNameByte_any _ _).mono ?_;rintro e w'⟨rfl,rfl⟩;rw[hb];go_wp2_with fail;go_ret;exact⟨ret_bool (by symm;apply Zu;intro hh;rw[Hall.o.1 hh k hlt] at hb;cases hb),rfl⟩
          have Hb:=zH hb;clear hb;go_wp2_with fail;refine(rNameByte_any _ _).mono ?_;rintro e w'⟨rfl,rfl⟩;rw[Hb.o];go_wp2_with fail
          go_round
          case rel =>
            refine⟨k+1,by omega,by go_num,zH fun j h hj=>?_⟩;rcases Nat.lt_or_ge j k with h1 | h1
            · exact hp.o j h h1
            obtain rfl:j=k:=(by omega);exact Hb.o
          case measure=>simp[intOf] at *;omega
        have hlt':¬k<r.length+1:=(by simpa using hlt);go_wp2_with fail;go_ret;exact⟨ret_bool (by symm;apply Zt;exact Hall.o.2 fun j h=>hp.o j h (by omega)),rfl⟩
      have HS:=zH hS;have hf:isName (c :: r)=false:=(by simp[isName,hS]);rw[hf];clear hS hf;go_enter Tryz.func124,Tryz.ntmps124;go_wp2_with (go_at_call 172;refine(rReserved_any _ _).mono ?_;rintro e w'⟨rfl,rfl⟩;rw[HS.o]);go_ret;exact⟨rfl,rfl⟩
    have hd:decide (64<(r.length:Int)+1)=true:=(by simp at h64 ⊢;omega);have hf:isName (c :: r)=false:=(by simp only[isName];rw[Zu h64];simp);rw[hf];clear hf;go_enter Tryz.func124,Tryz.ntmps124;go_wp2_with fail;go_ret;exact⟨rfl,rfl⟩
end
end Go.Proofs.YthajalgkjonaaaaGreatDoor
