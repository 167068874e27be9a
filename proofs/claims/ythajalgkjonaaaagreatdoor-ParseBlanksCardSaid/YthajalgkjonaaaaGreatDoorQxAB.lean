/- Parts of the proof that no input makes the law false: Leaf,Next,Lex,Text,Frame,Same,Spell. -/
import Derived.WalkKit
import Derived.WalkSpells
import Derived.WalkLawsBesides
import Derived.Lib.Hide
import Derived.Shelf.Abstract
import Derived.Test.YthajalgkjonaaaaGreatDoorRows
import Derived.Test.YthajalgkjonaaaaGreatDoorShelf
import Derived.Lib.AppendStr
import Derived.StillTailTactics
import Derived.Lib.BufferRead
import Derived.Laws.IdiomStrings
import Derived.ProofKit
import Derived.OpenShut
import Derived.LaidMore
import Derived.Deep.DeepHandedRow
import Derived.Deep.DeepWitnessRowRef
import Derived.Test.YthajalgkjonaaaaGreatDoorCards
import Derived.Test.YthajalgkjonaaaaGreatDoorTie
import Derived.Deep.QuietTactic
import Derived.BigQuiet
import Derived.Laws.MakeOwn
import Derived.Deep.OwnRows
import Derived.Test.YthajalgkjonaaaaGreatDoorQxAA
set_option linter.unusedVariables false
set_option linter.unusedSimpArgs false
namespace Go.Proofs.YthajalgkjonaaaaGreatDoor
open Go.RowKit
abbrev B(c:UInt8):Value:=.int .u8 (c.toNat:Int)
abbrev S(l:List UInt8):Value:=.string ⟨l.toArray⟩
theorem bsize(l:List UInt8):(⟨l.toArray⟩:ByteArray).size=l.length:=by simp[ByteArray.size]
@[go_sem] theorem bget (l:List UInt8) (k:Nat) (h:k<(⟨l.toArray⟩:ByteArray).size):(⟨l.toArray⟩:ByteArray)[k]=l[k]'(by rw[bsize] at h;exact h):=rfl
@[go_sem] theorem bext (l:List UInt8) (a b:Nat):(⟨l.toArray⟩:ByteArray).extract a b=⟨((l.drop a).take (b-a)).toArray⟩:=by
 apply ByteArray.ext
 apply Array.ext'
 rw[ByteArray.data_extract,Array.toList_extract]
@[go_sem] theorem takeRest (l:List UInt8) (a:Nat):(l.drop a).take (l.length-a)=l.drop a:=List.take_of_length_le (by rw[List.length_drop];omega)
theorem ret_bool{a b:Bool}(h:a=b):Ending.returned (.bool a)=.returned (.bool b):=by rw[h]
theorem ret_int{k:IntKind}{a b:Int}(h:a=b):Ending.returned (.int k a)=.returned (.int k b):=by rw[h]
set_option maxHeartbeats 400000 in
theorem blank_any(c:UInt8)(w:World):Calls Tryz.prog 74 #[B c] w fun e w'=>e=.returned (.bool (Lfc.blankB c))∧w=w':=by
 go_enter Tryz.func74,Tryz.ntmps74
 go_wp2
 all_goals
  go_ret
  exact⟨ret_bool (by rw[Bool.eq_iff_iff];simp[Lfc.blankB] <;> omega),rfl⟩
set_option maxHeartbeats 400000 in
theorem letter_any(c:UInt8)(w:World):Calls Tryz.prog 144 #[B c] w fun e w'=>e=.returned (.bool (Lfc.letterB c))∧w=w':=by
 go_enter Tryz.func144,Tryz.ntmps144
 go_wp2
 all_goals
  go_ret
  exact⟨ret_bool (by rw[Bool.eq_iff_iff];simp[Lfc.letterB] <;> omega),rfl⟩
set_option maxHeartbeats 400000 in
theorem notNl_any(c:UInt8)(w:World):Calls Tryz.prog 145 #[B c] w fun e w'=>e=.returned (.bool (Lfc.notNlB c))∧w=w':=by
 go_enter Tryz.func145,Tryz.ntmps145
 go_wp2
 all_goals
  go_ret
  exact⟨ret_bool (by rw[Bool.eq_iff_iff];simp[Lfc.notNlB] <;> omega),rfl⟩
set_option maxHeartbeats 1000000 in
theorem rSpecial_any(c:UInt8)(w:World):Calls Tryz.prog 195 #[B c] w fun e w'=>e=.returned (.bool (Lfc.specialB c))∧w=w':=by
 go_enter Tryz.func195,Tryz.ntmps195
 go_wp2
 all_goals
  go_ret
  exact⟨ret_bool (by rw[Bool.eq_iff_iff];simp[Lfc.specialB] <;> omega),rfl⟩
set_option maxHeartbeats 1000000 in
theorem rNameByte_any(c:UInt8)(w:World):Calls Tryz.prog 173 #[B c] w fun e w'=>e=.returned (.bool (Lfc.nameB c))∧w=w':=by
 go_enter Tryz.func173,Tryz.ntmps173
 go_wp2_with (go_at_call 195;refine(rSpecial_any c _).mono ?_;rintro e w'⟨rfl,rfl⟩)
 all_goals
  go_ret
  exact⟨ret_bool (by rw[Bool.eq_iff_iff];simp[Lfc.nameB,Lfc.specialB] at * <;> omega),rfl⟩
theorem idx_neg(l:List UInt8)(c:UInt8):(Lib.indexByte l c<0)↔¬c∈l:=by
 constructor
 ·intro h hm
  have h1:=Lib.indexByte_ge l c
  obtain⟨k,hk⟩:=List.mem_iff_getElem?.1 hm
  exact Lib.indexByte_none (by omega) k hk
 ·intro h
  rcases Int.lt_or_le (Lib.indexByte l c) 0 with h0 | h0
  ·exact h0
  ·obtain⟨o,ho⟩:=Int.eq_ofNat_of_zero_le h0
   exact absurd (List.mem_iff_getElem?.2 ⟨o,(Lib.indexByte_some ho).1⟩) h
theorem mem_name(c:UInt8):c∈[(40:UInt8),41,91,93,123,125,58,46,37]↔((c.toNat=40∨c.toNat=41∨c.toNat=91∨c.toNat=93∨c.toNat=123∨c.toNat=125∨c.toNat=58∨c.toNat=46)∨c.toNat=37):=by
 simp[←UInt8.toNat_inj];omega
theorem mem_special(c:UInt8):c∈[(40:UInt8),41,91,93,123,125,58,46]↔(c.toNat=40∨c.toNat=41∨c.toNat=91∨c.toNat=93∨c.toNat=123∨c.toNat=125∨c.toNat=58∨c.toNat=46):=by
 simp[←UInt8.toNat_inj]
theorem idxName_any(c:UInt8)(w:World):Calls Tryz.prog 79 #[.string ⟨#[40,41,91,93,123,125,58,46,37]⟩,B c] w fun e w'=>∃i:Int,e=.returned (.int .i64 i)∧(i<0↔¬((c.toNat=40∨c.toNat=41∨c.toNat=91∨c.toNat=93∨c.toNat=123∨c.toNat=125∨c.toNat=58∨c.toNat=46)∨c.toNat=37))∧w=w':=by
 refine(Tryz.strings_IndexByte _ _ _).mono ?_
 rintro e w'⟨rfl,rfl⟩
 refine⟨_,rfl,?_,rfl⟩
 rw[idx_neg,show((c.toNat:Int).toNat.toUInt8)=c by simp,←mem_name]
theorem idxSpecial_any(c:UInt8)(w:World):Calls Tryz.prog 79 #[.string ⟨#[40,41,91,93,123,125,58,46]⟩,B c] w fun e w'=>∃i:Int,e=.returned (.int .i64 i)∧(i<0↔¬(c.toNat=40∨c.toNat=41∨c.toNat=91∨c.toNat=93∨c.toNat=123∨c.toNat=125∨c.toNat=58∨c.toNat=46))∧w=w':=by
 refine(Tryz.strings_IndexByte _ _ _).mono ?_
 rintro e w'⟨rfl,rfl⟩
 refine⟨_,rfl,?_,rfl⟩
 rw[idx_neg,show((c.toNat:Int).toNat.toUInt8)=c by simp,←mem_special]
set_option maxRecDepth 100000 in
set_option maxHeartbeats 1000000 in
theorem nameByte_any(c:UInt8)(w:World):Calls Tryz.prog 76 #[B c] w fun e w'=>e=.returned (.bool (Lfc.nameB c))∧w=w':=by
 go_enter Tryz.func76,Tryz.ntmps76
 go_wp2_with (go_at_call 79;refine(idxName_any _ _).mono ?_;rintro e w'⟨i,rfl,hi,rfl⟩;have Hi:=Lib.hid hi;clear hi)
 ·go_ret
  have hi:=Hi.out
  exact⟨ret_bool (by rw[Bool.eq_iff_iff];simp[Lfc.nameB,hi] at * <;> omega),rfl⟩
 all_goals
  go_ret
  exact⟨ret_bool (by rw[Bool.eq_iff_iff];simp[Lfc.nameB] at * <;> omega),rfl⟩
set_option maxHeartbeats 1000000 in
theorem reserved_any(l:List UInt8)(w:World):Calls Tryz.prog 146 #[S l] w fun e w'=>e=.returned (.bool (Lfc.reservedB l))∧w=w':=by
 go_enter Tryz.func146,Tryz.ntmps146
 go_wp2
 all_goals
  go_ret
  exact⟨ret_bool (by simp_all [Lfc.reservedB]),rfl⟩
set_option maxHeartbeats 1000000 in
theorem rReserved_any(l:List UInt8)(w:World):Calls Tryz.prog 172 #[S l] w fun e w'=>e=.returned (.bool (Lfc.reservedB l))∧w=w':=by
 go_enter Tryz.func172,Tryz.ntmps172
 go_wp2
 all_goals
  go_ret
  exact⟨ret_bool (by simp_all [Lfc.reservedB]),rfl⟩
theorem runLen_drop(p:UInt8→Bool)(l:List UInt8)(k:Nat)(h:k<l.length):Lfc.runLen p (l.drop k)=if p l[k] then Lfc.runLen p (l.drop (k+1))+1 else 0:=by
 rw[List.drop_eq_getElem_cons h,Lfc.runLen]
set_option maxHeartbeats 1000000 in
theorem run_any(f:FuncId)(he:∀args w,(callFunc f args).run Tryz.prog w=.ok (.enter f args) w)(p:UInt8→Bool)(hf:∀c w,Calls Tryz.prog f #[B c] w fun e w'=>e=.returned (.bool (p c))∧w=w')(l:List UInt8)(at_:Nat)(w:World)(hl:l.length≤65536)(ha:at_≤l.length) :
  Calls Tryz.prog 77 #[S l,.int .i64 at_,.func (.func f) #[] #[]] w fun e w'=>e=.returned (.int .i64 ((at_+Lfc.runLen p (l.drop at_):Nat):Int))∧w=w':=by
 have Hf:=Lib.hid hf
 clear hf
 go_enter Tryz.func77,Tryz.ntmps77
 go_wp2_with fail
 go_loop [1] (fun i=>∃k:Nat,k≤l.length∧i=.int .i64 k∧Hid (k+Lfc.runLen p (l.drop k)=at_+Lfc.runLen p (l.drop at_))) (fun i=>l.length-(intOf i).toNat)
 case atStart=>exact⟨at_,ha,rfl,Lib.hid rfl⟩
 case round =>
  obtain⟨k,hk,rfl,hr⟩:=hrel
  by_cases hlt:k<l.length
  ·have hd:=runLen_drop p l k hlt
   cases hp:p l[k]
   ·rw[hp] at hd
    have Hd:=Lib.hid hd
    have Hp:=Lib.hid hp
    clear hd hp
    go_wp2_with fail
    refine(Hf.out _ _).mono ?_
    rintro e w'⟨rfl,rfl⟩
    rw[Hp.out]
    go_wp2_with fail
    go_ret
    exact⟨ret_int (by have:=Hd.out;have:=hr.out;simp at *;omega),rfl⟩
   ·rw[hp] at hd
    have Hd:=Lib.hid hd
    have Hp:=Lib.hid hp
    clear hd hp
    go_wp2_with fail
    refine(Hf.out _ _).mono ?_
    rintro e w'⟨rfl,rfl⟩
    rw[Hp.out]
    go_wp2_with fail
    go_round
    case rel=>exact⟨k+1,by omega,by go_num,Lib.hid (by have:=Hd.out;have:=hr.out;simp at *;omega)⟩
    case measure=>simp[intOf];omega
  ·go_wp2_with fail
   go_ret
   have hk':k=l.length:=by omega
   exact⟨ret_int (by have:=hr.out;subst hk';simp[Lfc.runLen] at *;omega),rfl⟩
theorem runName_any(l:List UInt8)(at_:Nat)(w:World)(hl:l.length≤65536)(ha:at_≤l.length) :
  Calls Tryz.prog 77 #[S l,.int .i64 at_,.func (.func 76) #[] #[]] w fun e w'=>e=.returned (.int .i64 ((at_+Lfc.runLen Lfc.nameB (l.drop at_):Nat):Int))∧w=w' :=
 run_any 76 (enters_of Tryz.func76 (by kernel_rfl) rfl) _ nameByte_any l at_ w hl ha
theorem runLetter_any(l:List UInt8)(at_:Nat)(w:World)(hl:l.length≤65536)(ha:at_≤l.length) :
  Calls Tryz.prog 77 #[S l,.int .i64 at_,.func (.func 144) #[] #[]] w fun e w'=>e=.returned (.int .i64 ((at_+Lfc.runLen Lfc.letterB (l.drop at_):Nat):Int))∧w=w' :=
 run_any 144 (enters_of Tryz.func144 (by kernel_rfl) rfl) _ letter_any l at_ w hl ha
theorem runNl_any(l:List UInt8)(at_:Nat)(w:World)(hl:l.length≤65536)(ha:at_≤l.length) :
  Calls Tryz.prog 77 #[S l,.int .i64 at_,.func (.func 145) #[] #[]] w fun e w'=>e=.returned (.int .i64 ((at_+Lfc.runLen Lfc.notNlB (l.drop at_):Nat):Int))∧w=w' :=
 run_any 145 (enters_of Tryz.func145 (by kernel_rfl) rfl) _ notNl_any l at_ w hl ha
theorem cmt_drop2(d:Nat)(l:List UInt8)(k:Nat)(h:k+1<l.length):Lfc.cmt d (l.drop k)=if l[k].toNat=37∧l[k+1].toNat=123 then Lfc.cmt (d+1) (l.drop (k+2))
  else if l[k].toNat=125∧l[k+1].toNat=37 then(if d≤1 then some (l.drop (k+2)) else Lfc.cmt (d-1) (l.drop (k+2))) else Lfc.cmt d (l.drop (k+1)):=by
 rw[List.drop_eq_getElem_cons (by omega:k<l.length),List.drop_eq_getElem_cons h,Lfc.cmt,←List.drop_eq_getElem_cons h]
theorem cmt_short(d:Nat)(l:List UInt8)(k:Nat)(h:¬k+1<l.length):Lfc.cmt d (l.drop k)=none:=by
 have hl:(l.drop k).length≤1:=by rw[List.length_drop];omega
 match l.drop k,hl with
 |[],_=>simp[Lfc.cmt]
 |[a],_=>simp[Lfc.cmt]
def cmtEnd(l:List UInt8):Option (List UInt8)→Int
 |some r=>((l.length-r.length:Nat):Int)
 |none=>-1
theorem take2(l:List UInt8)(k:Nat)(h:k+1<l.length):(l.drop k).take 2=[l[k],l[k+1]]:=by
 rw[List.drop_eq_getElem_cons (by omega:k<l.length),List.drop_eq_getElem_cons h];rfl
set_option maxHeartbeats 1000000 in
theorem comment_any(l:List UInt8)(at_:Nat)(w:World)(hl:l.length≤65536)(ha:at_+1<l.length)(h1:((l.drop at_).take 2 == [37,123])=true) :
  Calls Tryz.prog 143 #[S l,.int .i64 at_] w fun e w'=>e=.returned (.int .i64 (cmtEnd l (Lfc.cmt 1 (l.drop (at_+2)))))∧w=w':=by
 have h0:=cmt_drop2 0 l at_ ha
 rw[if_pos (by rw[take2 l at_ ha] at h1;simp at h1;rw[h1.1,h1.2];exact⟨rfl,rfl⟩)] at h0
 have H0:=Lib.hid h0
 have H1:=Lib.hid h1
 clear h0 h1
 go_enter Tryz.func143,Tryz.ntmps143
 go_wp2_with fail
 go_loop [1,5] (fun i o=>∃k d:Nat,k≤l.length∧d≤k∧i=.int .i64 k∧o=.int .i64 d∧Hid (Lfc.cmt d (l.drop k)=Lfc.cmt 1 (l.drop (at_+2)))∧Hid (d=0→((l.drop k).take 2 == [37,123])=true)) (fun i _=>l.length-(intOf i).toNat)
 case atStart=>exact⟨at_,0,by omega,by omega,rfl,rfl,H0,Lib.hid fun _=>H1.out⟩
 case round =>
  obtain⟨k,d,hk,hdk,rfl,rfl,hr,hz⟩:=hrel
  by_cases hlt:k+1<l.length
  ·have hd:=cmt_drop2 d l k hlt
   have ht2:=take2 l k hlt
   cases ht:((l.drop k).take 2 == [37,123])
   ·have hne:¬(l[k].toNat=37∧l[k+1].toNat=123):=by
     intro hh;rw[ht2] at ht;simp[←UInt8.toNat_inj,hh] at ht
    rw[if_neg hne] at hd
    have hd1:1≤d:=by
     rcases Nat.eq_zero_or_pos d with h0 | h0
     ·rw[hz.out h0] at ht;cases ht
     ·exact h0
    cases hu:((l.drop k).take 2 == [125,37])
    ·have hne2:¬(l[k].toNat=125∧l[k+1].toNat=37):=by
      intro hh;rw[ht2] at hu;simp[←UInt8.toNat_inj,hh] at hu
     rw[if_neg hne2] at hd
     have Hd:=Lib.hid hd
     clear hd ht2 hne hne2
     go_wp2_with fail
     go_round
     case rel=>exact⟨k+1,d,by omega,by omega,by go_num,rfl,Lib.hid (by rw[←hr.out,Hd.out]),Lib.hid fun h=>by omega⟩
     case measure=>simp[intOf];omega
    ·have hpos:(l[k].toNat=125∧l[k+1].toNat=37):=by
      rw[ht2] at hu;simp at hu;rw[hu.1,hu.2];exact⟨rfl,rfl⟩
     rw[if_pos hpos] at hd
     by_cases hd2:d≤1
     ·rw[if_pos hd2] at hd
      obtain rfl:d=1:=by omega
      have Hd:=Lib.hid hd
      clear hd ht2 hne hpos
      go_wp2_with fail
      go_ret
      exact⟨ret_int (by rw[←hr.out,Hd.out];simp[cmtEnd];omega),rfl⟩
     ·rw[if_neg hd2] at hd
      have Hd:=Lib.hid hd
      clear hd ht2 hne hpos
      go_wp2_with fail
      go_round
      case rel=>exact⟨k+2,d-1,by omega,by omega,by go_num,by go_num,Lib.hid (by rw[←hr.out,Hd.out]),Lib.hid fun h=>by omega⟩
      case measure=>simp[intOf];omega
   ·have hpos:(l[k].toNat=37∧l[k+1].toNat=123):=by
     rw[ht2] at ht;simp at ht;rw[ht.1,ht.2];exact⟨rfl,rfl⟩
    rw[if_pos hpos] at hd
    have Hd:=Lib.hid hd
    clear hd ht2 hpos
    go_wp2_with fail
    go_round
    case rel=>exact⟨k+2,d+1,by omega,by omega,by go_num,by go_num,Lib.hid (by rw[←hr.out,Hd.out]),Lib.hid fun h=>by omega⟩
    case measure=>simp[intOf];omega
  ·go_wp2_with fail
   go_ret
   exact⟨ret_int (by rw[←hr.out,cmt_short d l k hlt];rfl),rfl⟩
end Go.Proofs.YthajalgkjonaaaaGreatDoor
namespace Go.Proofs.YthajalgkjonaaaaGreatDoor
open Go.RowKit
def posOf(k:Int)(at_:Nat):Int:=if k=0 then 0 else(at_:Int)
abbrev tokV(x:Lfc.Nx)(at_:Nat):Value:=.agg #[.int .i64 x.kind,S x.text,.int .i64 (posOf x.kind at_)]
theorem bcell{W w1:World}(hb:Below W.heap.size W w1):(∀b o,b<W.heap.size→w1.cell? ⟨b,o,none⟩=W.cell? ⟨b,o,none⟩)∧(∀b o,b<W.heap.size→w1.frozen? ⟨b,o,none⟩=W.frozen? ⟨b,o,none⟩) :=
 ⟨fun b o h=>hb.cell (p:=⟨b,o,none⟩) h,fun b o h=>hb.frozen (p:=⟨b,o,none⟩) h⟩
def NxPost(x:Lfc.Nx)(at_:Nat)(end_:Int)(w:World)(e:Ending)(w':World):Prop :=
 e=.returned (.tuple #[tokV x at_,.int .i64 end_,.int .i64 x.err])∧Below w.heap.size w w'
set_option maxHeartbeats 1000000 in
theorem name_any(word:List UInt8)(a b:Nat)(w:World)(_hl:word.length≤65536) :
  Calls Tryz.prog 78 #[S word,.int .i64 a,.int .i64 b] w (NxPost (Lfc.nm word) a (if 64<word.length then a else b) w):=by
 by_cases h64:64<word.length
 ·go_enter Tryz.func78,Tryz.ntmps78
  go_wp2_with fail
  refine bodyPost_ret (v:=.tuple #[.agg #[.int .i64 0,S [],.int .i64 0],.int .i64 a,.int .i64 12]) (by simp[results,Tryz.results78,go_sem]) rfl ⟨?_,(Below.refl _ _).alloc (Nat.le_refl _) _⟩
  simp[Lfc.nm,h64,posOf]
 ·cases hr:Lfc.reservedB word
  ·go_enter Tryz.func78,Tryz.ntmps78
   go_wp2_with (go_at_call 146;refine(reserved_any _ _).mono ?_;rintro e w'⟨rfl,rfl⟩)
   refine bodyPost_ret (v:=.tuple #[.agg #[.int .i64 1,S word,.int .i64 a],.int .i64 b,.int .i64 0]) (by simp[results,Tryz.results78,go_sem]) rfl ⟨?_,(Below.refl _ _).alloc (Nat.le_refl _) _⟩
   simp[Lfc.nm,h64,posOf,hr]
  ·go_enter Tryz.func78,Tryz.ntmps78
   go_wp2_with (go_at_call 146;refine(reserved_any _ _).mono ?_;rintro e w'⟨rfl,rfl⟩)
   refine bodyPost_ret (v:=.tuple #[.agg #[.int .i64 2,S word,.int .i64 a],.int .i64 b,.int .i64 0]) (by simp[results,Tryz.results78,go_sem]) rfl ⟨?_,(Below.refl _ _).alloc (Nat.le_refl _) _⟩
   simp[Lfc.nm,h64,posOf,hr]
theorem pre2(l:List UInt8)(a:Nat)(ha:a<l.length)(h1:l[a].toNat=37):Lib.hasPrefix (l.drop a) [37,123]=decide (∃h:a+1<l.length,l[a+1].toNat=123):=by
 have h37:l[a]=37:=UInt8.toNat_inj.1 h1
 rw[Bool.eq_iff_iff,List.drop_eq_getElem_cons ha,h37]
 by_cases h:a+1<l.length
 ·rw[List.drop_eq_getElem_cons h]
  have e:(l[a+1].toNat=123)↔123=l[a+1]:=⟨fun h=>(UInt8.toNat_inj.1 h).symm,fun h=>by rw[←h];rfl⟩
  simp only[Lib.hasPrefix,List.isPrefixOf]
  simp[h,e]
 ·rw[List.drop_eq_nil_of_le (by omega)]
  simp[Lib.hasPrefix,h]
set_option maxHeartbeats 1000000 in
theorem percent_any(l:List UInt8)(a:Nat)(w:World)(hl:l.length≤65536)(ha:a<l.length)(h37:Hid (l[a].toNat=37)) :
  Calls Tryz.prog 75 #[S l,.int .i64 a] w (NxPost (Lfc.pc (l.drop (a+1))) a ((a+(Lfc.pc (l.drop (a+1))).len:Nat):Int) w):=by
 have hp:=pre2 l a ha h37.out
 by_cases hb:∃h:a+1<l.length,l[a+1].toNat=123
 ·rw[decide_eq_true hb] at hp
  obtain⟨hb1,hb2⟩:=hb
  have e1:l.drop (a+1)=l[a+1] :: l.drop (a+2):=List.drop_eq_getElem_cons hb1
  have ht:((l.drop a).take 2 == [37,123])=true:=by
   rw[take2 l a hb1];simp[←UInt8.toNat_inj,h37.out,hb2]
  have Ht:=Lib.hid ht
  cases hc:Lfc.cmt 1 (l.drop (a+2)) with
  |none =>
   have hpc:Lfc.pc (l.drop (a+1))=⟨0,[],0,11⟩:=by rw[e1];simp[Lfc.pc,hb2,hc]
   rw[hpc]
   have Hc:=Lib.hid hc
   clear hpc hc ht e1 hb2
   go_enter Tryz.func75,Tryz.ntmps75
   go_wp2_with (first | (go_at_call 142;refine(Tryz.strings_HasPrefix _ _ _).mono ?_;rintro e w'⟨rfl,rfl⟩) | (go_at_call 143;refine(comment_any l a _ hl hb1 Ht.out).mono ?_;rintro e w'⟨rfl,rfl⟩;rw[Hc.out];simp only[cmtEnd]))
   refine bodyPost_ret (v:=.tuple #[.agg #[.int .i64 0,S [],.int .i64 0],.int .i64 a,.int .i64 11]) (by simp[results,Tryz.results75,go_sem]) rfl ⟨?_,(Below.refl _ _).alloc (Nat.le_refl _) _⟩
   simp[posOf]
  |some r =>
   have hlen:=Lfc.cmt_len _ _ (Nat.le_refl _) _ _ hc
   rw[List.length_drop] at hlen
   have hpc:Lfc.pc (l.drop (a+1))=⟨0,[],2+(l.drop (a+2)).length-r.length,0⟩:=by rw[e1];simp[Lfc.pc,hb2,hc]
   have hN:a+(2+(l.drop (a+2)).length-r.length)=l.length-r.length:=by rw[List.length_drop];omega
   rw[hpc,hN]
   have Hc:=Lib.hid hc
   clear hpc hc ht e1 hb2 hN
   go_enter Tryz.func75,Tryz.ntmps75
   go_wp2_with (first | (go_at_call 142;refine(Tryz.strings_HasPrefix _ _ _).mono ?_;rintro e w'⟨rfl,rfl⟩) | (go_at_call 143;refine(comment_any l a _ hl hb1 Ht.out).mono ?_;rintro e w'⟨rfl,rfl⟩;rw[Hc.out];simp only[cmtEnd]))
   refine bodyPost_ret (v:=.tuple #[.agg #[.int .i64 0,S [],.int .i64 0],.int .i64 ((l.length-r.length:Nat):Int),.int .i64 0]) (by simp[results,Tryz.results75,go_sem]) rfl ⟨?_,(Below.refl _ _).alloc (Nat.le_refl _) _⟩
   simp[posOf]
 ·rw[decide_eq_false hb] at hp
  have hpc:Lfc.pc (l.drop (a+1))=(if Lfc.runLen Lfc.letterB (l.drop (a+1))=0 then⟨0,[],Lfc.runLen Lfc.notNlB (l.drop (a+1))+1,0⟩ else if 64<Lfc.runLen Lfc.letterB (l.drop (a+1)) then⟨0,[],0,12⟩
    else⟨3,(l.drop (a+1)).take (Lfc.runLen Lfc.letterB (l.drop (a+1))),Lfc.runLen Lfc.letterB (l.drop (a+1))+1,0⟩):=by
   by_cases h:a+1<l.length
   ·have e1:l.drop (a+1)=l[a+1] :: l.drop (a+2):=List.drop_eq_getElem_cons h
    have hne:¬l[a+1].toNat=123:=fun e=>hb ⟨h,e⟩
    rw[e1];simp only[Lfc.pc];rw[if_neg hne]
   ·rw[List.drop_eq_nil_of_le (by omega)];simp[Lfc.pc,Lfc.runLen]
  have hn:=Lfc.runLen_le Lfc.letterB (l.drop (a+1))
  have hm:=Lfc.runLen_le Lfc.notNlB (l.drop (a+1))
  have hnl:Lfc.runLen Lfc.notNlB (l.drop a)=Lfc.runLen Lfc.notNlB (l.drop (a+1))+1:=by
   rw[runLen_drop _ l a ha,if_pos (by simp[Lfc.notNlB,h37.out])]
  rw[List.length_drop] at hn hm
  generalize hN:Lfc.runLen Lfc.letterB (l.drop (a+1))=n at *
  generalize hM:Lfc.runLen Lfc.notNlB (l.drop (a+1))=m at *
  have HN:=Lib.hid hN
  have HL:=Lib.hid hnl
  clear hN hM hnl
  by_cases h0:n=0
  ·rw[if_pos h0] at hpc
   rw[hpc]
   subst h0
   clear hpc hb
   go_enter Tryz.func75,Tryz.ntmps75
   go_wp2_with fail
   refine(Tryz.strings_HasPrefix _ _ _).mono ?_
   rintro e w'⟨rfl,rfl⟩
   go_wp2_with fail
   rw[show(a:Int)+1=((a+1:Nat):Int) by omega]
   refine(runLetter_any l (a+1) _ hl (by omega)).mono ?_
   rintro e w'⟨rfl,rfl⟩
   rw[HN.out]
   go_wp2_with fail
   refine(runNl_any l a _ hl (by omega)).mono ?_
   rintro e w'⟨rfl,rfl⟩
   rw[HL.out]
   go_wp2_with fail
   refine bodyPost_ret (v:=.tuple #[.agg #[.int .i64 0,S [],.int .i64 0],.int .i64 ((a+(m+1):Nat):Int),.int .i64 0]) (by simp[results,Tryz.results75,go_sem]) rfl ⟨?_,(Below.refl _ _).alloc (Nat.le_refl _) _⟩
   simp[posOf]
  ·rw[if_neg h0] at hpc
   by_cases h64:64<n
   ·rw[if_pos h64] at hpc
    rw[hpc]
    clear hpc hb
    go_enter Tryz.func75,Tryz.ntmps75
    go_wp2_with fail
    refine(Tryz.strings_HasPrefix _ _ _).mono ?_
    rintro e w'⟨rfl,rfl⟩
    go_wp2_with fail
    rw[show(a:Int)+1=((a+1:Nat):Int) by omega]
    refine(runLetter_any l (a+1) _ hl (by omega)).mono ?_
    rintro e w'⟨rfl,rfl⟩
    rw[HN.out]
    go_wp2_with fail
    refine bodyPost_ret (v:=.tuple #[.agg #[.int .i64 0,S [],.int .i64 0],.int .i64 a,.int .i64 12]) (by simp[results,Tryz.results75,go_sem]) rfl ⟨?_,(Below.refl _ _).alloc (Nat.le_refl _) _⟩
    simp[posOf]
   ·rw[if_neg h64] at hpc
    rw[hpc]
    clear hpc hb
    go_enter Tryz.func75,Tryz.ntmps75
    go_wp2_with fail
    refine(Tryz.strings_HasPrefix _ _ _).mono ?_
    rintro e w'⟨rfl,rfl⟩
    go_wp2_with fail
    rw[show(a:Int)+1=((a+1:Nat):Int) by omega]
    refine(runLetter_any l (a+1) _ hl (by omega)).mono ?_
    rintro e w'⟨rfl,rfl⟩
    rw[HN.out]
    go_wp2_with fail
    refine bodyPost_ret (v:=.tuple #[.agg #[.int .i64 3,S ((l.drop (a+1)).take n),.int .i64 a],.int .i64 ((a+1+n:Nat):Int),.int .i64 0]) (by simp[results,Tryz.results75,go_sem]) rfl ⟨?_,(Below.refl _ _).alloc (Nat.le_refl _) _⟩
    simp[posOf];omega
set_option maxHeartbeats 1000000 in
theorem next_any(l:List UInt8)(a:Nat)(w:World)(hl:l.length≤65536)(ha:a<l.length) :
  Calls Tryz.prog 43 #[S l,.int .i64 a] w (NxPost (Lfc.nx (l.drop a)) a ((a+(Lfc.nx (l.drop a)).len:Nat):Int) w):=by
 have e1:l.drop a=l[a] :: l.drop (a+1):=List.drop_eq_getElem_cons ha
 cases hb:Lfc.blankB l[a]
 ·by_cases h37:l[a].toNat=37
  ·have hx:Lfc.nx (l.drop a)=Lfc.pc (l.drop (a+1)):=by rw[e1];simp only[Lfc.nx];rw[hb,if_neg (by simp),if_pos h37]
   rw[hx]
   have H37:=Lib.hid h37
   have h37':((l[a].toNat:Int) == 37)=true:=by simp;omega
   clear e1 hx h37
   generalize hX:Lfc.pc (l.drop (a+1))=X
   have HX:=Lib.hid hX
   clear hX
   go_enter Tryz.func43,Tryz.ntmps43
   go_wp2_with (first | (go_at_call 74;refine(blank_any _ _).mono ?_;rintro e w'⟨rfl,rfl⟩))
   refine(percent_any l a _ hl ha H37).mono ?_
   rw[HX.out]
   rintro e w1⟨rfl,hb1⟩
   obtain⟨hc,hf⟩:=bcell hb1
   go_wp2_with fail
   refine bodyPost_ret (v:=.tuple #[tokV X a,.int .i64 (a+X.len),.int .i64 X.err]) (by simp[results,Tryz.results43,go_sem,hc]) rfl ⟨by simp,?_⟩
   exact((((((Below.refl _ _).alloc (Nat.le_refl _) _).trans (hb1.mono (by simp)))).setCell (by simp) _).setCell (by simp) _).setCell (by simp) _
  ·have h37':((l[a].toNat:Int) == 37)=false:=by simp;omega
   cases hn:Lfc.nameB l[a]
   ·cases hs:Lfc.specialB l[a]
    ·have hx:Lfc.nx (l.drop a)=⟨0,[],0,10⟩:=by rw[e1];simp only[Lfc.nx];rw[hb,if_neg (by simp),if_neg h37,hn,if_neg (by simp),hs,if_neg (by simp)]
     rw[hx]
     have hs':=of_decide_eq_false hs
     have Hs:=Lib.hid hs'
     clear e1 hx h37 hs hs'
     go_enter Tryz.func43,Tryz.ntmps43
     go_wp2_with (first | (go_at_call 74;refine(blank_any _ _).mono ?_;rintro e w'⟨rfl,rfl⟩) | (go_at_call 76;refine(nameByte_any _ _).mono ?_;rintro e w'⟨rfl,rfl⟩))
     refine(idxSpecial_any l[a] _).mono ?_
     rintro e w'⟨i,rfl,hi,rfl⟩
     have hi0:i<0:=hi.2 Hs.out
     clear hi
     go_wp2_with fail
     refine bodyPost_ret (v:=.tuple #[.agg #[.int .i64 0,S [],.int .i64 0],.int .i64 a,.int .i64 10]) (by simp[results,Tryz.results43,go_sem]) rfl ⟨by simp[posOf],?_⟩
     exact(Below.refl _ _).alloc (Nat.le_refl _) _
    ·have hx:Lfc.nx (l.drop a)=⟨2,[l[a]],1,0⟩:=by rw[e1];simp only[Lfc.nx];rw[hb,if_neg (by simp),if_neg h37,hn,if_neg (by simp),hs,if_pos rfl]
     have ht1:(l.drop a).take 1=[l[a]]:=by rw[e1];rfl
     rw[hx]
     have hs':=of_decide_eq_true hs
     have Hs:=Lib.hid hs'
     have H1:=Lib.hid ht1
     clear e1 hx h37 hs hs' ht1
     go_enter Tryz.func43,Tryz.ntmps43
     go_wp2_with (first | (go_at_call 74;refine(blank_any _ _).mono ?_;rintro e w'⟨rfl,rfl⟩) | (go_at_call 76;refine(nameByte_any _ _).mono ?_;rintro e w'⟨rfl,rfl⟩))
     refine(idxSpecial_any l[a] _).mono ?_
     rintro e w'⟨i,rfl,hi,rfl⟩
     have hi0:¬i<0:=fun h=>hi.1 h Hs.out
     clear hi
     go_wp2_with fail
     refine bodyPost_ret (v:=.tuple #[.agg #[.int .i64 2,S ((l.drop a).take 1),.int .i64 a],.int .i64 (a+1),.int .i64 0]) (by simp[results,Tryz.results43,go_sem]) rfl ⟨by rw[H1.out];simp[posOf],?_⟩
     exact(Below.refl _ _).alloc (Nat.le_refl _) _
   ·have hx:Lfc.nx (l.drop a)=Lfc.nm ((l.drop a).take (Lfc.runLen Lfc.nameB (l.drop a))):=by rw[e1];simp only[Lfc.nx];rw[hb,if_neg (by simp),if_neg h37,hn,if_pos rfl]
    have hr:=Lfc.runLen_le Lfc.nameB (l.drop a)
    have hlen:((l.drop a).take (Lfc.runLen Lfc.nameB (l.drop a))).length=Lfc.runLen Lfc.nameB (l.drop a):=by rw[List.length_take];omega
    rw[List.length_drop] at hr
    rw[hx]
    generalize hN:Lfc.runLen Lfc.nameB (l.drop a)=n at *
    have he:(if 64<((l.drop a).take n).length then(a:Int) else((a+n:Nat):Int))=((a+(Lfc.nm ((l.drop a).take n)).len:Nat):Int):=by
     rw[hlen];simp only[Lfc.nm,hlen];split <;> rfl
    have hw:((l.drop a).take n).length≤65536:=by omega
    generalize hX:Lfc.nm ((l.drop a).take n)=X at *
    have HN:=Lib.hid hN
    have HX:=Lib.hid hX
    have HE:=Lib.hid he
    clear hN e1 hx h37 hlen hX he
    go_enter Tryz.func43,Tryz.ntmps43
    go_wp2_with (first | (go_at_call 74;refine(blank_any _ _).mono ?_;rintro e w'⟨rfl,rfl⟩) | (go_at_call 76;refine(nameByte_any _ _).mono ?_;rintro e w'⟨rfl,rfl⟩))
    refine(runName_any l a _ hl (by omega)).mono ?_
    rintro e w'⟨rfl,rfl⟩
    rw[HN.out]
    go_wp2_with fail
    rw[show(a:Int)+n=((a+n:Nat):Int) by omega]
    refine(name_any ((l.drop a).take n) a (a+n) _ hw).mono ?_
    rw[HX.out,HE.out]
    rintro e w1⟨rfl,hb1⟩
    obtain⟨hc,hf⟩:=bcell hb1
    go_wp2_with fail
    refine bodyPost_ret (v:=.tuple #[tokV X a,.int .i64 (a+X.len),.int .i64 X.err]) (by simp[results,Tryz.results43,go_sem,hc]) rfl ⟨by simp,?_⟩
    exact((((((Below.refl _ _).alloc (Nat.le_refl _) _).trans (hb1.mono (by simp)))).setCell (by simp) _).setCell (by simp) _).setCell (by simp) _
 ·have hx:Lfc.nx (l.drop a)=⟨0,[],1,0⟩:=by rw[e1];simp only[Lfc.nx];rw[hb,if_pos rfl]
  rw[hx]
  clear e1 hx
  go_enter Tryz.func43,Tryz.ntmps43
  go_wp2_with (first | (go_at_call 74;refine(blank_any _ _).mono ?_;rintro e w'⟨rfl,rfl⟩))
  refine bodyPost_ret (v:=.tuple #[.agg #[.int .i64 0,S [],.int .i64 0],.int .i64 (a+1),.int .i64 0]) (by simp[results,Tryz.results43,go_sem]) rfl ⟨by simp[posOf],?_⟩
  exact(Below.refl _ _).alloc (Nat.le_refl _) _
end Go.Proofs.YthajalgkjonaaaaGreatDoor
namespace Go.Proofs.YthajalgkjonaaaaGreatDoor
open Go.RowKit
def tokCells(l:List Lfc.Tok):List Value:=l.flatMap fun t=>[.int .i64 t.kind,S t.text,.int .i64 (t.pos:Int)]
theorem tokCells_snoc(l:List Lfc.Tok)(t:Lfc.Tok):tokCells (l++[t])=tokCells l++[.int .i64 t.kind,S t.text,.int .i64 (t.pos:Int)]:=by simp[tokCells]
theorem only_of_below{a w:World}(h:Below a.heap.size a w)(row:Option Nat):a.grownBy w row:=⟨h.os,h.tape,h.output,h.size,fun i hi _=>h.block i hi⟩
theorem own_below{w w':World}{base:Nat}{e:TypeId}{size n:Nat}{v:Value}{xs:List Value}(h:w.ownsRow base e size v n xs)(hb:Below w.heap.size w w'):w'.ownsRow base e size v n xs :=
 h.kept (only_of_below hb none) (by cases hv:v.ownBlock <;> simp)
theorem own_form{w:World}{base:Nat}{e:TypeId}{size n:Nat}{v:Value}{xs:List Value}(h:w.ownsRow base e size v n xs):∃A c,v=.slice A n c:=by
 rcases h.2 with⟨rfl,rfl⟩ | ⟨g,cap,cur,rfl,_⟩
 ·exact⟨_,_,rfl⟩
 ·exact⟨_,_,rfl⟩
theorem own_nil(w:World)(base:Nat)(e:TypeId)(size:Nat):w.ownsRow base e size (.slice none 0 0) 0 []:=⟨by simp,.inl ⟨rfl,rfl⟩⟩
theorem addr_add(b j:Nat):(⟨b,0,none⟩:Addr).add j=⟨b,j,none⟩:=by
 unfold Addr.add;split <;> simp_all
theorem cells_new(W:World)(n:Nat)(hn:n=W.heap.size)(xs:List Value)(e:TypeId)(j:Nat)(u:Value)(h:xs[j]?=some u):(W.alloc (.cells xs.toArray e)).cell? ((⟨n,0,none⟩:Addr).add j)=some u:=by
 subst hn
 rw[addr_add,cell_of_row _ _ j xs.toArray e (0,0) (heap_alloc_new W _)]
 simpa using h
theorem own_block_ge{w:World}{base:Nat}{e:TypeId}{size n:Nat}{v:Value}{xs:List Value}(h:w.ownsRow base e size v n xs):∀k,v.ownBlock=some k→base≤k:=by
 rcases h.2 with⟨rfl,rfl⟩ | ⟨g,cap,cur,rfl,hg,_⟩
 ·intro k hk;cases hk
 ·intro k hk;cases hk;exact hg
def LexPost(r:List Lfc.Tok × Int × Nat)(w:World)(e:Ending)(w':World):Prop :=
 ∃v,e=.returned (.tuple #[v,.int .i64 r.2.1,.int .i64 (r.2.2:Int)])∧w'.ownsRow w.heap.size 65 3 v r.1.length (tokCells r.1)∧Below w.heap.size w w'
theorem tokInfo:(Tryz.prog.info? 65).map (fun i=>(i.zero,i.size,i.bytes))=some (some (.agg #[.int .i64 0,.string ⟨#[]⟩,.int .i64 0]),3,32):=by kernel_rfl
theorem lexR_at(l:List UInt8)(k:Nat)(acc:List Lfc.Tok)(h:k<l.length):Lfc.lexR k (l.drop k) acc =
  if (Lfc.nx (l.drop k)).err≠0 then([],(Lfc.nx (l.drop k)).err,k)
  else if (Lfc.nx (l.drop k)).kind=0 then Lfc.lexR (k+(Lfc.nx (l.drop k)).len) (l.drop (k+(Lfc.nx (l.drop k)).len)) acc
  else if acc.length=20000 then([],7,k)
  else Lfc.lexR (k+(Lfc.nx (l.drop k)).len) (l.drop (k+(Lfc.nx (l.drop k)).len)) (acc++[⟨(Lfc.nx (l.drop k)).kind,(Lfc.nx (l.drop k)).text,k⟩]):=by
 have e1:l.drop k=l[k] :: l.drop (k+1):=List.drop_eq_getElem_cons h
 have e2:∀m,l.drop (k+m)=(l[k] :: l.drop (k+1)).drop m:=fun m=>by rw[←e1,List.drop_drop]
 rw[e2,e1]
 exact Lfc.lexR_cons _ _ _ _
theorem nx_at(l:List UInt8)(k:Nat)(h:k<l.length)(he:(Lfc.nx (l.drop k)).err=0):1≤(Lfc.nx (l.drop k)).len∧k+(Lfc.nx (l.drop k)).len≤l.length:=by
 have e1:l.drop k=l[k] :: l.drop (k+1):=List.drop_eq_getElem_cons h
 rw[e1] at he ⊢
 have:=Lfc.nx_len _ _ he
 rw[List.length_drop] at this
 omega
set_option maxRecDepth 100000 in
set_option maxHeartbeats 1000000 in
theorem lex_any(l:List UInt8)(w:World)(hmax:l.length≤9223372036854775807):Calls Tryz.prog 22 #[S l] w (LexPost (Lfc.lex l) w):=by
 by_cases hlong:65536<l.length
 ·have h0:Lfc.lex l=([],12,0):=by rw[Lfc.lex_eq,if_pos hlong]
  rw[h0]
  clear h0
  go_enter Tryz.func22,Tryz.ntmps22
  go_wp2_with fail
  go_ret3
  exact⟨_,rfl,own_nil _ _ _ _,Below.refl _ _⟩
 ·have h0:Lfc.lex l=Lfc.lexR 0 (l.drop 0) []:=by rw[Lfc.lex_eq,if_neg hlong];rfl
  rw[h0]
  clear h0
  obtain⟨i0,hi,hz0,hz1,hz2⟩:=info_parts tokInfo
  generalize hR:Lfc.lexR 0 (l.drop 0) []=R
  have HR:=Lib.hid hR
  clear hR
  have hl:l.length≤65536:=by omega
  go_enter Tryz.func22,Tryz.ntmps22
  go_wp2_with fail
  go_loopw [5,6] (fun o i wr=>∃(k:Nat)(acc:List Lfc.Tok),k≤l.length∧i=.int .i64 k∧acc.length≤k∧wr.ownsRow w.heap.size 65 3 o acc.length (tokCells acc)∧Below w.heap.size w wr∧Hid (Lfc.lexR k (l.drop k) acc=R)) (fun _ i _=>l.length-(intOf i).toNat)
  case atStart=>exact⟨0,[],by omega,rfl,by simp,own_nil _ _ _ _,Below.refl _ _,HR⟩
  case round =>
   obtain⟨k,acc,hk,rfl,hak,hown,hbw,hr⟩:=hrel
   obtain⟨A,c,rfl⟩:=own_form hown
   by_cases hlt:k<l.length
   ·have hx:=lexR_at l k acc hlt
    have hlen:=nx_at l k hlt
    generalize hX:Lfc.nx (l.drop k)=X at *
    have HX:=Lib.hid hX
    clear hX
    by_cases he:X.err=0
    ·obtain⟨hl1,hl2⟩:=hlen he
     rw[if_neg (by simpa using he)] at hx
     have he1:(X.err == 0)=true:=by simp[he]
     have he2:(X.err != 0)=false:=by simp[he]
     have He:=Lib.hid he
     clear hlen he
     by_cases hk0:X.kind=0
     ·rw[if_pos hk0] at hx
      have Hx:=Lib.hid hx
      have hk1:(X.kind != 0)=false:=by simp[hk0]
      clear hx hk0
      go_wp2_with fail
      refine(next_any l k _ hl hlt).mono ?_
      rw[HX.out]
      rintro e w1⟨rfl,hb1⟩
      obtain⟨hc,hf⟩:=bcell hb1
      go_wp2_with fail
      go_roundw
      case rel=>exact⟨k+X.len,acc,hl2,by go_num,by omega,(own_below hown hb1).alloc _,(hbw.trans (hb1.mono hbw.size)).alloc (Nat.le_trans hbw.size hb1.size) _,Lib.hid (by rw[←hr.out,Hx.out])⟩
      case measure=>simp[intOf];omega
     ·rw[if_neg hk0] at hx
      have hk1:(X.kind != 0)=true:=by simp[hk0]
      have hpos:posOf X.kind k=k:=by simp[posOf,hk0]
      have Hpos:=Lib.hid hpos
      clear hk0 hpos
      by_cases hm:acc.length=20000
      ·rw[if_pos hm] at hx
       have hm1:((acc.length:Int) == 20000)=true:=by simp;omega
       have Hx:=Lib.hid hx
       clear hx hm
       go_wp2_with fail
       refine(next_any l k _ hl hlt).mono ?_
       rw[HX.out]
       rintro e w1⟨rfl,hb1⟩
       obtain⟨hc,hf⟩:=bcell hb1
       go_wp2_with fail
       go_ret3
       rw[←hr.out,Hx.out]
       exact⟨_,rfl,own_nil _ _ _ _,(hbw.trans (hb1.mono hbw.size)).alloc (Nat.le_trans hbw.size hb1.size) _⟩
      ·rw[if_neg hm] at hx
       have hm1:((acc.length:Int) == 20000)=false:=by simp;omega
       have Hx:=Lib.hid hx
       clear hx hm
       go_wp2_with fail
       refine(next_any l k _ hl hlt).mono ?_
       rw[HX.out]
       rintro e w1⟨rfl,hb1⟩
       obtain⟨hc,hf⟩:=bcell hb1
       have hown1:=((own_below hown hb1).alloc (Obj.cells #[.int .i64 X.kind,S X.text,.int .i64 (posOf X.kind k)] 65)).alloc (Obj.cells #[.int .i64 X.kind,S X.text,.int .i64 (posOf X.kind k)] 65)
       have hsz:=Nat.le_trans hbw.size hb1.size
       go_wp2_with (at_builtin;refine wpList_append_own _ rfl _ _ 61 rfl w.heap.size 65 i0 (.agg #[.int .i64 0,.string ⟨#[]⟩,.int .i64 0]) 3 32 Tryz.underlying61 hi hz0 hz1 hz2 rfl (by decide) _ _ _ rfl hown1 ⟨w1.heap.size+1,0,none⟩ 1 1 [.int .i64 X.kind,S X.text,.int .i64 (posOf X.kind k)] rfl rfl ?c1 ?c2 ?c3 ?c4 ?c5 ?_)
       case c1=>exact fun j u h=>cells_new _ _ (by simp) _ _ j u h
       case c2=>intro u hu;simp at hu;rcases hu with rfl | rfl | rfl <;> rfl
       case c3=>unfold maxLen;omega
       case c4=>omega
       case c5=>simp;omega
       intro v' w2 hown2 hg2 _
       have hb2:Below w.heap.size w w2:=(((hbw.trans (hb1.mono hbw.size)).alloc hsz _).alloc (by simp;omega) _).grown hg2 (by simp;omega) (own_block_ge hown1)
       rw[Hpos.out] at hown2
       have hown3:w2.ownsRow w.heap.size 65 3 v' (acc++[(⟨X.kind,X.text,k⟩:Lfc.Tok)]).length (tokCells (acc++[⟨X.kind,X.text,k⟩])):=by
        rw[tokCells_snoc,List.length_append];exact hown2
       clear hown2 hg2 hown1
       go_wp2_with fail
       go_roundw
       case rel=>exact⟨k+X.len,acc++[⟨X.kind,X.text,k⟩],hl2,by go_num,by simp;omega,hown3,hb2,Lib.hid (by rw[←hr.out,Hx.out])⟩
       case measure=>simp[intOf];omega
    ·rw[if_pos he] at hx
     have he1:(X.err == 0)=false:=by simp[he]
     have he2:(X.err != 0)=true:=by simp[he]
     have Hx:=Lib.hid hx
     clear hx hlen he
     go_wp2_with fail
     refine(next_any l k _ hl hlt).mono ?_
     rw[HX.out]
     rintro e w1⟨rfl,hb1⟩
     obtain⟨hc,hf⟩:=bcell hb1
     go_wp2_with fail
     go_ret3
     rw[←hr.out,Hx.out]
     exact⟨_,rfl,own_nil _ _ _ _,(hbw.trans (hb1.mono hbw.size)).alloc (Nat.le_trans hbw.size hb1.size) _⟩
   ·have hkl:k=l.length:=by omega
    have Hk:=Lib.hid hkl
    clear hkl
    go_wp2_with fail
    go_ret3
    have e0:Lfc.lexR k (l.drop k) acc=(acc,0,l.length):=by rw[Hk.out,List.drop_length,Lfc.lexR_nil]
    rw[←hr.out,e0]
    exact⟨_,rfl,hown,hbw⟩
end Go.Proofs.YthajalgkjonaaaaGreatDoor
namespace Go.Proofs.YthajalgkjonaaaaGreatDoor
open Go.RowKit
def cutI(x:Int)(n:Nat):Nat:=((x % 18446744073709551616) % (n:Int)).toNat
theorem cutI_lt(x:Int)(n:Nat)(h:0<n):cutI x n<n:=by
 unfold cutI
 have h1:=Int.emod_nonneg (x % 18446744073709551616) (by omega:(n:Int)≠0)
 have h2:=Int.emod_lt_of_pos (x % 18446744073709551616) (by omega:0<(n:Int))
 omega
set_option maxHeartbeats 1000000 in
theorem cut_any(x:Int)(n:Nat)(w:World)(h0:0<n)(h1:n≤1000000):Calls Tryz.prog 23 #[.int .i64 x,.int .i64 n] w fun e w'=>e=.returned (.int .i64 (cutI x n:Int))∧w'=w:=by
 go_enter Tryz.func23,Tryz.ntmps23
 go_wp2
 go_ret
 refine⟨ret_int ?_,rfl⟩
 have hw:IntKind.u64.wrap x=x % 18446744073709551616:=by rw[IntKind.wrap_u64]
 have h2:=Int.emod_nonneg x (by decide:(18446744073709551616:Int)≠0)
 have h3:=cutI_lt x n h0
 rw[hw,Int.tmod_eq_emod_of_nonneg h2]
 have h4:=Int.emod_nonneg (x % 18446744073709551616) (by omega:(n:Int)≠0)
 have h5:((x % 18446744073709551616) % (n:Int))=(cutI x n:Int):=by unfold cutI;omega
 rw[h5]
 exact IntWalk.wrap64_in _ ⟨by omega,by omega⟩
def IntsAt(w:World)(v:Value)(zs:List Int):Prop :=
 ∃A c,v=.slice A zs.length c∧zs.length≤maxLen∧(0<zs.length→∃b o,A=some ⟨b,o,none⟩∧b<w.heap.size∧∀k,k<zs.length→w.cell? ⟨b,o+k,none⟩=some (.int .i64 (zs.getD k 0)))
theorem IntsAt.below{w w':World}{v:Value}{zs:List Int}(h:IntsAt w v zs)(hb:Below w.heap.size w w'):IntsAt w' v zs:=by
 obtain⟨A,c,rfl,h1,h2⟩:=h
 refine⟨A,c,rfl,h1,fun hp=>?_⟩
 obtain⟨b,o,hA,hlt,hc⟩:=h2 hp
 exact⟨b,o,hA,Nat.lt_of_lt_of_le hlt hb.size,fun k hk=>(hb.cell (p:=⟨b,o+k,none⟩) hlt).trans (hc k hk)⟩
theorem own_string{P:Program}{w:World}{base:Nat}{e src dst:TypeId}{A:Option Addr}{c:Nat}{l:List UInt8}(hs:P.underlying src=some (.slice e))(he:P.underlying e=some (.int .u8))(hd:P.underlying dst=some .string)
  (h:w.ownsRow base e 1 (.slice A l.length c) l.length (Lib.byteCells l)):(convert src dst (.slice A l.length c)).run P w=.ok (S l) w:=by
 rcases h.2 with⟨hv,hn⟩ | ⟨g,cap,cur,hv,_⟩
 ·obtain rfl:=List.eq_nil_of_length_eq_zero hn
  injection hv with h1 h2 h3
  subst h1 h3
  exact Lib.run_convert_nil_bytes w src dst e 0 hs he hd
 ·injection hv with h1 h2 h3
  subst h1
  refine run_convert_bytes_back w src dst e ⟨g,0,none⟩ c l hs he hd fun j hj=>?_
  exact h.cells (g:=g) rfl j _ (by simp[Lib.byteCells,hj])
theorem byteInfo:(Tryz.prog.info? 5).map (fun i=>(i.zero,i.size,i.bytes))=some (some (.int .u8 0),1,1):=by kernel_rfl
end Go.Proofs.YthajalgkjonaaaaGreatDoor
namespace Go.Proofs.YthajalgkjonaaaaGreatDoor
open Go.ChangeShapes Go.WideShapes Go.ChangeAt Go.RowKit
theorem own:ownKnob Tryz.prog.godebug=none:=by kernel_rfl
theorem laidOut:laidOutB Tryz.prog=true:=by kernel_rfl
section
variable {H:Type} {enc:TypeId × Value→H}
theorem lt_of_cell{w:World}{a:Addr}{v:Value}(h:w.cell? a=some v):a.block<w.heap.size:=by
 rcases Nat.lt_or_ge a.block w.heap.size with h1 | h1
 ·exact h1
 ·unfold World.cell? at h
  rw[Array.getElem?_eq_none h1] at h
  cases h
theorem belowAll{W W':World}(hb:Below W.heap.size W W'):∀{ts:List TypeId}{vs:List Value}{ds:List (DataW H)}{ps:List MemPlace},(∀t∈ts,Tryz.prog.readableRec t=true∧t<Tryz.prog.types.size) →
  DataW.TrodAll enc Tryz.prog W 0 (fun _=>true) true ts vs ds ps→(∀x∈ps,x.block<W.heap.size)→DataW.TrodAll enc Tryz.prog W' 0 (fun b=>decide (b<W.heap.size)) true ts vs ds ps
 |[],[],[],_,_,h,_=>h
 |t :: ts,v :: vs,d :: ds,ps,ht,h,hlt=>by
  obtain⟨p,q,h1,h2,rfl⟩:=h
  obtain⟨hr,hrow⟩:=ht t List.mem_cons_self
  exact⟨p,q,Below.trod laidOut hr hrow h1 hb fun x hx=>hlt x (List.mem_append_left _ hx),belowAll hb (fun u hu=>ht u (List.mem_cons_of_mem _ hu)) h2 fun x hx=>hlt x (List.mem_append_right _ hx),rfl⟩
theorem law_post{f:Func}{s:ChangeSpec}{W W':World}{args:Array Value}{ds:List (DataW H)}{before:List MemPlace}
  (hs:s.vars=[]) (hfn:(s.fn H (ds++[])).results=[.lit (.bool true)]∧(s.fn H (ds++[])).args=ds∧(s.fn H (ds++[])).vars=[])
  (hr:f.resultTypes=#[4]) (hp:∀t∈f.params.toList,Tryz.prog.readableRec t=true∧t<Tryz.prog.types.size)
  (hW:DataW.Whole enc Tryz.prog f.params.toList s.vars false W args.toList ds [] before) (hb:Below W.heap.size W W') :
  s.post enc Tryz.prog f false true false false W args (.bool true) W':=by
 have hlt:∀p∈before,p.block<W.heap.size:=fun p hp=>hW.lt p hp
 have hW':=hW
 obtain⟨p,q,hA,hV,rfl,hz,hn⟩:=hW'
 rw[hs] at hV
 obtain⟨_,rfl⟩:=trodVars_none hV
 refine⟨ds,[],p++[],[],p,[],hW,?_,?_,?_,World.keptBut_mono (fun x hx=>⟨hx,.inr (.inl (by simpa using hx))⟩) (hb.frame (·∈p++[])),fun h=>by cases h⟩
 ·rw[hfn.1,hr]
  exact trodAll_mk1 (shut_bool Tryz.underlying4 _)
 ·rw[hfn.2.1]
  exact belowAll hb hp hA fun x hx=>hlt x (by simpa using hx)
 ·rw[hfn.2.2,hs]
  rfl
set_option maxRecDepth 100000 in
theorem intsAt_of{W:World}{v:Value}{d:DataW H}{p:List MemPlace}{r:Reach}{base:Nat}(hok:Value.okWide Tryz.prog W r base 22 v)(h:DataW.Trod enc Tryz.prog W 0 (fun _=>true) true 22 v d p):∃zs,IntsAt W v zs:=by
 obtain⟨a0,len,cap,rfl⟩:=okWide_slice Tryz.underlying22 hok
 obtain⟨fuel,hf⟩:=h
 rcases open_ints Tryz.underlying22 Tryz.underlying3 (by kernel_rfl) hf with⟨hcs,_⟩ | ⟨a,len',cap',zs,hcs,_,hl,hm,hz,_,hcell,_⟩
 ·simp only[Value.cells,List.cons.injEq,Value.slice.injEq,and_true] at hcs
  obtain⟨rfl,rfl,rfl⟩:=hcs
  exact⟨[],none,0,rfl,by simp,fun hp=>by simp at hp⟩
 ·simp only[Value.cells,List.cons.injEq,Value.slice.injEq,and_true] at hcs
  obtain⟨rfl,rfl,rfl⟩:=hcs
  simp only[if_true] at hz
  have hlen:(zs.take len).length=len:=by rw[List.length_take];omega
  refine⟨zs.take len,some a,cap,by rw[hlen],by rw[hlen];omega,fun hp=>?_⟩
  rw[hlen] at hp
  obtain⟨b,o,rfl,hc⟩:=ints_at hcell (by omega)
  refine⟨b,o,rfl,lt_of_cell (hc 0 (by omega)),fun k hk=>?_⟩
  rw[hlen] at hk
  rw[hc k (by omega)]
  simp[List.getD,hk]
end
end Go.Proofs.YthajalgkjonaaaaGreatDoor
namespace Go.Proofs.YthajalgkjonaaaaGreatDoor
open Go.RowKit
def TokAt(w:World)(v:Value)(l:List Lfc.Tok):Prop :=
 ∃A c,v=.slice A l.length c∧l.length≤c∧(0<l.length→∃b o,A=some ⟨b,o,none⟩∧b<w.heap.size∧∀k t,l[k]?=some t→w.cell? ⟨b,o+k*3,none⟩=some (.int .i64 t.kind)∧w.cell? ⟨b,o+k*3+1,none⟩=some (S t.text)∧w.cell? ⟨b,o+k*3+2,none⟩=some (.int .i64 (t.pos:Int)))
theorem TokAt.below{w w':World}{v:Value}{l:List Lfc.Tok}(h:TokAt w v l)(hb:Below w.heap.size w w'):TokAt w' v l:=by
 obtain⟨A,c,rfl,h1,h2⟩:=h
 refine⟨A,c,rfl,h1,fun hp=>?_⟩
 obtain⟨b,o,hA,hlt,hc⟩:=h2 hp
 refine⟨b,o,hA,Nat.lt_of_lt_of_le hlt hb.size,fun k t ht=>?_⟩
 obtain⟨c0,c1,c2⟩:=hc k t ht
 exact⟨(hb.cell (p:=⟨b,_,none⟩) hlt).trans c0,(hb.cell (p:=⟨b,_,none⟩) hlt).trans c1,(hb.cell (p:=⟨b,_,none⟩) hlt).trans c2⟩
theorem tokCells_at(l:List Lfc.Tok):∀(k:Nat)(t:Lfc.Tok),l[k]?=some t→(tokCells l)[k*3]?=some (.int .i64 t.kind)∧(tokCells l)[k*3+1]?=some (S t.text)∧(tokCells l)[k*3+2]?=some (.int .i64 (t.pos:Int)):=by
 induction l with
 |nil=>intro k t h;simp at h
 | cons a r ih =>
  intro k t h
  cases k with
  |zero=>simp at h;subst h;simp[tokCells]
  | succ k =>
   have:=ih k t (by simpa using h)
   have e:∀j,(tokCells (a :: r))[(k+1)*3+j]?=(tokCells r)[k*3+j]?:=by
    intro j
    rw[show(k+1)*3+j=(k*3+j)+1+1+1 by omega]
    simp[tokCells]
   exact⟨(e 0).trans this.1,(e 1).trans this.2.1,(e 2).trans this.2.2⟩
theorem TokAt.of_own{w:World}{base:Nat}{v:Value}{l:List Lfc.Tok}(h:w.ownsRow base 65 3 v l.length (tokCells l)):TokAt w v l:=by
 rcases h.2 with⟨rfl,hn⟩ | ⟨g,cap,cur,rfl,hg,hh,hnc,_⟩
 ·exact⟨none,0,by rw[hn],by omega,fun hp=>by omega⟩
 ·refine⟨_,_,rfl,hnc,fun hp=>⟨g,0,rfl,?_,fun k t ht=>?_⟩⟩
  ·rcases Nat.lt_or_ge g w.heap.size with h1 | h1
   ·exact h1
   ·rw[Array.getElem?_eq_none h1] at hh;cases hh
  ·obtain⟨c0,c1,c2⟩:=tokCells_at l k t ht
   have hc:=h.cells (g:=g) rfl
   refine⟨?_,?_,?_⟩
   ·have:=hc _ _ c0;rw[addr_add] at this;simpa using this
   ·have:=hc _ _ c1;rw[addr_add] at this;simpa[Nat.add_assoc] using this
   ·have:=hc _ _ c2;rw[addr_add] at this;simpa[Nat.add_assoc] using this
end Go.Proofs.YthajalgkjonaaaaGreatDoor
namespace Lfc
def spT(t:Tok):List UInt8:=if t.kind=3 then 37 :: t.text else t.text
def spell:List Tok→List UInt8
 |[]=>[]
 |t :: r=>spT t++r.flatMap fun u=>32 :: spT u
end Lfc
namespace Go.Proofs.YthajalgkjonaaaaGreatDoor
open Go.RowKit
theorem spell_join(l:List Lfc.Tok):Lib.join (l.map Lfc.spT) [32]=Lfc.spell l:=by
 cases l with
 |nil=>rfl
 |cons a r=>rw[List.map_cons,Lib.join_cons,Lfc.spell,Lib.joinTail];simp[List.flatMap,List.map_map];rfl
theorem spT_le(l:List Lfc.Tok)(t:Lfc.Tok)(h:t∈l):(Lfc.spT t).length≤(Lfc.spell l).length:=by
 cases l with
 |nil=>cases h
 | cons a r =>
  rw[Lfc.spell,List.length_append]
  rcases List.mem_cons.1 h with rfl | h
  ·omega
  ·have:((32:UInt8) :: Lfc.spT t).length≤(r.flatMap fun u=>(32:UInt8) :: Lfc.spT u).length:=by
    induction r with
    |nil=>cases h
    |cons b q ih =>
     rw[List.flatMap_cons,List.length_append]
     rcases List.mem_cons.1 h with rfl | h
     ·omega
     ·have:=ih (List.mem_cons_of_mem _ h) h;omega
   simp at this ⊢;omega
theorem bcons(x:List UInt8):(⟨#[37]⟩ ++ ⟨x.toArray⟩:ByteArray)=⟨(37 :: x).toArray⟩:=by
 apply ByteArray.ext;simp[ByteArray.data_append]
theorem run_make_rowN{P:Program}(t e:TypeId)(i:TypeInfo)(z:Value)(ht:P.underlying t=some (.slice e))(hi:P.info? e=some i)(hz:i.zero=some z)
  (kl kc:IntKind) (n c:Nat) (hnc:n≤c) (hbytes:i.bytes*c≤281474976710656) (h63:c≤9223372036854775807) (w:World) :
  (Instr.makeSlice t (.int kl (n:Int)) (.int kc (c:Int))).run P w=.ok (.slice (some ⟨w.heap.size,0,none⟩) n c) (w.alloc (.cells (madeCells z.cells (c*i.size)) e)):=by
 have hb:(i.bytes:Int)*(c:Int)≤281474976710656:=by
  have h:((i.bytes*c:Nat):Int)≤281474976710656:=by omega
  rwa[Int.natCast_mul] at h
 have hr:=run_make (P:=P) w t e i z ht hi hz kl kc n c (by omega) (by omega) hb (by omega)
 simp only[Int.toNat_natCast] at hr
 exact hr
def Blk(w:World)(g:Nat)(t:TypeId)(cs:Array Value):Prop:=w.heap[g]?=some (.cells cs t (0,0))
section
variable {w w':World} {g:Nat} {t:TypeId} {cs:Array Value}
theorem Blk.lt(h:Blk w g t cs):g<w.heap.size:=by
 rcases Nat.lt_or_ge g w.heap.size with hlt | hge
 ·exact hlt
 ·unfold Blk at h;rw[Array.getElem?_eq_none hge] at h;cases h
theorem Blk.cell(h:Blk w g t cs)(i:Nat):w.cell? ⟨g,i,none⟩=cs[i]?:=cell_of_row w g i cs t (0,0) h
theorem Blk.frozen(h:Blk w g t cs)(i:Nat):w.frozen? ⟨g,i,none⟩=false:=by
 unfold Blk at h
 simp[World.frozen?,h]
theorem Blk.new(w:World)(t:TypeId)(cs:Array Value):Blk (w.alloc (.cells cs t)) w.heap.size t cs:=heap_alloc_new w _
theorem Blk.alloc(h:Blk w g t cs)(o:Obj):Blk (w.alloc o) g t cs:=(Below.heap_alloc w o g h.lt).trans h
theorem Blk.set_(h:Blk w g t cs)(i:Nat)(u:Value):Blk (w.setCell ⟨g,i,none⟩ u) g t (cs.setIfInBounds i u):=by
 unfold Blk at h ⊢
 simp[World.setCell,Array.getElem?_modify,h]
end
theorem strInfo:(Tryz.prog.info? 9).map (fun i=>(i.zero,i.size,i.bytes))=some (some (.string ⟨#[]⟩),1,16):=by kernel_rfl
set_option maxRecDepth 100000 in
set_option maxHeartbeats 2000000 in
theorem spell_any(v:Value)(l:List Lfc.Tok)(w:World)(h:TokAt w v l)(hn:l.length≤100000)(hlen:(Lfc.spell l).length≤1000000) :
  Calls Tryz.prog 24 #[v] w fun e w'=>e=.returned (S (Lfc.spell l))∧Below w.heap.size w w':=by
 obtain⟨A,c,rfl,hc,hA⟩:=h
 obtain⟨i0,hi,hz0,hz1,hz2⟩:=info_parts strInfo
 have hmk:=fun W=>run_make_rowN (P:=Tryz.prog) 36 9 i0 (.string ⟨#[]⟩) Tryz.underlying36 hi hz0 .i64 .i64 l.length l.length (Nat.le_refl _) (by rw[hz2];omega) (by omega) W
 rw[hz1,Nat.mul_one] at hmk
 have HA:=Lib.hid hA
 clear hA
 have hcs:(madeCells (Value.string ⟨#[]⟩).cells l.length).size=l.length:=by simp[madeCells]
 generalize hM:madeCells (Value.string ⟨#[]⟩).cells l.length=M at *
 have HM:=Lib.hid hcs
 clear hM hcs
 go_enter Tryz.func24,Tryz.ntmps24
 go_wp2_with fail
 clear hmk
 go_loopw [11] (fun i wr=>∃(k:Nat)(arr:Array Value),k≤l.length∧i=.int .i64 k∧Below w.heap.size w wr∧Blk wr w.heap.size 9 arr∧Hid (arr.size=l.length∧∀j t,j<k→l[j]?=some t→arr[j]?=some (S (Lfc.spT t)))) (fun i _=>l.length-(intOf i).toNat)
 case atStart=>exact⟨0,M,by omega,rfl,(Below.refl _ _).alloc (Nat.le_refl _) _,Blk.new _ _ _,Lib.hid ⟨HM.out,fun j t hj=>by omega⟩⟩
 case round =>
  obtain⟨k,arr,hk,rfl,hbw,hblk,hr⟩:=hrel
  by_cases hlt:k<l.length
  ·obtain⟨b,o,rfl,hb,hcs⟩:=HA.out (by omega)
   obtain⟨a0,a1,a2⟩:=hcs k l[k] (List.getElem?_eq_getElem hlt)
   have a0':=(hbw.cell (p:=⟨b,_,none⟩) hb).trans a0
   have a1':=(hbw.cell (p:=⟨b,_,none⟩) hb).trans a1
   have a2':=(hbw.cell (p:=⟨b,_,none⟩) hb).trans a2
   clear a0 a1 a2 hcs
   have hv:wr.cell? ⟨w.heap.size,k,none⟩=some (arr[k]'(by rw[hr.out.1];exact hlt)):=by rw[hblk.cell k];exact Array.getElem?_eq_getElem _
   have hfr:=hblk.frozen k
   have hlt':=hblk.lt
   generalize hT:l[k]=T at *
   have HT:=Lib.hid hT
   clear hT
   have htl:T.text.length≤1000000:=by
    have h1:=spT_le l T (by rw[←HT.out];exact List.getElem_mem _)
    have h2:T.text.length≤(Lfc.spT T).length:=by unfold Lfc.spT;split <;> simp
    omega
   by_cases h3:T.kind=3
   ·have hk3:(T.kind == 3)=true:=by simp[h3]
    have hsp:Lfc.spT T=37 :: T.text:=by simp[Lfc.spT,h3]
    have Hsp:=Lib.hid hsp
    clear h3 hsp
    go_wp2_with fail
    go_roundw
    case rel =>
     refine⟨k+1,((arr.setIfInBounds k (S T.text)).setIfInBounds k (.string (⟨#[37]⟩ ++ ⟨T.text.toArray⟩))),by omega,by go_num,(((hbw.setCell (Nat.le_refl _) _).setCell (Nat.le_refl _) _).alloc (by simp;omega) _),(((hblk.set_ k _).set_ k _).alloc _),Lib.hid ⟨by simp[hr.out.1],fun j t hj ht=>?_⟩⟩
     rcases Nat.lt_or_ge j k with h1 | h1
     ·have:=hr.out.2 j t h1 ht
      simp[show k≠j by omega,this]
     ·obtain rfl:j=k:=by omega
      obtain rfl:t=T:=by rw[←HT.out];rw[List.getElem?_eq_getElem hlt] at ht;exact(Option.some.inj ht).symm
      have hsz:j<arr.size:=by rw[hr.out.1];exact hlt
      rw[Hsp.out]
      simp[hsz,bcons]
    case measure=>simp[intOf];omega
   ·have hk3:(T.kind == 3)=false:=by simp[h3]
    have hsp:Lfc.spT T=T.text:=by simp[Lfc.spT,h3]
    have Hsp:=Lib.hid hsp
    clear h3 hsp
    go_wp2_with fail
    go_roundw
    case rel =>
     refine⟨k+1,(arr.setIfInBounds k (S T.text)),by omega,by go_num,((hbw.setCell (Nat.le_refl _) _).alloc (by simp;omega) _),((hblk.set_ k _).alloc _),Lib.hid ⟨by simp[hr.out.1],fun j t hj ht=>?_⟩⟩
     rcases Nat.lt_or_ge j k with h1 | h1
     ·have:=hr.out.2 j t h1 ht
      simp[show k≠j by omega,this]
     ·obtain rfl:j=k:=by omega
      obtain rfl:t=T:=by rw[←HT.out];rw[List.getElem?_eq_getElem hlt] at ht;exact(Option.some.inj ht).symm
      have hsz:j<arr.size:=by rw[hr.out.1];exact hlt
      rw[Hsp.out]
      simp[hsz]
    case measure=>simp[intOf];omega
  ·have hkl:k=l.length:=by omega
   have Hk:=Lib.hid hkl
   clear hkl
   go_wp2_with fail
   have hj:=Tryz.strings_Join w.heap.size 0 l.length (l.map fun t=>(⟨(Lfc.spT t).toArray⟩:ByteArray)) ⟨#[32]⟩ wr (fun j x hx=>by
    rw[List.getElem?_map] at hx
    cases ht:l[j]? with
    |none=>rw[ht] at hx;cases hx
    |some t =>
     rw[ht] at hx
     cases hx
     rw[Nat.zero_add,hblk.cell j]
     exact hr.out.2 j t (by rw[Hk.out];exact(List.getElem?_eq_some_iff.1 ht).1) ht) hblk.lt (by simp;omega) (by simp) (by
    rw[List.map_map];exact Nat.le_trans (Nat.le_of_eq (congrArg List.length (spell_join l))) (by omega))
   rw[List.length_map] at hj
   refine hj.mono ?_
   rintro e w1⟨rfl,hb1⟩
   go_wp2_with fail
   go_ret
   refine⟨?_,hbw.trans (hb1.mono hbw.size)⟩
   rw[←spell_join]
   rfl
end Go.Proofs.YthajalgkjonaaaaGreatDoor
