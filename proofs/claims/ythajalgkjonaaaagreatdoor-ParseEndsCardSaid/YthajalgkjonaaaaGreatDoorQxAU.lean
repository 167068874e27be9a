/- Parts of the proof that no input makes the law false: VMap,PaDir,PaItem,PaLst,PaExt. -/
import Derived.Maps.OwnSet
import Derived.Maps.Views
import Derived.Laws.AppendOwn
import Derived.Test.YthajalgkjonaaaaGreatDoorQxAG
import Derived.Test.YthajalgkjonaaaaGreatDoorQxAO
import Derived.Test.YthajalgkjonaaaaGreatDoorQxAR
import Derived.Test.YthajalgkjonaaaaGreatDoorQxAT
set_option linter.unusedVariables false
set_option linter.unusedSimpArgs false
namespace Go.Proofs.YthajalgkjonaaaaGreatDoor
open Go.RowKit Go.Maps Go.WideMaps
def heldR(v:Value):Option (DataW Value × List MemPlace):=some (.held v,[])
def VMap(z:Value)(w:World)(Mb N:Nat)(g:List UInt8→Option Value):Prop:=∃D:DataW Value,w.ownsMap Tryz.prog 9 heldR Mb N D∧∀n:List UInt8,D.atKey (.string n) (.held z)=.held ((g n).getD z)∧Maps.has D (.string n)=(g n).isSome
theorem vkey_name(n:List UInt8)(hn:n.length≤1000000):keyOf Tryz.prog 9 (S n)=some (.string n):=by
 simpa using keyOf_string_mk (P:=Tryz.prog) Tryz.underlying9 (s:=⟨n.toArray⟩) (by simp[ByteArray.size];unfold maxLen;omega)
theorem VMap.look{z:Value}{w:World}{Mb N:Nat}{g:List UInt8→Option Value}(h:VMap z w Mb N g)(T e:TypeId)(hT:Tryz.prog.underlying T=some (.map 9 e))(hz:∀w,(zeroValue e).run Tryz.prog w=.ok z w)(n:List UInt8)(hn:n.length≤1000000) :
  (Instr.lookup T (.map (some Mb)) (S n) true).run Tryz.prog w=.ok (.tuple #[(g n).getD z,.bool (g n).isSome]) w:=by
 obtain⟨D,hown,hD⟩:=h
 obtain⟨v,ps,hrun,hv⟩:=hown.look_ok (string_keyed Tryz.underlying9) hT (hz w) (show heldR z=some (.held z,[]) from rfl) (vkey_name n hn)
 rw[(hD n).1,heldR] at hv
 simp only[Option.some.injEq,Prod.mk.injEq,DataW.held.injEq] at hv
 rw[(hD n).2,hv.1] at hrun
 exact hrun
theorem VMap.look1{z:Value}{w:World}{Mb N:Nat}{g:List UInt8→Option Value}(h:VMap z w Mb N g)(T e:TypeId)(hT:Tryz.prog.underlying T=some (.map 9 e))(hz:∀w,(zeroValue e).run Tryz.prog w=.ok z w)(n:List UInt8)(hn:n.length≤1000000) :
  (Instr.lookup T (.map (some Mb)) (S n) false).run Tryz.prog w=.ok ((g n).getD z) w:=by
 obtain⟨D,hown,hD⟩:=h
 obtain⟨v,ps,hrun,hv⟩:=hown.lookup (string_keyed Tryz.underlying9) hT (hz w) (show heldR z=some (.held z,[]) from rfl) (vkey_name n hn)
 rw[(hD n).1,heldR] at hv
 simp only[Option.some.injEq,Prod.mk.injEq,DataW.held.injEq] at hv
 rw[hv.1] at hrun
 exact hrun
theorem VMap.made(z:Value)(w:World):VMap z (w.alloc (.map #[] 0)) w.heap.size 0 (fun _=>none) :=
 ⟨.map [],World.ownsMap_made _ _ _ _,fun n=>⟨rfl,rfl⟩⟩
theorem VMap.kept{z:Value}{w w':World}{Mb N:Nat}{g:List UInt8→Option Value}{row:Option Nat}(h:VMap z w Mb N g)(hg:w.grownBy w' row)(hne:some Mb≠row):VMap z w' Mb N g:=by
 obtain⟨D,hown,hD⟩:=h
 exact⟨D,hown.kept hg hne,hD⟩
theorem VMap.below{z:Value}{w w':World}{Mb N:Nat}{g:List UInt8→Option Value}(h:VMap z w Mb N g)(hb:Below w.heap.size w w'):VMap z w' Mb N g :=
 h.kept (row:=none) ⟨hb.os,hb.tape,hb.output,hb.size,fun k hk _=>hb.block k hk⟩ (fun e=>by cases e)
theorem VMap.lt{z:Value}{w:World}{Mb N:Nat}{g:List UInt8→Option Value}(h:VMap z w Mb N g):Mb<w.heap.size:=by
 obtain⟨D,hown,_⟩:=h
 exact hown.lt
theorem VMap.put{z:Value}{w:World}{Mb N:Nat}{g:List UInt8→Option Value}(h:VMap z w Mb N g)(T e:TypeId)(hT:Tryz.prog.underlying T=some (.map 9 e))(hN:N≤1000000000)(n:List UInt8)(hn:n.length≤1000000)(v:Value) :
  ∃w',(Instr.mapUpdate T (.map (some Mb)) (S n) v).run Tryz.prog w=.ok () w'∧VMap z w' Mb (N+1) (fun x=>if x=n then some v else g x)∧Oth Mb w w':=by
 obtain⟨D,hown,hD⟩:=h
 obtain⟨w',hrun,hown',hturn⟩:=hown.store (string_keyed Tryz.underlying9) hT (by unfold maxLen;omega) (vkey_name n hn) (show heldR v=some (.held v,[]) from rfl)
 refine⟨w',hrun,⟨_,hown',fun x=>?_⟩,hturn.grown⟩
 by_cases e:x=n
 ·subst e
  rw[atKey_put_same hown.isMap (by simp[WideAt.IsKeyLit]),has_put_same hown.isMap (by simp[WideAt.IsKeyLit])]
  simp
 ·rw[atKey_put_other (by simpa using e),has_put_other (by simpa using e)]
  simp only[if_neg e]
  exact hD x
theorem VMap.congr{z:Value}{w:World}{Mb N:Nat}{g g':List UInt8→Option Value}(h:VMap z w Mb N g)(e:∀n,g n=g' n):VMap z w Mb N g':=by
 obtain rfl:g=g':=funext e
 exact h
end Go.Proofs.YthajalgkjonaaaaGreatDoor
namespace Go.Proofs.YthajalgkjonaaaaGreatDoor
open Go.RowKit Go.Maps Go.WideMaps
def dirFn:Int→FuncId
 |0=>125
 |1=>126
 |2=>127
 |3=>128
 |4=>129
 |5=>130
 |6=>131
 |7=>132
 |8=>133
 |9=>134
 |10=>135
 |11=>136
 |_=>137
def dirV(i:Int):Value:=.func (.func (dirFn i)) #[] #[]
def dirG(n:List UInt8):Option Value:=if Lfc.idxW n Lfc.dirs<0 then none else some (dirV (Lfc.idxW n Lfc.dirs))
theorem fz_run(w:World):(zeroValue 138).run Tryz.prog w=.ok .nilFunc w:=by kernel_rfl
theorem idxW_no(s:List UInt8):∀ws:List (List UInt8),(∀x∈ws,x≠s)→Lfc.idxW s ws=-1
 |[],_=>rfl
 |a :: r,h=>by
  rw[Lfc.idxW,if_neg (h a (by simp)),idxW_no s r (fun x hx=>h x (by simp[hx]))]
  rfl
theorem dirG_eq(n:List UInt8):(
  if n=[113,117,101,114,121] then some (dirV 12) else if n=[114,101,100,117,99,101,115] then some (dirV 11) else if n=[116,111,116,97,108] then some (dirV 10) else if n=[116,101,114,109,105,110,97,116,101,115] then some (dirV 9) else if n=[115,116,114,105,99,116] then some (dirV 8) else if n=[117,110,105,113,117,101] then some (dirV 7) else if n=[99,111,118,101,114,115] then some (dirV 6) else if n=[109,111,100,101] then some (dirV 5) else if n=[119,111,114,108,100,115] then some (dirV 4) else if n=[98,108,111,99,107] then some (dirV 3) else if n=[112,111,115,116,102,105,120] then some (dirV 2) else if n=[112,114,101,102,105,120] then some (dirV 1) else if n=[105,110,102,105,120] then some (dirV 0) else none)=dirG n:=by
 by_cases h0:n=[105,110,102,105,120]
 ·subst h0;rfl
 by_cases h1:n=[112,114,101,102,105,120]
 ·subst h1;rfl
 by_cases h2:n=[112,111,115,116,102,105,120]
 ·subst h2;rfl
 by_cases h3:n=[98,108,111,99,107]
 ·subst h3;rfl
 by_cases h4:n=[119,111,114,108,100,115]
 ·subst h4;rfl
 by_cases h5:n=[109,111,100,101]
 ·subst h5;rfl
 by_cases h6:n=[99,111,118,101,114,115]
 ·subst h6;rfl
 by_cases h7:n=[117,110,105,113,117,101]
 ·subst h7;rfl
 by_cases h8:n=[115,116,114,105,99,116]
 ·subst h8;rfl
 by_cases h9:n=[116,101,114,109,105,110,97,116,101,115]
 ·subst h9;rfl
 by_cases h10:n=[116,111,116,97,108]
 ·subst h10;rfl
 by_cases h11:n=[114,101,100,117,99,101,115]
 ·subst h11;rfl
 by_cases h12:n=[113,117,101,114,121]
 ·subst h12;rfl
 rw[if_neg h12,if_neg h11,if_neg h10,if_neg h9,if_neg h8,if_neg h7,if_neg h6,if_neg h5,if_neg h4,if_neg h3,if_neg h2,if_neg h1,if_neg h0]
 have hz:Lfc.idxW n Lfc.dirs=-1:=by
  refine idxW_no n _ fun x hx=>?_
  unfold Lfc.dirs at hx
  simp only[List.mem_cons,List.not_mem_nil,or_false] at hx
  rcases hx with rfl | rfl | rfl | rfl | rfl | rfl | rfl | rfl | rfl | rfl | rfl | rfl | rfl
  ·exact fun e=>h0 e.symm
  ·exact fun e=>h1 e.symm
  ·exact fun e=>h2 e.symm
  ·exact fun e=>h3 e.symm
  ·exact fun e=>h4 e.symm
  ·exact fun e=>h5 e.symm
  ·exact fun e=>h6 e.symm
  ·exact fun e=>h7 e.symm
  ·exact fun e=>h8 e.symm
  ·exact fun e=>h9 e.symm
  ·exact fun e=>h10 e.symm
  ·exact fun e=>h11 e.symm
  ·exact fun e=>h12 e.symm
 unfold dirG
 rw[hz];rfl
set_option maxRecDepth 100000 in
set_option maxHeartbeats 4000000 in
theorem directives_any(w:World):Calls Tryz.prog 71 #[] w fun e w'=>∃M N,e=.returned (.map (some M))∧VMap .nilFunc w' M N dirG∧Below w.heap.size w w':=by
 have hT:Tryz.prog.underlying 139=some (.map 9 138):=Tryz.underlying139
 obtain⟨wa,hwa⟩:∃wa,w.alloc (.map #[] 0)=wa:=⟨_,rfl⟩
 have ba:Below w.heap.size w wa:=by rw[←hwa];exact(Below.refl _ _).alloc (Nat.le_refl _) _
 have m0:VMap .nilFunc wa w.heap.size 0 (fun _=>none):=by rw[←hwa];exact VMap.made _ _
 obtain⟨w1,r1,m1,o1⟩:=m0.put 139 138 hT (by decide) [105,110,102,105,120] (by decide) (dirV 0)
 rw[show dirV 0=.func (.func 125) #[] #[] from rfl] at r1
 obtain⟨w2,r2,m2,o2⟩:=m1.put 139 138 hT (by decide) [112,114,101,102,105,120] (by decide) (dirV 1)
 rw[show dirV 1=.func (.func 126) #[] #[] from rfl] at r2
 obtain⟨w3,r3,m3,o3⟩:=m2.put 139 138 hT (by decide) [112,111,115,116,102,105,120] (by decide) (dirV 2)
 rw[show dirV 2=.func (.func 127) #[] #[] from rfl] at r3
 obtain⟨w4,r4,m4,o4⟩:=m3.put 139 138 hT (by decide) [98,108,111,99,107] (by decide) (dirV 3)
 rw[show dirV 3=.func (.func 128) #[] #[] from rfl] at r4
 obtain⟨w5,r5,m5,o5⟩:=m4.put 139 138 hT (by decide) [119,111,114,108,100,115] (by decide) (dirV 4)
 rw[show dirV 4=.func (.func 129) #[] #[] from rfl] at r5
 obtain⟨w6,r6,m6,o6⟩:=m5.put 139 138 hT (by decide) [109,111,100,101] (by decide) (dirV 5)
 rw[show dirV 5=.func (.func 130) #[] #[] from rfl] at r6
 obtain⟨w7,r7,m7,o7⟩:=m6.put 139 138 hT (by decide) [99,111,118,101,114,115] (by decide) (dirV 6)
 rw[show dirV 6=.func (.func 131) #[] #[] from rfl] at r7
 obtain⟨w8,r8,m8,o8⟩:=m7.put 139 138 hT (by decide) [117,110,105,113,117,101] (by decide) (dirV 7)
 rw[show dirV 7=.func (.func 132) #[] #[] from rfl] at r8
 obtain⟨w9,r9,m9,o9⟩:=m8.put 139 138 hT (by decide) [115,116,114,105,99,116] (by decide) (dirV 8)
 rw[show dirV 8=.func (.func 133) #[] #[] from rfl] at r9
 obtain⟨w10,r10,m10,o10⟩:=m9.put 139 138 hT (by decide) [116,101,114,109,105,110,97,116,101,115] (by decide) (dirV 9)
 rw[show dirV 9=.func (.func 134) #[] #[] from rfl] at r10
 obtain⟨w11,r11,m11,o11⟩:=m10.put 139 138 hT (by decide) [116,111,116,97,108] (by decide) (dirV 10)
 rw[show dirV 10=.func (.func 135) #[] #[] from rfl] at r11
 obtain⟨w12,r12,m12,o12⟩:=m11.put 139 138 hT (by decide) [114,101,100,117,99,101,115] (by decide) (dirV 11)
 rw[show dirV 11=.func (.func 136) #[] #[] from rfl] at r12
 obtain⟨w13,r13,m13,o13⟩:=m12.put 139 138 hT (by decide) [113,117,101,114,121] (by decide) (dirV 12)
 rw[show dirV 12=.func (.func 137) #[] #[] from rfl] at r13
 have OB:Hid (Below w.heap.size w w13):=Lib.hid (Oth.below (Oth.below (Oth.below (Oth.below (Oth.below (Oth.below (Oth.below (Oth.below (Oth.below (Oth.below (Oth.below (Oth.below (Oth.below (ba) o1 (Nat.le_refl _) (by have:=ba.size; omega)) o2 (Nat.le_refl _) (by have:=ba.size;have:=o1.size;omega)) o3 (Nat.le_refl _) (by have:=ba.size;have:=o1.size;have:=o2.size;omega)) o4 (Nat.le_refl _) (by have:=ba.size;have:=o1.size;have:=o2.size;have:=o3.size;omega)) o5 (Nat.le_refl _) (by have:=ba.size;have:=o1.size;have:=o2.size;have:=o3.size;have:=o4.size;omega)) o6 (Nat.le_refl _) (by have:=ba.size;have:=o1.size;have:=o2.size;have:=o3.size;have:=o4.size;have:=o5.size;omega)) o7 (Nat.le_refl _) (by have:=ba.size;have:=o1.size;have:=o2.size;have:=o3.size;have:=o4.size;have:=o5.size;have:=o6.size;omega)) o8 (Nat.le_refl _) (by have:=ba.size;have:=o1.size;have:=o2.size;have:=o3.size;have:=o4.size;have:=o5.size;have:=o6.size;have:=o7.size;omega)) o9 (Nat.le_refl _) (by have:=ba.size;have:=o1.size;have:=o2.size;have:=o3.size;have:=o4.size;have:=o5.size;have:=o6.size;have:=o7.size;have:=o8.size;omega)) o10 (Nat.le_refl _) (by have:=ba.size;have:=o1.size;have:=o2.size;have:=o3.size;have:=o4.size;have:=o5.size;have:=o6.size;have:=o7.size;have:=o8.size;have:=o9.size;omega)) o11 (Nat.le_refl _) (by have:=ba.size;have:=o1.size;have:=o2.size;have:=o3.size;have:=o4.size;have:=o5.size;have:=o6.size;have:=o7.size;have:=o8.size;have:=o9.size;have:=o10.size;omega)) o12 (Nat.le_refl _) (by have:=ba.size;have:=o1.size;have:=o2.size;have:=o3.size;have:=o4.size;have:=o5.size;have:=o6.size;have:=o7.size;have:=o8.size;have:=o9.size;have:=o10.size;have:=o11.size;omega)) o13 (Nat.le_refl _) (by have:=ba.size;have:=o1.size;have:=o2.size;have:=o3.size;have:=o4.size;have:=o5.size;have:=o6.size;have:=o7.size;have:=o8.size;have:=o9.size;have:=o10.size;have:=o11.size;have:=o12.size;omega))
 have MM:Hid (VMap .nilFunc w13 w.heap.size 13 dirG):=Lib.hid (m13.congr dirG_eq)
 clear m0 m1 m2 m3 m4 m5 m6 m7 m8 m9 m10 m11 m12 m13 o1 o2 o3 o4 o5 o6 o7 o8 o9 o10 o11 o12 o13 ba hT
 have hmk:∀W:World,(Instr.makeMap 139 none).run Tryz.prog W=.ok (.map (some W.heap.size)) (W.alloc (.map #[] 0)):=fun W=>rfl
 go_enter Tryz.func71,Tryz.ntmps71
 go_wp2_with fail
 go_ret
 exact⟨_,_,rfl,MM.out,OB.out⟩
end Go.Proofs.YthajalgkjonaaaaGreatDoor
namespace Go.Proofs.YthajalgkjonaaaaGreatDoor
open Go.RowKit
theorem Oth.row(w:World)(g:Nat)(cs:Array Value):Oth g w (w.setRow g cs):=⟨rfl,rfl,rfl,by simp,fun k _ hk=>setRow_other w g k cs (fun e=>hk (by rw[e]))⟩
theorem Below.row{B g:Nat}{w w':World}(h:Below B w w')(hg:B≤g)(hB:B≤w'.heap.size)(cs:Array Value):Below B w (w'.setRow g cs):=Oth.below h (Oth.row _ _ _) hg hB
def DirOK(p:Lfc.PE)(i:Int):Prop:=∀(P I k:Nat)(G:Hd)(a:Nat)(w:World),ItF w w P I G p k (itCells (Lfc.Itm.new a) IS.nil)→k≤p.toks.length →
 Calls Tryz.prog (dirFn i) #[.pointer (some ⟨P,0,none⟩),.pointer (some ⟨I,0,none⟩)] w (ItRes P I G p w (p.dirP i (Lfc.Itm.new a) k))
def ItmRes(P:Nat)(G:Hd)(p:Lfc.PE)(w:World):Lfc.ItR→Ending→World→Prop
 |.out,_,_=>True
 |.err c a,e,w'=>e=Flt c a∧Oth P w w'
 |.ok x k,e,w'=>(∃s,e=.returned (.agg (itCells x.1 s))∧Stays (fun b=>w.heap.size≤b) w' fun W=>ItV W x.1 s)∧(∃G',PW w' P G' ⟨p.toks,p.fin,x.2⟩ k∧∀J,J<w.heap.size→G.off p J→G'.off ⟨p.toks,p.fin,x.2⟩ J)∧Oth P w w'
theorem Oth2.drop{P I:Nat}{w0 w w':World}(h:Oth2 P I w w')(h0:Oth P w0 w)(hI:w0.heap.size≤I):Oth P w0 w' :=
 ⟨h.os.trans h0.os,h.tape.trans h0.tape,h.output.trans h0.output,Nat.le_trans h0.size h.size,fun k hk hn=>(h.block k (Nat.lt_of_lt_of_le hk h0.size) (fun e=>hn (by rw[e])) (by omega)).trans (h0.block k hk hn)⟩
theorem item_size:(Tryz.prog.info? 42).map (·.size)=some 22:=by kernel_rfl
theorem enters_dir(i:Int):∀args w,(callFunc (dirFn i) args).run Tryz.prog w=.ok (.enter (dirFn i) args) w:=by
 unfold dirFn
 split
 ·exact enters_of Tryz.func125 (by kernel_rfl) rfl
 ·exact enters_of Tryz.func126 (by kernel_rfl) rfl
 ·exact enters_of Tryz.func127 (by kernel_rfl) rfl
 ·exact enters_of Tryz.func128 (by kernel_rfl) rfl
 ·exact enters_of Tryz.func129 (by kernel_rfl) rfl
 ·exact enters_of Tryz.func130 (by kernel_rfl) rfl
 ·exact enters_of Tryz.func131 (by kernel_rfl) rfl
 ·exact enters_of Tryz.func132 (by kernel_rfl) rfl
 ·exact enters_of Tryz.func133 (by kernel_rfl) rfl
 ·exact enters_of Tryz.func134 (by kernel_rfl) rfl
 ·exact enters_of Tryz.func135 (by kernel_rfl) rfl
 ·exact enters_of Tryz.func136 (by kernel_rfl) rfl
 ·exact enters_of Tryz.func137 (by kernel_rfl) rfl
theorem item_fin{w wi w2:World}{P I R k k':Nat}{G G':Hd}{p:Lfc.PE}{x:Lfc.Itm × List Lfc.Op}{s:IS}{lo:Nat}(hw:PW w P G p k)(bwi:Below w.heap.size w wi)(hI:w.heap.size≤I)(hR:w.heap.size≤R)(hRi:R<wi.heap.size)(o:Oth2 P I wi w2)(hlo:wi.heap.size≤lo)(g1:PW w2 P G' ⟨p.toks,p.fin,x.2⟩ k')(g2:∀J,J<lo→G.off p J→G'.off ⟨p.toks,p.fin,x.2⟩ J)(hv:Stays (fun b=>lo≤b) w2 fun W=>ItV W x.1 s)(cs:Array Value) :
  ItmRes P G p w (.ok x k') (.returned (.agg (itCells x.1 s))) (w2.setRow R cs):=by
 have hP:=hw.lt
 have oR:=Oth.row w2 R cs
 have o1:Oth P w w2:=o.drop (Oth.of_below bwi) hI
 refine⟨⟨s,rfl,hv.to oR.size (fun b hb hlt=>oR.block b hlt (fun e=>by have:=Option.some.inj e;omega)) fun b _ hb=>by have:=bwi.size;omega⟩,⟨G',?_,fun J hJ hG=>g2 J (by have:=bwi.size;omega) hG⟩,?_⟩
 ·exact g1.oth (g2 R (by omega) (hw.off_new hR)) (by omega) oR
 ·exact⟨oR.os.trans o1.os,oR.tape.trans o1.tape,oR.output.trans o1.output,Nat.le_trans o1.size oR.size,fun j hj hn=>(oR.block j (by have:=o1.size;omega) (fun e=>by have:=Option.some.inj e;omega)).trans (o1.block j hj hn)⟩
theorem itCells_one(x:Lfc.Itm)(s:IS):(itCells x s).all (·.oneCell')=true:=by simp[itCells,Value.oneCell']
theorem itZ(a:Nat):itCells (Lfc.Itm.new a) IS.nil=#[.int .i64 0,.int .i64 (a:Int),S [],.slice none 0 0,.slice none 0 0,S [],.int .i64 0,.int .i64 0,.slice none 0 0,.slice none 0 0,.slice none 0 0,.slice none 0 0,.slice none 0 0,.slice none 0 0,.int .i64 0,.int .i64 0,.slice none 0 0,.int .i64 0,.int .i64 0,.slice none 0 0,.int .i64 0,.int .i64 0]:=rfl
set_option maxRecDepth 100000 in
set_option maxHeartbeats 4000000 in
theorem item_any{P:Nat}{G:Hd}{p:Lfc.PE}(n k:Nat)(w:World)(h:PW w P G p k)(hk:k<p.toks.length)(ok:POk p)(hn:n≤512)(hd:(p.pk k).kind=3→0≤Lfc.idxW (p.pk k).text Lfc.dirs→DirOK p (Lfc.idxW (p.pk k).text Lfc.dirs)) :
  Calls Tryz.prog 40 #[.pointer (some ⟨P,0,none⟩),.int .i64 (n:Int)] w (ItmRes P G p w (p.itemP n k)):=by
 have hlen:=ok.len
 have hP:=h.lt
 have OK:=Lib.hid ok
 have HW:=Lib.hid h
 have htl:(p.pk k).text.length≤1000000:=by have:=(ok.tok _ (List.mem_of_getElem? (PE.pk_of hk))).1;omega
 obtain⟨M,hm⟩:∃M,p.itemP n k=M:=⟨_,rfl⟩
 rw[hm]
 have HR:=Lib.hid hm.symm
 unfold Lfc.PE.itemP at HR
 obtain⟨wa,hwa⟩:∃wa,w.alloc (.cells #[.int .i64 0,.int .i64 0,S [],.slice none 0 0,.slice none 0 0,S [],.int .i64 0,.int .i64 0,.slice none 0 0,.slice none 0 0,.slice none 0 0,.slice none 0 0,.slice none 0 0,.slice none 0 0,.int .i64 0,.int .i64 0,.slice none 0 0,.int .i64 0,.int .i64 0,.slice none 0 0,.int .i64 0,.int .i64 0] 42)=wa:=⟨_,rfl⟩
 have ba:Below w.heap.size w wa:=by rw[←hwa];exact(Below.refl _ _).alloc (Nat.le_refl _) _
 have qa:wa.heap[w.heap.size]?=some (.cells #[.int .i64 0,.int .i64 0,S [],.slice none 0 0,.slice none 0 0,S [],.int .i64 0,.int .i64 0,.slice none 0 0,.slice none 0 0,.slice none 0 0,.slice none 0 0,.slice none 0 0,.slice none 0 0,.int .i64 0,.int .i64 0,.slice none 0 0,.int .i64 0,.int .i64 0,.slice none 0 0,.int .i64 0,.int .i64 0] 42 (0,0)):=by rw[←hwa];exact heap_alloc_new _ _
 have CP:=Lib.hid (peek_any wa (h.below ba) (Nat.le_of_lt hk) ok)
 have CI:=Lib.hid (fun W (hb:Below wa.heap.size wa W)=>isName_at W ((h.below ba).below hb) (Nat.le_of_lt hk) ok)
 have CU:=Lib.hid (fun W (hb:Below wa.heap.size wa W)=>unexpected_any W ((h.below ba).below hb) (Nat.le_of_lt hk) ok)
 have HD:=Lib.hid hd
 have HT:=Lib.hid htl
 have FI:=Lib.hid (Lfc.fair_item p n k)
 obtain⟨tk,tx,at_,hpk⟩:∃tk tx at_,p.pk k=⟨tk,tx,at_⟩:=⟨_,_,_,rfl⟩
 rw[hpk] at CP HD HT HR
 simp only at CP HD HT HR
 have BA:=Lib.hid ba
 have QA:=Lib.hid qa
 have hsa:=eq2 (show wa.heap.size=w.heap.size+1 by rw[←hwa];simp)
 clear h ok hm htl ba qa hpk hd
 go_enter Tryz.func40,Tryz.ntmps40
 go_upto_region 1 with fail
 clear hwa
 go_upto_region 2 with(go_at_call 63;refine CP.out.mono ?_;rintro e w1⟨rfl,b1⟩;obtain⟨wt,hwt⟩:∃wt,w1.alloc (.cells #[.int .i64 tk,S tx,.int .i64 (at_:Int)] 65)=wt:=⟨_,rfl⟩)
 have bt:Below w1.heap.size w1 wt:=by rw[←hwt];exact(Below.refl _ _).alloc (Nat.le_refl _) _
 have qt:wt.heap[w1.heap.size]?=some (.cells #[.int .i64 tk,S tx,.int .i64 (at_:Int)] 65 (0,0)):=by rw[←hwt];exact heap_alloc_new _ _
 have hst:=eq2 (show wt.heap.size=w1.heap.size+1 by rw[←hwt];simp)
 have hs1:=b1.size
 have BT:Hid (Below wa.heap.size wa wt):=Lib.hid (b1.trans (bt.mono b1.size))
 have QT:=Lib.hid qt
 have BWT:Hid (Below w.heap.size w wt):=Lib.hid (BA.out.trans (BT.out.mono BA.out.size))
 clear hwt bt b1
 obtain⟨x0,x1,x2⟩:=cells3 qt
 clear qt
 by_cases h5:n=512
 ·subst h5
  have hm:=HR.out
  rw[if_pos rfl] at hm
  have HM:=Lib.hid hm
  clear hm
  go_wp2_with (go_at_call 66;refine(pfail_any _ _ _).mono ?_;rintro e w9⟨rfl,rfl⟩)
  rw[HM.out]
  exact⟨rfl,rfl,Oth.of_below BWT.out⟩
 have h5i:((n:Int) == 512)=false:=by simp;omega
 have hm:=HR.out
 rw[if_neg h5] at hm
 have HR:=Lib.hid hm
 clear hm h5
 go_upto_region 4 with fail
 obtain⟨wz,hwz⟩:∃wz,wt.alloc (.cells #[.int .i64 0,.int .i64 0,S [],.slice none 0 0,.slice none 0 0,S [],.int .i64 0,.int .i64 0,.slice none 0 0,.slice none 0 0,.slice none 0 0,.slice none 0 0,.slice none 0 0,.slice none 0 0,.int .i64 0,.int .i64 0,.slice none 0 0,.int .i64 0,.int .i64 0,.slice none 0 0,.int .i64 0,.int .i64 0] 42)=wz:=⟨_,rfl⟩
 have bz:Below wt.heap.size wt wz:=by rw[←hwz];exact(Below.refl _ _).alloc (Nat.le_refl _) _
 have qz:wz.heap[wt.heap.size]?=some (.cells #[.int .i64 0,.int .i64 0,S [],.slice none 0 0,.slice none 0 0,S [],.int .i64 0,.int .i64 0,.slice none 0 0,.slice none 0 0,.slice none 0 0,.slice none 0 0,.slice none 0 0,.slice none 0 0,.int .i64 0,.int .i64 0,.slice none 0 0,.int .i64 0,.int .i64 0,.slice none 0 0,.int .i64 0,.int .i64 0] 42 (0,0)):=by rw[←hwz];exact heap_alloc_new _ _
 apply wp_region_lit
 iterate 12 go_step
 refine wpList_store_row rfl 42 _ _ rfl wt.heap.size #[.int .i64 0,.int .i64 (at_:Int),S [],.slice none 0 0,.slice none 0 0,S [],.int .i64 0,.int .i64 0,.slice none 0 0,.slice none 0 0,.slice none 0 0,.slice none 0 0,.slice none 0 0,.slice none 0 0,.int .i64 0,.int .i64 0,.slice none 0 0,.int .i64 0,.int .i64 0,.slice none 0 0,.int .i64 0,.int .i64 0] rfl rfl 42 _ qz item_size rfl (itCells_one (Lfc.Itm.new at_) IS.nil) ?_
 refine wpList_nil ?_
 generalize hwi:wz.setRow wt.heap.size #[.int .i64 0,.int .i64 (at_:Int),S [],.slice none 0 0,.slice none 0 0,S [],.int .i64 0,.int .i64 0,.slice none 0 0,.slice none 0 0,.slice none 0 0,.slice none 0 0,.slice none 0 0,.slice none 0 0,.int .i64 0,.int .i64 0,.slice none 0 0,.int .i64 0,.int .i64 0,.slice none 0 0,.int .i64 0,.int .i64 0]=wi at *
 have bi:Below wt.heap.size wt wi:=by rw[←hwi];exact Below.row bz (Nat.le_refl _) bz.size _
 have qi:wi.heap[wt.heap.size]?=some (.cells (itCells (Lfc.Itm.new at_) IS.nil) 42 (0,0)):=by rw[itZ,←hwi];exact setRow_heap _ _ _ _ _ _ qz
 clear hwi qz bz hwz
 have hpw:=HW.out.below (BWT.out.trans (bi.mono BWT.out.size))
 have F0:Hid (ItF wi wi P wt.heap.size G p k (itCells (Lfc.Itm.new at_) IS.nil)):=Lib.hid ⟨hpw,qi,by omega,HW.out.off_new (by omega),Oth2.refl _ _ _,rfl⟩
 have hsi:=bi.size
 have BI:Hid (Below wa.heap.size wa wi):=Lib.hid (BT.out.trans (bi.mono (by omega)))
 have BWI:Hid (Below w.heap.size w wi):=Lib.hid (BA.out.trans (BI.out.mono BA.out.size))
 have QT:=Lib.hid ((bi.block _ (by omega)).trans QT.out)
 obtain⟨x0,x1,x2⟩:=cells3 QT.out
 have hTI:w1.heap.size<wt.heap.size:=by omega
 have hIi:wt.heap.size<wi.heap.size:=lt_of_block qi
 clear bi qi hpw
 by_cases h3:tk=3
 ·subst h3
  have hm:=HR.out
  rw[if_pos rfl] at hm
  have HR:=Lib.hid hm
  have HD3:=Lib.hid (HD.out rfl)
  clear hm
  have hT:Tryz.prog.underlying 139=some (.map 9 138):=Tryz.underlying139
  obtain⟨V,hV⟩:∃V,(dirG tx).getD .nilFunc=V:=⟨_,rfl⟩
  have HV:=Lib.hid hV
  clear hV
  have G0:Below wi.heap.size wi wi.drew:=(Below.refl _ _).drew
  have AA:∀X Y:World,Below wi.heap.size wi X→Below X.heap.size X Y→Below wi.heap.size wi Y:=fun X Y h k=>h.trans (k.mono h.size)
  have SC:Hid (∀W,Below wi.heap.size wi W→W.cell? ⟨w1.heap.size,1,none⟩=some (S tx)):=Lib.hid fun W hb=>(hb.cell (p:=⟨w1.heap.size,1,none⟩) (by simp only;omega)).trans x1
  have CD:Hid (∀W,Below wi.heap.size wi W→Calls Tryz.prog 71 #[] W fun e w'=>∃M N,e=.returned (.map (some M))∧VMap .nilFunc w' M N dirG∧Below W.heap.size W w'):=Lib.hid fun W _=>directives_any W
  go_upto_region 8 with fail
  have x1':=SC.out _ G0
  go_region_held3 (fun W=>W.cell? ⟨w1.heap.size,1,none⟩=some (S tx))
   (first | exact SC.out _ G0 | (refine SC.out _ ?_;assumption))
   (first
    |(go_at_call 71;((with_reducible refine(CD.out _ ?_).mono ?_));assumption;rintro e w5⟨M',N',rfl,hvm,b'⟩;have b5:=AA _ _ (by assumption) b';have hlk:=hvm.look1 139 138 hT fz_run tx HT.out;rw[HV.out] at hlk;have y0:=(b5.cell (p:=⟨w1.heap.size,0,none⟩) (by simp only;omega)).trans x0;have y2:=(b5.cell (p:=⟨w1.heap.size,2,none⟩) (by simp only;omega)).trans x2;clear hvm b'))
  have F5:=Lib.hid (F0.out.below b5)
  have QA5:Hid (w5.heap[w.heap.size]?=some (.cells #[.int .i64 0,.int .i64 0,S [],.slice none 0 0,.slice none 0 0,S [],.int .i64 0,.int .i64 0,.slice none 0 0,.slice none 0 0,.slice none 0 0,.slice none 0 0,.slice none 0 0,.slice none 0 0,.int .i64 0,.int .i64 0,.slice none 0 0,.int .i64 0,.int .i64 0,.slice none 0 0,.int .i64 0,.int .i64 0] 42 (0,0))):=Lib.hid ((b5.block _ (by have:=BI.out.size;omega)).trans ((BI.out.block _ (by omega)).trans QA.out))
  have B5:=Lib.hid b5
  clear x0 x1 x2 x1' hlk b5 hT
  by_cases hx:Lfc.idxW tx Lfc.dirs<0
  ·obtain rfl:V=.nilFunc:=by rw[←HV.out];unfold dirG;rw[if_pos hx];rfl
   have hm:=HR.out
   rw[if_pos hx] at hm
   have HM:=Lib.hid hm
   have hcmp:∀W,(binOp .eql 138 .nilFunc .nilFunc).run Tryz.prog W=.ok (.bool true) W:=fun _=>rfl
   clear hm hx
   go_wp2_with (go_at_call 66;refine(pfail_any _ _ _).mono ?_;rintro e w9⟨rfl,rfl⟩)
   rw[HM.out]
   exact⟨rfl,rfl,Oth.of_below (BWI.out.trans (B5.out.mono BWI.out.size))⟩
  ·have hm:=HR.out
   rw[if_neg hx] at hm
   have HR:=Lib.hid hm
   have hdf:∃fid,dirFn (Lfc.idxW tx Lfc.dirs)=fid:=⟨_,rfl⟩
   obtain⟨fid,hfid⟩:=hdf
   obtain rfl:V=.func (.func fid) #[] #[]:=by rw[←HV.out,←hfid];unfold dirG;rw[if_neg hx];rfl
   have he:∀args w,(callFunc fid args).run Tryz.prog w=.ok (.enter fid args) w:=by rw[←hfid];exact enters_dir _
   have CR0:DirOK p (Lfc.idxW tx Lfc.dirs):=HD3.out (Int.not_lt.1 hx)
   unfold DirOK at CR0
   rw[hfid] at CR0
   have CR0:=Lib.hid CR0
   have hcmp:∀W,(binOp .eql 138 (.func (.func fid) #[] #[]) .nilFunc).run Tryz.prog W=.ok (.bool false) W:=fun _=>rfl
   have FR:=Lib.hid (Lfc.fair_dir p (Lfc.idxW tx Lfc.dirs) (Lfc.Itm.new at_) (k+1) hk)
   obtain⟨_,p1,_,_,pf,_,_,_⟩:=F5.out.pw.cells
   have pf1:=pf 1
   clear hm hx hfid pf
   generalize Lfc.idxW tx Lfc.dirs=ix at *
   go_upto_region 15 with fail
   have h6:=F5.out.pw.step (k+1)
   rw[show((k+1:Nat):Int)=(k:Int)+1 by omega] at h6
   have F6:=Lib.hid (F5.out.call h6 (Oth.set _ _))
   have QA6:=Lib.hid ((Oth.set (T:=P) (j:=1) w5 (.int .i64 ((k:Int)+1))).heap QA5.out (by omega))
   generalize w5.setCell ⟨P,1,none⟩ (.int .i64 ((k:Int)+1))=w6 at *
   have CR:=CR0.out P wt.heap.size (k+1) G at_ w6 F6.out.again hk
   have HS6:=Lib.hid F6.out.oth.size
   clear h6 p1 pf1
   rcases Lfc.PR.cases FR.out.1 with⟨cc,aa,hr⟩ | ⟨x,k',hr⟩
   ·rw[hr] at CR
    have HM:=Lib.hid (HR.out.trans hr)
    have CR:=Lib.hid CR
    clear hr
    go_wp2_with fail
    refine CR.out.mono ?_
    rintro e w7⟨rfl,o7⟩
    go_wp2_with fail
    rw[HM.out]
    exact⟨rfl,rfl,(F6.out.oth.trans o7).drop (Oth.of_below BWI.out) (by omega)⟩
   ·rw[hr] at CR
    have HM:=Lib.hid (HR.out.trans hr)
    have CR:=Lib.hid CR
    clear hr
    go_wp2_with fail
    refine CR.out.mono ?_
    rintro e w7⟨rfl,⟨G',g1,g2⟩,⟨s,qs,hv⟩,o7⟩
    have QA7:Hid (w7.heap[w.heap.size]?=some (.cells #[.int .i64 0,.int .i64 0,S [],.slice none 0 0,.slice none 0 0,S [],.int .i64 0,.int .i64 0,.slice none 0 0,.slice none 0 0,.slice none 0 0,.slice none 0 0,.slice none 0 0,.slice none 0 0,.int .i64 0,.int .i64 0,.slice none 0 0,.int .i64 0,.int .i64 0,.slice none 0 0,.int .i64 0,.int .i64 0] 42 (0,0))):=Lib.hid ((o7.block _ (by have:=HS6.out;omega) (by omega) (by omega)).trans QA6.out)
    have FIN:=Lib.hid (item_fin HW.out BWI.out (by omega) (Nat.le_refl _) (by omega) (F6.out.oth.trans o7) HS6.out g1 g2 hv (itCells x.1 s))
    have QS:=Lib.hid qs
    clear g1 g2 hv qs o7
    go_upto_region 16 with fail
    apply wp_region_lit
    refine wpList_load_row rfl 42 _ rfl wt.heap.size rfl 42 _ (0,0) _ QS.out Tryz.underlying42 rfl item_size ?_
    refine wpList_store_row rfl 42 _ _ rfl w.heap.size (itCells x.1 s) rfl rfl 42 _ QA7.out item_size rfl (itCells_one _ _) ?_
    refine wpList_nil ?_
    have QF:=Lib.hid (setRow_heap w7 w.heap.size _ (itCells x.1 s) _ _ QA7.out)
    generalize w7.setRow w.heap.size (itCells x.1 s)=w8 at *
    go_wp2_with fail
    rw[HM.out]
    exact bodyPost_ret (results_cell_row rfl _ _ _ _ _ _ _ rfl QF.out Tryz.underlying42 rfl item_size) rfl FIN.out
 ·have hm:=HR.out
  rw[if_neg h3] at hm
  have HR:=Lib.hid hm
  have h3b:(tk == 3)=false:=by simpa using h3
  clear hm h3
  go_upto_region 11 with fail
  cases hnm:p.isNm k
  ·have CI:=Lib.hid (CI.out wi BI.out)
   have hm:=HR.out
   rw[hnm] at CI hm
   rw[if_neg (by decide)] at hm
   have HM:=Lib.hid (hm.trans (unexp_eq p k))
   clear hm hnm
   go_wp2_with (first | (go_at_call 72;refine CI.out.mono ?_;rintro e w5⟨rfl,b5⟩) | (go_at_call 36;refine(CU.out w5 (BI.out.trans (b5.mono BI.out.size))).mono ?_;rintro e w6⟨rfl,b6⟩))
   rw[HM.out]
   exact⟨rfl,rfl,Oth.of_below ((BWI.out.trans (b5.mono BWI.out.size)).trans (b6.mono (by have:=BWI.out.size;have:=b5.size;omega)))⟩
  ·have CI:=Lib.hid (CI.out wi BI.out)
   have hm:=HR.out
   rw[hnm] at CI hm
   rw[if_pos rfl] at hm
   have HR:=Lib.hid hm
   clear hnm hm
   go_upto_region 13 with(go_at_call 72;refine CI.out.mono ?_;rintro e w5⟨rfl,b5⟩)
   have F6:=Lib.hid (F0.out.below b5)
   have QA6:Hid (w5.heap[w.heap.size]?=some (.cells #[.int .i64 0,.int .i64 0,S [],.slice none 0 0,.slice none 0 0,S [],.int .i64 0,.int .i64 0,.slice none 0 0,.slice none 0 0,.slice none 0 0,.slice none 0 0,.slice none 0 0,.slice none 0 0,.int .i64 0,.int .i64 0,.slice none 0 0,.int .i64 0,.int .i64 0,.slice none 0 0,.int .i64 0,.int .i64 0] 42 (0,0))):=Lib.hid ((b5.block _ (by have:=BI.out.size;omega)).trans ((BI.out.block _ (by omega)).trans QA.out))
   have y0:=(b5.cell (p:=⟨w1.heap.size,0,none⟩) (by simp only;omega)).trans x0
   have HS6:=Lib.hid F6.out.oth.size
   clear x0 x1 x2 b5
   generalize w5=w6 at *
   have CR:=decl_any at_ w6 F6.out.again (Nat.le_of_lt hk) OK.out
   have FR:=Lib.hid (Lfc.fair_decl p (Lfc.Itm.new at_) k)
   go_upto_region 15 with fail
   rcases Lfc.PR.cases FR.out.1 with⟨cc,aa,hr⟩ | ⟨x,k',hr⟩
   ·rw[hr] at CR
    have HM:=Lib.hid (HR.out.trans hr)
    have CR:=Lib.hid CR
    clear hr
    go_wp2_with (go_at_call 73;refine CR.out.mono ?_;rintro e w7⟨rfl,o7⟩)
    rw[HM.out]
    exact⟨rfl,rfl,(F6.out.oth.trans o7).drop (Oth.of_below BWI.out) (by omega)⟩
   ·rw[hr] at CR
    have HM:=Lib.hid (HR.out.trans hr)
    have CR:=Lib.hid CR
    clear hr
    go_upto_region 16 with(go_at_call 73;refine CR.out.mono ?_;rintro e w7⟨rfl,⟨G',g1,g2⟩,⟨s,qs,hv⟩,o7⟩;have QA7:Hid (w7.heap[w.heap.size]?=some (.cells #[.int .i64 0,.int .i64 0,S [],.slice none 0 0,.slice none 0 0,S [],.int .i64 0,.int .i64 0,.slice none 0 0,.slice none 0 0,.slice none 0 0,.slice none 0 0,.slice none 0 0,.slice none 0 0,.int .i64 0,.int .i64 0,.slice none 0 0,.int .i64 0,.int .i64 0,.slice none 0 0,.int .i64 0,.int .i64 0] 42 (0,0))):=Lib.hid ((o7.block _ (by have:=HS6.out;omega) (by omega) (by omega)).trans QA6.out);have FIN:=Lib.hid (item_fin HW.out BWI.out (by omega) (Nat.le_refl _) (by omega) (F6.out.oth.trans o7) HS6.out g1 g2 hv (itCells x.1 s));have QS:=Lib.hid qs;clear g1 g2 hv qs o7)
    apply wp_region_lit
    refine wpList_load_row rfl 42 _ rfl wt.heap.size rfl 42 _ (0,0) _ QS.out Tryz.underlying42 rfl item_size ?_
    refine wpList_store_row rfl 42 _ _ rfl w.heap.size (itCells x.1 s) rfl rfl 42 _ QA7.out item_size rfl (itCells_one _ _) ?_
    refine wpList_nil ?_
    have QF:=Lib.hid (setRow_heap w7 w.heap.size _ (itCells x.1 s) _ _ QA7.out)
    generalize w7.setRow w.heap.size (itCells x.1 s)=w8 at *
    go_wp2_with fail
    rw[HM.out]
    exact bodyPost_ret (results_cell_row rfl _ _ _ _ _ _ _ rfl QF.out Tryz.underlying42 rfl item_size) rfl FIN.out
end Go.Proofs.YthajalgkjonaaaaGreatDoor
namespace Go.Proofs.YthajalgkjonaaaaGreatDoor
open Go.RowKit
structure Pushed(B base e sz n:Nat)(row':List Value)(v v':Value)(W1 w4:World):Prop where
 os:w4.os=W1.os
 tape:w4.tape=W1.tape
 output:w4.output=W1.output
 size:W1.heap.size≤w4.heap.size
 keep:∀b,b<W1.heap.size→b≠B→some b≠v.ownBlock→w4.heap[b]?=W1.heap[b]?
 out:∀b,b<W1.heap.size→some b≠v.ownBlock→some b≠v'.ownBlock
 own:w4.ownsRow base e sz v' (n+1) row'
theorem pushed{P B base n c c' j sz:Nat}{e:TypeId}{A A':Option Addr}{W W1 w2 w3:World}{row row':List Value}{cs:Array Value}{bt:TypeId}(hB:W.heap[B]?=some (.cells cs bt (0,0)))(hown:W.ownsRow base e sz (.slice A n c) n row)(hBb:B<base)(hBP:B≠P)
  (o1:Oth P W W1) (b2:Below W1.heap.size W1 w2) (hown3:w3.ownsRow base e sz (.slice A' (n+1) c') (n+1) row') (hg:w2.grownBy w3 (Value.slice A n c).ownBlock) (hl:(Value.slice A' (n+1) c').ownBlock=(Value.slice A n c).ownBlock∨(Value.slice A' (n+1) c').ownBlock=some w2.heap.size) :
  w3.heap[B]?=some (.cells cs bt (0,0))∧(w3.setCell ⟨B,j,none⟩ (.slice A' (n+1) c')).heap[B]?=some (.cells (cs.setIfInBounds j (.slice A' (n+1) c')) bt (0,0))∧Pushed B base e sz n row' (.slice A n c) (.slice A' (n+1) c') W1 (w3.setCell ⟨B,j,none⟩ (.slice A' (n+1) c')):=by
 have hs1:=o1.size
 have hs2:=b2.size
 have hs3:=hg.size
 have hBl:=lt_of_block hB
 obtain⟨v,hv'⟩:∃v,(Value.slice A n c)=v:=⟨_,rfl⟩
 rw[hv'] at hg hl hown ⊢
 have hv:∀b,v.ownBlock=some b→base≤b∧b<W.heap.size:=fun b hb=>hown.lt b hb
 have hbel:∀j,j<W1.heap.size→some j≠v.ownBlock→w3.heap[j]?=W1.heap[j]?:=fun j hj hne=>(hg.block j (by omega) hne).trans (b2.block j hj)
 have hb3:w3.heap[B]?=some (.cells cs bt (0,0)):=(hbel B (by omega) (fun e=>by have:=(hv B e.symm).1;omega)).trans (o1.heap hB hBP)
 have o4:Oth B w3 (w3.setCell ⟨B,j,none⟩ (.slice A' (n+1) c')):=Oth.set _ _
 have hs4:=o4.size
 refine⟨hb3,by simp[World.setCell,Array.getElem?_modify,hb3],o4.os.trans (hg.os.trans b2.os),o4.tape.trans (hg.tape.trans b2.tape),o4.output.trans (hg.output.trans b2.output),by omega,fun b hb hB' hn=>(o4.block b (by omega) (fun e=>hB' (Option.some.inj e))).trans (hbel b hb hn),fun b hb hn=>?_,hown3.kept o4 (Or.inr (fun e=>by have:=(hown3.lt B e).1;omega))⟩
 rcases hl with e | e
 ·rw[e];exact hn
 ·rw[e];intro e';have:=Option.some.inj e';omega
theorem Pushed.oth2{P B base e sz n:Nat}{row':List Value}{v v':Value}{w0 W W1 w4:World}(h:Pushed B base e sz n row' v v' W1 w4)(o0:Oth2 P B w0 W)(o1:Oth P W W1)(hown:∀b,v.ownBlock=some b→base≤b)(hb:w0.heap.size≤base):Oth2 P B w0 w4:=by
 have hs0:=o0.size
 have hs1:=o1.size
 refine⟨h.os.trans (o1.os.trans o0.os),h.tape.trans (o1.tape.trans o0.tape),h.output.trans (o1.output.trans o0.output),by have:=h.size;omega,fun k hk h1 h2=>?_⟩
 rw[h.keep k (by omega) h2 (fun e=>by have:=hown k e.symm;omega),o1.block k (by omega) (fun e=>h1 (Option.some.inj e)),o0.block k hk h1 h2]
theorem Pushed.stays{P B base e sz n lo:Nat}{row':List Value}{v v':Value}{W W1 w4:World}{F:World→Prop}(h:Pushed B base e sz n row' v v' W1 w4)(hs:Stays (fun b=>lo≤b∧some b≠v.ownBlock) W F)(o1:Oth P W W1)(hP:P<lo)(hB:B<lo):Stays (fun b=>lo≤b∧some b≠v'.ownBlock) w4 F:=by
 have hs1:=o1.size
 refine hs.to (Nat.le_trans hs1 h.size) (fun b hb hlt=>?_) fun b hlt hb=>⟨hb.1,h.out b (by omega) hb.2⟩
 rw[h.keep b (by omega) (by have:=hb.1;omega) hb.2,o1.block b hlt (fun e=>by have:=Option.some.inj e;have:=hb.1;omega)]
theorem Pushed.fresh{B base e sz n lo:Nat}{row':List Value}{v v':Value}{W W1 w4:World}{F:World→Prop}(h:Pushed B base e sz n row' v v' W1 w4)(hs:Stays (fun b=>W.heap.size≤b) W1 F)(hown:∀b,v.ownBlock=some b→b<W.heap.size)(hlo:lo≤W.heap.size)(hB:B<W.heap.size):Stays (fun b=>lo≤b∧some b≠v'.ownBlock) w4 F :=
 hs.to h.size (fun b hb hlt=>h.keep b hlt (by omega) (fun e=>by have:=hown b e.symm;omega)) fun b hlt hb=>⟨Nat.le_trans hlo hb,h.out b hlt (fun e=>by have:=hown b e.symm;omega)⟩
theorem PW.keepQ{w w':World}{P k:Nat}{G:Hd}{p:Lfc.PE}(h:PW w P G p k)(q:Nat→Prop)(h1:p.toks≠[]→∀a,G.A=some a→q a.block)(h2:p.ops≠[]→∀a,G.B=some a→q a.block)(hk:∀b,q b→b<w.heap.size→w'.heap[b]?=w.heap[b]?)(hs:w.heap.size≤w'.heap.size)(hP:w'.heap[P]?=w.heap[P]?):PW w' P G p k:=by
 obtain⟨hc,⟨A,c,e,g1,g2⟩,hp,h3⟩:=h
 obtain⟨A',c',B',d'⟩:=G
 simp only at e g2 h3 h1 h2
 cases e
 refine⟨hP.trans hc,⟨_,_,rfl,g1,fun hp=>?_⟩,hp,fun hne=>?_⟩
 ·obtain⟨b,o,hA,hlt,hcl⟩:=g2 hp
  have q':=fun j=>World.cell?_of_block (a:=⟨b,j,none⟩) (hk b (h1 (List.length_pos_iff.1 hp) _ hA) hlt)
  refine⟨b,o,hA,Nat.lt_of_lt_of_le hlt hs,fun i t ht=>?_⟩
  obtain⟨c0,c1,c2⟩:=hcl i t ht
  exact⟨(q' _).trans c0,(q' _).trans c1,(q' _).trans c2⟩
 ·obtain⟨b,o,hA,hlt,hcl⟩:=h3 hne
  have q':=fun j=>World.cell?_of_block (a:=⟨b,j,none⟩) (hk b (h2 hne _ hA) hlt)
  refine⟨b,o,hA,Nat.lt_of_lt_of_le hlt hs,fun i hi=>?_⟩
  obtain⟨c0,c1,c2⟩:=hcl i hi
  exact⟨(q' _).trans c0,(q' _).trans c1,(q' _).trans c2⟩
def Hd.offV(G:Hd)(p:Lfc.PE)(v:Value):Prop:=∀J,v.ownBlock=some J→G.off p J
theorem Pushed.pw{P B base e sz n k:Nat}{row':List Value}{v v':Value}{W1 w4:World}{G:Hd}{p:Lfc.PE}(h:Pushed B base e sz n row' v v' W1 w4)(hp:PW W1 P G p k)(hB:G.off p B)(hv:G.offV p v)(hPB:P≠B)(hPv:some P≠v.ownBlock):PW w4 P G p k∧G.offV p v':=by
 have hq:∀b,(b<W1.heap.size∧b≠B∧some b≠v.ownBlock)→True:=fun _ _=>trivial
 obtain⟨h1,h2⟩:=hB
 have q1:p.toks≠[]→∀a,G.A=some a→a.block≠B∧some a.block≠v.ownBlock:=fun hne a e=>⟨h1 hne a e,fun e'=>(hv a.block e'.symm).1 hne a e rfl⟩
 have q2:p.ops≠[]→∀a,G.B=some a→a.block≠B∧some a.block≠v.ownBlock:=fun hne a e=>⟨h2 hne a e,fun e'=>(hv a.block e'.symm).2 hne a e rfl⟩
 refine⟨hp.keepQ (fun b=>b≠B∧some b≠v.ownBlock) q1 q2 (fun b hb hlt=>h.keep b hlt hb.1 hb.2) h.size (h.keep P hp.lt hPB hPv),fun J hJ=>?_⟩
 rcases Nat.lt_or_ge J W1.heap.size with hlt | hge
 ·by_cases e:some J=v.ownBlock
  ·exact hv J e.symm
  ·exact absurd hJ.symm (h.out J hlt e)
 ·exact hp.off_new hge
end Go.Proofs.YthajalgkjonaaaaGreatDoor
namespace Go.Proofs.YthajalgkjonaaaaGreatDoor
open Go.RowKit
def itRow(xs:List (Lfc.Itm × IS)):List Value:=xs.flatMap fun y=>(itCells y.1 y.2).toList
theorem itRow_push(xs:List (Lfc.Itm × IS))(x:Lfc.Itm)(s:IS):itRow (xs++[(x,s)])=itRow xs++(itCells x s).toList:=by simp[itRow]
structure ItsO(base:Nat)(W:World)(xs:List (Lfc.Itm × IS))(A:Option Addr)(c:Nat):Prop where
  own:W.ownsRow base 42 22 (.slice A xs.length c) xs.length (itRow xs)
  its:∀y∈xs,Stays (fun b=>base≤b∧some b≠(Value.slice A xs.length c).ownBlock) W fun V=>ItV V y.1 y.2
structure ExtI(w0 W:World)(P X base:Nat)(toks:List Lfc.Tok)(n:Nat)(G:Hd)(l:List Lfc.Op)(k:Nat)(xs:List (Lfc.Itm × IS))(A:Option Addr)(c:Nat):Prop where
  pw:PW W P G ⟨toks,n,l⟩ k
  off:G.off ⟨toks,n,l⟩ X
  offV:G.offV ⟨toks,n,l⟩ (.slice A xs.length c)
  box:W.heap[X]?=some (.cells #[.slice A xs.length c] 23 (0,0))
  its:ItsO base W xs A c
  oth:Oth2 P X w0 W
theorem ExtI.push{w0 W W1 w2 w3:World}{P X base:Nat}{toks:List Lfc.Tok}{n:Nat}{G G':Hd}{l l1:List Lfc.Op}{k k1:Nat}{xs:List (Lfc.Itm × IS)}{A A':Option Addr}{c c':Nat}{x:Lfc.Itm}{s:IS}(h:ExtI w0 W P X base toks n G l k xs A c)(hPX:P≠X)(hP:P<base)(hX:X<base)(hb:w0.heap.size≤base)(hbW:base≤W.heap.size)
    (hv:Stays (fun b=>W.heap.size≤b) W1 fun V=>ItV V x s) (g1:PW W1 P G' ⟨toks,n,l1⟩ k1) (g2:∀J,J<W.heap.size→G.off ⟨toks,n,l⟩ J→G'.off ⟨toks,n,l1⟩ J) (o1:Oth P W W1) (b2:Below W1.heap.size W1 w2)
    (hown3:w3.ownsRow base 42 22 (.slice A' (xs.length+1) c') (xs.length+1) (itRow xs++(itCells x s).toList)) (hg:w2.grownBy w3 (Value.slice A xs.length c).ownBlock) (hl:(Value.slice A' (xs.length+1) c').ownBlock=(Value.slice A xs.length c).ownBlock∨(Value.slice A' (xs.length+1) c').ownBlock=some w2.heap.size) :
    w3.heap[X]?=some (.cells #[.slice A xs.length c] 23 (0,0))∧ExtI w0 (w3.setCell ⟨X,0,none⟩ (.slice A' (xs.length+1) c')) P X base toks n G' l1 k1 (xs++[(x,s)]) A' c':=by
  have hXl:=lt_of_block h.box
  have hPl:=h.pw.lt
  have hv0:∀b,(Value.slice A xs.length c).ownBlock=some b→base≤b∧b<W.heap.size:=fun b hb=>h.its.own.lt b hb
  obtain⟨q1,q2,hp⟩:=pushed (j:=0) h.box h.its.own hX (fun e=>hPX e.symm) o1 b2 hown3 hg hl
  have hlen:(xs++[(x,s)]).length=xs.length+1:=by simp
  obtain⟨hpw,hov⟩:=hp.pw g1 (g2 X hXl h.off) (fun J hJ=>g2 J (hv0 J hJ).2 (h.offV J hJ)) hPX (fun e=>by have:=(hv0 P e.symm).1;omega)
  refine⟨q1,hpw,g2 X hXl h.off,by rw[hlen];exact hov,by rw[hlen];exact q2,⟨?_,fun y hy=>?_⟩,hp.oth2 h.oth o1 (fun b hb=>(hv0 b hb).1) hb⟩
  · rw[hlen,itRow_push];exact hp.own
  · rw[hlen]
    rcases List.mem_append.1 hy with hy | hy
    · exact hp.stays (h.its.its y hy) o1 hP hX
    · simp at hy
      subst hy
      exact hp.fresh hv (fun b hb=>(hv0 b hb).2) hbW (by omega)
def boxLen(X:Nat)(W:World):Nat:=match W.cell? ⟨X,0,none⟩ with
  |some (.slice _ n _)=>n
  |_=>0
theorem boxLen_eq{X:Nat}{W:World}{A:Option Addr}{n c:Nat}(h:W.cell? ⟨X,0,none⟩=some (.slice A n c)):boxLen X W=n:=by simp[boxLen,h]
theorem item_info:∃i,Tryz.prog.info? 42=some i∧i.zero=some (.agg #[.int .i64 0,.int .i64 0,S [],.slice none 0 0,.slice none 0 0,S [],.int .i64 0,.int .i64 0,.slice none 0 0,.slice none 0 0,.slice none 0 0,.slice none 0 0,.slice none 0 0,.slice none 0 0,.int .i64 0,.int .i64 0,.slice none 0 0,.int .i64 0,.int .i64 0,.slice none 0 0,.int .i64 0,.int .i64 0])∧i.size=22∧i.bytes=352:=by
  obtain⟨i0,hi,hz0,hz1,hz2⟩:=info_parts (show(Tryz.prog.info? 42).map (fun i=>(i.zero,i.size,i.bytes))=some (some (.agg #[.int .i64 0,.int .i64 0,S [],.slice none 0 0,.slice none 0 0,S [],.int .i64 0,.int .i64 0,.slice none 0 0,.slice none 0 0,.slice none 0 0,.slice none 0 0,.slice none 0 0,.slice none 0 0,.int .i64 0,.int .i64 0,.slice none 0 0,.int .i64 0,.int .i64 0,.slice none 0 0,.int .i64 0,.int .i64 0]),22,352) by kernel_rfl)
  exact⟨i0,hi,hz0,hz1,hz2⟩
theorem hlm22{n:Nat}(h:n≤512):n+1≤maxLen∧(n+1)*352≤140737488355328:=⟨by unfold maxLen;omega,by omega⟩
theorem one22{l:List Value}(h:l.toArray.all (·.oneCell')=true):∀u∈l,u.oneCell'=true:=by
  intro u hu
  have:=Array.all_eq_true_iff_forall_mem.1 h u (by simpa using hu)
  exact this
theorem POk.ops'{p:Lfc.PE}(h:POk p){l:List Lfc.Op}(hl:l.length≤1000000):POk ⟨p.toks,p.fin,l⟩:=⟨h.len,h.fin,hl,h.tok⟩
def BoxIt(X base:Nat)(xs:List (Lfc.Itm × IS))(A:Option Addr)(c:Nat)(W:World):Prop:=W.heap[X]?=some (.cells #[.slice A xs.length c] 23 (0,0))∧ItsO base W xs A c
def BoxS(X:Nat)(W:World):Prop:=∃v,W.heap[X]?=some (.cells #[v] 23 (0,0))
set_option maxRecDepth 100000 in
set_option maxHeartbeats 4000000 in
theorem extend1_any(toks:List Lfc.Tok)(n:Nat)(l:List Lfc.Op)(ok:POk ⟨toks,n,l⟩)(P X:Nat)(G:Hd)(w:World)(h:PW w P G ⟨toks,n,l⟩ 0)(hX:w.heap[X]?=some (.cells #[.slice none 0 0] 23 (0,0)))(hPX:P≠X)(hG:G.off ⟨toks,n,l⟩ X)(hl:l.length≤900000)
    (hd:∀(k:Nat)(l':List Lfc.Op),k<toks.length→l'.length≤1000000→((⟨toks,n,l'⟩:Lfc.PE).pk k).kind=3→0≤Lfc.idxW ((⟨toks,n,l'⟩:Lfc.PE).pk k).text Lfc.dirs→DirOK ⟨toks,n,l'⟩ (Lfc.idxW ((⟨toks,n,l'⟩:Lfc.PE).pk k).text Lfc.dirs)) :
    Calls Tryz.prog 39 #[.pointer (some ⟨P,0,none⟩),.pointer (some ⟨X,0,none⟩)] w (RdR P X ⟨toks,n,l⟩ w (BoxS X) (fun l' W=>∃xs k A c,Lfc.itemsP toks n l=.ok (xs.map Prod.fst,l') k∧BoxIt X w.heap.size xs A c W) ((Lfc.itemsP toks n l).then fun x k=>.ok x.2 k)):=by
  have hlen:=ok.len
  have hfin:=ok.fin
  have hP:=h.lt
  have hXl:=lt_of_block hX
  simp only at hlen hfin
  obtain⟨it,hi,hz0,hz1,hz2⟩:=item_info
  have OK:=Lib.hid ok
  have HDIR:=Lib.hid hd
  obtain⟨R,hR⟩:∃R,Lfc.itemsP toks n l=R:=⟨_,rfl⟩
  rw[hR]
  have HN:Hid (R≠.out):=Lib.hid (by rw[←hR];exact(Lfc.fair_items toks n l).1)
  have HR:Hid (Lfc.itemsF toks n (toks.length+1) 0 l []=R):=Lib.hid hR
  have I0:Hid (ExtI w w P X w.heap.size toks n G l 0 [] none 0):=Lib.hid ⟨h,hG,fun J hJ=>(by cases hJ),hX,⟨World.ownsRow_nil _ _ _ _,fun y hy=>(by cases hy)⟩,Oth2.refl _ _ _⟩
  clear h ok hd hR hX hG
  go_enter Tryz.func39,Tryz.ntmps39
  go_wp2_with fail
  go_loopw [] (fun wr=>∃(f k:Nat)(l':List Lfc.Op)(xs:List (Lfc.Itm × IS))(A:Option Addr)(c:Nat)(G':Hd),k≤toks.length∧xs.length≤512∧l'.length≤l.length+xs.length∧Hid (Lfc.itemsF toks n f k l' (xs.map Prod.fst)=R)∧Hid (ExtI w wr P X w.heap.size toks n G' l' k xs A c)) (fun wr=>600-boxLen X wr)
  case atStart=>exact⟨toks.length+1,0,l,[],none,0,G,by omega,by simp,by simp,HR,I0⟩
  case round =>
    clear I0
    obtain⟨f,k,l',xs,A,c,G',hk,hxs,hl',HM,HI⟩:=hrel
    obtain _ | f:=f
    · exact absurd (by rw[←HM.out];rfl) HN.out
    have hpc:=HI.out.pw.cells
    have p0:wr.cell? ⟨P,0,none⟩=some (.slice G'.A toks.length G'.c):=hpc.1
    have p1:wr.cell? ⟨P,1,none⟩=some (.int .i64 (k:Int)):=hpc.2.1
    clear hpc
    by_cases hlt:k<toks.length
    · have hlt2:decide ((k:Int)<(toks.length:Int))=true:=by simpa using hlt
      have hm:=HM.out
      rw[Lfc.itemsF,if_pos hlt,List.length_map] at hm
      have HM:=Lib.hid hm
      have POK:=Lib.hid (OK.out.ops' (l:=l') (by omega))
      have hce:=item_any xs.length k wr.drew.drew HI.out.pw.drew.drew hlt POK.out hxs (HDIR.out k l' hlt (by omega))
      have FR:=Lfc.fair_item ⟨toks,n,l'⟩ xs.length k
      have x0:wr.drew.cell? ⟨X,0,none⟩=some (.slice A xs.length c):=Lib.cell_of_heap HI.out.box 0
      go_upto_region 0 with fail
      go_region
      go_upto_region 1 with fail
      clear hm
      rcases Lfc.PR.cases FR.1 with⟨cc,aa,hr⟩ | ⟨x,k1,hr⟩
      · rw[hr] at hce
        have CE:=Lib.hid hce
        have HF:Hid (R.then (fun x k=>(.ok x.2 k:Lfc.PR (List Lfc.Op)))=.err cc aa):=Lib.hid (by rw[←HM.out,hr];rfl)
        clear hce hr FR
        refine wp_region_held_drew (S:=fun W=>W.cell? ⟨X,0,none⟩=some (.slice A xs.length c)) (by kernel_rfl) x0 (fun hHeld=>?_)
        refine tk 0 ?_
        refine tk 1 ?_
        refine tk 2 ?_
        refine tk 3 ?_
        refine wpAnyH_ready (rs:=[4]) (by kernel_rfl) (by simp) (AllReadyH.cons rfl (fun K hK=>?_) AllReadyH.nil)
        go_simp
        go_at_call 40
        refine CE.out.mono ?_
        rintro e w9⟨rfl,o9⟩
        go_simp
        go_wp2_with fail
        rw[HF.out]
        have o9':Oth P wr w9:=(((Oth.refl P wr).drew).drew).trans o9
        exact⟨rfl,rfl,HI.out.oth.trans (Oth2.left o9'),_,o9'.heap HI.out.box (Ne.symm hPX)⟩
      · rw[hr] at hce
        have CE:=Lib.hid hce
        have HM2:Hid (Lfc.itemsF toks n f k1 x.2 (xs.map Prod.fst++[x.1])=R):=Lib.hid (by rw[←HM.out,hr];rfl)
        have hb:=FR.2.2 _ _ hr
        have hn5:=Lfc.item_lt hr
        have hob:=Lfc.opsB_item _ _ _ _ _ hr
        have hB1:=hb.1
        have hB2:=hb.2
        simp only at hob hB2
        have HLM:=hlm22 (n:=xs.length) (by omega)
        clear hce hr FR hb
        go_region_law (first
          |(go_simp;go_at_call 40;refine CE.out.mono ?_;rintro e w9⟨⟨s,rfl,hv⟩,⟨G9,g1,g2⟩,o9⟩;have o9':Oth P wr w9:=(((Oth.refl P wr).drew).drew).trans o9;have q9:=o9'.heap HI.out.box (Ne.symm hPX);have y9:w9.cell? ⟨X,0,none⟩=some (.slice A xs.length c):=Lib.cell_of_heap q9 0;have y9a:∀o,(w9.alloc o).cell? ⟨X,0,none⟩=some (.slice A xs.length c):=fun o=>Lib.cell_of_heap ((Lib.alloc_old _ _ _ (lt_of_block q9)).trans q9) 0;have hown9:=HI.out.its.own.kept o9' (Or.inr (fun e=>by have:=(HI.out.its.own.lt P e).1;omega));have hs9:=o9'.size;have hs8:=HI.out.oth.size;have hs9':w.heap.size≤w9.heap.size:=(by omega);obtain⟨c0,c1,c2,c3,c4,c5,c6,c7,c8,c9,c10,c11,c12,c13,c14,c15,c16,c17,c18,c19,c20,c21,hcs⟩:∃c0 c1 c2 c3 c4 c5 c6 c7 c8 c9 c10 c11 c12 c13 c14 c15 c16 c17 c18 c19 c20 c21,itCells x.1 s=#[c0,c1,c2,c3,c4,c5,c6,c7,c8,c9,c10,c11,c12,c13,c14,c15,c16,c17,c18,c19,c20,c21]:=⟨_,_,_,_,_,_,_,_,_,_,_,_,_,_,_,_,_,_,_,_,_,_,rfl⟩;have h1c:=itCells_one x.1 s;have HCS:=Lib.hid hcs;rw[hcs] at h1c ⊢;have H1C:=Lib.hid h1c;clear hcs h1c)
          |(refine step_append_own_at _ (by rfl) _ _ 23 (by rfl) w.heap.size 42 it (.agg #[.int .i64 0,.int .i64 0,S [],.slice none 0 0,.slice none 0 0,S [],.int .i64 0,.int .i64 0,.slice none 0 0,.slice none 0 0,.slice none 0 0,.slice none 0 0,.slice none 0 0,.slice none 0 0,.int .i64 0,.int .i64 0,.slice none 0 0,.int .i64 0,.int .i64 0,.slice none 0 0,.int .i64 0,.int .i64 0]) 22 352 Tryz.underlying23 hi hz0 hz1 hz2 rfl (by decide) _ _ _ (by rfl) (hown9.alloc _) ⟨w9.heap.size,0,none⟩ 1 1 [c0,c1,c2,c3,c4,c5,c6,c7,c8,c9,c10,c11,c12,c13,c14,c15,c16,c17,c18,c19,c20,c21] (by rfl) (by rfl) (fun j u h=>cells_new w9 _ rfl [c0,c1,c2,c3,c4,c5,c6,c7,c8,c9,c10,c11,c12,c13,c14,c15,c16,c17,c18,c19,c20,c21] _ j u h) (one22 H1C.out) HLM.1 HLM.2 (alloc_le hs9') ?_;intro v' w10 hown10 hg10 hloc10;obtain⟨A10,c10,rfl⟩:=own_form hown10;obtain⟨hr10,hfin⟩:=HI.out.push (x:=x.1) (s:=s) hPX hP hXl (Nat.le_refl _) hs8 hv g1 g2 o9' ((Below.refl _ _).alloc (Nat.le_refl _) _) (by rw[HCS.out];exact hown10) hg10 (by simpa using hloc10);have y10:=(Lib.cell_of_heap hr10 0:w10.cell? ⟨X,0,none⟩=some (.slice A xs.length c));have f10:=Lib.frozen_of_heap hr10 0))
        all_goals
         have HNX:=Lib.hid hfin
         clear hfin hown9 hown10 hg10 hloc10 hr10 y10 f10 y9 y9a q9 hv o9 o9' g1 g2 x0
         go_wp2_with fail
         go_roundw
         case rel=>exact⟨f,k1,x.2,xs++[(x.1,s)],A10,c10,G9,hB2,by simp;omega,by simp;omega,Lib.hid (by rw[List.map_append];exact HM2.out),HNX⟩
         case measure=>rw[boxLen_eq (Lib.cell_of_heap HNX.out.box 0),boxLen_eq (Lib.cell_of_heap HI.out.box 0)];simp;omega
    · have hlt2:decide ((k:Int)<(toks.length:Int))=false:=by simpa using hlt
      have hm:=HM.out
      rw[Lfc.itemsF,if_neg hlt] at hm
      have HM:=Lib.hid hm
      clear hm
      go_upto_region 0 with fail
      go_region
      go_wp2_with fail
      go_end0
      rw[←HM.out]
      exact⟨rfl,⟨G',HI.out.pw.drew⟩,⟨HI.out.oth.os,HI.out.oth.tape,HI.out.oth.output,HI.out.oth.size,HI.out.oth.block⟩,xs,k,A,c,rfl,HI.out.box,HI.out.its.own.drew,fun y hy=>(HI.out.its.its y hy).to (Nat.le_refl _) (fun _ _ _=>rfl) fun _ _ h=>h⟩
end Go.Proofs.YthajalgkjonaaaaGreatDoor
