/- Parts of the proof that no input makes the law false: PaItem, PaLst, PaExt, PaExt2, PaFm2. -/
import Derived.Deep.WholeRow
import Derived.Test.YthajalgkjonaaaaGreatDoorBxAN
set_option linter.unusedVariables false
set_option linter.unusedSimpArgs false
set_option maxRecDepth 100000
set_option maxHeartbeats 32000000
namespace Go.Proofs.YthajalgkjonaaaaGreatDoor
section
open Go.RowKit _root_.Lfc
theorem Oth.row(w:World)(g:Nat)(cs:Array Value):Oth g w (w.setRow g cs):=⟨rfl,rfl,rfl,by simp,fun k _ hk=>setRow_other w g k cs (fun e=>hk (by rw[e]))⟩
theorem Below.row{B g:Nat}{w w':World}(h:Below B w w')(hg:B≤g)(hB:B≤w'.heap.size)(cs:Array Value):Below B w (w'.setRow g cs):=Oth.below h (Oth.row _ _ _) hg hB
def DirOK(p:Lfc.PE)(i:Int):Prop:=∀(P I k:Nat)(G:Hd)(a:Nat)(w:World),ItF w w P I G p k (itCells (Itm.new a) IS.nil)→k≤p.toks.length →
 Calls Tryz.prog (dirFn i) #[.pointer (some ⟨P,0,none⟩),.pointer (some ⟨I,0,none⟩)] w (ItRes P I G p w (p.dirP i (Itm.new a) k))
def ItmRes(P:Nat)(G:Hd)(p:Lfc.PE)(w:World):ItR→Ending→World→Prop
 |.out,_,_=>True
 |.err c a,e,w'=>e=Flt c a∧Oth P w w'
 |.ok x k,e,w'=>(∃s,e=.returned (.agg (itCells x.1 s))∧Stays (fun b=>w.heap.size≤b) w' fun W=>ItV W x.1 s)∧(∃G',PW w' P G' ⟨p.toks,p.fin,x.2⟩ k∧∀J,J<w.heap.size→G.off p J→G'.off ⟨p.toks,p.fin,x.2⟩ J)∧Oth P w w'
theorem Oth2.drop{P I:Nat}{w0 w w':World}(h:Oth2 P I w w')(h0:Oth P w0 w)(hI:w0.heap.size≤I):Oth P w0 w' :=
 ⟨h.os.trans h0.os,h.tape.trans h0.tape,h.output.trans h0.output,zR h0.size h.size,fun k hk hn=>(h.block k (Zl hk h0.size) (fun e=>hn (by rw[e])) (by omega)).trans (h0.block k hk hn)⟩
theorem item_size:(Tryz.prog.info? 42).map (·.size)=some 22:=by kernel_rfl
theorem enters_dir(i:Int):∀args w,(callFunc (dirFn i) args).run Tryz.prog w=.ok (.enter (dirFn i) args) w:=by
 unfold dirFn;split
 ·exact enters_of Tryz.func125 (by kernel_rfl) rfl
 ·exact enters_of Tryz.func126 (by kernel_rfl) rfl
 ·exact enters_of Tryz.func127 (by kernel_rfl) rfl
 ·exact enters_of Tryz.func128 (by kernel_rfl) rfl
 ·exact enters_of Tryz.func129 (by kernel_rfl) rfl
 ·exact enters_of Tryz.func130 (by kernel_rfl) rfl
 ·exact enters_of Tryz.func131 (by kernel_rfl) rfl
 ·exact enters_of Tryz.func132 (by kernel_rfl) rfl
 ·exact enters_of Tryz.func133 (by kernel_rfl) rfl
 ·exact enters_of Tryz.func134 (by kernel_rfl) rfl
 ·exact enters_of Tryz.func135 (by kernel_rfl) rfl
 ·exact enters_of Tryz.func136 (by kernel_rfl) rfl
 exact enters_of Tryz.func137 (by kernel_rfl) rfl
theorem item_fin{w wi w2:World}{P I R k k':Nat}{G G':Hd}{p:Lfc.PE}{x:Itm × List Lfc.Op}{s:IS}{lo:Nat}(hw:PW w P G p k)(bwi:Below w.heap.size w wi)(hI:w.heap.size≤I)(hR:w.heap.size≤R)(hRi:R<wi.heap.size)(o:Oth2 P I wi w2)(hlo:wi.heap.size≤lo)(g1:PW w2 P G' ⟨p.toks,p.fin,x.2⟩ k')(g2:∀J,J<lo→G.off p J→G'.off ⟨p.toks,p.fin,x.2⟩ J)(hv:Stays (fun b=>lo≤b) w2 fun W=>ItV W x.1 s)(cs:Array Value) :
  ItmRes P G p w (.ok x k') (.returned (.agg (itCells x.1 s))) (w2.setRow R cs):=by
 have hP:=hw.lt;have oR:=Oth.row w2 R cs;have o1:Oth P w w2:=o.drop (zE bwi) hI;refine⟨⟨s,rfl,hv.to oR.size (fun b hb hlt=>oR.block b hlt (fun e=>by have:=zO e;omega)) fun b _ hb=>by have:=bwi.size;omega⟩,⟨G',?_,fun J hJ hG=>g2 J (by have:=bwi.size;omega) hG⟩,?_⟩
 ·exact g1.oth (g2 R (by omega) (hw.off_new hR)) (by omega) oR
 exact⟨oR.os.trans o1.os,oR.tape.trans o1.tape,oR.output.trans o1.output,zR o1.size oR.size,fun j hj hn=>(oR.block j (by have:=o1.size;omega) (fun e=>by have:=zO e;omega)).trans (o1.block j hj hn)⟩
theorem itCells_one(x:Itm)(s:IS):(itCells x s).all (·.oneCell')=true:=by simp[itCells,Value.oneCell']
theorem itZ(a:Nat):itCells (Itm.new a) IS.nil=#[.int .i64 0,.int .i64 (a:Int),S [],.slice none 0 0,.slice none 0 0,S [],.int .i64 0,.int .i64 0,.slice none 0 0,.slice none 0 0,.slice none 0 0,.slice none 0 0,.slice none 0 0,.slice none 0 0,.int .i64 0,.int .i64 0,.slice none 0 0,.int .i64 0,.int .i64 0,.slice none 0 0,.int .i64 0,.int .i64 0]:=rfl
theorem item_any{P:Nat}{G:Hd}{p:Lfc.PE}(n k:Nat)(w:World)(h:PW w P G p k)(hk:k<p.toks.length)(ok:POk p)(hn:n<=512)(hd:(p.pk k).kind=3->0<=idxW (p.pk k).text dirs->DirOK p (idxW (p.pk k).text dirs)) :
  Calls Tryz.prog 40 #[.pointer (some ⟨P,0,none⟩),zI (n:Int)] w (ItmRes P G p w (p.itemP n k)):=by
 have hlen:=ok.len;have hP:=h.lt;have OK:=zH ok;have HW:=zH h;have htl:(p.pk k).text.length<=1000000:=by have:=(ok.tok _ (List.mem_of_getElem? (PE.pk_of hk))).1;omega
 obtain⟨M,hm⟩:∃M,p.itemP n k=M:=⟨_,rfl⟩;rw[hm];have HR:=zH hm.symm;unfold Lfc.PE.itemP at HR;obtain⟨wa,hwa⟩:∃wa,w.alloc (.cells #[zI 0,zI 0,S [],zS,zS,S [],zI 0,zI 0,zS,zS,zS,zS,zS,zS,zI 0,zI 0,zS,zI 0,zI 0,zS,zI 0,zI 0] 42)=wa:=⟨_,rfl⟩;have ba:=zG hwa;have qa:=zQ hwa;have CP:=zH (peek_any wa (h.below ba) (Nat.le_of_lt hk) ok);have CI:=zH (fun W (hb:zb wa W)=>isName_at W ((h.below ba).below hb) (Nat.le_of_lt hk) ok);have CU:=zH (fun W (hb:zb wa W)=>unexpected_any W ((h.below ba).below hb) (Nat.le_of_lt hk) ok);have HD:=zH hd;have HT:=zH htl;have FI:=zH (fair_item p n k);obtain⟨tk,tx,at_,hpk⟩:∃tk tx at_,p.pk k=⟨tk,tx,at_⟩:=⟨_,_,_,rfl⟩;rw[hpk] at CP HD HT HR;simp only at CP HD HT HR;have BA:=zH ba;have QA:=zH qa;have hsa:=eq2 (show wa.heap.size=w.heap.size+1 by rw[<-hwa];simp);clear h ok hm htl ba qa hpk hd;go_enter Tryz.func40,Tryz.ntmps40;go_upto_region 1 with fail;clear hwa;go_upto_region 2 with(go_at_call 63;refine CP.o.mono ?_;rintro e w1⟨rfl,b1⟩;obtain⟨wt,hwt⟩:∃wt,w1.alloc (.cells #[zI tk,S tx,zI (at_:Int)] 65)=wt:=⟨_,rfl⟩);have bt:=zG hwt;have qt:=zQ hwt;have hst:=eq2 (show wt.heap.size=w1.heap.size+1 by rw[<-hwt];simp);have hs1:=b1.size;have BT:Hid (zb wa wt):=zH (b1.trans (bt.mono b1.size));have QT:=zH qt;have BWT:Hid (zb w wt):=zH (BA.o.trans (BT.o.mono BA.o.size));clear hwt bt b1;obtain⟨x0,x1,x2⟩:=cells3 qt;clear qt;by_cases h5:n=512
 ·subst h5;have hm:=HR.o;rw[if_pos rfl] at hm;have HM:=zH hm;clear hm;go_wp2_with (go_at_call 66;refine(pfail_any _ _ _).mono ?_;rintro e w9⟨rfl,rfl⟩);rw[HM.o];exact⟨rfl,rfl,zE BWT.o⟩
 have h5i:((n:Int) == 512)=false:=by simp;omega
 have hm:=HR.o;rw[if_neg h5] at hm;have HR:=zH hm;clear hm h5;go_upto_region 4 with fail;obtain⟨wz,hwz⟩:∃wz,wt.alloc (.cells #[zI 0,zI 0,S [],zS,zS,S [],zI 0,zI 0,zS,zS,zS,zS,zS,zS,zI 0,zI 0,zS,zI 0,zI 0,zS,zI 0,zI 0] 42)=wz:=⟨_,rfl⟩;have bz:=zG hwz;have qz:=zQ hwz;apply wp_region_lit
 iterate 12 go_step
 refine wpList_store_row rfl 42 _ _ rfl wt.heap.size #[zI 0,zI (at_:Int),S [],zS,zS,S [],zI 0,zI 0,zS,zS,zS,zS,zS,zS,zI 0,zI 0,zS,zI 0,zI 0,zS,zI 0,zI 0] rfl rfl 42 _ qz item_size rfl (itCells_one (Itm.new at_) IS.nil) ?_;refine wpList_nil ?_;generalize hwi:wz.setRow wt.heap.size #[zI 0,zI (at_:Int),S [],zS,zS,S [],zI 0,zI 0,zS,zS,zS,zS,zS,zS,zI 0,zI 0,zS,zI 0,zI 0,zS,zI 0,zI 0]=wi at *;have bi:zb wt wi:=by rw[<-hwi];exact Below.row bz (zN _) bz.size _
 have qi:wi.heap[wt.heap.size]?=some (.cells (itCells (Itm.new at_) IS.nil) 42 (0,0)):=by rw[itZ,<-hwi];exact setRow_heap _ _ _ _ _ _ qz
 clear hwi qz bz hwz;have hpw:=HW.o.below (BWT.o.trans (bi.mono BWT.o.size));have F0:Hid (ItF wi wi P wt.heap.size G p k (itCells (Itm.new at_) IS.nil)):=zH ⟨hpw,qi,by omega,HW.o.off_new (by omega),Oth2.refl _ _ _,rfl⟩;have hsi:=bi.size;have BI:Hid (zb wa wi):=zH (BT.o.trans (bi.mono (by omega)));have BWI:Hid (zb w wi):=zH (BA.o.trans (BI.o.mono BA.o.size));have QT:=zH ((bi.block _ (by omega)).trans QT.o);obtain⟨x0,x1,x2⟩:=cells3 QT.o;have hTI:w1.heap.size<wt.heap.size:=by omega
 have hIi:wt.heap.size<wi.heap.size:=zL qi;clear bi qi hpw;by_cases h3:tk=3
 ·subst h3;have hm:=HR.o;rw[if_pos rfl] at hm;have HR:=zH hm;have HD3:=zH (HD.o rfl);clear hm;have hT:Tryz.prog.underlying 139=some (.map 9 138):=Tryz.underlying139;obtain⟨V,hV⟩:∃V,(dirG tx).getD .nilFunc=V:=⟨_,rfl⟩;have HV:=zH hV;clear hV;have G0:zb wi wi.drew:=(zB _ _).drew;have AA:∀X Y:World,zb wi X->zb X Y->zb wi Y:=fun X Y h k=>h.trans (k.mono h.size);have SC:Hid (∀W,zb wi W->zc W w1.heap.size 1 (S tx)):=zH fun W hb=>(hb.cell (p:=⟨w1.heap.size,1,none⟩) (by simp only;omega)).trans x1;have CD:Hid (∀W,zb wi W->Calls Tryz.prog 71 #[] W fun e w'=>∃M N,e=.returned (.map (some M))/\VMap .nilFunc w' M N dirG/\zb W w'):=zH fun W _=>directives_any W;go_upto_region 8 with fail;have x1':=SC.o _ G0;go_region_held3 (fun W=>W.cell? ⟨w1.heap.size,1,none⟩=some (S tx))
   (first | exact SC.o _ G0 | (refine SC.o _ ?_;assumption))
   (first
    |(go_at_call 71;((with_reducible refine(CD.o _ ?_).mono ?_));assumption;rintro e w5⟨M',N',rfl,hvm,b'⟩;have b5:=AA _ _ (by assumption) b';have hlk:=hvm.look1 139 138 hT fz_run tx HT.o;rw[HV.o] at hlk;have y0:=(b5.cell (p:=⟨w1.heap.size,0,none⟩) (by simp only;omega)).trans x0;have y2:=(b5.cell (p:=⟨w1.heap.size,2,none⟩) (by simp only;omega)).trans x2;clear hvm b'))
  have F5:=zH (F0.o.below b5);have QA5:Hid (zk w5 w.heap.size #[zI 0,zI 0,S [],zS,zS,S [],zI 0,zI 0,zS,zS,zS,zS,zS,zS,zI 0,zI 0,zS,zI 0,zI 0,zS,zI 0,zI 0] 42):=zH ((b5.block _ (by have:=BI.o.size;omega)).trans ((BI.o.block _ (by omega)).trans QA.o));have B5:=zH b5;clear x0 x1 x2 x1' hlk b5 hT;by_cases hx:idxW tx dirs<0
  ·obtain rfl:V=.nilFunc:=(by rw[<-HV.o];unfold dirG;rw[if_pos hx];rfl);have hm:=HR.o;rw[if_pos hx] at hm;have HM:=zH hm;have hcmp:∀W,(binOp .eql 138 .nilFunc .nilFunc).run Tryz.prog W=.ok (.bool true) W:=fun _=>rfl;clear hm hx;go_wp2_with (go_at_call 66;refine(pfail_any _ _ _).mono ?_;rintro e w9⟨rfl,rfl⟩);rw[HM.o];exact⟨rfl,rfl,zE (BWI.o.trans (B5.o.mono BWI.o.size))⟩
  have hm:=HR.o;rw[if_neg hx] at hm;have HR:=zH hm;have hdf:∃fid,dirFn (idxW tx dirs)=fid:=⟨_,rfl⟩;obtain⟨fid,hfid⟩:=hdf;obtain rfl:V=.func (.func fid) #[] #[]:=by rw[<-HV.o,<-hfid];unfold dirG;rw[if_neg hx];rfl
  have he:∀args w,(callFunc fid args).run Tryz.prog w=.ok (.enter fid args) w:=by rw[<-hfid];exact enters_dir _
  have CR0:DirOK p (idxW tx dirs):=HD3.o (Int.not_lt.1 hx);unfold DirOK at CR0;rw[hfid] at CR0;have CR0:=zH CR0;have hcmp:∀W,(binOp .eql 138 (.func (.func fid) #[] #[]) .nilFunc).run Tryz.prog W=.ok (.bool false) W:=fun _=>rfl;have FR:=zH (fair_dir p (idxW tx dirs) (Itm.new at_) (k+1) hk);obtain⟨_,p1,_,_,pf,_,_,_⟩:=F5.o.pw.cells;have pf1:=pf 1;clear hm hx hfid pf;generalize idxW tx dirs=ix at *;go_upto_region 15 with fail;have h6:=F5.o.pw.step (k+1);rw[show((k+1:Nat):Int)=(k:Int)+1 by omega] at h6;have F6:=zH (F5.o.call h6 (Oth.set _ _));have QA6:=zH ((Oth.set (T:=P) (j:=1) w5 (zI ((k:Int)+1))).heap QA5.o (by omega));generalize w5.setCell ⟨P,1,none⟩ (zI ((k:Int)+1))=w6 at *;have CR:=CR0.o P wt.heap.size (k+1) G at_ w6 F6.o.again hk;have HS6:=zH F6.o.oth.size;clear h6 p1 pf1;rcases Lfc.PR.cases FR.o.1 with⟨cc,aa,hr⟩ | ⟨x,k',hr⟩
  ·rw[hr] at CR;have HM:=zH (HR.o.trans hr);have CR:=zH CR;clear hr;go_wp2_with fail;refine CR.o.mono ?_;rintro e w7⟨rfl,o7⟩;go_wp2_with fail;rw[HM.o];exact⟨rfl,rfl,(F6.o.oth.trans o7).drop (zE BWI.o) (by omega)⟩
  rw[hr] at CR;have HM:=zH (HR.o.trans hr);have CR:=zH CR;clear hr;go_wp2_with fail;refine CR.o.mono ?_;rintro e w7⟨rfl,⟨G',g1,g2⟩,⟨s,qs,hv⟩,o7⟩;have QA7:Hid (zk w7 w.heap.size #[zI 0,zI 0,S [],zS,zS,S [],zI 0,zI 0,zS,zS,zS,zS,zS,zS,zI 0,zI 0,zS,zI 0,zI 0,zS,zI 0,zI 0] 42):=zH ((o7.block _ (by have:=HS6.o;omega) (by omega) (by omega)).trans QA6.o);have FIN:=zH (item_fin HW.o BWI.o (by omega) (zN _) (by omega) (F6.o.oth.trans o7) HS6.o g1 g2 hv (itCells x.1 s));have QS:=zH qs;clear g1 g2 hv qs o7;go_upto_region 16 with fail;apply wp_region_lit;refine wpList_load_row rfl 42 _ rfl wt.heap.size rfl 42 _ (0,0) _ QS.o Tryz.underlying42 rfl item_size ?_;refine wpList_store_row rfl 42 _ _ rfl w.heap.size (itCells x.1 s) rfl rfl 42 _ QA7.o item_size rfl (itCells_one _ _) ?_;refine wpList_nil ?_;have QF:=zH (setRow_heap w7 w.heap.size _ (itCells x.1 s) _ _ QA7.o);generalize w7.setRow w.heap.size (itCells x.1 s)=w8 at *;go_wp2_with fail;rw[HM.o];exact bodyPost_ret (results_cell_row rfl _ _ _ _ _ _ _ rfl QF.o Tryz.underlying42 rfl item_size) rfl FIN.o
 have hm:=HR.o;rw[if_neg h3] at hm;have HR:=zH hm;have h3b:(tk == 3)=false:=by simpa using h3
 clear hm h3;go_upto_region 11 with fail;cases hnm:p.isNm k
 ·have CI:=zH (CI.o wi BI.o);have hm:=HR.o;rw[hnm] at CI hm;rw[if_neg (by decide)] at hm;have HM:=zH (hm.trans (unexp_eq p k));clear hm hnm;go_wp2_with (first | (go_at_call 72;refine CI.o.mono ?_;rintro e w5⟨rfl,b5⟩) | (go_at_call 36;refine(CU.o w5 (BI.o.trans (b5.mono BI.o.size))).mono ?_;rintro e w6⟨rfl,b6⟩));rw[HM.o];exact⟨rfl,rfl,zE ((BWI.o.trans (b5.mono BWI.o.size)).trans (b6.mono (by have:=BWI.o.size;have:=b5.size;omega)))⟩
 have CI:=zH (CI.o wi BI.o);have hm:=HR.o;rw[hnm] at CI hm;rw[if_pos rfl] at hm;have HR:=zH hm;clear hnm hm;go_upto_region 13 with(go_at_call 72;refine CI.o.mono ?_;rintro e w5⟨rfl,b5⟩);have F6:=zH (F0.o.below b5);have QA6:Hid (zk w5 w.heap.size #[zI 0,zI 0,S [],zS,zS,S [],zI 0,zI 0,zS,zS,zS,zS,zS,zS,zI 0,zI 0,zS,zI 0,zI 0,zS,zI 0,zI 0] 42):=zH ((b5.block _ (by have:=BI.o.size;omega)).trans ((BI.o.block _ (by omega)).trans QA.o));have y0:=(b5.cell (p:=⟨w1.heap.size,0,none⟩) (by simp only;omega)).trans x0;have HS6:=zH F6.o.oth.size;clear x0 x1 x2 b5;generalize w5=w6 at *;have CR:=decl_any at_ w6 F6.o.again (Nat.le_of_lt hk) OK.o;have FR:=zH (fair_decl p (Itm.new at_) k);go_upto_region 15 with fail;rcases Lfc.PR.cases FR.o.1 with⟨cc,aa,hr⟩ | ⟨x,k',hr⟩
 ·rw[hr] at CR;have HM:=zH (HR.o.trans hr);have CR:=zH CR;clear hr;go_wp2_with (go_at_call 73;refine CR.o.mono ?_;rintro e w7⟨rfl,o7⟩);rw[HM.o];exact⟨rfl,rfl,(F6.o.oth.trans o7).drop (zE BWI.o) (by omega)⟩
 rw[hr] at CR;have HM:=zH (HR.o.trans hr);have CR:=zH CR;clear hr;go_upto_region 16 with(go_at_call 73;refine CR.o.mono ?_;rintro e w7⟨rfl,⟨G',g1,g2⟩,⟨s,qs,hv⟩,o7⟩;have QA7:Hid (zk w7 w.heap.size #[zI 0,zI 0,S [],zS,zS,S [],zI 0,zI 0,zS,zS,zS,zS,zS,zS,zI 0,zI 0,zS,zI 0,zI 0,zS,zI 0,zI 0] 42):=zH ((o7.block _ (by have:=HS6.o;omega) (by omega) (by omega)).trans QA6.o);have FIN:=zH (item_fin HW.o BWI.o (by omega) (zN _) (by omega) (F6.o.oth.trans o7) HS6.o g1 g2 hv (itCells x.1 s));have QS:=zH qs;clear g1 g2 hv qs o7);apply wp_region_lit;refine wpList_load_row rfl 42 _ rfl wt.heap.size rfl 42 _ (0,0) _ QS.o Tryz.underlying42 rfl item_size ?_;refine wpList_store_row rfl 42 _ _ rfl w.heap.size (itCells x.1 s) rfl rfl 42 _ QA7.o item_size rfl (itCells_one _ _) ?_;refine wpList_nil ?_;have QF:=zH (setRow_heap w7 w.heap.size _ (itCells x.1 s) _ _ QA7.o);generalize w7.setRow w.heap.size (itCells x.1 s)=w8 at *;go_wp2_with fail;rw[HM.o];exact bodyPost_ret (results_cell_row rfl _ _ _ _ _ _ _ rfl QF.o Tryz.underlying42 rfl item_size) rfl FIN.o
end
section
open Go.RowKit
structure Pushed(B base e sz n:Nat)(row':List Value)(v v':Value)(W1 w4:World):Prop where
 os:w4.os=W1.os
 tape:w4.tape=W1.tape
 output:w4.output=W1.output
 size:W1.heap.size≤w4.heap.size
 keep:∀b,b<W1.heap.size→b≠B→some b≠v.ownBlock→w4.heap[b]?=W1.heap[b]?
 out:∀b,b<W1.heap.size→some b≠v.ownBlock→some b≠v'.ownBlock
 own:w4.ownsRow base e sz v' (n+1) row'
theorem pushed{P B base n c c' j sz:Nat}{e:TypeId}{A A':Option Addr}{W W1 w2 w3:World}{row row':List Value}{cs:Array Value}{bt:TypeId}(hB:W.heap[B]?=some (.cells cs bt (0,0)))(hown:W.ownsRow base e sz (.slice A n c) n row)(hBb:B<base)(hBP:B≠P)
  (o1:Oth P W W1) (b2:Below W1.heap.size W1 w2) (hown3:w3.ownsRow base e sz (.slice A' (n+1) c') (n+1) row') (hg:w2.grownBy w3 (Value.slice A n c).ownBlock) (hl:(Value.slice A' (n+1) c').ownBlock=(Value.slice A n c).ownBlock∨(Value.slice A' (n+1) c').ownBlock=some w2.heap.size) :
  w3.heap[B]?=some (.cells cs bt (0,0))∧(w3.setCell ⟨B,j,none⟩ (.slice A' (n+1) c')).heap[B]?=some (.cells (cs.setIfInBounds j (.slice A' (n+1) c')) bt (0,0))∧Pushed B base e sz n row' (.slice A n c) (.slice A' (n+1) c') W1 (w3.setCell ⟨B,j,none⟩ (.slice A' (n+1) c')):=by
 have hs1:=o1.size;have hs2:=b2.size;have hs3:=hg.size;have hBl:=zL hB;obtain⟨v,hv'⟩:∃v,(Value.slice A n c)=v:=⟨_,rfl⟩;rw[hv'] at hg hl hown ⊢;have hv:∀b,v.ownBlock=some b→base≤b∧b<W.heap.size:=fun b hb=>hown.lt b hb;have hbel:∀j,j<W1.heap.size→some j≠v.ownBlock→w3.heap[j]?=W1.heap[j]?:=fun j hj hne=>(hg.block j (by omega) hne).trans (b2.block j hj);have hb3:w3.heap[B]?=some (.cells cs bt (0,0)):=(hbel B (by omega) (fun e=>by have:=(hv B e.symm).1;omega)).trans (o1.heap hB hBP);have o4:Oth B w3 (w3.setCell ⟨B,j,none⟩ (.slice A' (n+1) c')):=Oth.set _ _;have hs4:=o4.size;refine⟨hb3,by simp[World.setCell,zM,hb3],o4.os.trans (hg.os.trans b2.os),o4.tape.trans (hg.tape.trans b2.tape),o4.output.trans (hg.output.trans b2.output),by omega,fun b hb hB' hn=>(o4.block b (by omega) (fun e=>hB' (zO e))).trans (hbel b hb hn),fun b hb hn=>?_,hown3.kept o4 (Or.inr (fun e=>by have:=(hown3.lt B e).1;omega))⟩;rcases hl with e | e
 ·rw[e];exact hn
 rw[e];intro e';have:=zO e';omega
theorem Pushed.oth2{P B base e sz n:Nat}{row':List Value}{v v':Value}{w0 W W1 w4:World}(h:Pushed B base e sz n row' v v' W1 w4)(o0:Oth2 P B w0 W)(o1:Oth P W W1)(hown:∀b,v.ownBlock=some b→base≤b)(hb:w0.heap.size≤base):Oth2 P B w0 w4:=by
 have hs0:=o0.size;have hs1:=o1.size;refine⟨h.os.trans (o1.os.trans o0.os),h.tape.trans (o1.tape.trans o0.tape),h.output.trans (o1.output.trans o0.output),by have:=h.size;omega,fun k hk h1 h2=>?_⟩;rw[h.keep k (by omega) h2 (fun e=>by have:=hown k e.symm;omega),o1.block k (by omega) (fun e=>h1 (zO e)),o0.block k hk h1 h2]
theorem Pushed.stays{P B base e sz n lo:Nat}{row':List Value}{v v':Value}{W W1 w4:World}{F:World→Prop}(h:Pushed B base e sz n row' v v' W1 w4)(hs:Stays (fun b=>lo≤b∧some b≠v.ownBlock) W F)(o1:Oth P W W1)(hP:P<lo)(hB:B<lo):Stays (fun b=>lo≤b∧some b≠v'.ownBlock) w4 F:=by
 have hs1:=o1.size;refine hs.to (zR hs1 h.size) (fun b hb hlt=>?_) fun b hlt hb=>⟨hb.1,h.out b (by omega) hb.2⟩;rw[h.keep b (by omega) (by have:=hb.1;omega) hb.2,o1.block b hlt (fun e=>by have:=zO e;have:=hb.1;omega)]
theorem Pushed.fresh{B base e sz n lo:Nat}{row':List Value}{v v':Value}{W W1 w4:World}{F:World→Prop}(h:Pushed B base e sz n row' v v' W1 w4)(hs:Stays (fun b=>W.heap.size≤b) W1 F)(hown:∀b,v.ownBlock=some b→b<W.heap.size)(hlo:lo≤W.heap.size)(hB:B<W.heap.size):Stays (fun b=>lo≤b∧some b≠v'.ownBlock) w4 F :=
 hs.to h.size (fun b hb hlt=>h.keep b hlt (by omega) (fun e=>by have:=hown b e.symm;omega)) fun b hlt hb=>⟨zR hlo hb,h.out b hlt (fun e=>by have:=hown b e.symm;omega)⟩
theorem PW.keepQ{w w':World}{P k:Nat}{G:Hd}{p:Lfc.PE}(h:PW w P G p k)(q:Nat→Prop)(h1:p.toks≠[]→∀a,G.A=some a→q a.block)(h2:p.ops≠[]→∀a,G.B=some a→q a.block)(hk:∀b,q b→b<w.heap.size→w'.heap[b]?=w.heap[b]?)(hs:w.heap.size≤w'.heap.size)(hP:w'.heap[P]?=w.heap[P]?):PW w' P G p k:=by
 obtain⟨hc,⟨A,c,e,g1,g2⟩,hp,h3⟩:=h;obtain⟨A',c',B',d'⟩:=G;simp only at e g2 h3 h1 h2;cases e;refine⟨hP.trans hc,⟨_,_,rfl,g1,fun hp=>?_⟩,hp,fun hne=>?_⟩
 ·obtain⟨b,o,hA,hlt,hcl⟩:=g2 hp;have q':=fun j=>World.cell?_of_block (a:=⟨b,j,none⟩) (hk b (h1 (List.length_pos_iff.1 hp) _ hA) hlt);refine⟨b,o,hA,Zl hlt hs,fun i t ht=>?_⟩;obtain⟨c0,c1,c2⟩:=hcl i t ht;exact⟨(q' _).trans c0,(q' _).trans c1,(q' _).trans c2⟩
 obtain⟨b,o,hA,hlt,hcl⟩:=h3 hne;have q':=fun j=>World.cell?_of_block (a:=⟨b,j,none⟩) (hk b (h2 hne _ hA) hlt);refine⟨b,o,hA,Zl hlt hs,fun i hi=>?_⟩;obtain⟨c0,c1,c2⟩:=hcl i hi;exact⟨(q' _).trans c0,(q' _).trans c1,(q' _).trans c2⟩
def Hd.offV(G:Hd)(p:Lfc.PE)(v:Value):Prop:=∀J,v.ownBlock=some J→G.off p J
theorem Pushed.pw{P B base e sz n k:Nat}{row':List Value}{v v':Value}{W1 w4:World}{G:Hd}{p:Lfc.PE}(h:Pushed B base e sz n row' v v' W1 w4)(hp:PW W1 P G p k)(hB:G.off p B)(hv:G.offV p v)(hPB:P≠B)(hPv:some P≠v.ownBlock):PW w4 P G p k∧G.offV p v':=by
 have hq:∀b,(b<W1.heap.size∧b≠B∧some b≠v.ownBlock)→True:=fun _ _=>trivial;obtain⟨h1,h2⟩:=hB;have q1:p.toks≠[]→∀a,G.A=some a→a.block≠B∧some a.block≠v.ownBlock:=fun hne a e=>⟨h1 hne a e,fun e'=>(hv a.block e'.symm).1 hne a e rfl⟩;have q2:p.ops≠[]→∀a,G.B=some a→a.block≠B∧some a.block≠v.ownBlock:=fun hne a e=>⟨h2 hne a e,fun e'=>(hv a.block e'.symm).2 hne a e rfl⟩;refine⟨hp.keepQ (fun b=>b≠B∧some b≠v.ownBlock) q1 q2 (fun b hb hlt=>h.keep b hlt hb.1 hb.2) h.size (h.keep P hp.lt hPB hPv),fun J hJ=>?_⟩;rcases Nat.lt_or_ge J W1.heap.size with hlt | hge
 ·by_cases e:some J=v.ownBlock
  ·exact hv J e.symm
  exact absurd hJ.symm (h.out J hlt e)
 exact hp.off_new hge
end
section
open Go.RowKit _root_.Lfc
def itRow(xs:List (Itm × IS)):List Value:=xs.flatMap fun y=>(itCells y.1 y.2).toList
theorem itRow_push(xs:List (Itm × IS))(x:Itm)(s:IS):itRow (xs++[(x,s)])=itRow xs++(itCells x s).toList:=by simp[itRow]
structure ItsO(base:Nat)(W:World)(xs:List (Itm × IS))(A:Option Addr)(c:Nat):Prop where
  own:W.ownsRow base 42 22 (.slice A xs.length c) xs.length (itRow xs)
  its:∀y∈xs,Stays (fun b=>base≤b∧some b≠(Value.slice A xs.length c).ownBlock) W fun V=>ItV V y.1 y.2
structure ExtI(w0 W:World)(P X base:Nat)(toks:List Lfc.Tok)(n:Nat)(G:Hd)(l:List Lfc.Op)(k:Nat)(xs:List (Itm × IS))(A:Option Addr)(c:Nat):Prop where
  pw:PW W P G ⟨toks,n,l⟩ k
  off:G.off ⟨toks,n,l⟩ X
  offV:G.offV ⟨toks,n,l⟩ (.slice A xs.length c)
  box:W.heap[X]?=some (.cells #[.slice A xs.length c] 23 (0,0))
  its:ItsO base W xs A c
  oth:Oth2 P X w0 W
theorem ExtI.push{w0 W W1 w2 w3:World}{P X base:Nat}{toks:List Lfc.Tok}{n:Nat}{G G':Hd}{l l1:List Lfc.Op}{k k1:Nat}{xs:List (Itm × IS)}{A A':Option Addr}{c c':Nat}{x:Itm}{s:IS}(h:ExtI w0 W P X base toks n G l k xs A c)(hPX:P≠X)(hP:P<base)(hX:X<base)(hb:w0.heap.size≤base)(hbW:base≤W.heap.size)
    (hv:Stays (fun b=>W.heap.size≤b) W1 fun V=>ItV V x s) (g1:PW W1 P G' ⟨toks,n,l1⟩ k1) (g2:∀J,J<W.heap.size→G.off ⟨toks,n,l⟩ J→G'.off ⟨toks,n,l1⟩ J) (o1:Oth P W W1) (b2:Below W1.heap.size W1 w2)
    (hown3:w3.ownsRow base 42 22 (.slice A' (xs.length+1) c') (xs.length+1) (itRow xs++(itCells x s).toList)) (hg:w2.grownBy w3 (Value.slice A xs.length c).ownBlock) (hl:(Value.slice A' (xs.length+1) c').ownBlock=(Value.slice A xs.length c).ownBlock∨(Value.slice A' (xs.length+1) c').ownBlock=some w2.heap.size) :
    w3.heap[X]?=some (.cells #[.slice A xs.length c] 23 (0,0))∧ExtI w0 (w3.setCell ⟨X,0,none⟩ (.slice A' (xs.length+1) c')) P X base toks n G' l1 k1 (xs++[(x,s)]) A' c':=by
  have hXl:=zL h.box;have hPl:=h.pw.lt;have hv0:∀b,(Value.slice A xs.length c).ownBlock=some b→base≤b∧b<W.heap.size:=fun b hb=>h.its.own.lt b hb;obtain⟨q1,q2,hp⟩:=pushed (j:=0) h.box h.its.own hX (fun e=>hPX e.symm) o1 b2 hown3 hg hl;have hlen:(xs++[(x,s)]).length=xs.length+1:=by simp
  obtain⟨hpw,hov⟩:=hp.pw g1 (g2 X hXl h.off) (fun J hJ=>g2 J (hv0 J hJ).2 (h.offV J hJ)) hPX (fun e=>by have:=(hv0 P e.symm).1;omega);refine⟨q1,hpw,g2 X hXl h.off,by rw[hlen];exact hov,by rw[hlen];exact q2,⟨?_,fun y hy=>?_⟩,hp.oth2 h.oth o1 (fun b hb=>(hv0 b hb).1) hb⟩
  · rw[hlen,itRow_push];exact hp.own
  rw[hlen];rcases List.mem_append.1 hy with hy | hy
  · exact hp.stays (h.its.its y hy) o1 hP hX
  simp at hy;subst hy;exact hp.fresh hv (fun b hb=>(hv0 b hb).2) hbW (by omega)
def boxLen(X:Nat)(W:World):Nat:=match W.cell? ⟨X,0,none⟩ with
  |some (.slice _ n _)=>n
  |_=>0
theorem boxLen_eq{X:Nat}{W:World}{A:Option Addr}{n c:Nat}(h:W.cell? ⟨X,0,none⟩=some (.slice A n c)):boxLen X W=n:=by simp[boxLen,h]
theorem item_info:∃i,Tryz.prog.info? 42=some i∧i.zero=some (.agg #[.int .i64 0,.int .i64 0,S [],.slice none 0 0,.slice none 0 0,S [],.int .i64 0,.int .i64 0,.slice none 0 0,.slice none 0 0,.slice none 0 0,.slice none 0 0,.slice none 0 0,.slice none 0 0,.int .i64 0,.int .i64 0,.slice none 0 0,.int .i64 0,.int .i64 0,.slice none 0 0,.int .i64 0,.int .i64 0])∧i.size=22∧i.bytes=352:=by
  obtain⟨i0,hi,hz0,hz1,hz2⟩:=info_parts (show(Tryz.prog.info? 42).map (fun i=>(i.zero,i.size,i.bytes))=some (some (.agg #[.int .i64 0,.int .i64 0,S [],.slice none 0 0,.slice none 0 0,S [],.int .i64 0,.int .i64 0,.slice none 0 0,.slice none 0 0,.slice none 0 0,.slice none 0 0,.slice none 0 0,.slice none 0 0,.int .i64 0,.int .i64 0,.slice none 0 0,.int .i64 0,.int .i64 0,.slice none 0 0,.int .i64 0,.int .i64 0]),22,352) by kernel_rfl);exact⟨i0,hi,hz0,hz1,hz2⟩
theorem hlm22{n:Nat}(h:n≤512):n+1≤maxLen∧(n+1)*352≤140737488355328:=⟨by unfold maxLen;omega,by omega⟩
theorem one22{l:List Value}(h:l.toArray.all (·.oneCell')=true):∀u∈l,u.oneCell'=true:=by
  intro u hu;have:=Array.all_eq_true_iff_forall_mem.1 h u (by simpa using hu);exact this
theorem POk.ops'{p:Lfc.PE}(h:POk p){l:List Lfc.Op}(hl:l.length≤1000000):POk ⟨p.toks,p.fin,l⟩:=⟨h.len,h.fin,hl,h.tok⟩
def BoxIt(X base:Nat)(xs:List (Itm × IS))(A:Option Addr)(c:Nat)(W:World):Prop:=W.heap[X]?=some (.cells #[.slice A xs.length c] 23 (0,0))∧ItsO base W xs A c
def BoxS(X:Nat)(W:World):Prop:=∃v,W.heap[X]?=some (.cells #[v] 23 (0,0))
theorem extend1_any(toks:List Lfc.Tok)(n:Nat)(l:List Lfc.Op)(ok:POk ⟨toks,n,l⟩)(P X:Nat)(G:Hd)(w:World)(h:PW w P G ⟨toks,n,l⟩ 0)(hX:zk w X #[zS] 23)(hPX:P≠X)(hG:G.off ⟨toks,n,l⟩ X)(hl:l.length<=900000)
    (hd:∀(k:Nat)(l':List Lfc.Op),k<toks.length->l'.length<=1000000->((⟨toks,n,l'⟩:Lfc.PE).pk k).kind=3->0<=idxW ((⟨toks,n,l'⟩:Lfc.PE).pk k).text dirs->DirOK ⟨toks,n,l'⟩ (idxW ((⟨toks,n,l'⟩:Lfc.PE).pk k).text dirs)) :
    Calls Tryz.prog 39 #[.pointer (some ⟨P,0,none⟩),.pointer (some ⟨X,0,none⟩)] w (RdR P X ⟨toks,n,l⟩ w (BoxS X) (fun l' W=>∃xs k A c,itemsP toks n l=.ok (xs.map Prod.fst,l') k/\BoxIt X w.heap.size xs A c W) ((itemsP toks n l).then fun x k=>.ok x.2 k)):=by
  have hlen:=ok.len;have hfin:=ok.fin;have hP:=h.lt;have hXl:=zL hX;simp only at hlen hfin;obtain⟨it,hi,hz0,hz1,hz2⟩:=item_info;have OK:=zH ok;have HDIR:=zH hd;obtain⟨R,hR⟩:∃R,itemsP toks n l=R:=⟨_,rfl⟩;rw[hR];have HN:Hid (R≠.out):=zH (by rw[<-hR];exact(fair_items toks n l).1);have HR:Hid (itemsF toks n (toks.length+1) 0 l []=R):=zH hR;have I0:Hid (ExtI w w P X w.heap.size toks n G l 0 [] none 0):=zH ⟨h,hG,fun J hJ=>(by cases hJ),hX,⟨World.ownsRow_nil _ _ _ _,fun y hy=>(by cases hy)⟩,Oth2.refl _ _ _⟩;clear h ok hd hR hX hG;go_enter Tryz.func39,Tryz.ntmps39;go_wp2_with fail;go_loopw [] (fun wr=>∃(f k:Nat)(l':List Lfc.Op)(xs:List (Itm × IS))(A:Option Addr)(c:Nat)(G':Hd),k<=toks.length/\xs.length<=512/\l'.length<=l.length+xs.length/\Hid (itemsF toks n f k l' (xs.map Prod.fst)=R)/\Hid (ExtI w wr P X w.heap.size toks n G' l' k xs A c)) (fun wr=>600-boxLen X wr);case atStart=>exact⟨toks.length+1,0,l,[],none,0,G,by omega,by simp,by simp,HR,I0⟩
  clear I0;obtain⟨f,k,l',xs,A,c,G',hk,hxs,hl',HM,HI⟩:=hrel;obtain _ | f:=f
  · exact absurd (by rw[<-HM.o];rfl) HN.o
  have hpc:=HI.o.pw.cells;have p0:zc wr P 0 (.slice G'.A toks.length G'.c):=hpc.1;have p1:zc wr P 1 (zI (k:Int)):=hpc.2.1;clear hpc;by_cases hlt:k<toks.length
  · have hlt2:decide ((k:Int)<(toks.length:Int))=true:=by simpa using hlt
    have hm:=HM.o;rw[itemsF,if_pos hlt,List.length_map] at hm;have HM:=zH hm;have POK:=zH (OK.o.ops' (l:=l') (by omega));have hce:=item_any xs.length k wr.drew.drew HI.o.pw.drew.drew hlt POK.o hxs (HDIR.o k l' hlt (by omega));have FR:=fair_item ⟨toks,n,l'⟩ xs.length k;have x0:wr.drew.cell? ⟨X,0,none⟩=some (.slice A xs.length c):=zC HI.o.box 0;go_upto_region 0 with fail;go_region;go_upto_region 1 with fail;clear hm;rcases Lfc.PR.cases FR.1 with⟨cc,aa,hr⟩ | ⟨x,k1,hr⟩
    · rw[hr] at hce
      have CE:=zH hce;have HF:Hid (R.then (fun x k=>(.ok x.2 k:Lfc.PR (List Lfc.Op)))=.err cc aa):=zH (by rw[<-HM.o,hr];rfl);clear hce hr FR;refine wp_region_held_drew (S:=fun W=>zc W X 0 (.slice A xs.length c)) (by kernel_rfl) x0 (fun hH=>?_);refine tk 0 ?_;refine tk 1 ?_;refine tk 2 ?_;refine tk 3 ?_;refine rd1 4 (fun K hK=>?_);go_simp;go_at_call 40;refine CE.o.mono ?_;rintro e w9⟨rfl,o9⟩;go_simp;go_wp2_with fail;rw[HF.o];have o9':Oth P wr w9:=(((Oth.refl P wr).drew).drew).trans o9;exact⟨rfl,rfl,HI.o.oth.trans (Oth2.left o9'),_,o9'.heap HI.o.box (Ne.symm hPX)⟩
    rw[hr] at hce;have CE:=zH hce;have HM2:Hid (itemsF toks n f k1 x.2 (xs.map Prod.fst++[x.1])=R):=zH (by rw[<-HM.o,hr];rfl);have hb:=FR.2.2 _ _ hr;have hn5:=item_lt hr;have hob:=opsB_item _ _ _ _ _ hr;have hB1:=hb.1;have hB2:=hb.2;simp only at hob hB2;have HLM:=hlm22 (n:=xs.length) (by omega);clear hce hr FR hb;go_region_law (first
      |(go_simp;go_at_call 40;refine CE.o.mono ?_;rintro e w9⟨⟨s,rfl,hv⟩,⟨G9,g1,g2⟩,o9⟩;have o9':Oth P wr w9:=(((Oth.refl P wr).drew).drew).trans o9;have q9:=o9'.heap HI.o.box (Ne.symm hPX);have y9:w9.cell? ⟨X,0,none⟩=some (.slice A xs.length c):=zC q9 0;have y9a:∀o,(w9.alloc o).cell? ⟨X,0,none⟩=some (.slice A xs.length c):=fun o=>zC ((zA _ _ _ (zL q9)).trans q9) 0;have hown9:=HI.o.its.own.kept o9' (Or.inr (fun e=>by have:=(HI.o.its.own.lt P e).1;omega));have hs9:=o9'.size;have hs8:=HI.o.oth.size;have hs9':w.heap.size<=w9.heap.size:=(by omega);obtain⟨c0,c1,c2,c3,c4,c5,c6,c7,c8,c9,c10,c11,c12,c13,c14,c15,c16,c17,c18,c19,c20,c21,hcs⟩:∃c0 c1 c2 c3 c4 c5 c6 c7 c8 c9 c10 c11 c12 c13 c14 c15 c16 c17 c18 c19 c20 c21,itCells x.1 s=#[c0,c1,c2,c3,c4,c5,c6,c7,c8,c9,c10,c11,c12,c13,c14,c15,c16,c17,c18,c19,c20,c21]:=⟨_,_,_,_,_,_,_,_,_,_,_,_,_,_,_,_,_,_,_,_,_,_,rfl⟩;have h1c:=itCells_one x.1 s;have HCS:=zH hcs;rw[hcs] at h1c ⊢;have H1C:=zH h1c;clear hcs h1c)
      |(refine step_append_own_at _ (by rfl) _ _ 23 (by rfl) w.heap.size 42 it (.agg #[zI 0,zI 0,S [],zS,zS,S [],zI 0,zI 0,zS,zS,zS,zS,zS,zS,zI 0,zI 0,zS,zI 0,zI 0,zS,zI 0,zI 0]) 22 352 Tryz.underlying23 hi hz0 hz1 hz2 rfl (by decide) _ _ _ (by rfl) (hown9.alloc _) ⟨w9.heap.size,0,none⟩ 1 1 [c0,c1,c2,c3,c4,c5,c6,c7,c8,c9,c10,c11,c12,c13,c14,c15,c16,c17,c18,c19,c20,c21] (by rfl) (by rfl) (fun j u h=>cells_new w9 _ rfl [c0,c1,c2,c3,c4,c5,c6,c7,c8,c9,c10,c11,c12,c13,c14,c15,c16,c17,c18,c19,c20,c21] _ j u h) (one22 H1C.o) HLM.1 HLM.2 (alloc_le hs9') ?_;intro v' w10 hown10 hg10 hloc10;obtain⟨A10,c10,rfl⟩:=own_form hown10;obtain⟨hr10,hfin⟩:=HI.o.push (x:=x.1) (s:=s) hPX hP hXl (zN _) hs8 hv g1 g2 o9' ((zB _ _).alloc (zN _) _) (by rw[HCS.o];exact hown10) hg10 (by simpa using hloc10);have y10:=(zC hr10 0:zc w10 X 0 (.slice A xs.length c));have f10:=zF hr10 0))
    all_goals
     have HNX:=zH hfin;clear hfin hown9 hown10 hg10 hloc10 hr10 y10 f10 y9 y9a q9 hv o9 o9' g1 g2 x0;go_wp2_with fail;go_roundw;case rel=>exact⟨f,k1,x.2,xs++[(x.1,s)],A10,c10,G9,hB2,by simp;omega,by simp;omega,zH (by rw[List.map_append];exact HM2.o),HNX⟩
     case measure=>rw[boxLen_eq (zC HNX.o.box 0),boxLen_eq (zC HI.o.box 0)];simp;omega
  have hlt2:decide ((k:Int)<(toks.length:Int))=false:=by simpa using hlt
  have hm:=HM.o;rw[itemsF,if_neg hlt] at hm;have HM:=zH hm;clear hm;go_upto_region 0 with fail;go_region;go_wp2_with fail
  go_end0
  rw[<-HM.o];exact⟨rfl,⟨G',HI.o.pw.drew⟩,⟨HI.o.oth.os,HI.o.oth.tape,HI.o.oth.output,HI.o.oth.size,HI.o.oth.block⟩,xs,k,A,c,rfl,HI.o.box,HI.o.its.own.drew,fun y hy=>(HI.o.its.its y hy).to (zN _) (fun _ _ _=>rfl) fun _ _ h=>h⟩
end
end Go.Proofs.YthajalgkjonaaaaGreatDoor
namespace Lfc
theorem runP_ext(l:List Op)(s:List UInt8):runP s (fun t=>(itemsP t s.length l).then fun x k=>.ok x.2 k)=(extendP l s).then fun x k=>.ok x.2 k:=by
 unfold runP extendP;split <;> rfl
theorem extendP_ne(l:List Op)(s:List UInt8):extendP l s≠.out:=by
 unfold extendP;split
 ·simp
 exact(fair_items _ _ _).1
theorem extendP_nz(l:List Op)(s:List UInt8):NzE (extendP l s):=by
 unfold extendP;split
 ·rename_i h;intro c a e;cases e;exact h
 exact(fair_items _ _ _).2
theorem extendP_ok{l:List Op}{s:List UInt8}{x:List Itm × List Op}{k:Nat}(h:extendP l s=.ok x k):itemsP (lex s).1 s.length l=.ok x k:=by
 unfold extendP at h;split at h
 ·cases h
 exact h
end Lfc
namespace Go.Proofs.YthajalgkjonaaaaGreatDoor
open Go.RowKit _root_.Lfc
def ItsV(W:World)(A:Option Addr)(xs:List (Itm × IS)):Prop:=xs≠[]→∃b o,A=some ⟨b,o,none⟩∧b<W.heap.size∧CellsAt W b o (itRow xs)∧∀y∈xs,ItV W y.1 y.2
theorem ItsO.stays{base lo c:Nat}{W:World}{xs:List (Itm × IS)}{A:Option Addr}(h:ItsO base W xs A c)(hlo:lo≤base):Stays (fun b=>lo≤b) W (fun V=>ItsV V A xs)∧xs.length≤c:=by
 have hall:∀y∈xs,Stays (fun b=>lo≤b) W fun V=>ItV V y.1 y.2:=fun y hy=>(h.its y hy).to (zN _) (fun _ _ _=>rfl) fun b _ hb=>zR hlo hb.1;obtain⟨how,hit⟩:=h;have hcl:xs.length≤c:=by
  rcases how.2 with⟨e,h0⟩ | ⟨g,cap,cur,hv,hbg,hg,h1,h2,h3,h4⟩
  ·rw[h0];exact Nat.zero_le _
  have hv':=hv;injection hv with e1 _ e3;subst e3;omega
 refine⟨fun w' h1 h2 hne=>?_,hcl⟩;rcases how.2 with⟨_,h0⟩ | ⟨g,cap,cur,hv,hbg,hg,_⟩
 ·exact absurd (Zz h0) hne
 have hv':=hv;injection hv with e1 _ e3;subst e1 e3;have hlt:=zL hg;refine⟨g,0,rfl,Zl hlt h1,fun j u hj=>?_,fun y hy=>hall y hy w' h1 h2⟩;exact(World.cell?_of_block (a:=⟨g,0+j,none⟩) (h2 g (zR hlo hbg) hlt)).trans (own_cells how j u hj)
theorem RdR.mono{P X:Nat}{p:Lfc.PE}{W:World}{U:World→Prop}{V V':List Lfc.Op→World→Prop}(hV:∀l w,V l w→V' l w):∀(r:Lfc.PR (List Lfc.Op))(e:Ending)(w':World),RdR P X p W U V r e w'→RdR P X p W U V' r e w'
 |.out,_,_,h=>h
 |.err c a,_,_,h=>h
 |.ok l k,_,_,h=>⟨h.1,h.2.1,h.2.2.1,hV _ _ h.2.2.2⟩
def ExtR(n:Nat)(w:World):Lfc.PR (List Itm × List Lfc.Op)→Ending→World→Prop
 |.out,_,_=>True
 |.err c a,e,w'=>e=.returned (.tuple #[.slice none 0 0,.slice none 0 0,.int .i64 c,.int .i64 (a:Int)])∧Below w.heap.size w w'
 |.ok x _,e,w'=>(∃xs A c B d,x.1=xs.map Prod.fst∧e=.returned (.tuple #[.slice A xs.length c,.slice B x.2.length d,.int .i64 0,.int .i64 (n:Int)])∧ItsV w' A xs∧xs.length≤c∧OpsAt w' B x.2)∧Below w.heap.size w w'
def DirsOK(s:List UInt8):Prop:=∀(k:Nat)(l':List Lfc.Op),k<(lex s).1.length→l'.length≤1000000→((⟨(lex s).1,s.length,l'⟩:Lfc.PE).pk k).kind=3→0≤idxW ((⟨(lex s).1,s.length,l'⟩:Lfc.PE).pk k).text dirs→DirOK ⟨(lex s).1,s.length,l'⟩ (idxW ((⟨(lex s).1,s.length,l'⟩:Lfc.PE).pk k).text dirs)
theorem extend_any(l:List Lfc.Op)(A:Option Addr)(c:Nat)(s:List UInt8)(w:World)(hl:l.length<=900000)(ha:OpsAt w A l)(hs:s.length<=9223372036854775807)(hd:DirsOK s) :
  Calls Tryz.prog 19 #[.slice A l.length c,S s] w (ExtR s.length w (extendP l s)):=by
 have hmf:∀(fn:Fn)(first cap:Array Value)(w:World),(Instr.makeFunc fn first cap).run Tryz.prog w=.ok (.func fn first cap) w:=fun _ _ _ _=>rfl;obtain⟨wa,hwa⟩:∃wa,w.alloc (.cells #[zS] 23)=wa:=⟨_,rfl⟩;have ba:=zG hwa;have q0:=zQ hwa;have hsa:=eq2 (show wa.heap.size=w.heap.size+1 by rw[<-hwa];simp);have CR:=prun_any 39 (fun _ _=>rfl) w.heap.size l A c s (fun t=>(itemsP t s.length l).then fun x k=>.ok x.2 k) (BoxS w.heap.size) (fun l' W=>∃xs k A c,itemsP (lex s).1 s.length l=.ok (xs.map Prod.fst,l') k/\zk W w.heap.size #[.slice A xs.length c] 23/\Stays (fun b=>wa.heap.size+3<=b) W (fun V=>ItsV V A xs)/\xs.length<=c) wa (by omega) (ha.below ba) hs (by omega)
  (fun _=>Lfc.PR.then_ne_out (fair_items _ _ _).1 (by simp))
  (fun l' W W' hV ho=>by
   obtain⟨xs,k,A,c,e,hq,hv,hc⟩:=hV;exact⟨xs,k,A,c,e,(ho.block _ (zL hq) (by omega) (by omega) (by omega)).trans hq,hv.to ho.size (fun b hb hlt=>ho.block b hlt (by omega) (by omega) (by omega)) (fun _ _ h=>h),hc⟩)
  (fun W hb=>⟨_,(hb.block _ (by omega)).trans q0⟩) (fun W W' ⟨_,h⟩ ho=>⟨_,(ho.block _ (zL h) (by omega) (by omega) (by omega)).trans h⟩)
  (fun P G W _ hbW hP hpw ok hG=>(extend1_any (lex s).1 s.length l ok P w.heap.size G W hpw ((hbW.block _ (by omega)).trans q0) (by omega) (hG.off (by omega)) hl hd).mono fun e w' h=>RdR.mono (fun l' W' ⟨xs,k,A,c,e,hb⟩=>⟨xs,k,A,c,e,hb.1,(hb.2.stays (by have:=hpw.lt;omega)).1,(hb.2.stays (zN _)).2⟩) _ _ _ h)
 have CR:=zH CR;have BA:=zH ba;have Q0:=zH q0;clear ba q0 ha hd;go_enter Tryz.func19,Tryz.ntmps19;go_upto_region 2 with fail;clear hwa;have HRP:=zH (runP_ext l s);cases hre:extendP l s with
 |out=>exact absurd hre (extendP_ne l s)
 |err cc aa =>
  have hcc:=extendP_nz l s cc aa hre;have hc2:(cc != 0)=true:=by simpa using hcc
  have CRE:=CR.o;rw[HRP.o,hre] at CRE;have CRE:=zH CRE;have HRE:=zH hre;clear hre hcc CR;go_upto_region 3 with(go_at_call 33;refine CRE.o.mono ?_;rintro e w1⟨rfl,o1,v0,ha⟩);obtain⟨w2,hw2⟩:∃w2,w1.setCell ⟨w.heap.size,0,none⟩ zS=w2:=⟨_,rfl⟩;have y0:=zC ha 0;have f0:=zF ha 0;have ha2:=one_set (u:=zS) ha;rw[hw2] at ha2;have z0:=zC ha2 0;simp at y0 z0;have o2:Oth w.heap.size w1 w2:=zV hw2;have HBB:Hid (zb w w2):=zH (Oth.below (Oth.below BA.o o1 (by omega) (by omega)) o2 (zN _) (by have:=o1.size;omega));clear ha ha2 o1 o2;go_wp2_with fail;refine bodyPost_ret (v:=.tuple #[zS,zS,zI cc,zI (aa:Int)]) (by simp[results,Tryz.results19,go_sem]) rfl ?_;rw[HRE.o];exact⟨rfl,HBB.o⟩
 |ok x k =>
  have hto:=extendP_ok hre;have CRE:=CR.o;rw[HRP.o,hre] at CRE;have CRE:=zH CRE;have HTO:=zH hto;have HRE:=zH hre;clear hre CR hto;go_upto_region 3 with(go_at_call 33;refine CRE.o.mono ?_;rintro e w1⟨⟨A1,d1,rfl,hops⟩,o1,xs,k',A2,c2,ht',hq,hv,hc⟩);have hx:x.1=xs.map Prod.fst:=by
   have:=HTO.o;rw[ht'] at this;injection this with e1 _;exact(congrArg Prod.fst e1).symm
  have y0:=zC hq 0;simp at y0;have HX:=zH hx;have HV:=zH hv.here;have HO:=zH hops;have HBB:Hid (zb w w1):=zH (Oth.below BA.o o1 (by omega) (by omega));have HC:=zH hc;clear hq hv hops o1 ht' hx HTO hc;go_wp2_with fail;refine bodyPost_ret (v:=.tuple #[.slice A2 xs.length c2,.slice A1 x.2.length d1,zI 0,zI (s.length:Int)]) (by simp[results,Tryz.results19,go_sem]) rfl ?_;rw[HRE.o];exact⟨⟨xs,A2,c2,A1,d1,HX.o,rfl,HV.o,HC.o,HO.o⟩,HBB.o⟩
theorem parse_any(s:List UInt8)(w:World)(hs:s.length<=9223372036854775807)(hd:DirsOK s) :
  Calls Tryz.prog 9 #[S s] w (ExtR s.length w (extendP [] s)):=by
 have CE:=extend_any [] none 0 s w (by simp) ⟨fun x hx=>by simp at hx,fun h=>absurd rfl h⟩ hs hd;rcases Lfc.PR.cases (extendP_ne [] s) with⟨cc,aa,hr⟩ | ⟨x,k,hr⟩
 ·rw[hr] at CE ⊢;have CE:=zH CE;clear hr;go_enter Tryz.func9,Tryz.ntmps9;go_wp2_with (go_at_call 19;refine CE.o.mono ?_;rintro e w1⟨rfl,b1⟩);refine bodyPost_ret (v:=.tuple #[zS,zS,zI cc,zI (aa:Int)]) (by simp[results,Tryz.results9,go_sem]) rfl ⟨rfl,b1⟩
 rw[hr] at CE ⊢;have CE:=zH CE;clear hr;go_enter Tryz.func9,Tryz.ntmps9;go_wp2_with (go_at_call 19;refine CE.o.mono ?_;rintro e w1⟨⟨xs,A,c,B,d,hx,rfl,HV⟩,b1⟩);refine bodyPost_ret (v:=.tuple #[.slice A xs.length c,.slice B x.2.length d,zI 0,zI (s.length:Int)]) (by simp[results,Tryz.results9,go_sem]) rfl ⟨⟨xs,A,c,B,d,hx,rfl,HV⟩,b1⟩
end Go.Proofs.YthajalgkjonaaaaGreatDoor
namespace Lfc
def wfTs:List Raw→Int
 |[]=>0
 |t :: r=>if t.wf≠0 then t.wf else wfTs r
def wfIts(ops:List Op):List Itm→Int
 |[]=>0
 |x :: r=>if x.formedP=false then 1 else if wfTs x.trees≠0 then wfTs x.trees else if x.kind=3 then(if (added ops x.op).2≠0 then(added ops x.op).2 else wfIts (added ops x.op).1 r) else wfIts ops r
def wfItems(l:List Itm):Int:=if 512<l.length then 7 else wfIts [] l
end Lfc
namespace Go.Proofs.YthajalgkjonaaaaGreatDoor
open Go.RowKit _root_.Lfc
theorem TreesAt.toP{w:World}{A:Option Addr}{ts:List Raw}(h:TreesAt w A ts):TreesAtP (fun _=>True) w A ts:=fun hne=>by
 obtain⟨b,o,hA,hlt,ht⟩:=h hne;exact⟨b,o,hA,hlt,trivial,TreesO.toP (fun _ _=>trivial) _ _ _ ht⟩
theorem rowp_trees{q:Nat→Prop}{w:World}{base c:Nat}{A:Option Addr}{xs:List Value}{ts:List Raw}(h:w.ownsRow base 46 4 (.slice A ts.length c) ts.length xs)(hr:RowP q w ts xs):TreesAt w A ts:=fun hne=>by
 rcases h.2 with⟨_,h0⟩ | ⟨g,cap,cur,hv,hbg,hg,_⟩
 ·exact absurd (Zz h0) hne
 have hv':=hv;injection hv' with e1 _ e3;subst e1 e3;exact⟨g,0,rfl,zL hg,TreesP.toC ts g 0 (hr.lie (own_cells h))⟩
theorem TreesAt.row{w:World}{A:Option Addr}{ts:List Raw}(h:TreesAt w A ts):∃ys,RowP (fun b=>b<w.heap.size) w ts ys∧ys.length=ts.length*4∧(∀u∈ys,u.oneCell'=true)∧∀W,Below w.heap.size w W→ts.length≠0→∃a,A=some a∧∀j u,ys[j]?=some u→W.cell? (a.add j)=some u:=by
 by_cases e:ts=[]
 ·subst e;exact⟨[],by rw[RowP],rfl,by simp,fun W _ h=>absurd rfl h⟩
 obtain⟨b,o,hA,hb,hT⟩:=h e;obtain⟨xs,hr,hc⟩:=(TreesO.toP (q:=fun b=>b<w.heap.size) (fun _ h=>h) _ _ _ hT).row;refine⟨xs,hr,by have:=hr.len;omega,hr.ones,fun W hW _=>⟨_,hA,cellsAdd fun j u hj=>?_⟩⟩;exact(hW.cell (p:=⟨b,_,none⟩) hb).trans (hc j u hj)
theorem bnd_info:∃i,Tryz.prog.info? 72=some i∧i.zero=some (.agg #[S [],.int .i64 0,S [],.int .i64 0,.slice none 0 0])∧i.size=5∧i.bytes=72:=by
 obtain⟨i0,hi,hz0,hz1,hz2⟩:=info_parts (show(Tryz.prog.info? 72).map (fun i=>(i.zero,i.size,i.bytes))=some (some (.agg #[S [],.int .i64 0,S [],.int .i64 0,.slice none 0 0]),5,72) by kernel_rfl);exact⟨i0,hi,hz0,hz1,hz2⟩
theorem bclone_nil(A:Option Addr)(c:Nat)(w:World):Calls Tryz.prog 99 #[.slice A 0 c] w fun e w'=>∃A' c',e=.returned (.slice A' 0 c')/\w'.ownsRow w.heap.size 72 5 (.slice A' 0 c') 0 []/\zb w w':=by
 obtain⟨i0,hi,hz0,hz1,hz2⟩:=bnd_info;rcases A with _ | A
 ·have hnil:∀W:World,(binOp .eql 35 (.slice none 0 c) zS).run Tryz.prog W=.ok (.bool true) W:=fun _=>rfl;go_enter Tryz.func99,Tryz.ntmps99;go_wp2_with fail;go_ret;exact⟨none,0,rfl,own_nil _ _ _ _,zB _ _⟩
 have hown0:(w.alloc (.cells #[] 72)).ownsRow w.heap.size 72 5 (.slice (some ⟨w.heap.size,0,none⟩) 0 0) 0 [] :=
  ⟨rfl,.inr ⟨w.heap.size,0,#[],rfl,zN _,zW _ _,zN _,by unfold maxLen;omega,rfl,rfl⟩⟩
 have HOWN:=zH hown0;have b1:zb w (w.alloc (.cells #[] 72)):=(zB _ _).alloc (zN _) _;have hnil:∀W:World,(binOp .eql 35 (.slice (some A) 0 c) zS).run Tryz.prog W=.ok (.bool false) W:=fun _=>rfl;clear hown0;go_enter Tryz.func99,Tryz.ntmps99;go_wp2_with (at_builtin;refine wpList_append_own_any _ rfl _ _ 35 rfl w.heap.size 72 i0 (.agg #[S [],zI 0,S [],zI 0,zS]) 5 72 Tryz.underlying35 hi hz0 hz1 hz2 rfl (by decide) _ _ _ rfl HOWN.o (some A) 0 c [] rfl rfl (fun h=>absurd rfl h) (by simp) (by decide) (by decide) (by simp) ?_);intro v' w2 hown2 hg2 _;obtain⟨A2,c2,rfl⟩:=own_form hown2;have HO2:=zH hown2;have b2:zb w w2:=b1.grown hg2 (by simp) (own_block_ge HOWN.o);clear hown2 hg2;go_wp2_with fail;go_ret;exact⟨A2,c2,rfl,by simpa using HO2.o,b2⟩
theorem trees_leaf(x:Itm)(s:IS)(w:World)(hv:ItV w x s)(hx:x.Sm)(h0:x.som=[])(h1:x.params=[]):Calls Tryz.prog 47 #[.agg (itCells x s)] w fun e w'=>(∃A c,e=.returned (.slice A x.trees.length c)/\TreesAt w' A x.trees)/\zb w w':=by
 obtain⟨ir,hri,hrz0,hrz1,hrz2⟩:=raw_info;obtain⟨ib,hbi,hbz0,hbz1,hbz2⟩:=bnd_info;have hty:=hx.ty;have hva:=hx.va;have HT:=zH hv.ty.1;have HV:=zH hv.va.1;have HX:Hid (x.trees=x.type++x.value):=zH (by simp[Itm.trees,h0,h1]);rw[HX.o];clear hx hv HX;obtain⟨kind,pos,name,type,value,⟨on,of,op⟩,som,params,blocks,fams,signs,orders,⟨lk,la,lp⟩,⟨rk,ra,rp⟩,rel,count⟩:=x;simp only at h0 h1 hty hva HT HV ⊢;subst h0 h1;simp only[itCells,Lfc.Ord.k,Lfc.Ord.a,Lfc.Ord.ps,List.length_nil] at HT HV ⊢;obtain⟨w1,hw1⟩:∃w1,w.alloc (.cells #[zI kind,zI (pos:Int),S name,.slice s.ty.1 type.length s.ty.2,.slice s.va.1 value.length s.va.2,S on,zI of,zI op,.slice s.so.1 0 s.so.2,.slice s.pa.1 0 s.pa.2,.slice s.bl.1 blocks.length s.bl.2,.slice s.fa.1 fams.length s.fa.2,.slice s.si.1 signs.length s.si.2,.slice s.od.1 orders.length s.od.2,zI lk,zI la,.slice s.le.1 lp.length s.le.2,zI rk,zI ra,.slice s.ri.1 rp.length s.ri.2,zI rel,zI count] 42)=w1:=⟨_,rfl⟩;have b1:=zG hw1;have q1:=zQ hw1;have y0:=zC q1 0;have y1:=zC q1 1;have y2:=zC q1 2;have y3:=zC q1 3;have y4:=zC q1 4;have y5:=zC q1 5;have y6:=zC q1 6;have y7:=zC q1 7;have y8:=zC q1 8;have y9:=zC q1 9;have y10:=zC q1 10;have y11:=zC q1 11;have y12:=zC q1 12;have y13:=zC q1 13;have y14:=zC q1 14;have y15:=zC q1 15;have y16:=zC q1 16;have y17:=zC q1 17;have y18:=zC q1 18;have y19:=zC q1 19;have y20:=zC q1 20;have y21:=zC q1 21;simp at y0 y1 y2 y3 y4 y5 y6 y7 y8 y9 y10 y11 y12 y13 y14 y15 y16 y17 y18 y19 y20 y21;have hld:=it_load q1 rfl;clear q1;obtain⟨ys,hyr,hyl,hyo,hyc⟩:=(HV.o.below b1).row;have HYR:=zH hyr;have HYC:=zH hyc;have CT:=zH (fun W (hb:zb w1 W)=>sclone_any (fun _=>True) type s.ty.1 s.ty.2 W (by omega) ((HT.o.below (b1.trans (hb.mono b1.size))).toP));have CT0:=zH (CT.o w1.drew (zB _ _).drew);have HTL:Hid ((type++value).length=type.length+value.length):=zH (by simp);have HLM:Hid (type.length+value.length<=maxLen/\(type.length+value.length)*56<=140737488355328):=zH ⟨by unfold maxLen;omega,by omega⟩;have HYL:=zH hyl;rw[HTL.o];clear hyr hyc CT hyl;go_enter Tryz.func47,Tryz.ntmps47;go_upto_region 1 with fail;clear hw1;go_region_law (first
  |(go_simp;go_at_call 98;refine CT0.o.mono ?_;rintro e w2⟨A2,c2,xs,rfl,ho2,hr2,b2'⟩;have b2:=((zB w1.heap.size w1).drew).trans b2';have t4:=(b2.cell (p:=⟨w.heap.size,4,none⟩) (lt_of_cell' y4)).trans y4;have t8:=(b2.cell (p:=⟨w.heap.size,8,none⟩) (lt_of_cell' y8)).trans y8;have t9:=(b2.cell (p:=⟨w.heap.size,9,none⟩) (lt_of_cell' y9)).trans y9;have s2:=b2.size)
  |(refine step_append_own_any _ (by rfl) _ _ 32 (by rfl) w1.heap.size 46 ir (.agg #[zI 0,S [],zI 0,zS]) 4 56 Tryz.underlying32 hri hrz0 hrz1 hrz2 rfl (by decide) _ _ _ (by rfl) ho2.o s.va.1 value.length s.va.2 ys (by rfl) HYL.o (HYC.o _ b2) hyo HLM.o.1 HLM.o.2 s2 ?_;intro v3 w3 hown3 hg3 hat3;obtain⟨A3,c3,rfl⟩:=own_form hown3))
 all_goals
  have b3:zb w1 w3:=b2.grown hg3 s2 (own_block_ge ho2.o);have HR3:Hid (TreesAt w3 A3 (type++value)):=zH (rowp_trees (by rw[HTL.o];exact hown3) (RowP.append (q:=fun _=>True) (HYR.o.keep (fun b hb hlt=>b3.block b hlt) b3.size (fun _ _ _=>trivial)) (hr2.o.keep (fun b hb _=>hg3.block b (by have:=b2.size;have:=hb.2;omega) (fun e=>by have:=own_block_ge ho2.o b e.symm;have:=hb.2;omega)) hg3.size (fun _ _ h=>trivial))));have u8:=(b3.cell (p:=⟨w.heap.size,8,none⟩) (lt_of_cell' y8)).trans y8;have u9:=(b3.cell (p:=⟨w.heap.size,9,none⟩) (lt_of_cell' y9)).trans y9;have CB:=zH (bclone_nil s.so.1 s.so.2 w3.drew);have s3:=b3.size;clear hown3 hg3 hat3 t4 t8 t9 ho2 hr2 b2;go_upto_region 2 with fail;go_region_law (first
   |(go_simp;go_at_call 99;refine CB.o.mono ?_;rintro e w4⟨A4,c4,rfl,ho4,b4'⟩;have b4:=((zB w3.heap.size w3).drew).trans b4';have t9:=(b4.cell (p:=⟨w.heap.size,9,none⟩) (lt_of_cell' u9)).trans u9;have s4:=b4.size)
   |(refine step_append_own_any _ (by rfl) _ _ 35 (by rfl) w3.heap.size 72 ib (.agg #[S [],zI 0,S [],zI 0,zS]) 5 72 Tryz.underlying35 hbi hbz0 hbz1 hbz2 rfl (by decide) _ _ _ (by rfl) ho4 s.pa.1 0 s.pa.2 [] (by rfl) rfl (fun h=>absurd rfl h) (by simp) (by decide) (by decide) s4 ?_;intro v5 w5 hown5 hg5 hat5;obtain⟨A5,c5,rfl⟩:=own_form hown5))
  all_goals
   have b5:zb w3 w5:=b4.grown hg5 s4 (own_block_ge ho4);have HR5:=zH (HR3.o.below b5);have HB5:=zH (b1.trans ((b3.trans (b5.mono s3)).mono b1.size));clear hown5 hg5 hat5 t9 ho4 b4;go_wp2_with fail;refine nrm ?_;go_loopw [3,19] (fun v i wr=>v=.slice A3 (type.length+value.length) c3/\i=zI 0/\wr=w5) (fun _ _ _=>0);case atStart=>exact⟨rfl,rfl,rfl⟩
   obtain⟨rfl,rfl,rfl⟩:=hrel;go_wp2_with fail;go_ret;exact⟨⟨A3,c3,rfl,HR5.o⟩,HB5.o⟩
theorem itRow_at:∀(l:List (Itm × IS))(k:Nat)(h:k<l.length)(j:Nat),j<22→(itRow l)[k*22+j]?=(itCells l[k].1 l[k].2)[j]?
 |[],k,h,j,_=>absurd h (by simp)
 |y :: r,0,h,j,hj=>by
  have:(itRow (y :: r))=(itCells y.1 y.2).toList++itRow r:=by simp[itRow]
  rw[this,List.getElem?_append_left (by simpa[itCells] using(by omega:0*22+j<22))];simp
 |y :: r,k+1,h,j,hj=>by
  have:(itRow (y :: r))=(itCells y.1 y.2).toList++itRow r:=by simp[itRow]
  rw[this,List.getElem?_append_right (by simp[itCells];omega)];have h22:(itCells y.1 y.2).toList.length=22:=rfl;rw[h22,show(k+1)*22+j-22=k*22+j by omega,itRow_at r k (by simpa using h) j hj];simp
theorem ItsV.below{w w':World}{A:Option Addr}{xs:List (Itm × IS)}(h:ItsV w A xs)(hb:Below w.heap.size w w'):ItsV w' A xs:=fun hne=>by
 obtain⟨b,o,hA,hlt,hc,hi⟩:=h hne;exact⟨b,o,hA,Zl hlt hb.size,fun j u hj=>(hb.cell (p:=⟨b,_,none⟩) hlt).trans (hc j u hj),fun y hy=>(hi y hy).below hb⟩
theorem wpList_it_new{ops:Array Oper}{rest:List Oper}{o:Oper}{a:Act}{w:World}{Q:Exit→Act→World→Prop}{x y:Operand}{z cs:Array Value}(ho:o.op=.store 42 x y)(hx:a.eval x=.pointer (some ⟨w.heap.size,0,none⟩))(hy:a.eval y=.agg cs)(hw:Region.wanted o (yielded ops a.tmps)=true)
  (hz:z.size=22) (hs:cs.size=22) (h1:cs.all (·.oneCell')=true) (h:wpList Tryz.prog ops Q rest (a.put o.dst undef) (w.alloc (.cells cs 42))):wpList Tryz.prog ops Q (o :: rest) a (w.alloc (.cells z 42)):=by
 refine wpList_step fun K hK=>?_;rw[if_pos hw];have hl:(Instr.storeAt 42 (.pointer (some ⟨w.heap.size,0,none⟩)) (.agg cs)).run Tryz.prog (w.alloc (.cells z 42))=.ok () (w.alloc (.cells cs 42)):=by
  simp only[Instr.storeAt,Instr.sureAddr,Sem.run_bind,Sem.run_pure,Result.andThen];rw[run_storeVar_row _ _ 42 42 z cs (zW w _) (by rw[hs];kernel_rfl) (by omega) h1,World.setRow_alloc_new]
 unfold Oper.wp execOp;simp only[ho,hx,hy,Sem.run_bind,Sem.run_pure,Result.andThen_ok,hl];exact hK _ _ h
theorem wellFormed_of(l:List (Itm × IS))(A:Option Addr)(c:Nat)(w:World)(hl:l.length<=1000000)(hA:ItsV w A l)(hsm:∀y∈l,y.1.Sm)
  (hF:∀y∈l,∀W,ItV W y.1 y.2->Calls Tryz.prog 46 #[.agg (itCells y.1 y.2)] W fun e w'=>e=.returned (.bool y.1.formedP)/\zb W w')
  (hT:∀y∈l,∀W,ItV W y.1 y.2->Calls Tryz.prog 47 #[.agg (itCells y.1 y.2)] W fun e w'=>(∃A c,e=.returned (.slice A y.1.trees.length c)/\TreesAt w' A y.1.trees)/\zb W w') :
  Calls Tryz.prog 26 #[.slice A l.length c] w fun e w'=>e=.returned (zI (wfItems (l.map Prod.fst)))/\zb w w':=by
 have HA:=zH hA;have HSM:=zH hsm;have HF:=zH hF;have HT:=zH hT;clear hA hsm hF hT;by_cases h512:512<l.length
 ·have hd:decide ((l.length:Int)>512)=true:=Zt (by omega);have HR:Hid (wfItems (l.map Prod.fst)=7):=zH (by unfold wfItems;rw[List.length_map,if_pos h512]);rw[HR.o];clear h512;go_enter Tryz.func26,Tryz.ntmps26;go_wp2_with fail;go_ret;exact⟨rfl,zB _ _⟩
 obtain⟨R,hR⟩:∃R,wfItems (l.map Prod.fst)=R:=⟨_,rfl⟩;have HR:Hid (wfIts [] (l.map Prod.fst)=R):=zH (by rw[<-hR];unfold wfItems;rw[List.length_map,if_neg h512]);rw[hR];have hd:decide ((l.length:Int)>512)=false:=Zu (by omega);clear hR;go_enter Tryz.func26,Tryz.ntmps26;go_wp2_with fail;go_loopw [3,15] (fun v i wr=>∃(k:Nat)(ops:List Lfc.Op)(B:Option Addr)(g:Nat),k<=l.length/\i=zI k/\v=.slice B ops.length g/\ops.length<=k/\Hid (OpsAt wr B ops)/\Hid (wfIts ops ((l.drop k).map Prod.fst)=R)/\zb w wr) (fun _ i _=>l.length-(intOf i).toNat);case atStart=>exact⟨0,[],none,0,by omega,rfl,rfl,by simp,zH ⟨fun x hx=>by simp at hx,fun h=>absurd rfl h⟩,zH (by simpa using HR.o),zB _ _⟩
 clear HR;obtain⟨k,ops,B,g,hk,rfl,rfl,hol,HO,HM,hbw⟩:=hrel;by_cases hlt:k<l.length
 ·have hmem:=Ze hlt;obtain⟨b,o,rfl,hb,hc,hi⟩:=HA.o (by intro e;rw[e] at hlt;simp at hlt);have hcell:∀j u,(itCells l[k].1 l[k].2)[j]?=some u->zc wr b (o+k*22+j) u:=fun j u hj=>by
   have hj22:j<22:=(Array.getElem?_eq_some_iff.1 hj).1;have h1:=hc (k*22+j) u (by rw[itRow_at l k hlt j hj22];exact hj);rw[<-Nat.add_assoc] at h1;exact(hbw.cell (p:=⟨b,_,none⟩) hb).trans h1
  have hld:=it_loadC hcell rfl;have hone:=itCells_one l[k].1 l[k].2;have HIT:=zH ((hi _ hmem).below hbw);have SM:=zH (HSM.o _ hmem);have HF1:=zH (HF.o _ hmem);have HT1:=zH (HT.o _ hmem);have hm:=HM.o;rw[List.drop_eq_getElem_cons hlt,List.map_cons,wfIts] at hm;clear hc hi hmem hcell;generalize hy:l[k]=y at *;clear hy;obtain⟨x,s⟩:=y;simp only at hld hone HIT SM HF1 HT1 hm;generalize hfp:x.formedP=p at *;generalize htr:x.trees=ts at *;have htl:ts.length<=1000000:=by
   rw[<-htr];have h1:=SM.o.ty;have h2:=SM.o.va;have h3:=SM.o.so;have h4:=SM.o.pa;simp only[Itm.trees,Zq,List.length_map];omega
  have HTS:Hid (∀t∈ts,t.size<=1000000):=zH (by rw[<-htr];exact SM.o.trs);obtain⟨kind,pos,name,type,value,⟨on,of,op⟩,som,params,blocks,fams,signs,orders,⟨lk,la,lp⟩,⟨rk,ra,rp⟩,rel,count⟩:=x;simp only[itCells,Lfc.Ord.k,Lfc.Ord.a,Lfc.Ord.ps] at hld hone hm HF1 HT1;have hon:=HIT.o.opn;simp only at hon;have HON:=zH hone;obtain⟨w5,hw5⟩:∃w5,wr.alloc (.cells #[zI kind,zI (pos:Int),S name,.slice s.ty.1 type.length s.ty.2,.slice s.va.1 value.length s.va.2,S on,zI of,zI op,.slice s.so.1 som.length s.so.2,.slice s.pa.1 params.length s.pa.2,.slice s.bl.1 blocks.length s.bl.2,.slice s.fa.1 fams.length s.fa.2,.slice s.si.1 signs.length s.si.2,.slice s.od.1 orders.length s.od.2,zI lk,zI la,.slice s.le.1 lp.length s.le.2,zI rk,zI ra,.slice s.ri.1 rp.length s.ri.2,zI rel,zI count] 42)=w5:=⟨_,rfl⟩;have b5:=zG hw5;have q5:=zQ hw5;have HQ5:=zH q5;have CF:=zH (HF1.o w5 (HIT.o.below b5));have HM:=zH hm;clear hfp htr HF1 hm q5 hone;have hi0:=zP k;have hi1:(k:Int)<(l.length:Int):=by omega
  go_upto_region 6 with fail;go_upto_region 7 with(first | (refine wpList_it (by rfl) (by rfl) (by rfl) hld ?_) | (refine wpList_it_new (by rfl) (by rfl) (by rfl) (by rfl) (by rfl) (by rfl) HON.o ?_;rw[hw5]));clear hld hw5;have hld:=it_load HQ5.o rfl;cases p
  ·have HR1:Hid (1=R):=zH (by have:=HM.o;rwa[if_pos rfl] at this)
   as_aux_lemma =>
    go_wp2_with (first | (refine wpList_it (by rfl) (by rfl) (by rfl) hld ?_) | (go_at_call 46;refine CF.o.mono ?_;rintro e w6⟨rfl,b6⟩));go_ret;exact⟨ret_int HR1.o,hbw.trans ((b5.trans (b6.mono b5.size)).mono hbw.size)⟩
  as_aux_lemma =>
   go_upto_region 9 with(first | (refine wpList_it (by rfl) (by rfl) (by rfl) hld ?_) | (go_at_call 46;refine CF.o.mono ?_;rintro e w6⟨rfl,b6⟩));clear hld;have b56:=b5.trans (b6.mono b5.size);have HQ6:=zH ((b6.block _ (zL HQ5.o)).trans HQ5.o);have HM:=zH (show(if wfTs ts≠0 then wfTs ts else if kind=3 then(if (added ops ⟨on,of,op⟩).2≠0 then(added ops ⟨on,of,op⟩).2 else wfIts (added ops ⟨on,of,op⟩).1 ((l.drop (k+1)).map Prod.fst)) else wfIts ops ((l.drop (k+1)).map Prod.fst))=R by have:=HM.o;rwa[if_neg (by simp)] at this);have CT:=zH (HT1.o w6 (HIT.o.below b56));have hld:=it_load HQ6.o rfl;clear HT1 CF HQ5;go_upto_block 10 with(first | (refine wpList_it (by rfl) (by rfl) (by rfl) hld ?_) | (go_at_call 47;refine CT.o.mono ?_;rintro e w7⟨⟨A7,c7,rfl,ht7⟩,b7⟩));have b57:=b56.trans (b7.mono b56.size);have HQ7:=zH ((b7.block _ (zL HQ6.o)).trans HQ6.o);have HT7:=zH ht7;clear ht7 CT HQ6 hld;go_loopw [25] (fun i wr=>∃j:Nat,j<=ts.length/\i=zI j/\Hid (wfTs (ts.drop j)=wfTs ts)/\zb w7 wr) (fun i _=>ts.length-(intOf i).toNat);case atStart=>exact⟨0,by omega,rfl,zH (by simp),zB _ _⟩
   obtain⟨j,hj,rfl,HJ,hbq⟩:=hrel;by_cases hjt:j<ts.length
   ·obtain⟨b2,o2,tk,tn,tp,us,D,gg,rfl,hb2,htn,e0,e1,e2,e3,_,_,hTV⟩:=(HT7.o.below hbq).at_ hjt;have hsz:=HTS.o _ (Ze hjt);have HJ2:=HJ.o;rw[List.drop_eq_getElem_cons hjt,wfTs] at HJ2;have hj0:=zP j;have hj1:(j:Int)<(ts.length:Int):=(by omega);obtain⟨w8,hw8⟩:∃w8,wr.alloc (.cells (zT tk tn tp D us gg) 46)=w8:=⟨_,rfl⟩;have b8:=zG hw8;have q8:=zQ hw8;have CW:=zH (wf_any ts[j] _ w8 (by omega) (hTV.below b8));have z0:=zC q8 0;have z1:=zC q8 1;have z2:=zC q8 2;have z3:=zC q8 3;simp at z0 z1 z2 z3;generalize htw:ts[j].wf=f at *;have HJ2:=zH HJ2;have B8:=zH (hbq.trans (b8.mono hbq.size));clear hTV htn htw q8 b8;by_cases hf:f=0
    ·subst hf;have HN:Hid (wfTs (ts.drop (j+1))=wfTs ts):=zH (by have:=HJ2.o;rwa[if_neg (by simp)] at this)
     as_aux_lemma =>
      go_upto_region 12 with fail;clear hw8 e0 e1 e2 e3;go_wp2_with (go_at_call 48;refine CW.o.mono ?_;rintro e w9⟨rfl,b9⟩);go_roundw;case rel=>exact⟨j+1,by omega,by go_num,HN,B8.o.trans (b9.mono B8.o.size)⟩
      case measure=>simp[intOf];omega
    have hf2:(f != 0)=true:=(by simpa using hf);have HFR:Hid (f=R):=zH (by
     have h1:=HJ2.o;rw[if_pos hf] at h1;have h2:=HM.o;rw[<-h1,if_pos hf] at h2;exact h2)
    clear hf
    as_aux_lemma =>
     go_upto_region 12 with fail;clear hw8 e0 e1 e2 e3;go_wp2_with (go_at_call 48;refine CW.o.mono ?_;rintro e w9⟨rfl,b9⟩);go_ret;exact⟨ret_int HFR.o,hbw.trans ((b57.trans ((B8.o.trans (b9.mono B8.o.size)).mono b57.size)).mono hbw.size)⟩
   have HTZ:Hid (wfTs ts=0):=zH (by have:=HJ.o;rw[List.drop_of_length_le (by omega)] at this;rw[<-this];rfl);have HM2:Hid ((if kind=3 then(if (added ops ⟨on,of,op⟩).2≠0 then(added ops ⟨on,of,op⟩).2 else wfIts (added ops ⟨on,of,op⟩).1 ((l.drop (k+1)).map Prod.fst)) else wfIts ops ((l.drop (k+1)).map Prod.fst))=R):=zH (by have:=HM.o;rwa[if_neg (by rw[HTZ.o];simp)] at this);have hq7:=(hbq.block _ (zL HQ7.o)).trans HQ7.o;have y0:=zC hq7 0;have y5:=zC hq7 5;have y6:=zC hq7 6;have y7:=zC hq7 7;simp at y0 y5 y6 y7;have bq:=b57.trans (hbq.mono b57.size);clear hq7 HTZ HM HJ;by_cases h3:kind=3
   ·subst h3;have HM3:=HM2.o;rw[if_pos rfl] at HM3;have CA:=zH (opAdd_any ops ⟨on,of,op⟩ B g wr (by omega) hon (HO.o.below bq));unfold opV AddPost at CA;have HLA:=added_len ops ⟨on,of,op⟩;generalize added ops ⟨on,of,op⟩=z at *;obtain⟨zo,ze⟩:=z;simp only at CA HM3 HLA;have HM3:=zH HM3;by_cases hz:ze=0
    ·subst hz;have HN:=zH (show wfIts zo ((l.drop (k+1)).map Prod.fst)=R by have:=HM3.o;rwa[if_neg (by simp)] at this)
     as_aux_lemma =>
      go_wp2_with (go_at_call 49;refine CA.o.mono ?_;rintro e w9⟨⟨A9,c9,rfl,ho9⟩,b9⟩);go_roundw;case rel=>exact⟨k+1,zo,A9,c9,by omega,by go_num,rfl,by omega,zH ho9,HN,hbw.trans ((bq.trans (b9.mono bq.size)).mono hbw.size)⟩
      case measure=>simp[intOf];omega
    have hz2:(ze != 0)=true:=(by simpa using hz);have HZR:Hid (ze=R):=zH (by have:=HM3.o;rwa[if_pos hz] at this);clear hz
    as_aux_lemma =>
     go_wp2_with (go_at_call 49;refine CA.o.mono ?_;rintro e w9⟨⟨A9,c9,rfl,ho9⟩,b9⟩);go_ret;exact⟨ret_int HZR.o,hbw.trans ((bq.trans (b9.mono bq.size)).mono hbw.size)⟩
   have h32:(kind == 3)=false:=(by simpa using h3);have HN:=zH (show wfIts ops ((l.drop (k+1)).map Prod.fst)=R by have:=HM2.o;rwa[if_neg h3] at this);clear h3
   as_aux_lemma =>
    go_wp2_with fail;go_roundw;case rel=>exact⟨k+1,ops,B,g,by omega,by go_num,rfl,by omega,zH (HO.o.below bq),HN,hbw.trans (bq.mono hbw.size)⟩
    case measure=>simp[intOf];omega
 have HZ:Hid (0=R):=zH (by have:=HM.o;rw[List.drop_of_length_le (by omega)] at this;rw[<-this];rfl);go_wp2_with fail;go_ret;exact⟨ret_int HZ.o,hbw⟩
end Go.Proofs.YthajalgkjonaaaaGreatDoor
