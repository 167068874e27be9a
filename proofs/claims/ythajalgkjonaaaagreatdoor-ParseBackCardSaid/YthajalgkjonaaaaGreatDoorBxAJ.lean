/- Parts of the proof that no input makes the law false: OpTop, PaExpr, RegTk, PaPar. -/
import Derived.OrdersHeld
import Derived.Test.YthajalgkjonaaaaGreatDoorBxAI
set_option linter.unusedVariables false
set_option linter.unusedSimpArgs false
set_option maxRecDepth 100000
set_option maxHeartbeats 32000000
namespace Lfc
theorem wsum_mem(s:List Opd)(x:Opd)(h:x∈s):x.tree.size+2≤wsum s:=by
 induction s with
 |nil=>cases h
 |cons a r ih =>
  rw[wsum];rcases List.mem_cons.1 h with rfl | h
  ·omega
  have:=ih h;omega
def resTail(l:List Op)(s:List Opd):Raw × Int :=
 if s.length=1 then(if (s.getD 0 opdZ).arrow then(rawZ,21) else((s.getD 0 opdZ).tree,0))
 else match resP l s.length s with
  |.error e=>(rawZ,e)
  |.ok t=>if t.wf=0 then(t,0) else(rawZ,2)
theorem resolved_tail(l:List Op)(s:List Opd):resolved l s=if l.any (fun o=>decide (o.bad≠0)) then(rawZ,1) else if s.any (fun x=>!x.arrow && decide (x.tree.wf=1)) then(rawZ,1) else if s.any (fun x=>!x.arrow && decide (x.tree.wf=2)) then(rawZ,2) else resTail l s:=rfl
end Lfc
namespace Go.Proofs.YthajalgkjonaaaaGreatDoor
section
open Go.RowKit Go.Maps Go.WideMaps _root_.Lfc
structure TopI(w:World)(R Rb Mb:Nat)(g:List UInt8→Option Lfc.Op)(n:Nat)(wr:World):Prop where
 bel:Below w.heap.size w wr
 res:wr.heap[R]?=some (.cells #[.int .i64 0,S [],.int .i64 0,.slice none 0 0] 46 (0,0))
 rs:wr.heap[Rb]?=some (.cells #[.map (some Mb),.int .i64 0] 174 (0,0))
 map:OpMap wr Mb n g
theorem TopI.new{w wr w':World}{R Rb Mb n:Nat}{g:List UInt8→Option Lfc.Op}(h:TopI w R Rb Mb g n wr)(hb:Below wr.heap.size wr w'):TopI w R Rb Mb g n w' :=
 ⟨h.bel.trans (hb.mono h.bel.size),(hb.block _ (zL h.res)).trans h.res,(hb.block _ (zL h.rs)).trans h.rs,h.map.kept (zE (T:=w'.heap.size+wr.heap.size+Mb+1) hb) (fun e=>by have:=zO e;omega)⟩
theorem treeV_nil0(w:World)(k p:Int)(n:List UInt8)(hn:n.length≤1000000):TreeV w (.node k n p []) (.agg #[.int .i64 k,S n,.int .i64 p,.slice none 0 0]) :=
 TreeV.mk (ts:=[]) hn (zN _) (fun h=>absurd rfl h)
theorem resolve_bad(q:Nat->Prop)(l:List Lfc.Op)(s:List Opd)(Al As:Option Addr)(cl cs:Nat)(w:World)(hll:l.length<=1000000)(hl:OpsAt w Al l)(hbad:l.any (fun o=>decide (o.bad≠0))=true) :
  Calls Tryz.prog 65 #[.slice Al l.length cl,.slice As s.length cs] w fun e w'=>(∃v,e=.returned (.tuple #[v,zI (resolved l s).2])/\TreeVP q w' (resolved l s).1 v)/\zb w w':=by
 have HRES:Hid (resolved l s=(rawZ,1)):=zH (if_pos hbad);have he:=enters_res1;obtain⟨wa,hwa⟩:∃wa,w.alloc (.cells #[zI 0,S [],zI 0,zS] 46)=wa:=⟨_,rfl⟩;have ba:=zG hwa;have qr:=zQ hwa;have C1:=zH (contains_res1 l Al cl wa (by omega) (hl.below ba));rw[hbad] at C1;have BA:=zH ba;have QR:=zH qr;clear hl ba qr hbad;go_enter Tryz.func65,Tryz.ntmps65;go_upto_region 1 with fail;clear hwa;go_wp2_with fail;refine C1.o.mono ?_;rintro e w1⟨rfl,b1⟩;have bw:=BA.o.trans (b1.mono BA.o.size);have qr1:=(b1.block _ (zL QR.o)).trans QR.o;obtain⟨s1,s2,s3,s4,g1,g2,g3,g4,⟨y0,y1,y2,y3⟩,⟨f0,f1,f2,f3⟩,hq,ho⟩:=put4 qr1 (zI 0) (S []) (zI 0) zS;have HO4:=zH ho;have HB:=zH (Oth.below bw ho (zN _) bw.size);have HQ:=zH hq;clear hq ho;clear qr1 b1 bw;go_wp2_with fail;refine Zb (results_raw2 rfl _ _ _ _ _ _ _ rfl HQ.o) ?_;rw[HRES.o];exact⟨⟨_,rfl,(treeV_nil0 _ _ _ _ (by simp)).leafP⟩,HB.o⟩
theorem cells2{W:World}{g:Nat}{v0 v1:Value}{t:TypeId}(h:W.heap[g]?=some (.cells #[v0,v1] t (0,0))):W.cell? ⟨g,0,none⟩=some v0∧W.cell? ⟨g,1,none⟩=some v1 :=
 ⟨zC h 0,zC h 1⟩
theorem resolve_gen(F:Prop)(l:List Lfc.Op)(s:List Opd)(Al As:Option Addr)(cl cs:Nat)(w:World)(hll:l.length<=1000000)(hsl:s.length<=1000000)(hcs:s.length<=cs)(hws:wsum s<=100000000)(hl:OpsAt w Al l)(hs:OpdsAt w As s)(hF:∀x∈s,x.closed=false->x.tree.kind=1->x.tree.args=[]\/F) :
  Calls Tryz.prog 65 #[.slice Al l.length cl,.slice As s.length cs] w fun e w'=>(∃v,e=.returned (.tuple #[v,zI (resolved l s).2])/\TreeVP (fun b=>(b<w.heap.size/\F)\/w.heap.size<=b) w' (resolved l s).1 v)/\zb w w':=by
 by_cases hbad:l.any (fun o=>decide (o.bad≠0))=true
 ·exact resolve_bad _ l s Al As cl cs w hll hl hbad
 have hbadf:l.any (fun o=>decide (o.bad≠0))=false:=by simpa using hbad
 have he:=enters_res1;have he2:=enters_res2;obtain⟨wa,hwa⟩:∃wa,w.alloc (.cells #[zI 0,S [],zI 0,zS] 46)=wa:=⟨_,rfl⟩;have ba:=zG hwa;have qr:=zQ hwa;have C1:=zH (contains_res1 l Al cl wa (by omega) (hl.below ba));rw[hbadf] at C1;obtain⟨a1,HA1⟩:∃a1,Hid (s.any (fun x=>!x.arrow && decide (x.tree.wf=1))=a1):=⟨_,zH rfl⟩;obtain⟨a2,HA2⟩:∃a2,Hid (s.any (fun x=>!x.arrow && decide (x.tree.wf=2))=a2):=⟨_,zH rfl⟩;have HR:Hid (resolved l s=if a1=true then(rawZ,1) else if a2=true then(rawZ,2) else resTail l s):=zH (by
  rw[resolved_tail,if_neg hbad,HA1.o,HA2.o])
 have BA:=zH ba;have QR:=zH qr;have HL:=zH hl;have HS:=zH hs;have HSM:Hid (∀x∈s,x.tree.size<=100000000):=zH (fun x hx=>by have:=wsum_mem s x hx;omega);have HSF:Hid (Small F s):=zH (fun x hx=>⟨by have:=wsum_mem s x hx;omega,hF x hx⟩);have hsa:=eq2 (show wa.heap.size=w.heap.size+1 by rw[<-hwa];simp);clear hl hs ba qr hbad hbadf hF;go_enter Tryz.func65,Tryz.ntmps65;go_upto_region 1 with fail;clear hwa;go_wp2_with fail;refine C1.o.mono ?_;rintro e w1⟨rfl,b1⟩;have hs1:=b1.size;obtain⟨w2,hw2⟩:∃w2,w1.alloc (.cells #[zI 1,zI 2] 27)=w2:=⟨_,rfl⟩;have b2:=zG hw2;have q2:=zQ hw2;have bw2:zb w w2:=BA.o.trans ((b1.trans (b2.mono hs1)).mono BA.o.size);have B2:=zH bw2;have Q2:=zH q2;have QR2:=zH (((b1.trans (b2.mono hs1)).block _ (zL QR.o)).trans QR.o);have HS2:=zH (HS.o.below bw2);have HV:Hid (w.heap.size<w2.heap.size):=zH (by have:=b2.size;omega);have hw2s:=b2.size;clear b1 b2 q2 bw2 C1;go_upto_region 4 with fail;clear hw2;go_wp2_with fail;go_loopw [20] (fun i wr=>∃j:Nat,j<=2/\i=zI j/\zb w2 wr/\(1<=j->a1=false)/\(2<=j->a2=false)) (fun i _=>2-(intOf i).toNat);case atStart=>exact⟨0,by omega,rfl,zB _ _,fun h=>by omega,fun h=>by omega⟩
 obtain⟨j,hj,rfl,hbw,h1,h2⟩:=hrel;rcases(show j=0\/j=1\/j=2 by omega) with rfl | rfl | rfl
 ·clear h1 h2;have hce:zc wr w1.heap.size 0 (zI 1):=(cells2 ((hbw.block _ (zL Q2.o)).trans Q2.o)).1;obtain⟨w3,hw3⟩:∃w3,wr.alloc (.cells #[zI 1] 27)=w3:=⟨_,rfl⟩;have b3:=zG hw3;have q3:=zQ hw3;have b23:zb w2 w3:=hbw.trans (b3.mono hbw.size);have CC:=zH (contains_res2 s As cs w3 wr.heap.size 1 (by omega) (HS2.o.below b23) (cell_of_one q3) (zL q3) HSM.o);rw[HA1.o] at CC;have HW3:=zH hw3;have B23:=zH b23;have h3lt:=zL q3;have Q3:=zH q3;clear hw3 b3 q3 b23;cases a1
  ·go_upto_region 6 with fail;rw[HW3.o];go_wp2_with fail;refine CC.o.mono ?_;rintro e w4⟨rfl,b4⟩;have b24:=B23.o.trans (b4.mono B23.o.size);clear b4;go_wp2_with fail;go_roundw;case rel=>exact⟨1,by omega,by rfl,b24,by first | exact fun _=>rfl | simp,by first | exact fun h=>by omega | simp⟩
   case measure=>simp[intOf]
  have HRES:Hid (resolved l s=(rawZ,1)):=zH (by
   have e:=HR.o;rw[if_pos rfl] at e;exact e)
  go_upto_region 6 with fail;rw[HW3.o];go_wp2_with fail;refine CC.o.mono ?_;rintro e w4⟨rfl,b4⟩;have b24:=B23.o.trans (b4.mono B23.o.size);have q4:=(b4.block _ h3lt).trans Q3.o;have x4:=cell_of_one q4;have bw:=B2.o.trans (b24.mono B2.o.size);have qr4:=(b24.block _ (zL QR2.o)).trans QR2.o;obtain⟨s1,s2,s3,s4,g1,g2,g3,g4,⟨y0,y1,y2,y3⟩,⟨f0,f1,f2,f3⟩,hq,ho⟩:=put4 (W:=w4.drew) qr4 (zI 0) (S []) (zI 0) zS;have HO4:=zH ho;have HB:=zH (Oth.below bw.drew ho (zN _) bw.size);have HQ:=zH hq;clear hq ho;have xs4:s4.cell? ⟨wr.heap.size,0,none⟩=some (zI 1):=by
   have hlt4:=zL q4;have hne:wr.heap.size≠w.heap.size:=(by have:=HV.o;have:=hbw.size;omega);exact cell_of_one ((HO4.o.heap (w:=w4.drew) q4 hne))
  clear b4 b24 q4 bw qr4;go_wp2_with fail;go_region_held3 (fun W=>W.cell? ⟨wr.heap.size,0,none⟩=some (zI 1))
   (first | exact x4 | exact xs4)
   (fail)
  all_goals
   go_wp2_with fail;refine Zb (results_raw2 rfl _ _ _ _ _ _ _ rfl HQ.o) ?_;rw[HRES.o];exact⟨⟨_,rfl,(treeV_nil0 _ _ _ _ (by simp)).leafP⟩,HB.o⟩
 ·clear h2;have h1':=h1 (by omega);have hce:zc wr w1.heap.size 1 (zI 2):=(cells2 ((hbw.block _ (zL Q2.o)).trans Q2.o)).2;obtain⟨w3,hw3⟩:∃w3,wr.alloc (.cells #[zI 2] 27)=w3:=⟨_,rfl⟩;have b3:=zG hw3;have q3:=zQ hw3;have b23:zb w2 w3:=hbw.trans (b3.mono hbw.size);have CC:=zH (contains_res2 s As cs w3 wr.heap.size 2 (by omega) (HS2.o.below b23) (cell_of_one q3) (zL q3) HSM.o);rw[HA2.o] at CC;have HW3:=zH hw3;have B23:=zH b23;have h3lt:=zL q3;have Q3:=zH q3;clear hw3 b3 q3 b23;cases a2
  ·go_upto_region 6 with fail;rw[HW3.o];go_wp2_with fail;refine CC.o.mono ?_;rintro e w4⟨rfl,b4⟩;have b24:=B23.o.trans (b4.mono B23.o.size);clear b4;go_wp2_with fail;go_roundw;case rel=>exact⟨2,by omega,by rfl,b24,fun _=>h1',by first | exact fun _=>rfl | simp⟩
   case measure=>simp[intOf]
  have HRES:Hid (resolved l s=(rawZ,2)):=zH (by
   have e:=HR.o;rw[h1 (by omega),if_neg (by simp),if_pos rfl] at e;exact e)
  go_upto_region 6 with fail;rw[HW3.o];go_wp2_with fail;refine CC.o.mono ?_;rintro e w4⟨rfl,b4⟩;have b24:=B23.o.trans (b4.mono B23.o.size);have q4:=(b4.block _ h3lt).trans Q3.o;have x4:=cell_of_one q4;have bw:=B2.o.trans (b24.mono B2.o.size);have qr4:=(b24.block _ (zL QR2.o)).trans QR2.o;obtain⟨s1,s2,s3,s4,g1,g2,g3,g4,⟨y0,y1,y2,y3⟩,⟨f0,f1,f2,f3⟩,hq,ho⟩:=put4 (W:=w4.drew) qr4 (zI 0) (S []) (zI 0) zS;have HO4:=zH ho;have HB:=zH (Oth.below bw.drew ho (zN _) bw.size);have HQ:=zH hq;clear hq ho;have xs4:s4.cell? ⟨wr.heap.size,0,none⟩=some (zI 2):=by
   have hlt4:=zL q4;have hne:wr.heap.size≠w.heap.size:=(by have:=HV.o;have:=hbw.size;omega);exact cell_of_one ((HO4.o.heap (w:=w4.drew) q4 hne))
  clear b4 b24 q4 bw qr4;go_wp2_with fail;go_region_held3 (fun W=>W.cell? ⟨wr.heap.size,0,none⟩=some (zI 2))
   (first | exact x4 | exact xs4)
   (fail)
  all_goals
   go_wp2_with fail;refine Zb (results_raw2 rfl _ _ _ _ _ _ _ rfl HQ.o) ?_;rw[HRES.o];exact⟨⟨_,rfl,(treeV_nil0 _ _ _ _ (by simp)).leafP⟩,HB.o⟩
 have HT:Hid (resolved l s=resTail l s):=zH (by
  have e:=HR.o;rw[h1 (by omega),h2 (by omega),if_neg (by simp),if_neg (by simp)] at e;exact e)
 have BW:=zH (B2.o.trans (hbw.mono B2.o.size));have QRr:=zH ((hbw.block _ (zL QR2.o)).trans QR2.o);clear h1 h2 HR HA1 HA2 HS2 Q2 QR2 hbw hj;by_cases hone:s.length=1
 ·have hpos0:0<s.length:=by omega
  have hone2:((s.length:Int) == 1)=true:=by simp[hone]
  have H1:=zH hone;have hsl2:s.length<=1:=by omega
  clear hone;obtain⟨bs,os,kk,nn,pp,tt,BB,cc,hAs,hbs,hnd,e0,e1,e2,e3,e4,hTT⟩:=HS.o.at_ (i:=0) (by omega);simp only[Nat.zero_mul,Nat.add_zero] at e0 e1 e2 e3 e4;subst hAs;have cc0:∀W,zb w W->zc W bs os (zI kk)/\zc W bs (os+1) (S nn)/\zc W bs (os+2) (zI pp)/\zc W bs (os+3) (.slice BB tt.length cc)/\zc W bs (os+4) (.bool s[0].closed):=fun W hb=>⟨(hb.cell (p:=⟨bs,_,none⟩) hbs).trans e0,(hb.cell (p:=⟨bs,_,none⟩) hbs).trans e1,(hb.cell (p:=⟨bs,_,none⟩) hbs).trans e2,(hb.cell (p:=⟨bs,_,none⟩) hbs).trans e3,(hb.cell (p:=⟨bs,_,none⟩) hbs).trans e4⟩;have hszt:=HSM.o s[0] (Ze _);have hargs:s[0].tree.args.length<=1000000000:=by
   have h1:s[0].tree.args=tt:=(by rw[hnd];rfl);have h2:=Raw.sizes_len tt;rw[hnd] at hszt;simp only[Raw.size] at hszt;rw[h1];omega
  have CA:=zH (arrow_any s[0] _ wr hargs ⟨kk,nn,pp,tt,BB,cc,hnd,rfl,hTT.below BW.o⟩);have CC:=zH (fun W (hb:zb w W)=>clone_weak (fun b=>b<w.heap.size/\F) 100000000 (zN _) s[0].tree (.agg (zT kk nn pp BB tt cc)) W (fun b=>b<w.heap.size/\True) hszt (by
   rw[hnd];obtain⟨v0,v1,v2,v3,ev,hp⟩:=TreeV.toF (F:=True) (.inr trivial) hTT;exact⟨v0,v1,v2,v3,ev,TreeP.keep (fun b hq _=>hb.block b hq.1) hb.size (fun _ _ h=>h) _ _ _ _ _ hp⟩))
  have HG:Hid (s.getD 0 opdZ=s[0]):=zH (by simp[show 0<s.length by omega]);have FC:=zH cc0;obtain⟨x0,x1,x2,x3,x4⟩:=cc0 wr BW.o;have hpi:(0:Int)<(s.length:Int):=by omega
  generalize hcl:s[0].closed=cl' at *;generalize har:s[0].arrow=ar at *;clear e0 e1 e2 e3 e4 hTT hnd cc0 hcl hargs;cases ar
  ·have HRES:Hid (resolved l s=(s[0].tree,0)):=zH (by rw[HT.o];unfold resTail;rw[if_pos H1.o,HG.o,har];rfl);clear har;go_wp2_with fail;refine CA.o.mono ?_;rintro e w4⟨rfl,b4⟩;have bw4:=BW.o.trans (b4.mono BW.o.size);have CC4:=zH (CC.o w4 bw4);have BW4:=zH bw4;have qr4:=zH ((b4.block _ (zL QRr.o)).trans QRr.o);clear x0 x1 x2 x3 x4;obtain⟨x0,x1,x2,x3,x4⟩:=FC.o w4 bw4;clear b4 bw4;go_wp2_with fail;refine CC4.o.mono ?_;rintro e w5⟨⟨v5,rfl,hv5⟩,b5⟩;obtain⟨k5,n5,p5,us5,A5,c5,e5,rfl,tp5⟩:=hv5.parts4;have bw5:=BW4.o.trans (b5.mono BW4.o.size);have qr5:=(b5.block _ (zL qr4.o)).trans qr4.o;have hz4:w.heap.size<w4.heap.size:=zL qr4.o;obtain⟨s1,s2,s3,s4,g1,g2,g3,g4,⟨y0,y1,y2,y3⟩,⟨f0,f1,f2,f3⟩,hq,ho⟩:=put4 qr5 (zI k5) (S n5) (zI p5) (.slice A5 us5.length c5);have HO4:=zH ho;have HB:=zH (Oth.below bw5 ho (zN _) bw5.size);have HQ:=zH hq;clear hq ho;have TP5:=zH tp5;clear tp5 hv5 b5 bw5 qr5 e5;go_wp2_with fail;refine Zb (results_raw2 rfl _ _ _ _ _ _ _ rfl HQ.o) ?_;rw[HRES.o];refine⟨⟨_,rfl,⟨_,_,_,_,rfl,?_⟩⟩,HB.o⟩;exact TreeP.keep (fun b hb hlt=>HO4.o.block b hlt (fun e=>by have:=zO e;rcases hb with hb | hb <;> omega)) HO4.o.size (fun b _ hb=>by rcases hb with hb | hb;exact .inl hb;exact .inr (by omega)) _ _ _ _ _ TP5.o
  have HRES:Hid (resolved l s=(rawZ,21)):=zH (by rw[HT.o];unfold resTail;rw[if_pos H1.o,HG.o,har];rfl);clear har;go_wp2_with fail;refine CA.o.mono ?_;rintro e w4⟨rfl,b4⟩;have bw4:=BW.o.trans (b4.mono BW.o.size);have qr4:=(b4.block _ (zL QRr.o)).trans QRr.o;obtain⟨s1,s2,s3,s4,g1,g2,g3,g4,⟨y0,y1,y2,y3⟩,⟨f0,f1,f2,f3⟩,hq,ho⟩:=put4 qr4 (zI 0) (S []) (zI 0) zS;have HO4:=zH ho;have HB:=zH (Oth.below bw4 ho (zN _) bw4.size);have HQ:=zH hq;clear hq ho;clear bw4 qr4 b4 x0 x1 x2 x3 x4;go_wp2_with fail;refine Zb (results_raw2 rfl _ _ _ _ _ _ _ rfl HQ.o) ?_;rw[HRES.o];exact⟨⟨_,rfl,(treeV_nil0 _ _ _ _ (by simp)).leafP⟩,HB.o⟩
 have hone2:((s.length:Int) == 1)=false:=by simpa using(by omega:¬(s.length:Int)=1)
 have HT2:Hid (resolved l s=match resP l s.length s with | .error e=>(rawZ,e) | .ok t=>if t.wf=0 then(t,0) else(rawZ,2)):=zH (by rw[HT.o];unfold resTail;rw[if_neg hone]);have hRlt:w.heap.size<wr.heap.size:=zL QRr.o;obtain⟨m2,hp1,M1,o1⟩:=(OpMap.made wr).put (by omega) arrR (by simp[arrR]) ⟨[],5,-1⟩;obtain⟨m3,hp2,M2,o2⟩:=M1.put (by omega) arrL (by simp[arrL]) ⟨[],4,-1⟩;have hp1':(Instr.mapUpdate 172 (.map (some wr.heap.size)) (.string ⟨#[45,62]⟩) (.agg #[.string ⟨#[]⟩,zI 5,zI (-1)])).run Tryz.prog (wr.alloc (.map #[] 0))=.ok () m2:=hp1;have hp2':(Instr.mapUpdate 172 (.map (some wr.heap.size)) (.string ⟨#[60,45]⟩) (.agg #[.string ⟨#[]⟩,zI 4,zI (-1)])).run Tryz.prog m2=.ok () m3:=hp2;have hmk:∀W:World,(Instr.makeMap 172 none).run Tryz.prog W=.ok (.map (some W.heap.size)) (W.alloc (.map #[] 0)):=fun W=>rfl;have h12:=o1.size;have h23:=o2.size;have hm1s:(wr.alloc (.map #[] 0)).heap.size=wr.heap.size+1:=by simp
 have k3:∀b,b<wr.heap.size->m3.heap[b]?=wr.heap[b]?:=fun b hb=>by
  rw[o2.block b (by omega) (fun e=>by have:=zO e;omega),o1.block b (by omega) (fun e=>by have:=zO e;omega)];exact zA wr _ b hb
 have b3:zb w m3:=⟨(o2.os.trans o1.os).trans BW.o.os,(o2.tape.trans o1.tape).trans BW.o.tape,(o2.output.trans o1.output).trans BW.o.output,by have:=BW.o.size;omega,fun b hb=>(k3 b (by omega)).trans (BW.o.block b hb)⟩;obtain⟨m4,hm4⟩:∃m4,m3.alloc (.cells #[.map (some wr.heap.size),zI 0] 174)=m4:=⟨_,rfl⟩;have b4:=zG hm4;have q4:=zQ hm4;have I0:Hid (TopI w w.heap.size m3.heap.size wr.heap.size (Lfc.look (l.take 0)) 2 m4):=by
  refine zH ⟨b3.trans (b4.mono b3.size),(b4.block _ (by omega)).trans ((k3 _ hRlt).trans QRr.o),q4,?_⟩;refine((M2.kept (zE (T:=m3.heap.size) b4) (fun e=>by have:=zO e;omega)).congr fun n=>?_);unfold Lfc.look;by_cases h1:n=arrR
  ·have h2:¬n=arrL:=(by rw[h1];decide);simp[h1,h2];intro h3;exact absurd h3 (by decide)
  by_cases h2:n=arrL
  ·simp[h1,h2];intro h3;exact absurd h3 (by decide)
  simp[h1,h2]
 have HM4:=zH hm4;have hMR:wr.heap.size<m3.heap.size:=by omega
 have hws2:w.heap.size<=m3.heap.size:=by omega
 clear hp1 hp2 M1 M2 o1 o2 h12 h23 hm1s k3 b3 b4 q4 hm4 hone;go_upto_region 14 with fail;rw[HM4.o];clear hp1' hp2' hmk;generalize m3.heap.size=Rb at *;generalize hMb:wr.heap.size=Mb at *;clear hMb HM4;go_wp2_with fail;go_loopw [50] (fun i wr=>∃j N:Nat,j<=l.length/\i=zI j/\N<=j+2/\Hid (TopI w w.heap.size Rb Mb (Lfc.look (l.take j)) N wr)) (fun i _=>l.length-(intOf i).toNat);case atStart=>exact⟨0,2,Nat.zero_le _,rfl,by omega,I0⟩
 clear I0 BW QRr;obtain⟨j,N,hj,rfl,hN,HI⟩:=hrel;by_cases hlt:j<l.length
 ·have HLS:=zH (look_succ l j hlt);obtain⟨bl,ol,hAl,hbl,hcs'⟩:=HL.o.2 (by intro e;rw[e] at hlt;simp at hlt);subst hAl;obtain⟨d0,d1,d2⟩:=hcs' j hlt;have hnl:=HL.o.1 l[j] (Ze _);have e0:=(HI.o.bel.cell (p:=⟨bl,_,none⟩) hbl).trans d0;have e1:=(HI.o.bel.cell (p:=⟨bl,_,none⟩) hbl).trans d1;have e2:=(HI.o.bel.cell (p:=⟨bl,_,none⟩) hbl).trans d2;have hi0:=zP j;have hi1:(j:Int)<(l.length:Int):=by omega
  generalize hlj:l[j]=o at *;obtain⟨on,of,op⟩:=o;simp only at d0 d1 d2 e0 e1 e2 hnl;clear d0 d1 d2 hcs' hlj;obtain⟨w5,hw5⟩:∃w5,wr.alloc (.cells #[S on,zI of,zI op] 34)=w5:=⟨_,rfl⟩;have b5:=zG hw5;have q5:=zQ hw5;have I5:=zH (HI.o.new b5);have hlk:=I5.o.map.look on hnl;obtain⟨x0,x1,x2⟩:=cells3 q5;have r0:zc w5 Rb 0 (.map (some Mb)):=zC I5.o.rs 0;have Q5:=zH q5;have HW5:=zH hw5;have h5lt:=zL q5;clear hw5 b5 q5;cases hlo:Lfc.look (l.take j) on with
  |some o' =>
   rw[hlo] at hlk;obtain⟨pn,pf,pp⟩:=o';simp only[Option.getD_some,Option.isSome_some] at hlk;unfold opV at hlk;simp only at hlk;have HNX:Hid (TopI w w.heap.size Rb Mb (Lfc.look (l.take (j+1))) N (w5.alloc (.cells #[S pn,zI pf,zI pp] 34))):=zH (by
    have h:=I5.o.new ((zB _ _).alloc (zN _) (.cells #[S pn,zI pf,zI pp] 34));refine⟨h.bel,h.res,h.rs,h.map.congr fun n=>?_⟩;rw[HLS.o n];simp[hlo])
   clear hlo;go_upto_region 17 with fail;rw[HW5.o];go_wp2_with fail;go_roundw;case rel=>exact⟨j+1,N,by omega,by go_num,by omega,HNX⟩
   case measure=>simp[intOf];omega
  |none =>
   rw[hlo] at hlk;simp only[Option.getD_none,Option.isSome_none] at hlk;unfold opV opZ at hlk;simp only at hlk;obtain⟨w6,hw6⟩:∃w6,w5.alloc (.cells #[S [],zI 0,zI 0] 34)=w6:=⟨_,rfl⟩;have b6:=zG hw6;have I6:=zH (I5.o.new b6);obtain⟨w7,hp7,M7,o7⟩:=I6.o.map.put (by omega) on hnl ⟨on,of,op⟩;unfold opV at hp7;simp only at hp7;obtain⟨z0,z1,z2⟩:=cells3 ((b6.block _ h5lt).trans Q5.o);have r6:zc w6 Rb 0 (.map (some Mb)):=zC I6.o.rs 0;have HNX:Hid (TopI w w.heap.size Rb Mb (Lfc.look (l.take (j+1))) (N+1) w7):=zH (by
    refine⟨Oth.below I6.o.bel o7 (by omega) I6.o.bel.size,o7.heap I6.o.res (by omega),o7.heap I6.o.rs (by omega),M7.congr fun n=>?_⟩;rw[HLS.o n];simp[hlo])
   have HW6:=zH hw6;clear hlo hw6 b6 M7 o7;go_upto_region 17 with fail;rw[HW5.o];go_upto_region 18 with fail;rw[HW6.o];go_wp2_with fail;go_roundw;case rel=>exact⟨j+1,N+1,by omega,by go_num,by omega,HNX⟩
   case measure=>simp[intOf];omega
 have hjl:j=l.length:=by omega
 have HEV:Hid (EnvR w Rb Mb l wr):=zH ⟨by omega,by omega,HI.o.bel,⟨0,HI.o.rs⟩,⟨N,HI.o.map.congr fun n=>by rw[hjl,List.take_length]⟩⟩;have CR:=zH (res_upto F w Rb Mb l s.length s As cs wr (zN _) hsl hcs HSF.o HS.o HEV.o);have hRl:=zL HI.o.res;clear hjl;cases hres:resP l s.length s with
 |error kk =>
  rw[hres] at CR;have HRES:Hid (resolved l s=(rawZ,kk)):=zH (by rw[HT2.o,hres]);unfold ResPost ResErr at CR;simp only at CR;clear hres;go_wp2_with fail;refine CR.o.mono ?_;rintro ee w8⟨rfl,o8,hc8⟩;obtain⟨w9,hw9⟩:∃w9,w8.alloc (.cells #[zI 0,S [],zI 0,zS] 46)=w9:=⟨_,rfl⟩;have b9:=zG hw9;have qr8:=o8.heap HI.o.res (by omega);have qr9:=(b9.block _ (zL qr8)).trans qr8;have hc9:=(b9.block _ (zL hc8)).trans hc8;have x1:zc w9 Rb 1 (zI kk):=zC hc9 1;have bw8:=Oth.below HI.o.bel o8 (by omega) HI.o.bel.size;have bw9:=bw8.trans (b9.mono bw8.size);obtain⟨s1,s2,s3,s4,g1,g2,g3,g4,⟨y0,y1,y2,y3⟩,⟨f0,f1,f2,f3⟩,hq,ho⟩:=put4 (W:=w9.drew) qr9 (zI 0) (S []) (zI 0) zS;have HO4:=zH ho;have HB:=zH (Oth.below bw9.drew ho (zN _) bw9.size);have HQ:=zH hq;clear hq ho;have x1s:zc s4 Rb 1 (zI kk):=zC (HO4.o.heap (w:=w9.drew) hc9 (by omega)) 1;have HW9:=zH hw9;clear hw9 b9 qr8 qr9 hc9 bw8 bw9 hc8 o8;go_upto_region 22 with fail;rw[HW9.o];go_wp2_with fail;go_region_held3 (fun W=>W.cell? ⟨Rb,1,none⟩=some (zI kk))
   (first | exact x1 | exact x1s)
   (fail)
  all_goals
   go_wp2_with fail;refine Zb (results_raw2 rfl _ _ _ _ _ _ _ rfl HQ.o) ?_;rw[HRES.o];exact⟨⟨_,rfl,(treeV_nil0 _ _ _ _ (by simp)).leafP⟩,HB.o⟩
 |ok t =>
  rw[hres] at CR;have HSZ:Hid (t.size<=100000000):=zH (zR (resP_size l _ s t hres) hws);have HR2:Hid (resolved l s=if t.wf=0 then(t,0) else(rawZ,2)):=zH (by rw[HT2.o,hres]);unfold ResPost ResOk at CR;simp only at CR;clear hres;go_wp2_with fail;refine CR.o.mono ?_;rintro ee w8⟨v8,rfl,ht8,o8,bad8,hc8⟩;obtain⟨k5,n5,p5,us5,A5,c5,e5,rfl,tp5⟩:=ht8.parts4;obtain⟨w9,hw9⟩:∃w9,w8.alloc (.cells (zT k5 n5 p5 A5 us5 c5) 46)=w9:=⟨_,rfl⟩;have b9:=zG hw9;have q9:=zQ hw9;have qr8:=o8.heap HI.o.res (by omega);have QR9:=zH ((b9.block _ (zL qr8)).trans qr8);have bw8:=Oth.below HI.o.bel o8 (by omega) HI.o.bel.size;have BW9:=zH (bw8.trans (b9.mono bw8.size));have TP9:Hid (TreeP (fun b=>(b<w.heap.size/\F)\/wr.heap.size<=b) w9 t (zI k5) (S n5) (zI p5) (.slice A5 us5.length c5)):=zH (TreeP.keep (fun b _ hlt=>b9.block b hlt) b9.size (fun _ _ h=>h) _ _ _ _ _ tp5);have CW:=zH (wf_any t _ w9 (by have:=HSZ.o;omega) (TreeVP.toV ⟨_,_,_,_,rfl,TP9.o⟩));have Q9:=zH q9;obtain⟨x0,x1,x2,x3⟩:=cells4 q9;have HW9:=zH hw9;have h9lt:=zL q9;clear hw9 b9 q9 qr8 bw8 hc8 o8 ht8 tp5 e5;generalize t.wf=f at *;go_upto_region 22 with fail;rw[HW9.o];by_cases hf:f=0
  ·have HRES:Hid (resolved l s=(t,0)):=zH (by rw[HR2.o,if_pos hf]);rw[hf] at CW;clear hf;go_wp2_with fail;refine CW.o.mono ?_;rintro ee wv⟨rfl,bv⟩;have bwv:=BW9.o.trans (bv.mono BW9.o.size);have qrv:=(bv.block _ (zL QR9.o)).trans QR9.o;obtain⟨z0,z1,z2,z3⟩:=cells4 ((bv.block _ h9lt).trans Q9.o);have TPv:=zH (TreeP.keep (q':=fun b=>(b<w.heap.size/\F)\/wr.heap.size<=b) (fun b _ hlt=>bv.block b hlt) bv.size (fun _ _ h=>h) _ _ _ _ _ TP9.o);obtain⟨s1,s2,s3,s4,g1,g2,g3,g4,⟨y0,y1,y2,y3⟩,⟨f0,f1,f2,f3⟩,hq,ho⟩:=put4 qrv (zI k5) (S n5) (zI p5) (.slice A5 us5.length c5);have HO4:=zH ho;have HB:=zH (Oth.below bwv ho (zN _) bwv.size);have HQ:=zH hq;clear hq ho;clear bv bwv qrv x0 x1 x2 x3;go_wp2_with fail;refine Zb (results_raw2 rfl _ _ _ _ _ _ _ rfl HQ.o) ?_;rw[HRES.o];refine⟨⟨_,rfl,⟨_,_,_,_,rfl,?_⟩⟩,HB.o⟩;exact TreeP.keep (fun b hb hlt=>HO4.o.block b hlt (fun e=>by have:=zO e;rcases hb with hb | hb <;> omega)) HO4.o.size (fun b _ hb=>by rcases hb with hb | hb;exact .inl hb;exact .inr (by omega)) _ _ _ _ _ TPv.o
  have HRES:Hid (resolved l s=(rawZ,2)):=zH (by rw[HR2.o,if_neg hf]);have hf2:(f != 0)=true:=by simpa using hf
  clear hf;go_wp2_with fail;refine CW.o.mono ?_;rintro ee wv⟨rfl,bv⟩;have bwv:=BW9.o.trans (bv.mono BW9.o.size);have qrv:=(bv.block _ (zL QR9.o)).trans QR9.o;obtain⟨s1,s2,s3,s4,g1,g2,g3,g4,⟨y0,y1,y2,y3⟩,⟨f0,f1,f2,f3⟩,hq,ho⟩:=put4 qrv (zI 0) (S []) (zI 0) zS;have HO4:=zH ho;have HB:=zH (Oth.below bwv ho (zN _) bwv.size);have HQ:=zH hq;clear hq ho;clear bv bwv qrv x0 x1 x2 x3;go_wp2_with fail;refine Zb (results_raw2 rfl _ _ _ _ _ _ _ rfl HQ.o) ?_;rw[HRES.o];exact⟨⟨_,rfl,(treeV_nil0 _ _ _ _ (by simp)).leafP⟩,HB.o⟩
theorem resolve_new(l:List Lfc.Op)(s:List Opd)(Al As:Option Addr)(cl cs:Nat)(w:World)(hll:l.length≤1000000)(hsl:s.length≤1000000)(hcs:s.length≤cs)(hws:wsum s≤100000000)(hl:OpsAt w Al l)(hs:OpdsAt w As s)(hF:∀x∈s,x.closed=false→x.tree.kind=1→x.tree.args=[]) :
  Calls Tryz.prog 65 #[.slice Al l.length cl,.slice As s.length cs] w fun e w'=>(∃v,e=.returned (.tuple #[v,.int .i64 (resolved l s).2])∧TreeVP (fun b=>w.heap.size≤b) w' (resolved l s).1 v)∧Below w.heap.size w w' :=
 (resolve_gen False l s Al As cl cs w hll hsl hcs hws hl hs (fun x hx h1 h2=>.inl (hF x hx h1 h2))).mono fun _ _ ⟨⟨v,e,v0,v1,v2,v3,ev,h⟩,hb⟩=>⟨⟨v,e,v0,v1,v2,v3,ev,TreeP.keep (fun _ _ _=>rfl) (zN _) (fun b _ hb=>by rcases hb with hb | hb;exact hb.2.elim;exact hb) _ _ _ _ _ h⟩,hb⟩
end
section
open Go.RowKit _root_.Lfc
def OpdR(w:World):Option Opd→Value→World→Prop
 |none,v,_=>v=.tuple #[.agg #[.int .i64 0,S [],.int .i64 0,.slice none 0 0,.bool false],.bool false]
 |some x,v,w'=>∃k n q us A c,v=.tuple #[.agg #[.int .i64 k,S n,.int .i64 q,.slice A us.length c,.bool x.closed],.bool true]∧x.tree=.node k n q us∧TreeP (fun b=>w.heap.size≤b) w' x.tree (.int .i64 k) (S n) (.int .i64 q) (.slice A us.length c)
def RawR(w:World)(t:Raw)(v:Value)(w':World):Prop:=TreeVP (fun b=>w.heap.size≤b) w' t v
def OpdC'(p:Lfc.PE)(g:Nat→Lfc.PR (Option Opd)):Prop:=∀(P k:Nat)(G:Hd)(w:World),k≤p.toks.length→g k≠.out→PW w P G p k →
 Calls Tryz.prog 64 #[.pointer (some ⟨P,0,none⟩)] w (PRes P G p w (OpdR w) (g k))
def Leafy(g:Nat→Lfc.PR (Option Opd)):Prop:=∀k x k',g k=.ok (some x) k'→x.closed=false→x.tree.args=[]
theorem opd_infoP:∃i,Tryz.prog.info? 129=some i∧i.zero=some (.agg #[.int .i64 0,S [],.int .i64 0,.slice none 0 0,.bool false])∧i.size=5∧i.bytes=64:=by
 obtain⟨i0,hi,hz0,hz1,hz2⟩:=info_parts (show(Tryz.prog.info? 129).map (fun i=>(i.zero,i.size,i.bytes))=some (some (.agg #[.int .i64 0,S [],.int .i64 0,.slice none 0 0,.bool false]),5,64) by kernel_rfl);exact⟨i0,hi,hz0,hz1,hz2⟩
def slenP:Value→Nat
 |.slice _ n _=>n
 |_=>0
structure ExpI(w:World)(P:Nat)(G:Hd)(p:Lfc.PE)(k:Nat)(s:List Opd)(v:Value)(xs:List Value)(wr:World):Prop where
 pw:PW wr P G p k
 le:k≤p.toks.length
 oth:Oth P w wr
 res:wr.heap[w.heap.size]?=some (.cells #[.int .i64 0,S [],.int .i64 0,.slice none 0 0] 46 (0,0))
 own:wr.ownsRow (w.heap.size+1) 129 5 v s.length xs
 row:RowO (fun b=>w.heap.size<b∧some b≠v.ownBlock) wr s xs
 leaf:∀x∈s,x.closed=false→x.tree.kind=1→x.tree.args=[]
theorem ExpI.lt{w wr:World}{P k:Nat}{G:Hd}{p:Lfc.PE}{s:List Opd}{v:Value}{xs:List Value}(h:ExpI w P G p k s v xs wr):w.heap.size<wr.heap.size:=zL h.res
theorem oneCell5{k p:Int}{n:List UInt8}{A:Option Addr}{l c:Nat}{b:Bool}:∀u∈[Value.int .i64 k,S n,.int .i64 p,.slice A l c,.bool b],u.oneCell'=true:=by
 intro u hu;simp at hu;rcases hu with rfl | rfl | rfl | rfl | rfl <;> rfl
theorem ExpI.push{w wr w1 w2 w3:World}{P k0 k k1:Nat}{G:Hd}{p:Lfc.PE}{s:List Opd}{v v':Value}{xs:List Value}{x:Opd}{v0 v1 v2 v3:Value}(h:ExpI w P G p k s v xs wr)(h0:PW w P G p k0)(h1:PW w1 P G p k1)(hk1:k1≤p.toks.length)(o1:Oth P wr w1)
  (ht:TreeP (fun b=>wr.heap.size≤b) w1 x.tree v0 v1 v2 v3) (hx:x.closed=false→x.tree.kind=1→x.tree.args=[]) (b2:Below w1.heap.size w1 w2) (hown:w3.ownsRow (w.heap.size+1) 129 5 v' (s.length+1) (xs++[v0,v1,v2,v3,.bool x.closed])) (hg:w2.grownBy w3 v.ownBlock) (hl:v'.ownBlock=v.ownBlock∨v'.ownBlock=some w2.heap.size) :
  ExpI w P G p k1 (s++[x]) v' (xs++[v0,v1,v2,v3,.bool x.closed]) w3:=by
 have hs1:=o1.size;have hs2:=b2.size;have hs3:=hg.size;have hlt:=h.lt;have hv:∀b,v.ownBlock=some b→w.heap.size+1≤b∧b<wr.heap.size:=fun b hb=>h.own.lt b hb;have o3:Oth P w w3:=⟨hg.os.trans (b2.os.trans (o1.os.trans h.oth.os)),hg.tape.trans (b2.tape.trans (o1.tape.trans h.oth.tape)),hg.output.trans (b2.output.trans (o1.output.trans h.oth.output)),by omega,fun j hj hne=>by
  rw[hg.block j (by omega) (fun e=>by have:=(hv j e.symm).1;omega),b2.block j (by omega),o1.block j (by omega) hne];exact h.oth.block j hj hne⟩
 have hbel:∀j,j<w1.heap.size→some j≠v.ownBlock→w3.heap[j]?=w1.heap[j]?:=fun j hj hne=>(hg.block j (by omega) hne).trans (b2.block j hj);have hP:=h0.lt;have ho1:∀j,j<wr.heap.size→j≠P→w1.heap[j]?=wr.heap[j]?:=fun j hj hne=>o1.block j hj (fun e=>hne (zO e));refine⟨h0.to o3 ((hbel P (by omega) (fun e=>by have:=(hv P e.symm).1;omega)).trans h1.1),hk1,o3,(hbel _ (by omega) (fun e=>by have:=(hv _ e.symm).1;omega)).trans ((ho1 _ hlt (by omega)).trans h.res),by rw[Zq];exact hown,?_,fun y hy=>?_⟩
 ·have hq:∀b,b<w1.heap.size→some b≠v.ownBlock→some b≠v'.ownBlock:=fun b hb hn=>by
   rcases hl with e | e
   ·rw[e];exact hn
   rw[e];intro e';have:=zO e';omega
  refine RowO.append (RowO.one (TreeP.keep (fun b hb hlt=>hbel b hlt (fun e=>by have:=(hv b e.symm).2;omega)) (by omega) (fun b hlt hb=>⟨by omega,hq b hlt (fun e=>by have:=(hv b e.symm).2;omega)⟩) _ _ _ _ _ ht)) ?_;exact h.row.keep (fun b hb hlt=>(hbel b (by omega) hb.2).trans (ho1 b hlt (by have:=hb.1;omega))) (by omega) (fun b hlt hb=>⟨hb.1,hq b (by omega) hb.2⟩)
 rcases List.mem_append.1 hy with hy | hy
 ·exact h.leaf y hy
 simp at hy;subst hy;exact hx
theorem expr_of(p:Lfc.PE)(ok:POk p)(g:Nat->Lfc.PR (Option Opd))(hB:OpdB p g)(hL:Leafy g)(hg:OpdC' p g)(P k:Nat)(G:Hd)(w:World)(hk:k<=p.toks.length)(hne:p.exprG g k≠.out)(h:PW w P G p k) :
  Calls Tryz.prog 35 #[.pointer (some ⟨P,0,none⟩)] w (PRes P G p w (RawR w) (p.exprG g k)):=by
 obtain⟨it,hi,hz0,hz1,hz2⟩:=opd_infoP;have hP:=h.lt;obtain⟨wa,hwa⟩:∃wa,w.alloc (.cells #[zI 0,S [],zI 0,zS] 46)=wa:=⟨_,rfl⟩;have ba:=zG hwa;have qa:=zQ hwa;have hsa:=eq2 (show wa.heap.size=w.heap.size+1 by rw[<-hwa];simp);have CP:=zH (peek_any wa (h.below ba) hk ok);have HW:=zH h;have HG:=zH hg;have HB:=zH hB;have HL:=zH hL;have HK:=zH ok;have BA:=zH ba;have QA:=zH qa;have hf2:=tok_f2;have hlen:=ok.len;obtain⟨r,hr⟩:∃r,opdsG g (p.toks.length+1) k []=r:=⟨_,rfl⟩;have HR:=zH hr;have HE:Hid (p.exprG g k=r.then fun s k'=>if s.length=0 then p.unexp k' else if (resolved p.ops s).2≠0 then .err (resolved p.ops s).2 (p.pk k).pos else .ok (resolved p.ops s).1 k'):=zH (by unfold Lfc.PE.exprG;rw[hr]);have HN:Hid (r≠.out):=zH (fun e=>hne (by rw[HE.o,e];rfl));rw[HE.o];clear h hg hB hL ok ba qa hr hne;go_enter Tryz.func35,Tryz.ntmps35;go_upto_region 1 with fail;clear hwa;go_wp2_with (go_at_call 63;refine CP.o.mono ?_;rintro e w1⟨rfl,b1⟩);have hs1:=b1.size;have I0:Hid (ExpI w P G p k [] zS [] w1):=zH ⟨HW.o.below (BA.o.trans (b1.mono BA.o.size)),hk,zE (BA.o.trans (b1.mono BA.o.size)),(b1.block _ (by omega)).trans QA.o,own_nil _ _ _ _,by rw[RowO],by simp⟩;go_loopw [4] (fun v wr=>∃(m k1:Nat)(s:List Opd)(A:Option Addr)(c:Nat)(xs:List Value),v=.slice A s.length c/\s.length+m<=p.toks.length+1/\Hid (opdsG g m k1 s=r)/\Hid (ExpI w P G p k1 s (.slice A s.length c) xs wr)) (fun v _=>p.toks.length+1-slenP v);case atStart=>exact⟨p.toks.length+1,k,[],none,0,[],rfl,by simp,HR,I0⟩
 clear I0;obtain⟨m,k1,s,A,c,xs,rfl,hsm,HM,HI⟩:=hrel;obtain _ | m:=m
 ·exact absurd (by rw[<-HM.o];rfl) HN.o
 cases hgk:g k1 with
 |out=>exact absurd (by rw[<-HM.o,opdsG,hgk]) HN.o
 |err cc aa =>
  have hre:r=.err cc aa:=by rw[<-HM.o,opdsG,hgk]
  have hco:=HG.o P k1 G wr HI.o.le (by rw[hgk];simp) HI.o.pw;rw[hgk] at hco;have CO:=zH hco;have HRE:=zH hre;clear hco hre hgk;go_wp2_with (go_at_call 64;refine CO.o.mono ?_;rintro e w2⟨rfl,o2⟩);rw[HRE.o];exact⟨rfl,rfl,HI.o.oth.trans o2⟩
 |ok o k2 =>
  cases o with
  |none =>
   have hre:r=.ok s k1:=(by rw[<-HM.o,opdsG,hgk]);have hk2:=HB.o.2 k1 k2 hgk;have hco:=HG.o P k1 G wr HI.o.le (by rw[hgk];simp) HI.o.pw;rw[hgk,hk2] at hco;have CO:=zH hco;have HRE:=zH hre;have CU:Hid (∀W,PW W P G p k1->Calls Tryz.prog 36 #[.pointer (some ⟨P,0,none⟩)] W fun e w'=>e=Flt (p.ux k1).1 (p.ux k1).2/\zb W w'):=zH fun W hW=>unexpected_any W hW HI.o.le HK.o;have hres:=HI.o.lt;clear hco hre hgk hk2;go_upto_region 6 with(go_at_call 64;refine CO.o.mono ?_;rintro e w2⟨⟨v,rfl,rfl⟩,pw2,o2⟩);obtain⟨w3,hw3⟩:∃w3,w2.alloc (.cells #[zI 0,S [],zI 0,zS,.bool false] 129)=w3:=⟨_,rfl⟩;have b3:=zG hw3;rw[hw3];have pw3:=pw2.below b3;have o3:Oth P wr w3:=o2.trans (zE b3);clear hw3 pw2 o2 b3;by_cases hz:s.length=0
   ·have hz2:((s.length:Int) == 0)=true:=(by simp[hz]);have HF:Hid ((r.then fun s k'=>if s.length=0 then p.unexp k' else if (resolved p.ops s).2≠0 then .err (resolved p.ops s).2 (p.pk k).pos else .ok (resolved p.ops s).1 k')=(p.unexp k1:Lfc.PR Raw)):=zH (by rw[HRE.o];exact if_pos hz);clear hz;go_wp2_with (go_at_call 36;refine(CU.o _ pw3).mono ?_;rintro e w4⟨rfl,b4⟩);rw[HF.o,unexp_eq];exact⟨rfl,rfl,HI.o.oth.trans (o3.trans (zE b4))⟩
   have hz2:((s.length:Int) == 0)=false:=(by simp;intro e;exact hz (by rw[e];rfl));have hb:=opdsG_b HB.o _ _ _ _ _ (HR.o.trans HRE.o);obtain⟨hb1,hb2,hb3,hb4,hb5⟩:=hb;simp only[wsum,List.length_nil] at hb3 hb5;have hb2:=hb2 hk;obtain⟨x0,x1,x2,x3,xf,hcA,hops,_⟩:=pw3.cells;have own3:=HI.o.own.kept o3 (Or.inr (fun e=>by have:=(HI.o.own.lt P e).1;omega));have row3:=HI.o.row.keep (w':=w3) (fun b hb hlt=>o3.block b hlt (fun e=>by have:=zO e;have:=hb.1;omega)) o3.size (fun _ _ h=>h);have CR:=resolve_new p.ops s G.B A G.d c w3 HK.o.ops (by omega) (own_le own3) (by omega) hops (row3.opds own3) HI.o.leaf;have HF:Hid ((r.then fun s k'=>if s.length=0 then p.unexp k' else if (resolved p.ops s).2≠0 then .err (resolved p.ops s).2 (p.pk k).pos else .ok (resolved p.ops s).1 k')=if (resolved p.ops s).2≠0 then .err (resolved p.ops s).2 (p.pk k).pos else .ok (resolved p.ops s).1 k1):=zH (by rw[HRE.o];exact if_neg hz);obtain⟨⟨t,ee⟩,hRR⟩:∃R,resolved p.ops s=R:=⟨_,rfl⟩;rw[hRR] at CR HF;have CR:=zH CR;have PW3:=zH pw3;have O3:=zH (HI.o.oth.trans o3);have qres:=o3.heap HI.o.res (by omega);have QRES:=zH qres;have hs3:=o3.size;simp only at CR HF;clear own3 row3 hRR hops pw3 o3 qres hz x0 x1 x2 hb1 hb3 hb4 hb5 xf hcA;by_cases he:ee=0
   ·subst he;go_upto_region 11 with(go_at_call 65;refine CR.o.mono ?_;rintro e w4⟨⟨v,rfl,hv⟩,b4⟩;obtain⟨k5,n5,p5,us5,A5,c5,ht5,rfl,hp5⟩:=hv.parts4);obtain⟨w5,hw5⟩:∃w5,w4.alloc (.cells (zT k5 n5 p5 A5 us5 c5) 46)=w5:=⟨_,rfl⟩;have b5:=zG hw5;have q5:=zQ hw5;rw[hw5];obtain⟨z0,z1,z2,z3⟩:=cells4 q5;have hs4:=b4.size;have hs5:=b5.size;have hr5:=(b5.block _ (by omega)).trans ((b4.block _ (by omega)).trans QRES.o);obtain⟨s1,s2,s3,s4,g1,g2,g3,g4,⟨y0,y1,y2,y3⟩,⟨f0,f1,f2,f3⟩,hq,ho⟩:=put4 hr5 (zI k5) (S n5) (zI p5) (.slice A5 us5.length c5);have pw5:=(PW3.o.below b4).below b5;have o5:Oth P w w5:=(O3.o.trans (zE b4)).trans (zE b5);have hf5:PW s4 P G p k1:=HW.o.to (o5.over ho (zN _)) ((ho.block P pw5.lt (fun e=>by have:=zO e;omega)).trans pw5.1);have HT:Hid (TreeP (fun b=>w.heap.size<=b) s4 t (zI k5) (S n5) (zI p5) (.slice A5 us5.length c5)):=zH (TreeP.keep (fun b hb hlt=>(ho.block b (by omega) (fun e=>by have:=zO e;omega)).trans (b5.block b hlt)) (by have:=ho.size;omega) (fun b _ hb=>by omega) _ _ _ _ _ hp5);have HP5:=zH hf5;have O5:=zH (o5.over ho (zN _));have HQ:=zH hq;clear hw5 q5 hr5 hq ho pw5 o5 hf5 hp5 hv b5;go_wp2_with fail;refine Zb (results_raw rfl _ _ _ _ _ _ _ rfl HQ.o) ?_;rw[HF.o,if_neg (by simp)];exact⟨⟨_,rfl,_,_,_,_,rfl,HT.o⟩,HP5.o,O5.o⟩
   have he2:(ee != 0)=true:=(by simp[he]);have HE2:Hid ((if ee≠0 then(.err ee (p.pk k).pos:Lfc.PR Raw) else .ok t k1)=.err ee (p.pk k).pos):=zH (if_pos he);clear he;go_wp2_with (first | (go_at_call 65;refine CR.o.mono ?_;rintro e w4⟨⟨v,rfl,hv⟩,b4⟩;obtain⟨k5,n5,p5,us5,A5,c5,ht5,rfl,hp5⟩:=hv.parts4) | (go_at_call 66;refine(pfail_any _ _ _).mono ?_;rintro e w5⟨rfl,rfl⟩));rw[HF.o,HE2.o];exact⟨rfl,rfl,(O3.o.trans (zE b4)).trans (zE ((zB _ _).alloc (zN _) _))⟩
  |some x =>
   have hop:=opdsG_b HB.o;obtain⟨hx1,hx2,hx3⟩:=HB.o.1 k1 x k2 hgk;have hxl:=HL.o k1 x k2 hgk;have hnx:opdsG g m k2 (s++[x])=r:=(by rw[<-HM.o,opdsG,hgk]);have hco:=HG.o P k1 G wr HI.o.le (by rw[hgk];simp) HI.o.pw;rw[hgk] at hco;have CO:=zH hco;have HNX:=zH hnx;have hres:=HI.o.lt;have hbk:=opdsG_b HB.o (p.toks.length+1) k [];clear hco hnx hgk hop hbk;go_upto_region 4 with(go_at_call 64;refine CO.o.mono ?_;rintro e w2⟨⟨v,rfl,⟨k3,n3,q3,us3,A3,c3,rfl,hnd,ht⟩⟩,pw2,o2⟩);have hs2:=o2.size;have own2:=HI.o.own.kept o2 (Or.inr (fun e=>by have:=(HI.o.own.lt P e).1;omega));have ownA:=(own2.alloc (Obj.cells #[zI k3,S n3,zI q3,.slice A3 us3.length c3,.bool x.closed] 129)).alloc (Obj.cells #[zI k3,S n3,zI q3,.slice A3 us3.length c3,.bool x.closed] 129);have PW2:=zH pw2;have O2:=zH o2;have HT:=zH ht;have HX:=zH (fun(hc:x.closed=false) (_:x.tree.kind=1)=>hxl hc);clear pw2 o2 ht own2 hxl;go_wp2_with (at_builtin;refine wpList_append_own_at _ rfl _ _ 127 rfl (w.heap.size+1) 129 it (.agg #[zI 0,S [],zI 0,zS,.bool false]) 5 64 Tryz.underlying127 hi hz0 hz1 hz2 rfl (by decide) _ _ _ rfl ownA ⟨w2.heap.size+1,0,none⟩ 1 1 [zI k3,S n3,zI q3,.slice A3 us3.length c3,.bool x.closed] rfl rfl ?c1 ?c2 ?c3 ?c4 ?c5 ?_);case c1=>exact fun j u h=>cells_new _ _ (by simp) _ _ j u h
   case c2=>exact oneCell5
   case c3=>unfold maxLen;omega
   case c4=>omega
   case c5=>simp;omega
   intro v' w5 hown5 hg5 _ hl5;obtain⟨A5,c5,rfl⟩:=own_form hown5;have HNEW:=zH (HI.o.push HW.o PW2.o hx2 O2.o (by rw[hnd] at HT ⊢;exact HT.o) HX.o (((zB _ _).alloc (zN _) _).alloc (by simp) _) hown5 hg5 (by simpa using hl5));clear hown5 hg5 hl5 ownA;go_wp2_with fail;go_roundw;case rel=>exact⟨m,k2,s++[x],A5,c5,_,by rw[Zq];rfl,by rw[Zq];simp;omega,HNX,by have:=HNEW.o;rw[Zq];exact zH this⟩
   case measure=>simp[slenP];omega
end
section
open Go.RowKit
theorem tk{P:Program}{ops:Array Oper}{Q:Exit→Act→World→Prop}{md:Region.Mode}{S:World→Prop}(i:Nat){oi:Oper}{v:Value}{fuel:Nat}{listed:Array Bool}{a:Act}{w:World}{T':Prop}(h:T')
  (hi:ops[i]?=some oi:=by rfl) (hs:Region.noSelect ops=true:=by kernel_rfl) (hf:Region.free md ops listed i=true:=by kernel_rfl) (hr:(Region.ready md ops listed).contains i=true:=by kernel_rfl)
  (hy:YieldsIf P ops S oi v a:=by exact Or.inl ⟨by rfl,by intro w hSw;(try dsimp only at hSw);go_simp;try with_reducible rfl⟩)
  (hQ:∀c a w,Q (.panic c) (a.put oi.dst v) w→Q (.panic c) a w:=by exact fun _ _ _ h=>h) (hS:S w:=by assumption)
  (e:wpAnyH P md ops Q S fuel (listed.setIfInBounds i true) (a.put oi.dst v) w=T':=by(try simp only[Act.put,List.getElem_toArray,List.getElem_cons_zero,List.getElem_cons_succ,List.setIfInBounds_toArray,List.set_cons_zero,List.set_cons_succ]) <;> exact rfl) :
  wpAnyH P md ops Q S (fuel+1) listed a w:=wpAnyH_take hi hs hf hr hQ hy hS (e.mpr h)
theorem nrm{T T':Prop}(h:T')(e:T=T':=by(try simp only[Act.put,List.getElem_toArray,List.getElem_cons_zero,List.getElem_cons_succ,List.setIfInBounds_toArray,List.set_cons_zero,List.set_cons_succ]) <;> exact rfl):T:=e.mpr h
theorem wpAnyH_mono{P:Program}{ops:Array Oper}{Q:Exit→Act→World→Prop}{md:Region.Mode}{S S':World→Prop}(hS:∀w,S' w→S w):∀(fuel:Nat)(listed:Array Bool)(a:Act)(w:World),wpAnyH P md ops Q S' fuel listed a w→wpAnyH P md ops Q S fuel listed a w
 |0,_,_,_,h=>h
 |fuel+1,_,_,_,h=>⟨h.1,fun i hi=>wpOp_mono (fun a' w' h'=>⟨hS _ h'.1,wpAnyH_mono hS fuel _ a' w' h'.2⟩) (h.2 i hi)⟩
end
section
open Go.RowKit _root_.Lfc
def ExprC(p:Lfc.PE)(g:Nat→Lfc.PR (Option Opd)):Prop:=∀(P k:Nat)(G:Hd)(w:World),k≤p.toks.length→p.exprG g k≠.out→PW w P G p k →
  Calls Tryz.prog 35 #[.pointer (some ⟨P,0,none⟩)] w (PRes P G p w (RawR w) (p.exprG g k))
def ClsR(w:World)(x:Opd)(v:Value)(w':World):Prop:=∃k n q us A c,v=.agg #[.int .i64 k,S n,.int .i64 q,.slice A us.length c,.bool true]∧x.tree=.node k n q us∧x.closed=true∧TreeP (fun b=>w.heap.size≤b) w' x.tree (.int .i64 k) (S n) (.int .i64 q) (.slice A us.length c)
theorem PR.then_ne{α β:Type}{r:Lfc.PR α}{f:α→Nat→Lfc.PR β}(h:r.then f≠.out):r≠.out:=fun e=>h (by rw[e];rfl)
theorem par_of_expr(p:Lfc.PE)(ok:POk p)(g:Nat->Lfc.PR (Option Opd))(hB:OpdB p g)(hE:ExprC p g)(P k:Nat)(G:Hd)(w:World)(hk:k<p.toks.length)(hne:p.parG g k≠.out)(h:PW w P G p k) :
    Calls Tryz.prog 116 #[.pointer (some ⟨P,0,none⟩)] w (PRes P G p w (ClsR w) (p.parG g k)):=by
  have hP:=h.lt;obtain⟨wa,hwa⟩:∃wa,w.alloc (.cells #[zI 0,S [],zI 0,zS,.bool false] 129)=wa:=⟨_,rfl⟩;have ba:=zG hwa;have qa:=zQ hwa;have hsa:=eq2 (show wa.heap.size=w.heap.size+1 by rw[<-hwa];simp);have CP:=zH (peek_any wa (h.below ba) (Nat.le_of_lt hk) ok);have HW:=zH h;have HE:=zH hE;have HB:=zH hB;have HK:=zH ok;have BA:=zH ba;have QA:=zH qa;have hf2:=tok_f2;have hlen:=ok.len;have HNE:=zH hne;clear h hE hB ok ba qa hne;go_enter Tryz.func116,Tryz.ntmps116;go_upto_region 1 with fail;clear hwa;go_upto_region 2 with(go_at_call 63;refine CP.o.mono ?_;rintro e w1⟨rfl,b1⟩);have hs1:=b1.size;have bw1:=BA.o.trans (b1.mono BA.o.size);have h1:=HW.o.below bw1;have h2:=h1.step (k+1);rw[show((k+1:Nat):Int)=(k:Int)+1 by omega] at h2;obtain⟨_,x1,_,_,xf,_,_,_⟩:=h1.cells;have xf1:=xf 1;obtain⟨w2,hw2⟩:∃w2,w1.setCell ⟨P,1,none⟩ (zI ((k:Int)+1))=w2:=⟨_,rfl⟩;have o2:Oth P w1 w2:=zV hw2;rw[hw2] at h2;have q2:=o2.heap ((b1.block _ (by omega)).trans QA.o) (by omega);have O2:=zH ((zE bw1).trans o2);have Q2:=zH q2;have hs2:=o2.size;have HPP:Hid (p.parG g k=(p.exprG g (k+1)).then fun t k'=>(if p.is k' 2 [58] then(p.exprG g (k'+1)).then fun u k''=>.ok (.node 9 [] (p.pk k).pos [t,u]) k'' else .ok t k').then fun t k''=>(p.punct k'' [41]).then fun _ k3=>.ok ⟨t,true⟩ k3):=zH rfl;have hne1:p.exprG g (k+1)≠.out:=PR.then_ne (by have:=HNE.o;rw[HPP.o] at this;exact this);have hce:=HE.o P (k+1) G w2 (by omega) hne1 h2;generalize (p.pk k).pos=pos at *;clear xf h1 h2 o2 q2 bw1;cases hr1:p.exprG g (k+1) with
  |out=>exact absurd hr1 hne1
  |err cc aa =>
    rw[hr1] at hce;have CE:=zH hce;have HF:Hid (p.parG g k=.err cc aa):=zH (by rw[HPP.o,hr1];rfl);clear hce hr1;go_wp2_with (go_at_call 35;refine CE.o.mono ?_;rintro e w3⟨rfl,o3⟩);rw[HF.o];exact⟨rfl,rfl,O2.o.trans o3⟩
  |ok t k1 =>
    rw[hr1] at hce;have CE:=zH hce;obtain⟨hb1,hb2,hb3,_⟩:=exprG_b HB.o hr1;have HR1:=zH hr1;clear hce hr1;go_upto_region 4 with(go_at_call 35;refine CE.o.mono ?_;rintro e w3⟨⟨v,rfl,hv⟩,h3,o3⟩;obtain⟨k5,n5,p5,us5,A5,c5,ht5,rfl,hp5⟩:=TreeVP.parts4 hv);clear hv;have hs3:=o3.size;obtain⟨w4,hw4⟩:∃w4,w3.alloc (.cells (zT k5 n5 p5 A5 us5 c5) 46)=w4:=⟨_,rfl⟩;have b4:=zG hw4;have q4:=zQ hw4;rw[hw4];have hs4:=eq2 (show w4.heap.size=w3.heap.size+1 by rw[<-hw4];simp);have h4:=h3.below b4;have O4:=zH (O2.o.trans (o3.trans (zE b4)));have QR4:=zH ((b4.block _ (by omega)).trans (o3.heap Q2.o (by omega)));have Q4:=zH q4;have HT4:Hid (TreeP (fun b=>w.heap.size<b/\b≠w3.heap.size) w4 t (zI k5) (S n5) (zI p5) (.slice A5 us5.length c5)):=zH (TreeP.keep (fun b _ hlt=>b4.block b hlt) b4.size (fun b hlt hb=>⟨by omega,by omega⟩) _ _ _ _ _ hp5);have hlb:w3.heap.size=w3.heap.size:=rfl;generalize hB3:w3.heap.size=B at *;have hct:=take_any 2 [58] w4 h4 (by omega) HK.o;clear hw4 b4 q4 hp5 h3 o3 hlb;cases hti:p.is k1 2 [58]
    · simp only[hti,Bool.false_eq_true,if_false] at hct
      have CT:=zH hct;have HF0:Hid (p.parG g k=(p.punct k1 [41]).then fun _ k3=>.ok ⟨t,true⟩ k3):=zH (by rw[HPP.o,HR1.o];simp only[Lfc.PR.then];rw[if_neg (by rw[hti];simp)]);have HNODE:=ht5;clear hct hti h4;go_upto_region 6 with(go_at_call 139;refine CT.o.mono ?_;rintro e w5⟨rfl,h5,o5⟩);have hs5:=o5.size;have O5:=zH (O4.o.trans o5);have QR5:=zH (o5.heap QR4.o (by omega));have Q5:=zH (o5.heap Q4.o (by omega));have HT5:Hid (TreeP (fun b=>w.heap.size<b) w5 t (zI k5) (S n5) (zI p5) (.slice A5 us5.length c5)):=zH (TreeP.keep (fun b hb hlt=>o5.block b hlt (fun e=>by have:=zO e;omega)) o5.size (fun b _ hb=>hb.1) _ _ _ _ _ HT4.o);clear o5;have hcp:=punct_any [41] w5 h5 (by omega) HK.o;cases hpu:p.punct k1 [41] with
      |out=>exact absurd (by rw[HF0.o,hpu];rfl) HNE.o
      |err cc aa =>
        rw[hpu] at hcp;have CQ:=zH hcp;have HF:Hid (p.parG g k=.err cc aa):=zH (by rw[HF0.o,hpu];rfl);clear hcp hpu;go_wp2_with (go_at_call 141;refine CQ.o.mono ?_;rintro e w9⟨rfl,o9⟩);rw[HF.o];exact⟨rfl,rfl,O5.o.trans o9⟩
      |ok un k9 =>
        rw[hpu] at hcp;have CQ:=zH hcp;have HF:Hid (p.parG g k=.ok ⟨t,true⟩ k9):=zH (by rw[HF0.o,hpu];rfl);clear hcp hpu;go_upto_region 7 with(go_at_call 141;refine CQ.o.mono ?_;rintro e w9⟨⟨v9,rfl,rfl⟩,h9,o9⟩);have hs9:=o9.size;have z9:=cells4 (o9.heap Q5.o (by omega));obtain⟨z0,z1,z2,z3⟩:=z9;obtain⟨s1,s2,s3,s4,s5,g1,g2,g3,g4,g5,⟨y0,y1,y2,y3,y4⟩,⟨f0,f1,f2,f3,f4⟩,hq,ho⟩:=put5p (o9.heap QR5.o (by omega)) (zI k5) (S n5) (zI p5) (.slice A5 us5.length c5) (.bool true);have O9:=zH ((O5.o.trans o9).over ho (zN _));have HP9:Hid (PW s5 P G p k9):=zH (HW.o.to O9.o ((ho.block P h9.lt (fun e=>by have:=zO e;omega)).trans h9.1));have HT9:Hid (TreeP (fun b=>w.heap.size<=b) s5 (t) (zI k5) (S n5) (zI p5) (.slice A5 us5.length c5)):=zH (TreeP.keep (q:=fun b=>w.heap.size<b) (fun b hb hlt=>(ho.block b (by omega) (fun e=>by have:=zO e;omega)).trans (o9.block b hlt (fun e=>by have:=zO e;omega))) (by have:=ho.size;omega) (fun b _ hb=>by omega) _ _ _ _ _ HT5.o);have HQ:=zH hq;clear hq ho h9 o9;go_wp2_with fail;refine Zb (results_opdP rfl _ _ _ _ _ _ _ _ rfl HQ.o) ?_;rw[HF.o];exact⟨⟨_,rfl,_,_,_,_,_,_,rfl,HNODE,rfl,HT9.o⟩,HP9.o,O9.o⟩
    simp only[hti,if_true] at hct;have CT:=zH hct;have hlt1:=p.is_lt hti;have HP2:Hid (p.parG g k=((p.exprG g (k1+1)).then fun u k''=>(.ok (.node 9 [] pos [t,u]) k'':Lfc.PR Raw)).then fun t k''=>(p.punct k'' [41]).then fun _ k3=>.ok ⟨t,true⟩ k3):=zH (by rw[HPP.o,HR1.o];simp only[Lfc.PR.then];rw[if_pos hti]);have hne2:p.exprG g (k1+1)≠.out:=PR.then_ne (PR.then_ne (by have:=HNE.o;rw[HP2.o] at this;exact this));clear hct hti h4;go_upto_region 5 with(go_at_call 139;refine CT.o.mono ?_;rintro e w5⟨rfl,h5,o5⟩);have hs5:=o5.size;have O5:=zH (O4.o.trans o5);have QR5:=zH (o5.heap QR4.o (by omega));have Q5:=zH (o5.heap Q4.o (by omega));have HT5:Hid (TreeP (fun b=>w.heap.size<b/\b≠B) w5 t (zI k5) (S n5) (zI p5) (.slice A5 us5.length c5)):=zH (TreeP.keep (fun b hb hlt=>o5.block b hlt (fun e=>by have:=zO e;omega)) o5.size (fun b _ hb=>hb) _ _ _ _ _ HT4.o);have hce2:=HE.o P (k1+1) G w5.drew (by omega) hne2 h5.drew;obtain⟨z0,z1,z2,z3⟩:=cells4 Q5.o;clear o5;cases hr2:p.exprG g (k1+1) with
    |out=>exact absurd hr2 hne2
    |err cc aa =>
      rw[hr2] at hce2;have CE2:=zH hce2;have HF:Hid (p.parG g k=.err cc aa):=zH (by rw[HP2.o,hr2];rfl);clear hce2 hr2;refine wp_region_held_drew (S:=fun W=>zc W B 0 (zI k5)/\zc W B 1 (S n5)/\zc W B 2 (zI p5)/\zc W B 3 (.slice A5 us5.length c5)) (by kernel_rfl) ⟨z0,z1,z2,z3⟩ (fun hH=>?_);refine tk 0 ?_;refine tk 1 ?_;refine tk 2 ?_;refine rd1 3 (fun K hK=>?_);go_simp;go_at_call 35;refine CE2.o.mono ?_;rintro e w6⟨rfl,o6⟩;rw[HF.o];exact⟨rfl,rfl,O5.o.trans ((Oth.refl _ _).drew.trans o6)⟩
    |ok u k2 =>
      rw[hr2] at hce2;have CE2:=zH hce2;obtain⟨hb4,hb5,hb6,_⟩:=exprG_b HB.o hr2;have HF0:Hid (p.parG g k=(p.punct k2 [41]).then fun _ k3=>.ok ⟨.node 9 [] pos [t,u],true⟩ k3):=zH (by rw[HP2.o,hr2];rfl);clear hce2 hr2;have hB5:B<w5.heap.size:=(by omega);go_region_law (go_simp;go_at_call 35;refine CE2.o.mono ?_;rintro e w6⟨⟨v,rfl,hv⟩,h6,o6⟩;obtain⟨k7,n7,p7,us7,A7,c7,ht7,rfl,hp7⟩:=TreeVP.parts4 hv;obtain⟨z60,z61,z62,z63⟩:=cells4 (o6.heap Q5.o (by omega));obtain⟨w7,hw7⟩:∃w7,w6.alloc (.cells #[zI k5,S n5,zI p5,.slice A5 us5.length c5,zI k7,S n7,zI p7,.slice A7 us7.length c7] 46)=w7:=⟨_,rfl⟩;have b7:zb w6 w7:=(by rw[<-hw7];exact(zB _ _).alloc (zN _) _);have hs6:w5.heap.size<=w6.heap.size:=o6.size;have q7:w7.heap[w6.heap.size]?=some (.cells #[zI k5,S n5,zI p5,.slice A5 us5.length c5,zI k7,S n7,zI p7,.slice A7 us7.length c7] 46 (0,0)):=(by rw[<-hw7];exact zW _ _);have hs7:=eq2 (show w7.heap.size=w6.heap.size+1 by(rw[<-hw7];simp));obtain⟨s1,s2,s3,s4,g1,g2,g3,g4,⟨y0,y1,y2,y3⟩,⟨f0,f1,f2,f3⟩,hq,ho⟩:=put4 ((b7.block _ (Zl hB5 hs6)).trans (o6.heap Q5.o (by omega))) (zI 9) (S []) (zI (pos:Int)) (.slice (some ⟨w6.heap.size,0,none⟩) 2 2));all_goals
       clear hv z60 z61 z62 z63;have o7:Oth P w w7:=(O5.o.trans ((Oth.refl _ _).drew.trans o6)).trans (zE b7);have O8:=zH (o7.over ho (by omega));have h7:=h6.below b7;have h8:PW s4 P G p k2:=HW.o.to O8.o ((ho.block P h7.lt (fun e=>by have:=zO e;omega)).trans h7.1);have hs8:=ho.size;have QR8:=zH (ho.heap ((b7.block _ (by omega)).trans (o6.heap QR5.o (by omega))) (by omega));have Q8:=zH hq;have HT8:Hid (TreeP (fun b=>w.heap.size<b) s4 (.node 9 [] pos [t,u]) (zI 9) (S []) (zI (pos:Int)) (.slice (some ⟨w6.heap.size,0,none⟩) 2 2)):=by
         have t1:TreeP (fun b=>w.heap.size<b) s4 t (zI k5) (S n5) (zI p5) (.slice A5 us5.length c5):=TreeP.keep (q:=fun b=>w.heap.size<b/\b≠B) (w:=w5) (fun b hb hlt=>(ho.block b (by omega) (fun e=>hb.2 (zO e))).trans ((b7.block b (by omega)).trans (o6.block b hlt (fun e=>by have:=zO e;omega)))) (by omega) (fun b _ hb=>hb.1) _ _ _ _ _ HT5.o;have t2:TreeP (fun b=>w.heap.size<b) s4 u (zI k7) (S n7) (zI p7) (.slice A7 us7.length c7):=TreeP.keep (q:=fun b=>w5.drew.heap.size<=b) (w:=w6) (fun b hb hlt=>by
           have hb:w5.heap.size<=b:=hb;exact(ho.block b (by omega) (fun e=>by have:=zO e;omega)).trans (b7.block b hlt)) (by omega) (fun b _ hb=>by
           have hb:w5.heap.size<=b:=hb;omega) _ _ _ _ _ hp7
         have hq8:=(ho.block _ (by omega) (fun e=>by have:=zO e;omega)).trans q7;have c:=fun j=>zC hq8 j;refine zH ?_;rw[TreeP];refine⟨rfl,rfl,by simp,rfl,_,_,rfl,zN _,fun _=>⟨w6.heap.size,0,rfl,by omega,by omega,?_⟩⟩;rw[TreesP,TreesP,TreesP];exact⟨⟨_,_,_,_,c 0,c 1,c 2,c 3,t1⟩,⟨_,_,_,_,c 4,c 5,c 6,c 7,t2⟩,trivial⟩
       clear ho b7 q7 o6 h6 hp7 o7 h7 hq y0 y1 y2 y3 f0 f1 f2 f3 g1 g2 g3 g4 z0 z1 z2 z3;have hcp:=punct_any [41] s4 h8 (by omega) HK.o;cases hpu:p.punct k2 [41] with
       |out=>exact absurd (by rw[HF0.o,hpu];rfl) HNE.o
       |err cc aa =>
         rw[hpu] at hcp;have CQ:=zH hcp;have HF:Hid (p.parG g k=.err cc aa):=zH (by rw[HF0.o,hpu];rfl);clear hcp hpu;go_wp2_with (go_at_call 141;refine CQ.o.mono ?_;rintro e w9⟨rfl,o9⟩);rw[HF.o];exact⟨rfl,rfl,O8.o.trans o9⟩
       |ok un k9 =>
         rw[hpu] at hcp;have CQ:=zH hcp;have HF:Hid (p.parG g k=.ok ⟨.node 9 [] pos [t,u],true⟩ k9):=zH (by rw[HF0.o,hpu];rfl);clear hcp hpu;go_upto_region 7 with(go_at_call 141;refine CQ.o.mono ?_;rintro e w9⟨⟨v9,rfl,rfl⟩,h9,o9⟩);have hs9:=o9.size;have z9:=cells4 (o9.heap Q8.o (by omega));obtain⟨z0,z1,z2,z3⟩:=z9;obtain⟨s1,s2,s3,s4,s5,g1,g2,g3,g4,g5,⟨y0,y1,y2,y3,y4⟩,⟨f0,f1,f2,f3,f4⟩,hq,ho⟩:=put5p (o9.heap QR8.o (by omega)) (zI 9) (S []) (zI (pos:Int)) (.slice (some ⟨w6.heap.size,0,none⟩) 2 2) (.bool true);have O9:=zH ((O8.o.trans o9).over ho (zN _));have HP9:Hid (PW s5 P G p k9):=zH (HW.o.to O9.o ((ho.block P h9.lt (fun e=>by have:=zO e;omega)).trans h9.1));have HT9:Hid (TreeP (fun b=>w.heap.size<=b) s5 (.node 9 [] pos [t,u]) (zI 9) (S []) (zI (pos:Int)) (.slice (some ⟨w6.heap.size,0,none⟩) 2 2)):=zH (TreeP.keep (q:=fun b=>w.heap.size<b) (fun b hb hlt=>(ho.block b (by omega) (fun e=>by have:=zO e;omega)).trans (o9.block b hlt (fun e=>by have:=zO e;omega))) (by have:=ho.size;omega) (fun b _ hb=>by omega) _ _ _ _ _ HT8.o);have HQ:=zH hq;clear hq ho h9 o9;go_wp2_with fail;refine Zb (results_opdP rfl _ _ _ _ _ _ _ _ rfl HQ.o) ?_;rw[HF.o];exact⟨⟨_,rfl,_,_,_,_,_,_,rfl,rfl,rfl,HT9.o⟩,HP9.o,O9.o⟩
end
end Go.Proofs.YthajalgkjonaaaaGreatDoor
