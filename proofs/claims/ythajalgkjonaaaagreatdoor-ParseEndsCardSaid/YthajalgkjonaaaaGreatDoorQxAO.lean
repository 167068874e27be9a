/- Parts of the proof that no input makes the law false: OpTop,PaExpr,RegTk. -/
import Derived.OrdersHeld
import Derived.WalkKit
import Derived.Test.YthajalgkjonaaaaGreatDoorQxAA
import Derived.Test.YthajalgkjonaaaaGreatDoorQxAI
import Derived.Test.YthajalgkjonaaaaGreatDoorQxAJ
import Derived.Test.YthajalgkjonaaaaGreatDoorQxAL
import Derived.Test.YthajalgkjonaaaaGreatDoorQxAN
set_option linter.unusedVariables false
set_option linter.unusedSimpArgs false
namespace Lfc
theorem wsum_mem(s:List Opd)(x:Opd)(h:x∈s):x.tree.size+2≤wsum s:=by
 induction s with
 |nil=>cases h
 |cons a r ih =>
  rw[wsum]
  rcases List.mem_cons.1 h with rfl | h
  ·omega
  ·have:=ih h;omega
def resTail(l:List Op)(s:List Opd):Raw × Int :=
 if s.length=1 then(if (s.getD 0 opdZ).arrow then(rawZ,21) else((s.getD 0 opdZ).tree,0))
 else match resP l s.length s with
  |.error e=>(rawZ,e)
  |.ok t=>if t.wf=0 then(t,0) else(rawZ,2)
theorem resolved_tail(l:List Op)(s:List Opd):resolved l s=if l.any (fun o=>decide (o.bad≠0)) then(rawZ,1) else if s.any (fun x=>!x.arrow && decide (x.tree.wf=1)) then(rawZ,1) else if s.any (fun x=>!x.arrow && decide (x.tree.wf=2)) then(rawZ,2) else resTail l s:=rfl
end Lfc
namespace Go.Proofs.YthajalgkjonaaaaGreatDoor
open Go.RowKit Go.Maps Go.WideMaps
structure TopI(w:World)(R Rb Mb:Nat)(g:List UInt8→Option Lfc.Op)(n:Nat)(wr:World):Prop where
 bel:Below w.heap.size w wr
 res:wr.heap[R]?=some (.cells #[.int .i64 0,S [],.int .i64 0,.slice none 0 0] 46 (0,0))
 rs:wr.heap[Rb]?=some (.cells #[.map (some Mb),.int .i64 0] 174 (0,0))
 map:OpMap wr Mb n g
theorem TopI.new{w wr w':World}{R Rb Mb n:Nat}{g:List UInt8→Option Lfc.Op}(h:TopI w R Rb Mb g n wr)(hb:Below wr.heap.size wr w'):TopI w R Rb Mb g n w' :=
 ⟨h.bel.trans (hb.mono h.bel.size),(hb.block _ (lt_of_block h.res)).trans h.res,(hb.block _ (lt_of_block h.rs)).trans h.rs,h.map.kept (Oth.of_below (T:=w'.heap.size+wr.heap.size+Mb+1) hb) (fun e=>by have:=Option.some.inj e;omega)⟩
theorem treeV_nil0(w:World)(k p:Int)(n:List UInt8)(hn:n.length≤1000000):TreeV w (.node k n p []) (.agg #[.int .i64 k,S n,.int .i64 p,.slice none 0 0]) :=
 TreeV.mk (ts:=[]) hn (Nat.le_refl _) (fun h=>absurd rfl h)
set_option maxRecDepth 100000 in
set_option maxHeartbeats 2000000 in
theorem resolve_bad(q:Nat→Prop)(l:List Lfc.Op)(s:List Lfc.Opd)(Al As:Option Addr)(cl cs:Nat)(w:World)(hll:l.length≤1000000)(hl:OpsAt w Al l)(hbad:l.any (fun o=>decide (o.bad≠0))=true) :
  Calls Tryz.prog 65 #[.slice Al l.length cl,.slice As s.length cs] w fun e w'=>(∃v,e=.returned (.tuple #[v,.int .i64 (Lfc.resolved l s).2])∧TreeVP q w' (Lfc.resolved l s).1 v)∧Below w.heap.size w w':=by
 have HRES:Hid (Lfc.resolved l s=(Lfc.rawZ,1)):=Lib.hid (if_pos hbad)
 have he:=enters_res1
 obtain⟨wa,hwa⟩:∃wa,w.alloc (.cells #[.int .i64 0,S [],.int .i64 0,.slice none 0 0] 46)=wa:=⟨_,rfl⟩
 have ba:Below w.heap.size w wa:=by rw[←hwa];exact(Below.refl _ _).alloc (Nat.le_refl _) _
 have qr:wa.heap[w.heap.size]?=some (.cells #[.int .i64 0,S [],.int .i64 0,.slice none 0 0] 46 (0,0)):=by rw[←hwa];exact heap_alloc_new _ _
 have C1:=Lib.hid (contains_res1 l Al cl wa (by omega) (hl.below ba))
 rw[hbad] at C1
 have BA:=Lib.hid ba
 have QR:=Lib.hid qr
 clear hl ba qr hbad
 go_enter Tryz.func65,Tryz.ntmps65
 go_upto_region 1 with fail
 clear hwa
 go_wp2_with fail
 refine C1.out.mono ?_
 rintro e w1⟨rfl,b1⟩
 have bw:=BA.out.trans (b1.mono BA.out.size)
 have qr1:=(b1.block _ (lt_of_block QR.out)).trans QR.out
 obtain⟨s1,s2,s3,s4,g1,g2,g3,g4,⟨y0,y1,y2,y3⟩,⟨f0,f1,f2,f3⟩,hq,ho⟩:=put4 qr1 (.int .i64 0) (S []) (.int .i64 0) (.slice none 0 0)
 have HO4:=Lib.hid ho
 have HB:=Lib.hid (Oth.below bw ho (Nat.le_refl _) bw.size)
 have HQ:=Lib.hid hq
 clear hq ho
 clear qr1 b1 bw
 go_wp2_with fail
 refine bodyPost_ret (results_raw2 rfl _ _ _ _ _ _ _ rfl HQ.out) rfl ?_
 rw[HRES.out]
 exact⟨⟨_,rfl,(treeV_nil0 _ _ _ _ (by simp)).leafP⟩,HB.out⟩
theorem cells2{W:World}{g:Nat}{v0 v1:Value}{t:TypeId}(h:W.heap[g]?=some (.cells #[v0,v1] t (0,0))):W.cell? ⟨g,0,none⟩=some v0∧W.cell? ⟨g,1,none⟩=some v1 :=
 ⟨Lib.cell_of_heap h 0,Lib.cell_of_heap h 1⟩
set_option maxRecDepth 100000 in
set_option maxHeartbeats 4000000 in
theorem resolve_gen(F:Prop)(l:List Lfc.Op)(s:List Lfc.Opd)(Al As:Option Addr)(cl cs:Nat)(w:World)(hll:l.length≤1000000)(hsl:s.length≤1000000)(hcs:s.length≤cs)(hws:Lfc.wsum s≤100000000)(hl:OpsAt w Al l)(hs:OpdsAt w As s)(hF:∀x∈s,x.closed=false→x.tree.kind=1→x.tree.args=[]∨F) :
  Calls Tryz.prog 65 #[.slice Al l.length cl,.slice As s.length cs] w fun e w'=>(∃v,e=.returned (.tuple #[v,.int .i64 (Lfc.resolved l s).2])∧TreeVP (fun b=>(b<w.heap.size∧F)∨w.heap.size≤b) w' (Lfc.resolved l s).1 v)∧Below w.heap.size w w':=by
 by_cases hbad:l.any (fun o=>decide (o.bad≠0))=true
 ·exact resolve_bad _ l s Al As cl cs w hll hl hbad
 have hbadf:l.any (fun o=>decide (o.bad≠0))=false:=by simpa using hbad
 have he:=enters_res1
 have he2:=enters_res2
 obtain⟨wa,hwa⟩:∃wa,w.alloc (.cells #[.int .i64 0,S [],.int .i64 0,.slice none 0 0] 46)=wa:=⟨_,rfl⟩
 have ba:Below w.heap.size w wa:=by rw[←hwa];exact(Below.refl _ _).alloc (Nat.le_refl _) _
 have qr:wa.heap[w.heap.size]?=some (.cells #[.int .i64 0,S [],.int .i64 0,.slice none 0 0] 46 (0,0)):=by rw[←hwa];exact heap_alloc_new _ _
 have C1:=Lib.hid (contains_res1 l Al cl wa (by omega) (hl.below ba))
 rw[hbadf] at C1
 obtain⟨a1,HA1⟩:∃a1,Hid (s.any (fun x=>!x.arrow && decide (x.tree.wf=1))=a1):=⟨_,Lib.hid rfl⟩
 obtain⟨a2,HA2⟩:∃a2,Hid (s.any (fun x=>!x.arrow && decide (x.tree.wf=2))=a2):=⟨_,Lib.hid rfl⟩
 have HR:Hid (Lfc.resolved l s=if a1=true then(Lfc.rawZ,1) else if a2=true then(Lfc.rawZ,2) else Lfc.resTail l s):=Lib.hid (by
  rw[Lfc.resolved_tail,if_neg hbad,HA1.out,HA2.out])
 have BA:=Lib.hid ba
 have QR:=Lib.hid qr
 have HL:=Lib.hid hl
 have HS:=Lib.hid hs
 have HSM:Hid (∀x∈s,x.tree.size≤100000000):=Lib.hid (fun x hx=>by have:=Lfc.wsum_mem s x hx;omega)
 have HSF:Hid (Small F s):=Lib.hid (fun x hx=>⟨by have:=Lfc.wsum_mem s x hx;omega,hF x hx⟩)
 have hsa:=eq2 (show wa.heap.size=w.heap.size+1 by rw[←hwa];simp)
 clear hl hs ba qr hbad hbadf hF
 go_enter Tryz.func65,Tryz.ntmps65
 go_upto_region 1 with fail
 clear hwa
 go_wp2_with fail
 refine C1.out.mono ?_
 rintro e w1⟨rfl,b1⟩
 have hs1:=b1.size
 obtain⟨w2,hw2⟩:∃w2,w1.alloc (.cells #[.int .i64 1,.int .i64 2] 27)=w2:=⟨_,rfl⟩
 have b2:Below w1.heap.size w1 w2:=by rw[←hw2];exact(Below.refl _ _).alloc (Nat.le_refl _) _
 have q2:w2.heap[w1.heap.size]?=some (.cells #[.int .i64 1,.int .i64 2] 27 (0,0)):=by rw[←hw2];exact heap_alloc_new _ _
 have bw2:Below w.heap.size w w2:=BA.out.trans ((b1.trans (b2.mono hs1)).mono BA.out.size)
 have B2:=Lib.hid bw2
 have Q2:=Lib.hid q2
 have QR2:=Lib.hid (((b1.trans (b2.mono hs1)).block _ (lt_of_block QR.out)).trans QR.out)
 have HS2:=Lib.hid (HS.out.below bw2)
 have HV:Hid (w.heap.size<w2.heap.size):=Lib.hid (by have:=b2.size;omega)
 have hw2s:=b2.size
 clear b1 b2 q2 bw2 C1
 go_upto_region 4 with fail
 clear hw2
 go_wp2_with fail
 go_loopw [20] (fun i wr=>∃j:Nat,j≤2∧i=.int .i64 j∧Below w2.heap.size w2 wr∧(1≤j→a1=false)∧(2≤j→a2=false)) (fun i _=>2-(intOf i).toNat)
 case atStart=>exact⟨0,by omega,rfl,Below.refl _ _,fun h=>by omega,fun h=>by omega⟩
 case round =>
  obtain⟨j,hj,rfl,hbw,h1,h2⟩:=hrel
  rcases(show j=0∨j=1∨j=2 by omega) with rfl | rfl | rfl
  ·clear h1 h2
   have hce:wr.cell? ⟨w1.heap.size,0,none⟩=some (.int .i64 1):=(cells2 ((hbw.block _ (lt_of_block Q2.out)).trans Q2.out)).1
   obtain⟨w3,hw3⟩:∃w3,wr.alloc (.cells #[.int .i64 1] 27)=w3:=⟨_,rfl⟩
   have b3:Below wr.heap.size wr w3:=by rw[←hw3];exact(Below.refl _ _).alloc (Nat.le_refl _) _
   have q3:w3.heap[wr.heap.size]?=some (.cells #[.int .i64 1] 27 (0,0)):=by rw[←hw3];exact heap_alloc_new _ _
   have b23:Below w2.heap.size w2 w3:=hbw.trans (b3.mono hbw.size)
   have CC:=Lib.hid (contains_res2 s As cs w3 wr.heap.size 1 (by omega) (HS2.out.below b23) (cell_of_one q3) (lt_of_block q3) HSM.out)
   rw[HA1.out] at CC
   have HW3:=Lib.hid hw3
   have B23:=Lib.hid b23
   have h3lt:=lt_of_block q3
   have Q3:=Lib.hid q3
   clear hw3 b3 q3 b23
   cases a1
   ·go_upto_region 6 with fail
    rw[HW3.out]
    go_wp2_with fail
    refine CC.out.mono ?_
    rintro e w4⟨rfl,b4⟩
    have b24:=B23.out.trans (b4.mono B23.out.size)
    clear b4
    go_wp2_with fail
    go_roundw
    case rel=>exact⟨1,by omega,by rfl,b24,by first | exact fun _=>rfl | simp,by first | exact fun h=>by omega | simp⟩
    case measure=>simp[intOf]
   ·have HRES:Hid (Lfc.resolved l s=(Lfc.rawZ,1)):=Lib.hid (by
     have e:=HR.out
     rw[if_pos rfl] at e
     exact e)
    go_upto_region 6 with fail
    rw[HW3.out]
    go_wp2_with fail
    refine CC.out.mono ?_
    rintro e w4⟨rfl,b4⟩
    have b24:=B23.out.trans (b4.mono B23.out.size)
    have q4:=(b4.block _ h3lt).trans Q3.out
    have x4:=cell_of_one q4
    have bw:=B2.out.trans (b24.mono B2.out.size)
    have qr4:=(b24.block _ (lt_of_block QR2.out)).trans QR2.out
    obtain⟨s1,s2,s3,s4,g1,g2,g3,g4,⟨y0,y1,y2,y3⟩,⟨f0,f1,f2,f3⟩,hq,ho⟩:=put4 (W:=w4.drew) qr4 (.int .i64 0) (S []) (.int .i64 0) (.slice none 0 0)
    have HO4:=Lib.hid ho
    have HB:=Lib.hid (Oth.below bw.drew ho (Nat.le_refl _) bw.size)
    have HQ:=Lib.hid hq
    clear hq ho
    have xs4:s4.cell? ⟨wr.heap.size,0,none⟩=some (.int .i64 1):=by
     have hlt4:=lt_of_block q4
     have hne:wr.heap.size≠w.heap.size:=by have:=HV.out;have:=hbw.size;omega
     exact cell_of_one ((HO4.out.heap (w:=w4.drew) q4 hne))
    clear b4 b24 q4 bw qr4
    go_wp2_with fail
    go_region_held3 (fun W=>W.cell? ⟨wr.heap.size,0,none⟩=some (.int .i64 1))
     (first | exact x4 | exact xs4)
     (fail)
    all_goals
     go_wp2_with fail
     refine bodyPost_ret (results_raw2 rfl _ _ _ _ _ _ _ rfl HQ.out) rfl ?_
     rw[HRES.out]
     exact⟨⟨_,rfl,(treeV_nil0 _ _ _ _ (by simp)).leafP⟩,HB.out⟩
  ·clear h2
   have h1':=h1 (by omega)
   have hce:wr.cell? ⟨w1.heap.size,1,none⟩=some (.int .i64 2):=(cells2 ((hbw.block _ (lt_of_block Q2.out)).trans Q2.out)).2
   obtain⟨w3,hw3⟩:∃w3,wr.alloc (.cells #[.int .i64 2] 27)=w3:=⟨_,rfl⟩
   have b3:Below wr.heap.size wr w3:=by rw[←hw3];exact(Below.refl _ _).alloc (Nat.le_refl _) _
   have q3:w3.heap[wr.heap.size]?=some (.cells #[.int .i64 2] 27 (0,0)):=by rw[←hw3];exact heap_alloc_new _ _
   have b23:Below w2.heap.size w2 w3:=hbw.trans (b3.mono hbw.size)
   have CC:=Lib.hid (contains_res2 s As cs w3 wr.heap.size 2 (by omega) (HS2.out.below b23) (cell_of_one q3) (lt_of_block q3) HSM.out)
   rw[HA2.out] at CC
   have HW3:=Lib.hid hw3
   have B23:=Lib.hid b23
   have h3lt:=lt_of_block q3
   have Q3:=Lib.hid q3
   clear hw3 b3 q3 b23
   cases a2
   ·go_upto_region 6 with fail
    rw[HW3.out]
    go_wp2_with fail
    refine CC.out.mono ?_
    rintro e w4⟨rfl,b4⟩
    have b24:=B23.out.trans (b4.mono B23.out.size)
    clear b4
    go_wp2_with fail
    go_roundw
    case rel=>exact⟨2,by omega,by rfl,b24,fun _=>h1',by first | exact fun _=>rfl | simp⟩
    case measure=>simp[intOf]
   ·have HRES:Hid (Lfc.resolved l s=(Lfc.rawZ,2)):=Lib.hid (by
     have e:=HR.out
     rw[h1 (by omega),if_neg (by simp),if_pos rfl] at e
     exact e)
    go_upto_region 6 with fail
    rw[HW3.out]
    go_wp2_with fail
    refine CC.out.mono ?_
    rintro e w4⟨rfl,b4⟩
    have b24:=B23.out.trans (b4.mono B23.out.size)
    have q4:=(b4.block _ h3lt).trans Q3.out
    have x4:=cell_of_one q4
    have bw:=B2.out.trans (b24.mono B2.out.size)
    have qr4:=(b24.block _ (lt_of_block QR2.out)).trans QR2.out
    obtain⟨s1,s2,s3,s4,g1,g2,g3,g4,⟨y0,y1,y2,y3⟩,⟨f0,f1,f2,f3⟩,hq,ho⟩:=put4 (W:=w4.drew) qr4 (.int .i64 0) (S []) (.int .i64 0) (.slice none 0 0)
    have HO4:=Lib.hid ho
    have HB:=Lib.hid (Oth.below bw.drew ho (Nat.le_refl _) bw.size)
    have HQ:=Lib.hid hq
    clear hq ho
    have xs4:s4.cell? ⟨wr.heap.size,0,none⟩=some (.int .i64 2):=by
     have hlt4:=lt_of_block q4
     have hne:wr.heap.size≠w.heap.size:=by have:=HV.out;have:=hbw.size;omega
     exact cell_of_one ((HO4.out.heap (w:=w4.drew) q4 hne))
    clear b4 b24 q4 bw qr4
    go_wp2_with fail
    go_region_held3 (fun W=>W.cell? ⟨wr.heap.size,0,none⟩=some (.int .i64 2))
     (first | exact x4 | exact xs4)
     (fail)
    all_goals
     go_wp2_with fail
     refine bodyPost_ret (results_raw2 rfl _ _ _ _ _ _ _ rfl HQ.out) rfl ?_
     rw[HRES.out]
     exact⟨⟨_,rfl,(treeV_nil0 _ _ _ _ (by simp)).leafP⟩,HB.out⟩
  ·have HT:Hid (Lfc.resolved l s=Lfc.resTail l s):=Lib.hid (by
    have e:=HR.out
    rw[h1 (by omega),h2 (by omega),if_neg (by simp),if_neg (by simp)] at e
    exact e)
   have BW:=Lib.hid (B2.out.trans (hbw.mono B2.out.size))
   have QRr:=Lib.hid ((hbw.block _ (lt_of_block QR2.out)).trans QR2.out)
   clear h1 h2 HR HA1 HA2 HS2 Q2 QR2 hbw hj
   by_cases hone:s.length=1
   ·have hpos0:0<s.length:=by omega
    have hone2:((s.length:Int) == 1)=true:=by simp[hone]
    have H1:=Lib.hid hone
    have hsl2:s.length≤1:=by omega
    clear hone
    obtain⟨bs,os,kk,nn,pp,tt,BB,cc,hAs,hbs,hnd,e0,e1,e2,e3,e4,hTT⟩:=HS.out.at_ (i:=0) (by omega)
    simp only[Nat.zero_mul,Nat.add_zero] at e0 e1 e2 e3 e4
    subst hAs
    have cc0:∀W,Below w.heap.size w W→W.cell? ⟨bs,os,none⟩=some (.int .i64 kk)∧W.cell? ⟨bs,os+1,none⟩=some (S nn)∧W.cell? ⟨bs,os+2,none⟩=some (.int .i64 pp)∧W.cell? ⟨bs,os+3,none⟩=some (.slice BB tt.length cc)∧W.cell? ⟨bs,os+4,none⟩=some (.bool s[0].closed):=fun W hb=>⟨(hb.cell (p:=⟨bs,_,none⟩) hbs).trans e0,(hb.cell (p:=⟨bs,_,none⟩) hbs).trans e1,(hb.cell (p:=⟨bs,_,none⟩) hbs).trans e2,(hb.cell (p:=⟨bs,_,none⟩) hbs).trans e3,(hb.cell (p:=⟨bs,_,none⟩) hbs).trans e4⟩
    have hszt:=HSM.out s[0] (List.getElem_mem _)
    have hargs:s[0].tree.args.length≤1000000000:=by
     have h1:s[0].tree.args=tt:=by rw[hnd];rfl
     have h2:=Lfc.Raw.sizes_len tt
     rw[hnd] at hszt
     simp only[Lfc.Raw.size] at hszt
     rw[h1];omega
    have CA:=Lib.hid (arrow_any s[0] _ wr hargs ⟨kk,nn,pp,tt,BB,cc,hnd,rfl,hTT.below BW.out⟩)
    have CC:=Lib.hid (fun W (hb:Below w.heap.size w W)=>clone_weak (fun b=>b<w.heap.size∧F) 100000000 (Nat.le_refl _) s[0].tree (.agg #[.int .i64 kk,S nn,.int .i64 pp,.slice BB tt.length cc]) W (fun b=>b<w.heap.size∧True) hszt (by
     rw[hnd]
     obtain⟨v0,v1,v2,v3,ev,hp⟩:=TreeV.toF (F:=True) (.inr trivial) hTT
     exact⟨v0,v1,v2,v3,ev,TreeP.keep (fun b hq _=>hb.block b hq.1) hb.size (fun _ _ h=>h) _ _ _ _ _ hp⟩))
    have HG:Hid (s.getD 0 Lfc.opdZ=s[0]):=Lib.hid (by simp[show 0<s.length by omega])
    have FC:=Lib.hid cc0
    obtain⟨x0,x1,x2,x3,x4⟩:=cc0 wr BW.out
    have hpi:(0:Int)<(s.length:Int):=by omega
    generalize hcl:s[0].closed=cl' at *
    generalize har:s[0].arrow=ar at *
    clear e0 e1 e2 e3 e4 hTT hnd cc0 hcl hargs
    cases ar
    ·have HRES:Hid (Lfc.resolved l s=(s[0].tree,0)):=Lib.hid (by rw[HT.out];unfold Lfc.resTail;rw[if_pos H1.out,HG.out,har];rfl)
     clear har
     go_wp2_with fail
     refine CA.out.mono ?_
     rintro e w4⟨rfl,b4⟩
     have bw4:=BW.out.trans (b4.mono BW.out.size)
     have CC4:=Lib.hid (CC.out w4 bw4)
     have BW4:=Lib.hid bw4
     have qr4:=Lib.hid ((b4.block _ (lt_of_block QRr.out)).trans QRr.out)
     clear x0 x1 x2 x3 x4
     obtain⟨x0,x1,x2,x3,x4⟩:=FC.out w4 bw4
     clear b4 bw4
     go_wp2_with fail
     refine CC4.out.mono ?_
     rintro e w5⟨⟨v5,rfl,hv5⟩,b5⟩
     obtain⟨k5,n5,p5,us5,A5,c5,e5,rfl,tp5⟩:=hv5.parts4
     have bw5:=BW4.out.trans (b5.mono BW4.out.size)
     have qr5:=(b5.block _ (lt_of_block qr4.out)).trans qr4.out
     have hz4:w.heap.size<w4.heap.size:=lt_of_block qr4.out
     obtain⟨s1,s2,s3,s4,g1,g2,g3,g4,⟨y0,y1,y2,y3⟩,⟨f0,f1,f2,f3⟩,hq,ho⟩:=put4 qr5 (.int .i64 k5) (S n5) (.int .i64 p5) (.slice A5 us5.length c5)
     have HO4:=Lib.hid ho
     have HB:=Lib.hid (Oth.below bw5 ho (Nat.le_refl _) bw5.size)
     have HQ:=Lib.hid hq
     clear hq ho
     have TP5:=Lib.hid tp5
     clear tp5 hv5 b5 bw5 qr5 e5
     go_wp2_with fail
     refine bodyPost_ret (results_raw2 rfl _ _ _ _ _ _ _ rfl HQ.out) rfl ?_
     rw[HRES.out]
     refine⟨⟨_,rfl,⟨_,_,_,_,rfl,?_⟩⟩,HB.out⟩
     exact TreeP.keep (fun b hb hlt=>HO4.out.block b hlt (fun e=>by have:=Option.some.inj e;rcases hb with hb | hb <;> omega)) HO4.out.size (fun b _ hb=>by rcases hb with hb | hb;exact .inl hb;exact .inr (by omega)) _ _ _ _ _ TP5.out
    ·have HRES:Hid (Lfc.resolved l s=(Lfc.rawZ,21)):=Lib.hid (by rw[HT.out];unfold Lfc.resTail;rw[if_pos H1.out,HG.out,har];rfl)
     clear har
     go_wp2_with fail
     refine CA.out.mono ?_
     rintro e w4⟨rfl,b4⟩
     have bw4:=BW.out.trans (b4.mono BW.out.size)
     have qr4:=(b4.block _ (lt_of_block QRr.out)).trans QRr.out
     obtain⟨s1,s2,s3,s4,g1,g2,g3,g4,⟨y0,y1,y2,y3⟩,⟨f0,f1,f2,f3⟩,hq,ho⟩:=put4 qr4 (.int .i64 0) (S []) (.int .i64 0) (.slice none 0 0)
     have HO4:=Lib.hid ho
     have HB:=Lib.hid (Oth.below bw4 ho (Nat.le_refl _) bw4.size)
     have HQ:=Lib.hid hq
     clear hq ho
     clear bw4 qr4 b4 x0 x1 x2 x3 x4
     go_wp2_with fail
     refine bodyPost_ret (results_raw2 rfl _ _ _ _ _ _ _ rfl HQ.out) rfl ?_
     rw[HRES.out]
     exact⟨⟨_,rfl,(treeV_nil0 _ _ _ _ (by simp)).leafP⟩,HB.out⟩
   ·have hone2:((s.length:Int) == 1)=false:=by simpa using(by omega:¬(s.length:Int)=1)
    have HT2:Hid (Lfc.resolved l s=match Lfc.resP l s.length s with | .error e=>(Lfc.rawZ,e) | .ok t=>if t.wf=0 then(t,0) else(Lfc.rawZ,2)):=Lib.hid (by rw[HT.out];unfold Lfc.resTail;rw[if_neg hone])
    have hRlt:w.heap.size<wr.heap.size:=lt_of_block QRr.out
    obtain⟨m2,hp1,M1,o1⟩:=(OpMap.made wr).put (by omega) Lfc.arrR (by simp[Lfc.arrR]) ⟨[],5,-1⟩
    obtain⟨m3,hp2,M2,o2⟩:=M1.put (by omega) Lfc.arrL (by simp[Lfc.arrL]) ⟨[],4,-1⟩
    have hp1':(Instr.mapUpdate 172 (.map (some wr.heap.size)) (.string ⟨#[45,62]⟩) (.agg #[.string ⟨#[]⟩,.int .i64 5,.int .i64 (-1)])).run Tryz.prog (wr.alloc (.map #[] 0))=.ok () m2:=hp1
    have hp2':(Instr.mapUpdate 172 (.map (some wr.heap.size)) (.string ⟨#[60,45]⟩) (.agg #[.string ⟨#[]⟩,.int .i64 4,.int .i64 (-1)])).run Tryz.prog m2=.ok () m3:=hp2
    have hmk:∀W:World,(Instr.makeMap 172 none).run Tryz.prog W=.ok (.map (some W.heap.size)) (W.alloc (.map #[] 0)):=fun W=>rfl
    have h12:=o1.size
    have h23:=o2.size
    have hm1s:(wr.alloc (.map #[] 0)).heap.size=wr.heap.size+1:=by simp
    have k3:∀b,b<wr.heap.size→m3.heap[b]?=wr.heap[b]?:=fun b hb=>by
     rw[o2.block b (by omega) (fun e=>by have:=Option.some.inj e;omega),o1.block b (by omega) (fun e=>by have:=Option.some.inj e;omega)]
     exact Lib.alloc_old wr _ b hb
    have b3:Below w.heap.size w m3:=⟨(o2.os.trans o1.os).trans BW.out.os,(o2.tape.trans o1.tape).trans BW.out.tape,(o2.output.trans o1.output).trans BW.out.output,by have:=BW.out.size;omega,fun b hb=>(k3 b (by omega)).trans (BW.out.block b hb)⟩
    obtain⟨m4,hm4⟩:∃m4,m3.alloc (.cells #[.map (some wr.heap.size),.int .i64 0] 174)=m4:=⟨_,rfl⟩
    have b4:Below m3.heap.size m3 m4:=by rw[←hm4];exact(Below.refl _ _).alloc (Nat.le_refl _) _
    have q4:m4.heap[m3.heap.size]?=some (.cells #[.map (some wr.heap.size),.int .i64 0] 174 (0,0)):=by rw[←hm4];exact heap_alloc_new _ _
    have I0:Hid (TopI w w.heap.size m3.heap.size wr.heap.size (Lfc.look (l.take 0)) 2 m4):=by
     refine Lib.hid ⟨b3.trans (b4.mono b3.size),(b4.block _ (by omega)).trans ((k3 _ hRlt).trans QRr.out),q4,?_⟩
     refine((M2.kept (Oth.of_below (T:=m3.heap.size) b4) (fun e=>by have:=Option.some.inj e;omega)).congr fun n=>?_)
     unfold Lfc.look
     by_cases h1:n=Lfc.arrR
     ·have h2:¬n=Lfc.arrL:=by rw[h1];decide
      simp[h1,h2]
      intro h3;exact absurd h3 (by decide)
     ·by_cases h2:n=Lfc.arrL
      ·simp[h1,h2]
       intro h3;exact absurd h3 (by decide)
      ·simp[h1,h2]
    have HM4:=Lib.hid hm4
    have hMR:wr.heap.size<m3.heap.size:=by omega
    have hws2:w.heap.size≤m3.heap.size:=by omega
    clear hp1 hp2 M1 M2 o1 o2 h12 h23 hm1s k3 b3 b4 q4 hm4 hone
    go_upto_region 14 with fail
    rw[HM4.out]
    clear hp1' hp2' hmk
    generalize m3.heap.size=Rb at *
    generalize hMb:wr.heap.size=Mb at *
    clear hMb HM4
    go_wp2_with fail
    go_loopw [50] (fun i wr=>∃j N:Nat,j≤l.length∧i=.int .i64 j∧N≤j+2∧Hid (TopI w w.heap.size Rb Mb (Lfc.look (l.take j)) N wr)) (fun i _=>l.length-(intOf i).toNat)
    case atStart=>exact⟨0,2,Nat.zero_le _,rfl,by omega,I0⟩
    case round =>
     clear I0 BW QRr
     obtain⟨j,N,hj,rfl,hN,HI⟩:=hrel
     by_cases hlt:j<l.length
     ·have HLS:=Lib.hid (look_succ l j hlt)
      obtain⟨bl,ol,hAl,hbl,hcs'⟩:=HL.out.2 (by intro e;rw[e] at hlt;simp at hlt)
      subst hAl
      obtain⟨d0,d1,d2⟩:=hcs' j hlt
      have hnl:=HL.out.1 l[j] (List.getElem_mem _)
      have e0:=(HI.out.bel.cell (p:=⟨bl,_,none⟩) hbl).trans d0
      have e1:=(HI.out.bel.cell (p:=⟨bl,_,none⟩) hbl).trans d1
      have e2:=(HI.out.bel.cell (p:=⟨bl,_,none⟩) hbl).trans d2
      have hi0:(0:Int)≤(j:Int):=Int.natCast_nonneg _
      have hi1:(j:Int)<(l.length:Int):=by omega
      generalize hlj:l[j]=o at *
      obtain⟨on,of,op⟩:=o
      simp only at d0 d1 d2 e0 e1 e2 hnl
      clear d0 d1 d2 hcs' hlj
      obtain⟨w5,hw5⟩:∃w5,wr.alloc (.cells #[S on,.int .i64 of,.int .i64 op] 34)=w5:=⟨_,rfl⟩
      have b5:Below wr.heap.size wr w5:=by rw[←hw5];exact(Below.refl _ _).alloc (Nat.le_refl _) _
      have q5:w5.heap[wr.heap.size]?=some (.cells #[S on,.int .i64 of,.int .i64 op] 34 (0,0)):=by rw[←hw5];exact heap_alloc_new _ _
      have I5:=Lib.hid (HI.out.new b5)
      have hlk:=I5.out.map.look on hnl
      obtain⟨x0,x1,x2⟩:=cells3 q5
      have r0:w5.cell? ⟨Rb,0,none⟩=some (.map (some Mb)):=Lib.cell_of_heap I5.out.rs 0
      have Q5:=Lib.hid q5
      have HW5:=Lib.hid hw5
      have h5lt:=lt_of_block q5
      clear hw5 b5 q5
      cases hlo:Lfc.look (l.take j) on with
      | some o' =>
       rw[hlo] at hlk
       obtain⟨pn,pf,pp⟩:=o'
       simp only[Option.getD_some,Option.isSome_some] at hlk
       unfold opV at hlk
       simp only at hlk
       have HNX:Hid (TopI w w.heap.size Rb Mb (Lfc.look (l.take (j+1))) N (w5.alloc (.cells #[S pn,.int .i64 pf,.int .i64 pp] 34))):=Lib.hid (by
        have h:=I5.out.new ((Below.refl _ _).alloc (Nat.le_refl _) (.cells #[S pn,.int .i64 pf,.int .i64 pp] 34))
        refine⟨h.bel,h.res,h.rs,h.map.congr fun n=>?_⟩
        rw[HLS.out n]
        simp[hlo])
       clear hlo
       go_upto_region 17 with fail
       rw[HW5.out]
       go_wp2_with fail
       go_roundw
       case rel=>exact⟨j+1,N,by omega,by go_num,by omega,HNX⟩
       case measure=>simp[intOf];omega
      | none =>
       rw[hlo] at hlk
       simp only[Option.getD_none,Option.isSome_none] at hlk
       unfold opV opZ at hlk
       simp only at hlk
       obtain⟨w6,hw6⟩:∃w6,w5.alloc (.cells #[S [],.int .i64 0,.int .i64 0] 34)=w6:=⟨_,rfl⟩
       have b6:Below w5.heap.size w5 w6:=by rw[←hw6];exact(Below.refl _ _).alloc (Nat.le_refl _) _
       have I6:=Lib.hid (I5.out.new b6)
       obtain⟨w7,hp7,M7,o7⟩:=I6.out.map.put (by omega) on hnl ⟨on,of,op⟩
       unfold opV at hp7
       simp only at hp7
       obtain⟨z0,z1,z2⟩:=cells3 ((b6.block _ h5lt).trans Q5.out)
       have r6:w6.cell? ⟨Rb,0,none⟩=some (.map (some Mb)):=Lib.cell_of_heap I6.out.rs 0
       have HNX:Hid (TopI w w.heap.size Rb Mb (Lfc.look (l.take (j+1))) (N+1) w7):=Lib.hid (by
        refine⟨Oth.below I6.out.bel o7 (by omega) I6.out.bel.size,o7.heap I6.out.res (by omega),o7.heap I6.out.rs (by omega),M7.congr fun n=>?_⟩
        rw[HLS.out n]
        simp[hlo])
       have HW6:=Lib.hid hw6
       clear hlo hw6 b6 M7 o7
       go_upto_region 17 with fail
       rw[HW5.out]
       go_upto_region 18 with fail
       rw[HW6.out]
       go_wp2_with fail
       go_roundw
       case rel=>exact⟨j+1,N+1,by omega,by go_num,by omega,HNX⟩
       case measure=>simp[intOf];omega
     ·have hjl:j=l.length:=by omega
      have HEV:Hid (EnvR w Rb Mb l wr):=Lib.hid ⟨by omega,by omega,HI.out.bel,⟨0,HI.out.rs⟩,⟨N,HI.out.map.congr fun n=>by rw[hjl,List.take_length]⟩⟩
      have CR:=Lib.hid (res_upto F w Rb Mb l s.length s As cs wr (Nat.le_refl _) hsl hcs HSF.out HS.out HEV.out)
      have hRl:=lt_of_block HI.out.res
      clear hjl
      cases hres:Lfc.resP l s.length s with
      | error kk =>
       rw[hres] at CR
       have HRES:Hid (Lfc.resolved l s=(Lfc.rawZ,kk)):=Lib.hid (by rw[HT2.out,hres])
       unfold ResPost ResErr at CR
       simp only at CR
       clear hres
       go_wp2_with fail
       refine CR.out.mono ?_
       rintro ee w8⟨rfl,o8,hc8⟩
       obtain⟨w9,hw9⟩:∃w9,w8.alloc (.cells #[.int .i64 0,S [],.int .i64 0,.slice none 0 0] 46)=w9:=⟨_,rfl⟩
       have b9:Below w8.heap.size w8 w9:=by rw[←hw9];exact(Below.refl _ _).alloc (Nat.le_refl _) _
       have qr8:=o8.heap HI.out.res (by omega)
       have qr9:=(b9.block _ (lt_of_block qr8)).trans qr8
       have hc9:=(b9.block _ (lt_of_block hc8)).trans hc8
       have x1:w9.cell? ⟨Rb,1,none⟩=some (.int .i64 kk):=Lib.cell_of_heap hc9 1
       have bw8:=Oth.below HI.out.bel o8 (by omega) HI.out.bel.size
       have bw9:=bw8.trans (b9.mono bw8.size)
       obtain⟨s1,s2,s3,s4,g1,g2,g3,g4,⟨y0,y1,y2,y3⟩,⟨f0,f1,f2,f3⟩,hq,ho⟩:=put4 (W:=w9.drew) qr9 (.int .i64 0) (S []) (.int .i64 0) (.slice none 0 0)
       have HO4:=Lib.hid ho
       have HB:=Lib.hid (Oth.below bw9.drew ho (Nat.le_refl _) bw9.size)
       have HQ:=Lib.hid hq
       clear hq ho
       have x1s:s4.cell? ⟨Rb,1,none⟩=some (.int .i64 kk):=Lib.cell_of_heap (HO4.out.heap (w:=w9.drew) hc9 (by omega)) 1
       have HW9:=Lib.hid hw9
       clear hw9 b9 qr8 qr9 hc9 bw8 bw9 hc8 o8
       go_upto_region 22 with fail
       rw[HW9.out]
       go_wp2_with fail
       go_region_held3 (fun W=>W.cell? ⟨Rb,1,none⟩=some (.int .i64 kk))
        (first | exact x1 | exact x1s)
        (fail)
       all_goals
        go_wp2_with fail
        refine bodyPost_ret (results_raw2 rfl _ _ _ _ _ _ _ rfl HQ.out) rfl ?_
        rw[HRES.out]
        exact⟨⟨_,rfl,(treeV_nil0 _ _ _ _ (by simp)).leafP⟩,HB.out⟩
      | ok t =>
       rw[hres] at CR
       have HSZ:Hid (t.size≤100000000):=Lib.hid (Nat.le_trans (Lfc.resP_size l _ s t hres) hws)
       have HR2:Hid (Lfc.resolved l s=if t.wf=0 then(t,0) else(Lfc.rawZ,2)):=Lib.hid (by rw[HT2.out,hres])
       unfold ResPost ResOk at CR
       simp only at CR
       clear hres
       go_wp2_with fail
       refine CR.out.mono ?_
       rintro ee w8⟨v8,rfl,ht8,o8,bad8,hc8⟩
       obtain⟨k5,n5,p5,us5,A5,c5,e5,rfl,tp5⟩:=ht8.parts4
       obtain⟨w9,hw9⟩:∃w9,w8.alloc (.cells #[.int .i64 k5,S n5,.int .i64 p5,.slice A5 us5.length c5] 46)=w9:=⟨_,rfl⟩
       have b9:Below w8.heap.size w8 w9:=by rw[←hw9];exact(Below.refl _ _).alloc (Nat.le_refl _) _
       have q9:w9.heap[w8.heap.size]?=some (.cells #[.int .i64 k5,S n5,.int .i64 p5,.slice A5 us5.length c5] 46 (0,0)):=by rw[←hw9];exact heap_alloc_new _ _
       have qr8:=o8.heap HI.out.res (by omega)
       have QR9:=Lib.hid ((b9.block _ (lt_of_block qr8)).trans qr8)
       have bw8:=Oth.below HI.out.bel o8 (by omega) HI.out.bel.size
       have BW9:=Lib.hid (bw8.trans (b9.mono bw8.size))
       have TP9:Hid (TreeP (fun b=>(b<w.heap.size∧F)∨wr.heap.size≤b) w9 t (.int .i64 k5) (S n5) (.int .i64 p5) (.slice A5 us5.length c5)):=Lib.hid (TreeP.keep (fun b _ hlt=>b9.block b hlt) b9.size (fun _ _ h=>h) _ _ _ _ _ tp5)
       have CW:=Lib.hid (wf_any t _ w9 (by have:=HSZ.out;omega) (TreeVP.toV ⟨_,_,_,_,rfl,TP9.out⟩))
       have Q9:=Lib.hid q9
       obtain⟨x0,x1,x2,x3⟩:=cells4 q9
       have HW9:=Lib.hid hw9
       have h9lt:=lt_of_block q9
       clear hw9 b9 q9 qr8 bw8 hc8 o8 ht8 tp5 e5
       generalize t.wf=f at *
       go_upto_region 22 with fail
       rw[HW9.out]
       by_cases hf:f=0
       ·have HRES:Hid (Lfc.resolved l s=(t,0)):=Lib.hid (by rw[HR2.out,if_pos hf])
        rw[hf] at CW
        clear hf
        go_wp2_with fail
        refine CW.out.mono ?_
        rintro ee wv⟨rfl,bv⟩
        have bwv:=BW9.out.trans (bv.mono BW9.out.size)
        have qrv:=(bv.block _ (lt_of_block QR9.out)).trans QR9.out
        obtain⟨z0,z1,z2,z3⟩:=cells4 ((bv.block _ h9lt).trans Q9.out)
        have TPv:=Lib.hid (TreeP.keep (q':=fun b=>(b<w.heap.size∧F)∨wr.heap.size≤b) (fun b _ hlt=>bv.block b hlt) bv.size (fun _ _ h=>h) _ _ _ _ _ TP9.out)
        obtain⟨s1,s2,s3,s4,g1,g2,g3,g4,⟨y0,y1,y2,y3⟩,⟨f0,f1,f2,f3⟩,hq,ho⟩:=put4 qrv (.int .i64 k5) (S n5) (.int .i64 p5) (.slice A5 us5.length c5)
        have HO4:=Lib.hid ho
        have HB:=Lib.hid (Oth.below bwv ho (Nat.le_refl _) bwv.size)
        have HQ:=Lib.hid hq
        clear hq ho
        clear bv bwv qrv x0 x1 x2 x3
        go_wp2_with fail
        refine bodyPost_ret (results_raw2 rfl _ _ _ _ _ _ _ rfl HQ.out) rfl ?_
        rw[HRES.out]
        refine⟨⟨_,rfl,⟨_,_,_,_,rfl,?_⟩⟩,HB.out⟩
        exact TreeP.keep (fun b hb hlt=>HO4.out.block b hlt (fun e=>by have:=Option.some.inj e;rcases hb with hb | hb <;> omega)) HO4.out.size (fun b _ hb=>by rcases hb with hb | hb;exact .inl hb;exact .inr (by omega)) _ _ _ _ _ TPv.out
       ·have HRES:Hid (Lfc.resolved l s=(Lfc.rawZ,2)):=Lib.hid (by rw[HR2.out,if_neg hf])
        have hf2:(f != 0)=true:=by simpa using hf
        clear hf
        go_wp2_with fail
        refine CW.out.mono ?_
        rintro ee wv⟨rfl,bv⟩
        have bwv:=BW9.out.trans (bv.mono BW9.out.size)
        have qrv:=(bv.block _ (lt_of_block QR9.out)).trans QR9.out
        obtain⟨s1,s2,s3,s4,g1,g2,g3,g4,⟨y0,y1,y2,y3⟩,⟨f0,f1,f2,f3⟩,hq,ho⟩:=put4 qrv (.int .i64 0) (S []) (.int .i64 0) (.slice none 0 0)
        have HO4:=Lib.hid ho
        have HB:=Lib.hid (Oth.below bwv ho (Nat.le_refl _) bwv.size)
        have HQ:=Lib.hid hq
        clear hq ho
        clear bv bwv qrv x0 x1 x2 x3
        go_wp2_with fail
        refine bodyPost_ret (results_raw2 rfl _ _ _ _ _ _ _ rfl HQ.out) rfl ?_
        rw[HRES.out]
        exact⟨⟨_,rfl,(treeV_nil0 _ _ _ _ (by simp)).leafP⟩,HB.out⟩
theorem resolve_new(l:List Lfc.Op)(s:List Lfc.Opd)(Al As:Option Addr)(cl cs:Nat)(w:World)(hll:l.length≤1000000)(hsl:s.length≤1000000)(hcs:s.length≤cs)(hws:Lfc.wsum s≤100000000)(hl:OpsAt w Al l)(hs:OpdsAt w As s)(hF:∀x∈s,x.closed=false→x.tree.kind=1→x.tree.args=[]) :
  Calls Tryz.prog 65 #[.slice Al l.length cl,.slice As s.length cs] w fun e w'=>(∃v,e=.returned (.tuple #[v,.int .i64 (Lfc.resolved l s).2])∧TreeVP (fun b=>w.heap.size≤b) w' (Lfc.resolved l s).1 v)∧Below w.heap.size w w' :=
 (resolve_gen False l s Al As cl cs w hll hsl hcs hws hl hs (fun x hx h1 h2=>.inl (hF x hx h1 h2))).mono fun _ _ ⟨⟨v,e,v0,v1,v2,v3,ev,h⟩,hb⟩=>⟨⟨v,e,v0,v1,v2,v3,ev,TreeP.keep (fun _ _ _=>rfl) (Nat.le_refl _) (fun b _ hb=>by rcases hb with hb | hb;exact hb.2.elim;exact hb) _ _ _ _ _ h⟩,hb⟩
end Go.Proofs.YthajalgkjonaaaaGreatDoor
namespace Go.Proofs.YthajalgkjonaaaaGreatDoor
open Go.RowKit
def OpdR(w:World):Option Lfc.Opd→Value→World→Prop
 |none,v,_=>v=.tuple #[.agg #[.int .i64 0,S [],.int .i64 0,.slice none 0 0,.bool false],.bool false]
 |some x,v,w'=>∃k n q us A c,v=.tuple #[.agg #[.int .i64 k,S n,.int .i64 q,.slice A us.length c,.bool x.closed],.bool true]∧x.tree=.node k n q us∧TreeP (fun b=>w.heap.size≤b) w' x.tree (.int .i64 k) (S n) (.int .i64 q) (.slice A us.length c)
def RawR(w:World)(t:Lfc.Raw)(v:Value)(w':World):Prop:=TreeVP (fun b=>w.heap.size≤b) w' t v
def OpdC'(p:Lfc.PE)(g:Nat→Lfc.PR (Option Lfc.Opd)):Prop:=∀(P k:Nat)(G:Hd)(w:World),k≤p.toks.length→g k≠.out→PW w P G p k →
 Calls Tryz.prog 64 #[.pointer (some ⟨P,0,none⟩)] w (PRes P G p w (OpdR w) (g k))
def Leafy(g:Nat→Lfc.PR (Option Lfc.Opd)):Prop:=∀k x k',g k=.ok (some x) k'→x.closed=false→x.tree.args=[]
theorem opd_infoP:∃i,Tryz.prog.info? 129=some i∧i.zero=some (.agg #[.int .i64 0,S [],.int .i64 0,.slice none 0 0,.bool false])∧i.size=5∧i.bytes=64:=by
 obtain⟨i0,hi,hz0,hz1,hz2⟩:=info_parts (show(Tryz.prog.info? 129).map (fun i=>(i.zero,i.size,i.bytes))=some (some (.agg #[.int .i64 0,S [],.int .i64 0,.slice none 0 0,.bool false]),5,64) by kernel_rfl)
 exact⟨i0,hi,hz0,hz1,hz2⟩
def slenP:Value→Nat
 |.slice _ n _=>n
 |_=>0
structure ExpI(w:World)(P:Nat)(G:Hd)(p:Lfc.PE)(k:Nat)(s:List Lfc.Opd)(v:Value)(xs:List Value)(wr:World):Prop where
 pw:PW wr P G p k
 le:k≤p.toks.length
 oth:Oth P w wr
 res:wr.heap[w.heap.size]?=some (.cells #[.int .i64 0,S [],.int .i64 0,.slice none 0 0] 46 (0,0))
 own:wr.ownsRow (w.heap.size+1) 129 5 v s.length xs
 row:RowO (fun b=>w.heap.size<b∧some b≠v.ownBlock) wr s xs
 leaf:∀x∈s,x.closed=false→x.tree.kind=1→x.tree.args=[]
theorem ExpI.lt{w wr:World}{P k:Nat}{G:Hd}{p:Lfc.PE}{s:List Lfc.Opd}{v:Value}{xs:List Value}(h:ExpI w P G p k s v xs wr):w.heap.size<wr.heap.size:=lt_of_block h.res
theorem oneCell5{k p:Int}{n:List UInt8}{A:Option Addr}{l c:Nat}{b:Bool}:∀u∈[Value.int .i64 k,S n,.int .i64 p,.slice A l c,.bool b],u.oneCell'=true:=by
 intro u hu
 simp at hu
 rcases hu with rfl | rfl | rfl | rfl | rfl <;> rfl
theorem ExpI.push{w wr w1 w2 w3:World}{P k0 k k1:Nat}{G:Hd}{p:Lfc.PE}{s:List Lfc.Opd}{v v':Value}{xs:List Value}{x:Lfc.Opd}{v0 v1 v2 v3:Value}(h:ExpI w P G p k s v xs wr)(h0:PW w P G p k0)(h1:PW w1 P G p k1)(hk1:k1≤p.toks.length)(o1:Oth P wr w1)
  (ht:TreeP (fun b=>wr.heap.size≤b) w1 x.tree v0 v1 v2 v3) (hx:x.closed=false→x.tree.kind=1→x.tree.args=[]) (b2:Below w1.heap.size w1 w2) (hown:w3.ownsRow (w.heap.size+1) 129 5 v' (s.length+1) (xs++[v0,v1,v2,v3,.bool x.closed])) (hg:w2.grownBy w3 v.ownBlock) (hl:v'.ownBlock=v.ownBlock∨v'.ownBlock=some w2.heap.size) :
  ExpI w P G p k1 (s++[x]) v' (xs++[v0,v1,v2,v3,.bool x.closed]) w3:=by
 have hs1:=o1.size
 have hs2:=b2.size
 have hs3:=hg.size
 have hlt:=h.lt
 have hv:∀b,v.ownBlock=some b→w.heap.size+1≤b∧b<wr.heap.size:=fun b hb=>h.own.lt b hb
 have o3:Oth P w w3:=⟨hg.os.trans (b2.os.trans (o1.os.trans h.oth.os)),hg.tape.trans (b2.tape.trans (o1.tape.trans h.oth.tape)),hg.output.trans (b2.output.trans (o1.output.trans h.oth.output)),by omega,fun j hj hne=>by
  rw[hg.block j (by omega) (fun e=>by have:=(hv j e.symm).1;omega),b2.block j (by omega),o1.block j (by omega) hne]
  exact h.oth.block j hj hne⟩
 have hbel:∀j,j<w1.heap.size→some j≠v.ownBlock→w3.heap[j]?=w1.heap[j]?:=fun j hj hne=>(hg.block j (by omega) hne).trans (b2.block j hj)
 have hP:=h0.lt
 have ho1:∀j,j<wr.heap.size→j≠P→w1.heap[j]?=wr.heap[j]?:=fun j hj hne=>o1.block j hj (fun e=>hne (Option.some.inj e))
 refine⟨h0.to o3 ((hbel P (by omega) (fun e=>by have:=(hv P e.symm).1;omega)).trans h1.1),hk1,o3,(hbel _ (by omega) (fun e=>by have:=(hv _ e.symm).1;omega)).trans ((ho1 _ hlt (by omega)).trans h.res),by rw[List.length_append];exact hown,?_,fun y hy=>?_⟩
 ·have hq:∀b,b<w1.heap.size→some b≠v.ownBlock→some b≠v'.ownBlock:=fun b hb hn=>by
   rcases hl with e | e
   ·rw[e];exact hn
   ·rw[e];intro e';have:=Option.some.inj e';omega
  refine RowO.append (RowO.one (TreeP.keep (fun b hb hlt=>hbel b hlt (fun e=>by have:=(hv b e.symm).2;omega)) (by omega) (fun b hlt hb=>⟨by omega,hq b hlt (fun e=>by have:=(hv b e.symm).2;omega)⟩) _ _ _ _ _ ht)) ?_
  exact h.row.keep (fun b hb hlt=>(hbel b (by omega) hb.2).trans (ho1 b hlt (by have:=hb.1;omega))) (by omega) (fun b hlt hb=>⟨hb.1,hq b (by omega) hb.2⟩)
 ·rcases List.mem_append.1 hy with hy | hy
  ·exact h.leaf y hy
  ·simp at hy;subst hy;exact hx
set_option maxRecDepth 100000 in
set_option maxHeartbeats 4000000 in
theorem expr_of(p:Lfc.PE)(ok:POk p)(g:Nat→Lfc.PR (Option Lfc.Opd))(hB:Lfc.OpdB p g)(hL:Leafy g)(hg:OpdC' p g)(P k:Nat)(G:Hd)(w:World)(hk:k≤p.toks.length)(hne:p.exprG g k≠.out)(h:PW w P G p k) :
  Calls Tryz.prog 35 #[.pointer (some ⟨P,0,none⟩)] w (PRes P G p w (RawR w) (p.exprG g k)):=by
 obtain⟨it,hi,hz0,hz1,hz2⟩:=opd_infoP
 have hP:=h.lt
 obtain⟨wa,hwa⟩:∃wa,w.alloc (.cells #[.int .i64 0,S [],.int .i64 0,.slice none 0 0] 46)=wa:=⟨_,rfl⟩
 have ba:Below w.heap.size w wa:=by rw[←hwa];exact(Below.refl _ _).alloc (Nat.le_refl _) _
 have qa:wa.heap[w.heap.size]?=some (.cells #[.int .i64 0,S [],.int .i64 0,.slice none 0 0] 46 (0,0)):=by rw[←hwa];exact heap_alloc_new _ _
 have hsa:=eq2 (show wa.heap.size=w.heap.size+1 by rw[←hwa];simp)
 have CP:=Lib.hid (peek_any wa (h.below ba) hk ok)
 have HW:=Lib.hid h
 have HG:=Lib.hid hg
 have HB:=Lib.hid hB
 have HL:=Lib.hid hL
 have HK:=Lib.hid ok
 have BA:=Lib.hid ba
 have QA:=Lib.hid qa
 have hf2:=tok_f2
 have hlen:=ok.len
 obtain⟨r,hr⟩:∃r,Lfc.opdsG g (p.toks.length+1) k []=r:=⟨_,rfl⟩
 have HR:=Lib.hid hr
 have HE:Hid (p.exprG g k=r.then fun s k'=>if s.length=0 then p.unexp k' else if (Lfc.resolved p.ops s).2≠0 then .err (Lfc.resolved p.ops s).2 (p.pk k).pos else .ok (Lfc.resolved p.ops s).1 k'):=Lib.hid (by unfold Lfc.PE.exprG;rw[hr])
 have HN:Hid (r≠.out):=Lib.hid (fun e=>hne (by rw[HE.out,e];rfl))
 rw[HE.out]
 clear h hg hB hL ok ba qa hr hne
 go_enter Tryz.func35,Tryz.ntmps35
 go_upto_region 1 with fail
 clear hwa
 go_wp2_with (go_at_call 63;refine CP.out.mono ?_;rintro e w1⟨rfl,b1⟩)
 have hs1:=b1.size
 have I0:Hid (ExpI w P G p k [] (.slice none 0 0) [] w1):=Lib.hid ⟨HW.out.below (BA.out.trans (b1.mono BA.out.size)),hk,Oth.of_below (BA.out.trans (b1.mono BA.out.size)),(b1.block _ (by omega)).trans QA.out,own_nil _ _ _ _,by rw[RowO],by simp⟩
 go_loopw [4] (fun v wr=>∃(m k1:Nat)(s:List Lfc.Opd)(A:Option Addr)(c:Nat)(xs:List Value),v=.slice A s.length c∧s.length+m≤p.toks.length+1∧Hid (Lfc.opdsG g m k1 s=r)∧Hid (ExpI w P G p k1 s (.slice A s.length c) xs wr)) (fun v _=>p.toks.length+1-slenP v)
 case atStart=>exact⟨p.toks.length+1,k,[],none,0,[],rfl,by simp,HR,I0⟩
 case round =>
  clear I0
  obtain⟨m,k1,s,A,c,xs,rfl,hsm,HM,HI⟩:=hrel
  obtain _ | m:=m
  ·exact absurd (by rw[←HM.out];rfl) HN.out
  cases hgk:g k1 with
  |out=>exact absurd (by rw[←HM.out,Lfc.opdsG,hgk]) HN.out
  |err cc aa =>
   have hre:r=.err cc aa:=by rw[←HM.out,Lfc.opdsG,hgk]
   have hco:=HG.out P k1 G wr HI.out.le (by rw[hgk];simp) HI.out.pw
   rw[hgk] at hco
   have CO:=Lib.hid hco
   have HRE:=Lib.hid hre
   clear hco hre hgk
   go_wp2_with (go_at_call 64;refine CO.out.mono ?_;rintro e w2⟨rfl,o2⟩)
   rw[HRE.out]
   exact⟨rfl,rfl,HI.out.oth.trans o2⟩
  | ok o k2 =>
   cases o with
   | none =>
    have hre:r=.ok s k1:=by rw[←HM.out,Lfc.opdsG,hgk]
    have hk2:=HB.out.2 k1 k2 hgk
    have hco:=HG.out P k1 G wr HI.out.le (by rw[hgk];simp) HI.out.pw
    rw[hgk,hk2] at hco
    have CO:=Lib.hid hco
    have HRE:=Lib.hid hre
    have CU:Hid (∀W,PW W P G p k1→Calls Tryz.prog 36 #[.pointer (some ⟨P,0,none⟩)] W fun e w'=>e=Flt (p.ux k1).1 (p.ux k1).2∧Below W.heap.size W w'):=Lib.hid fun W hW=>unexpected_any W hW HI.out.le HK.out
    have hres:=HI.out.lt
    clear hco hre hgk hk2
    go_upto_region 6 with(go_at_call 64;refine CO.out.mono ?_;rintro e w2⟨⟨v,rfl,rfl⟩,pw2,o2⟩)
    obtain⟨w3,hw3⟩:∃w3,w2.alloc (.cells #[.int .i64 0,S [],.int .i64 0,.slice none 0 0,.bool false] 129)=w3:=⟨_,rfl⟩
    have b3:Below w2.heap.size w2 w3:=by rw[←hw3];exact(Below.refl _ _).alloc (Nat.le_refl _) _
    rw[hw3]
    have pw3:=pw2.below b3
    have o3:Oth P wr w3:=o2.trans (Oth.of_below b3)
    clear hw3 pw2 o2 b3
    by_cases hz:s.length=0
    ·have hz2:((s.length:Int) == 0)=true:=by simp[hz]
     have HF:Hid ((r.then fun s k'=>if s.length=0 then p.unexp k' else if (Lfc.resolved p.ops s).2≠0 then .err (Lfc.resolved p.ops s).2 (p.pk k).pos else .ok (Lfc.resolved p.ops s).1 k')=(p.unexp k1:Lfc.PR Lfc.Raw)):=Lib.hid (by rw[HRE.out];exact if_pos hz)
     clear hz
     go_wp2_with (go_at_call 36;refine(CU.out _ pw3).mono ?_;rintro e w4⟨rfl,b4⟩)
     rw[HF.out,unexp_eq]
     exact⟨rfl,rfl,HI.out.oth.trans (o3.trans (Oth.of_below b4))⟩
    ·have hz2:((s.length:Int) == 0)=false:=by simp;intro e;exact hz (by rw[e];rfl)
     have hb:=Lfc.opdsG_b HB.out _ _ _ _ _ (HR.out.trans HRE.out)
     obtain⟨hb1,hb2,hb3,hb4,hb5⟩:=hb
     simp only[Lfc.wsum,List.length_nil] at hb3 hb5
     have hb2:=hb2 hk
     obtain⟨x0,x1,x2,x3,xf,hcA,hops,_⟩:=pw3.cells
     have own3:=HI.out.own.kept o3 (Or.inr (fun e=>by have:=(HI.out.own.lt P e).1;omega))
     have row3:=HI.out.row.keep (w':=w3) (fun b hb hlt=>o3.block b hlt (fun e=>by have:=Option.some.inj e;have:=hb.1;omega)) o3.size (fun _ _ h=>h)
     have CR:=resolve_new p.ops s G.B A G.d c w3 HK.out.ops (by omega) (own_le own3) (by omega) hops (row3.opds own3) HI.out.leaf
     have HF:Hid ((r.then fun s k'=>if s.length=0 then p.unexp k' else if (Lfc.resolved p.ops s).2≠0 then .err (Lfc.resolved p.ops s).2 (p.pk k).pos else .ok (Lfc.resolved p.ops s).1 k')=if (Lfc.resolved p.ops s).2≠0 then .err (Lfc.resolved p.ops s).2 (p.pk k).pos else .ok (Lfc.resolved p.ops s).1 k1):=Lib.hid (by rw[HRE.out];exact if_neg hz)
     obtain⟨⟨t,ee⟩,hRR⟩:∃R,Lfc.resolved p.ops s=R:=⟨_,rfl⟩
     rw[hRR] at CR HF
     have CR:=Lib.hid CR
     have PW3:=Lib.hid pw3
     have O3:=Lib.hid (HI.out.oth.trans o3)
     have qres:=o3.heap HI.out.res (by omega)
     have QRES:=Lib.hid qres
     have hs3:=o3.size
     simp only at CR HF
     clear own3 row3 hRR hops pw3 o3 qres hz x0 x1 x2 hb1 hb3 hb4 hb5 xf hcA
     by_cases he:ee=0
     ·subst he
      go_upto_region 11 with(go_at_call 65;refine CR.out.mono ?_;rintro e w4⟨⟨v,rfl,hv⟩,b4⟩;obtain⟨k5,n5,p5,us5,A5,c5,ht5,rfl,hp5⟩:=hv.parts4)
      obtain⟨w5,hw5⟩:∃w5,w4.alloc (.cells #[.int .i64 k5,S n5,.int .i64 p5,.slice A5 us5.length c5] 46)=w5:=⟨_,rfl⟩
      have b5:Below w4.heap.size w4 w5:=by rw[←hw5];exact(Below.refl _ _).alloc (Nat.le_refl _) _
      have q5:w5.heap[w4.heap.size]?=some (.cells #[.int .i64 k5,S n5,.int .i64 p5,.slice A5 us5.length c5] 46 (0,0)):=by rw[←hw5];exact heap_alloc_new _ _
      rw[hw5]
      obtain⟨z0,z1,z2,z3⟩:=cells4 q5
      have hs4:=b4.size
      have hs5:=b5.size
      have hr5:=(b5.block _ (by omega)).trans ((b4.block _ (by omega)).trans QRES.out)
      obtain⟨s1,s2,s3,s4,g1,g2,g3,g4,⟨y0,y1,y2,y3⟩,⟨f0,f1,f2,f3⟩,hq,ho⟩:=put4 hr5 (.int .i64 k5) (S n5) (.int .i64 p5) (.slice A5 us5.length c5)
      have pw5:=(PW3.out.below b4).below b5
      have o5:Oth P w w5:=(O3.out.trans (Oth.of_below b4)).trans (Oth.of_below b5)
      have hf5:PW s4 P G p k1:=HW.out.to (o5.over ho (Nat.le_refl _)) ((ho.block P pw5.lt (fun e=>by have:=Option.some.inj e;omega)).trans pw5.1)
      have HT:Hid (TreeP (fun b=>w.heap.size≤b) s4 t (.int .i64 k5) (S n5) (.int .i64 p5) (.slice A5 us5.length c5)):=Lib.hid (TreeP.keep (fun b hb hlt=>(ho.block b (by omega) (fun e=>by have:=Option.some.inj e;omega)).trans (b5.block b hlt)) (by have:=ho.size;omega) (fun b _ hb=>by omega) _ _ _ _ _ hp5)
      have HP5:=Lib.hid hf5
      have O5:=Lib.hid (o5.over ho (Nat.le_refl _))
      have HQ:=Lib.hid hq
      clear hw5 q5 hr5 hq ho pw5 o5 hf5 hp5 hv b5
      go_wp2_with fail
      refine bodyPost_ret (results_raw rfl _ _ _ _ _ _ _ rfl HQ.out) rfl ?_
      rw[HF.out,if_neg (by simp)]
      exact⟨⟨_,rfl,_,_,_,_,rfl,HT.out⟩,HP5.out,O5.out⟩
     ·have he2:(ee != 0)=true:=by simp[he]
      have HE2:Hid ((if ee≠0 then(.err ee (p.pk k).pos:Lfc.PR Lfc.Raw) else .ok t k1)=.err ee (p.pk k).pos):=Lib.hid (if_pos he)
      clear he
      go_wp2_with (first | (go_at_call 65;refine CR.out.mono ?_;rintro e w4⟨⟨v,rfl,hv⟩,b4⟩;obtain⟨k5,n5,p5,us5,A5,c5,ht5,rfl,hp5⟩:=hv.parts4) | (go_at_call 66;refine(pfail_any _ _ _).mono ?_;rintro e w5⟨rfl,rfl⟩))
      rw[HF.out,HE2.out]
      exact⟨rfl,rfl,(O3.out.trans (Oth.of_below b4)).trans (Oth.of_below ((Below.refl _ _).alloc (Nat.le_refl _) _))⟩
   |some x =>
    have hop:=Lfc.opdsG_b HB.out
    obtain⟨hx1,hx2,hx3⟩:=HB.out.1 k1 x k2 hgk
    have hxl:=HL.out k1 x k2 hgk
    have hnx:Lfc.opdsG g m k2 (s++[x])=r:=by rw[←HM.out,Lfc.opdsG,hgk]
    have hco:=HG.out P k1 G wr HI.out.le (by rw[hgk];simp) HI.out.pw
    rw[hgk] at hco
    have CO:=Lib.hid hco
    have HNX:=Lib.hid hnx
    have hres:=HI.out.lt
    have hbk:=Lfc.opdsG_b HB.out (p.toks.length+1) k []
    clear hco hnx hgk hop hbk
    go_upto_region 4 with(go_at_call 64;refine CO.out.mono ?_;rintro e w2⟨⟨v,rfl,⟨k3,n3,q3,us3,A3,c3,rfl,hnd,ht⟩⟩,pw2,o2⟩)
    have hs2:=o2.size
    have own2:=HI.out.own.kept o2 (Or.inr (fun e=>by have:=(HI.out.own.lt P e).1;omega))
    have ownA:=(own2.alloc (Obj.cells #[.int .i64 k3,S n3,.int .i64 q3,.slice A3 us3.length c3,.bool x.closed] 129)).alloc (Obj.cells #[.int .i64 k3,S n3,.int .i64 q3,.slice A3 us3.length c3,.bool x.closed] 129)
    have PW2:=Lib.hid pw2
    have O2:=Lib.hid o2
    have HT:=Lib.hid ht
    have HX:=Lib.hid (fun(hc:x.closed=false) (_:x.tree.kind=1)=>hxl hc)
    clear pw2 o2 ht own2 hxl
    go_wp2_with (at_builtin;refine wpList_append_own_at _ rfl _ _ 127 rfl (w.heap.size+1) 129 it (.agg #[.int .i64 0,S [],.int .i64 0,.slice none 0 0,.bool false]) 5 64 Tryz.underlying127 hi hz0 hz1 hz2 rfl (by decide) _ _ _ rfl ownA ⟨w2.heap.size+1,0,none⟩ 1 1 [.int .i64 k3,S n3,.int .i64 q3,.slice A3 us3.length c3,.bool x.closed] rfl rfl ?c1 ?c2 ?c3 ?c4 ?c5 ?_)
    case c1=>exact fun j u h=>cells_new _ _ (by simp) _ _ j u h
    case c2=>exact oneCell5
    case c3=>unfold maxLen;omega
    case c4=>omega
    case c5=>simp;omega
    intro v' w5 hown5 hg5 _ hl5
    obtain⟨A5,c5,rfl⟩:=own_form hown5
    have HNEW:=Lib.hid (HI.out.push HW.out PW2.out hx2 O2.out (by rw[hnd] at HT ⊢;exact HT.out) HX.out (((Below.refl _ _).alloc (Nat.le_refl _) _).alloc (by simp) _) hown5 hg5 (by simpa using hl5))
    clear hown5 hg5 hl5 ownA
    go_wp2_with fail
    go_roundw
    case rel=>exact⟨m,k2,s++[x],A5,c5,_,by rw[List.length_append];rfl,by rw[List.length_append];simp;omega,HNX,by have:=HNEW.out;rw[List.length_append];exact Lib.hid this⟩
    case measure=>simp[slenP];omega
end Go.Proofs.YthajalgkjonaaaaGreatDoor
namespace Go.Proofs.YthajalgkjonaaaaGreatDoor
open Go.RowKit
theorem tk{P:Program}{ops:Array Oper}{Q:Exit→Act→World→Prop}{md:Region.Mode}{S:World→Prop}(i:Nat){oi:Oper}{v:Value}{fuel:Nat}{listed:Array Bool}{a:Act}{w:World}{T':Prop}(h:T')
  (hi:ops[i]?=some oi:=by rfl) (hs:Region.noSelect ops=true:=by kernel_rfl) (hf:Region.free md ops listed i=true:=by kernel_rfl) (hr:(Region.ready md ops listed).contains i=true:=by kernel_rfl)
  (hy:YieldsIf P ops S oi v a:=by exact Or.inl ⟨by rfl,by intro w hSw;(try dsimp only at hSw);go_simp;try with_reducible rfl⟩)
  (hQ:∀c a w,Q (.panic c) (a.put oi.dst v) w→Q (.panic c) a w:=by exact fun _ _ _ h=>h) (hS:S w:=by assumption)
  (e:wpAnyH P md ops Q S fuel (listed.setIfInBounds i true) (a.put oi.dst v) w=T':=by(try simp only[Act.put,List.getElem_toArray,List.getElem_cons_zero,List.getElem_cons_succ,List.setIfInBounds_toArray,List.set_cons_zero,List.set_cons_succ]) <;> exact rfl) :
  wpAnyH P md ops Q S (fuel+1) listed a w:=wpAnyH_take hi hs hf hr hQ hy hS (e.mpr h)
theorem nrm{T T':Prop}(h:T')(e:T=T':=by(try simp only[Act.put,List.getElem_toArray,List.getElem_cons_zero,List.getElem_cons_succ,List.setIfInBounds_toArray,List.set_cons_zero,List.set_cons_succ]) <;> exact rfl):T:=e.mpr h
theorem wpAnyH_mono{P:Program}{ops:Array Oper}{Q:Exit→Act→World→Prop}{md:Region.Mode}{S S':World→Prop}(hS:∀w,S' w→S w):∀(fuel:Nat)(listed:Array Bool)(a:Act)(w:World),wpAnyH P md ops Q S' fuel listed a w→wpAnyH P md ops Q S fuel listed a w
 |0,_,_,_,h=>h
 |fuel+1,_,_,_,h=>⟨h.1,fun i hi=>wpOp_mono (fun a' w' h'=>⟨hS _ h'.1,wpAnyH_mono hS fuel _ a' w' h'.2⟩) (h.2 i hi)⟩
end Go.Proofs.YthajalgkjonaaaaGreatDoor
