/- Parts of the proof that no input makes the law false: OpJoin, OpUn. -/
import Derived.Test.YthajalgkjonaaaaGreatDoorBxAF
set_option linter.unusedVariables false
set_option linter.unusedSimpArgs false
set_option maxRecDepth 100000
set_option maxHeartbeats 32000000
namespace Go.Proofs.YthajalgkjonaaaaGreatDoor
open Go.RowKit Go.Maps Go.WideMaps _root_.Lfc
theorem treesAtP_two'{q:Nat→Prop}{W:World}{g:Nat}{t t':Raw}{v0 v1 v2 v3 u0 u1 u2 u3:Value}{ty:TypeId}(ht:TreeP q W t v0 v1 v2 v3)(ht':TreeP q W t' u0 u1 u2 u3)(hq:q g)(hg:W.heap[g]?=some (.cells #[v0,v1,v2,v3,u0,u1,u2,u3] ty (0,0))):TreesAtP q W (some ⟨g,0,none⟩) [t,t']:=fun _ =>
 ⟨g,0,rfl,zL hg,hq,((RowP.one ht').append (RowP.one ht)).lie (fun j u hj=>by
  rw[Nat.zero_add]
  match j with
  |0=>simp at hj;subst hj;exact zC hg 0
  |1=>simp at hj;subst hj;exact zC hg 1
  |2=>simp at hj;subst hj;exact zC hg 2
  |3=>simp at hj;subst hj;exact zC hg 3
  |4=>simp at hj;subst hj;exact zC hg 4
  |5=>simp at hj;subst hj;exact zC hg 5
  |6=>simp at hj;subst hj;exact zC hg 6
  |7=>simp at hj;subst hj;exact zC hg 7
  |j+8=>simp at hj)⟩
theorem apply_any(f a:Raw)(v1 v2:Value)(w:World)(q:Nat->Prop)(h1:TreeVP q w f v1)(h2:TreeVP q w a v2) :
  Calls Tryz.prog 169 #[v1,v2] w fun e w'=>(∃v',e=.returned v'/\TreeVP (fun b=>q b\/w.heap.size<=b) w' (appT f a) v')/\zb w w':=by
 obtain⟨k1,n1,p1,us1,A1,c1,rfl,rfl,t1⟩:=h1.parts4;obtain⟨k2,n2,p2,us2,A2,c2,rfl,rfl,t2⟩:=h2.parts4;obtain⟨wa,hwa⟩:∃wa,((w.alloc (.cells (zT k1 n1 p1 A1 us1 c1) 46)).alloc (.cells (zT k2 n2 p2 A2 us2 c2) 46)).alloc (.cells #[zI 0,S [],zI 0,zS] 46)=wa:=⟨_,rfl⟩;have hn:=fun(W:World) (o:Obj) (k:Nat) (h:k=W.heap.size)=>(h ▸ zW W o:(W.alloc o).heap[k]?=some o);have q0:zk wa w.heap.size (zT k1 n1 p1 A1 us1 c1) 46:=by rw[<-hwa];exact heap_alloc_old _ _ _ _ (heap_alloc_old _ _ _ _ (zW _ _))
 have q1:wa.heap[w.heap.size+1]?=some (.cells (zT k2 n2 p2 A2 us2 c2) 46 (0,0)):=by rw[<-hwa];exact heap_alloc_old _ _ _ _ (hn _ _ _ (by simp))
 have q2:wa.heap[w.heap.size+1+1]?=some (.cells #[zI 0,S [],zI 0,zS] 46 (0,0)):=by rw[<-hwa];exact hn _ _ _ (by simp)
 have ba:zb w wa:=by rw[<-hwa];exact(((zB _ _).alloc (zN _) _).alloc (by simp) _).alloc (by simp;omega) _
 have hsa:=eq2 (show wa.heap.size=w.heap.size+3 by rw[<-hwa];simp);obtain⟨wb,hwb⟩:∃wb,wa.alloc (.cells #[zI k1,S n1,zI p1,.slice A1 us1.length c1,zI k2,S n2,zI p2,.slice A2 us2.length c2] 46)=wb:=⟨_,rfl⟩;have bb:=zG hwb;have qb:=zQ hwb;obtain⟨s1,s2,s3,s4,g1,g2,g3,g4,⟨y0,y1,y2,y3⟩,⟨f0,f1,f2,f3⟩,hq,ho⟩:=put4 ((bb.block _ (zL q2)).trans q2) (zI 5) (S []) (zI p1) (.slice (some ⟨wa.heap.size,0,none⟩) 2 2);obtain⟨x0,x1,x2,x3⟩:=cells4 q0;obtain⟨z0,z1,z2,z3⟩:=cells4 q1;have HQ:=zH hq;have HO:=zH ho;have QB:=zH qb;have BB:=zH bb;have BA:=zH ba;have T1:=zH t1;have T2:=zH t2;clear hq ho qb bb ba q0 q1 q2 t1 t2 h1 h2 hn;go_enter Tryz.func169,Tryz.ntmps169;go_upto_region 1 with fail;clear hwa;go_wp2_with fail;refine Zb (results_raw rfl _ _ _ _ _ _ _ rfl HQ.o) ?_;have hsb:=BB.o.size;have hs4:=HO.o.size;have kp:∀b,b<w.heap.size->s4.heap[b]?=w.heap[b]?:=fun b hb=>(HO.o.block b (by omega) (fun e=>by have:=zO e;omega)).trans ((BB.o.block b (by omega)).trans (BA.o.block b hb));refine⟨⟨_,rfl,TreeVP.mk (ts:=[.node k1 n1 p1 us1,.node k2 n2 p2 us2]) (by simp) (by simp) ?_⟩,Oth.below (BA.o.trans (BB.o.mono (by omega))) HO.o (by omega) (by omega)⟩;exact treesAtP_two' (TreeP.keep (fun b _ hlt=>kp b hlt) (by omega) (fun b _ hb=>.inl hb) _ _ _ _ _ T1.o) (TreeP.keep (fun b _ hlt=>kp b hlt) (by omega) (fun b _ hb=>.inl hb) _ _ _ _ _ T2.o) (.inr (by omega)) (HO.o.heap QB.o (by omega))
theorem join_any(o a b:Raw)(v1 v2 v3:Value)(w:World)(q:Nat->Prop)(hsz:o.size<=100000000)(h1:TreeVP q w o v1)(h2:TreeVP q w a v2)(h3:TreeVP q w b v3) :
  Calls Tryz.prog 194 #[v1,v2,v3] w fun e w'=>(∃v',e=.returned v'/\TreeVP (fun b=>q b\/w.heap.size<=b) w' (joinT o a b) v')/\zb w w':=by
 obtain⟨k1,n1,p1,us1,A1,c1,rfl,rfl,t1⟩:=h1.parts4;obtain⟨k2,n2,p2,us2,A2,c2,rfl,rfl,t2⟩:=h2.parts4;obtain⟨k3,n3,p3,us3,A3,c3,rfl,rfl,t3⟩:=h3.parts4;obtain⟨wa,hwa⟩:∃wa,(((w.alloc (.cells (zT k1 n1 p1 A1 us1 c1) 46)).alloc (.cells (zT k2 n2 p2 A2 us2 c2) 46)).alloc (.cells (zT k3 n3 p3 A3 us3 c3) 46)).alloc (.cells #[zI 0,S [],zI 0,zS] 46)=wa:=⟨_,rfl⟩;have hn:=fun(W:World) (o:Obj) (k:Nat) (h:k=W.heap.size)=>(h ▸ zW W o:(W.alloc o).heap[k]?=some o);have q1:zk wa w.heap.size (zT k1 n1 p1 A1 us1 c1) 46:=by rw[<-hwa];exact heap_alloc_old _ _ _ _ (heap_alloc_old _ _ _ _ (heap_alloc_old _ _ _ _ (zW _ _)))
 have q2:wa.heap[w.heap.size+1]?=some (.cells (zT k2 n2 p2 A2 us2 c2) 46 (0,0)):=by rw[<-hwa];exact heap_alloc_old _ _ _ _ (heap_alloc_old _ _ _ _ (hn _ _ _ (by simp)))
 have q3:wa.heap[w.heap.size+1+1]?=some (.cells (zT k3 n3 p3 A3 us3 c3) 46 (0,0)):=by rw[<-hwa];exact heap_alloc_old _ _ _ _ (hn _ _ _ (by simp))
 have q4:wa.heap[w.heap.size+1+1+1]?=some (.cells #[zI 0,S [],zI 0,zS] 46 (0,0)):=by rw[<-hwa];exact hn _ _ _ (by simp)
 have ba:zb w wa:=by rw[<-hwa];exact((((zB _ _).alloc (zN _) _).alloc (by simp) _).alloc (by simp;omega) _).alloc (by simp;omega) _
 have hsa:=eq2 (show wa.heap.size=w.heap.size+4 by rw[<-hwa];simp);obtain⟨x0,x1,x2,x3⟩:=cells4 q1;obtain⟨z0,z1,z2,z3⟩:=cells4 q2;obtain⟨u0,u1,u2,u3⟩:=cells4 q3;have Q1:=zH q1;have Q2:=zH q2;have Q3:=zH q3;have Q4:=zH q4;have BA:=zH ba;have T1:=zH t1;have T2:=zH t2;have T3:=zH t3;clear q1 q2 q3 q4 ba t1 t2 t3 h1 h2 h3 hn;by_cases hr:n1=[45,62]
 ·subst hr;obtain⟨wb,hwb⟩:∃wb,wa.alloc (.cells #[zI k2,S n2,zI p2,.slice A2 us2.length c2,zI k3,S n3,zI p3,.slice A3 us3.length c3] 46)=wb:=⟨_,rfl⟩;have bb:=zG hwb;have qb:=zQ hwb;obtain⟨s1,s2,s3,s4,g1,g2,g3,g4,⟨y0,y1,y2,y3⟩,⟨f0,f1,f2,f3⟩,hq,ho⟩:=put4 ((bb.block _ (zL Q4.o)).trans Q4.o) (zI 6) (S []) (zI p1) (.slice (some ⟨wa.heap.size,0,none⟩) 2 2);have HQ:=zH hq;have HO:=zH ho;have QB:=zH qb;have BB:=zH bb;clear hq ho qb bb;go_enter Tryz.func194,Tryz.ntmps194;go_upto_region 1 with fail;clear hwa;go_wp2_with fail;refine Zb (results_raw rfl _ _ _ _ _ _ _ rfl HQ.o) ?_;have hsb:=BB.o.size;have hs4:=HO.o.size;have kp:∀b,b<w.heap.size->s4.heap[b]?=w.heap[b]?:=fun b hb=>(HO.o.block b (by omega) (fun e=>by have:=zO e;omega)).trans ((BB.o.block b (by omega)).trans (BA.o.block b hb));refine⟨⟨_,rfl,?_⟩,Oth.below (BA.o.trans (BB.o.mono (by omega))) HO.o (by omega) (by omega)⟩;rw[show joinT (.node k1 [45,62] p1 us1) (.node k2 n2 p2 us2) (.node k3 n3 p3 us3)=.node 6 [] p1 [.node k2 n2 p2 us2,.node k3 n3 p3 us3] from rfl];refine TreeVP.mk (ts:=[.node k2 n2 p2 us2,.node k3 n3 p3 us3]) (by simp) (by simp) ?_;exact treesAtP_two' (TreeP.keep (fun b _ hlt=>kp b hlt) (by omega) (fun b _ hb=>.inl hb) _ _ _ _ _ T2.o) (TreeP.keep (fun b _ hlt=>kp b hlt) (by omega) (fun b _ hb=>.inl hb) _ _ _ _ _ T3.o) (.inr (by omega)) (HO.o.heap QB.o (by omega))
 by_cases hl:n1=[60,45]
 ·subst hl;obtain⟨wb,hwb⟩:∃wb,wa.alloc (.cells #[zI k3,S n3,zI p3,.slice A3 us3.length c3,zI k2,S n2,zI p2,.slice A2 us2.length c2] 46)=wb:=⟨_,rfl⟩;have bb:=zG hwb;have qb:=zQ hwb;obtain⟨s1,s2,s3,s4,g1,g2,g3,g4,⟨y0,y1,y2,y3⟩,⟨f0,f1,f2,f3⟩,hq,ho⟩:=put4 ((bb.block _ (zL Q4.o)).trans Q4.o) (zI 6) (S []) (zI p1) (.slice (some ⟨wa.heap.size,0,none⟩) 2 2);have HQ:=zH hq;have HO:=zH ho;have QB:=zH qb;have BB:=zH bb;clear hq ho qb bb;go_enter Tryz.func194,Tryz.ntmps194;go_upto_region 1 with fail;clear hwa;go_wp2_with fail;refine Zb (results_raw rfl _ _ _ _ _ _ _ rfl HQ.o) ?_;have hsb:=BB.o.size;have hs4:=HO.o.size;have kp:∀b,b<w.heap.size->s4.heap[b]?=w.heap[b]?:=fun b hb=>(HO.o.block b (by omega) (fun e=>by have:=zO e;omega)).trans ((BB.o.block b (by omega)).trans (BA.o.block b hb));refine⟨⟨_,rfl,?_⟩,Oth.below (BA.o.trans (BB.o.mono (by omega))) HO.o (by omega) (by omega)⟩;rw[show joinT (.node k1 [60,45] p1 us1) (.node k2 n2 p2 us2) (.node k3 n3 p3 us3)=.node 6 [] p1 [.node k3 n3 p3 us3,.node k2 n2 p2 us2] from rfl];refine TreeVP.mk (ts:=[.node k3 n3 p3 us3,.node k2 n2 p2 us2]) (by simp) (by simp) ?_;exact treesAtP_two' (TreeP.keep (fun b _ hlt=>kp b hlt) (by omega) (fun b _ hb=>.inl hb) _ _ _ _ _ T3.o) (TreeP.keep (fun b _ hlt=>kp b hlt) (by omega) (fun b _ hb=>.inl hb) _ _ _ _ _ T2.o) (.inr (by omega)) (HO.o.heap QB.o (by omega))
 have hr2:(n1 == [45,62])=false:=by simpa using hr
 have hl2:(n1 == [60,45])=false:=by simpa using hl
 have HJ:Hid (joinT (.node k1 n1 p1 us1) (.node k2 n2 p2 us2) (.node k3 n3 p3 us3)=appT (appT (.node k1 n1 p1 us1) (.node k2 n2 p2 us2)) (.node k3 n3 p3 us3)):=zH (by
  unfold joinT;rw[if_neg (show ¬(Raw.node k1 n1 p1 us1).name=arrR from hr),if_neg (show ¬(Raw.node k1 n1 p1 us1).name=arrL from hl)])
 have P:∀W,zb wa W->∀t v0 v1 v2 v3,TreeP q w t v0 v1 v2 v3->TreeP (fun b=>(q b/\b<w.heap.size)\/wa.heap.size<=b) W t v0 v1 v2 v3:=fun W hb t v0 v1 v2 v3 ht =>
  TreeP.keep (fun b _ hlt=>(hb.block b (by omega)).trans (BA.o.block b hlt)) (by have:=hb.size;omega) (fun b hlt hb=>.inl ⟨hb,hlt⟩) _ _ _ _ _ ht
 have K:∀(W W':World)(t:Raw)(v:Value)(c:Nat),wa.heap.size<=c->zb W W'->TreeVP (fun b=>((q b/\b<w.heap.size)\/wa.heap.size<=b)\/c<=b) W t v->TreeVP (fun b=>(q b/\b<w.heap.size)\/wa.heap.size<=b) W' t v:=fun W W' t v c hc hb ht=>by
  obtain⟨v0,v1,v2,v3,rfl,h⟩:=ht;exact⟨v0,v1,v2,v3,rfl,TreeP.keep (fun b _ hlt=>hb.block b hlt) hb.size (fun b _ hb=>by rcases hb with hb | hb;exact hb;exact .inr (by omega)) _ _ _ _ _ h⟩
 have F:=zH (fun W (hb:zb wa W)=>show(zc W w.heap.size 0 (zI k1)/\zc W w.heap.size 1 (S n1)/\zc W w.heap.size 2 (zI p1)/\zc W w.heap.size 3 (.slice A1 us1.length c1))/\(zc W (w.heap.size+1) 0 (zI k2)/\zc W (w.heap.size+1) 1 (S n2)/\zc W (w.heap.size+1) 2 (zI p2)/\zc W (w.heap.size+1) 3 (.slice A2 us2.length c2))/\(zc W (w.heap.size+1+1) 0 (zI k3)/\zc W (w.heap.size+1+1) 1 (S n3)/\zc W (w.heap.size+1+1) 2 (zI p3)/\zc W (w.heap.size+1+1) 3 (.slice A3 us3.length c3)) from⟨cells4 ((hb.block _ (zL Q1.o)).trans Q1.o),cells4 ((hb.block _ (zL Q2.o)).trans Q2.o),cells4 ((hb.block _ (zL Q3.o)).trans Q3.o)⟩);have G0:zb wa wa.drew:=(zB _ _).drew;have aa:∀W W',zb wa W->zb W W'->zb wa W':=fun W W' h h'=>h.trans (h'.mono h.size);have PP:=zH P;have KK:=zH K;clear P K hr hl;rw[HJ.o];go_enter Tryz.func194,Tryz.ntmps194;go_upto_region 1 with fail;clear hwa;go_wp2_with fail;go_region_held3 (fun W=>(W.cell? ⟨w.heap.size,0,none⟩=some (zI k1)/\W.cell? ⟨w.heap.size,1,none⟩=some (S n1)/\W.cell? ⟨w.heap.size,2,none⟩=some (zI p1)/\W.cell? ⟨w.heap.size,3,none⟩=some (.slice A1 us1.length c1))/\(W.cell? ⟨w.heap.size+1,0,none⟩=some (zI k2)/\W.cell? ⟨w.heap.size+1,1,none⟩=some (S n2)/\W.cell? ⟨w.heap.size+1,2,none⟩=some (zI p2)/\W.cell? ⟨w.heap.size+1,3,none⟩=some (.slice A2 us2.length c2))/\(W.cell? ⟨w.heap.size+1+1,0,none⟩=some (zI k3)/\W.cell? ⟨w.heap.size+1+1,1,none⟩=some (S n3)/\W.cell? ⟨w.heap.size+1+1,2,none⟩=some (zI p3)/\W.cell? ⟨w.heap.size+1+1,3,none⟩=some (.slice A3 us3.length c3)))
  (first | exact F.o _ G0 | exact F.o _ hb5 | exact F.o _ hb6 | exact F.o _ hb7 | exact⟨cells4 (HO.o.heap ((hb7.block _ (zL Q1.o)).trans Q1.o) (by omega)),cells4 (HO.o.heap ((hb7.block _ (zL Q2.o)).trans Q2.o) (by omega)),cells4 (HO.o.heap ((hb7.block _ (zL Q3.o)).trans Q3.o) (by omega))⟩)
  (first
   |(go_at_call 122;refine(clone_any 100000000 (zN _) (.node k1 n1 p1 us1) _ _ _ hsz ⟨_,_,_,_,rfl,PP.o _ G0 _ _ _ _ _ T1.o⟩).mono ?_;rintro e w5⟨⟨v5,rfl,hv5⟩,hb5'⟩;have hb5:=aa _ _ G0 hb5';have V5:=zH (KK.o w5 w5 _ _ _ G0.size (zB _ _) hv5);clear hv5)
   |(go_at_call 169;refine(apply_any _ (.node k2 n2 p2 us2) _ _ w5 _ V5.o ⟨_,_,_,_,rfl,PP.o _ hb5 _ _ _ _ _ T2.o⟩).mono ?_;rintro e w6⟨⟨v6,rfl,hv6⟩,hb6'⟩;have hb6:=aa _ _ hb5 hb6';have V6:=zH (KK.o w6 w6 _ _ _ hb5.size (zB _ _) hv6);clear hv6)
   |(go_at_call 169;refine(apply_any _ (.node k3 n3 p3 us3) _ _ w6 _ V6.o ⟨_,_,_,_,rfl,PP.o _ hb6 _ _ _ _ _ T3.o⟩).mono ?_;rintro e w7⟨⟨v7,rfl,hv7⟩,hb7'⟩;have hb7:=aa _ _ hb6 hb7';obtain⟨k7,n7,p7,us7,A7,c7,ht7,rfl,hp7⟩:=hv7.parts4;have V7:=zJ ht7 hp7;obtain⟨s1,s2,s3,s4,g1,g2,g3,g4,⟨y0,y1,y2,y3⟩,⟨f0,f1,f2,f3⟩,hq,ho⟩:=put4 ((hb7.block _ (zL Q4.o)).trans Q4.o) (zI k7) (S n7) (zI p7) (.slice A7 us7.length c7);have HO:=zH ho;have HQ:=zH hq;clear hv7 hp7 ht7 hq ho))
 all_goals
  go_wp2_with fail;refine Zb (results_raw rfl _ _ _ _ _ _ _ rfl HQ.o) ?_;have hs7:=hb7.size;have hs6:=hb6.size;have hs4:=HO.o.size;refine⟨⟨_,rfl,_,_,_,_,rfl,?_⟩,Oth.below (BA.o.trans (hb7.mono (by omega))) HO.o (by omega) (by omega)⟩;refine TreeP.keep (fun b hb hlt=>HO.o.block b hlt (fun e=>by have:=zO e;rcases hb with(hb | hb) | hb <;> omega)) hs4 (fun b _ hb=>by rcases hb with(hb | hb) | hb;exact .inl hb.1;exact .inr (by omega);exact .inr (by omega)) _ _ _ _ _ V7.o.2
def ResOk(F:Prop)(w0 w:World)(Rb Mb:Nat)(t:Raw)(e:Ending)(w':World):Prop :=
 ∃v,e=.returned (.tuple #[v,.bool true])∧TreeVP (fun b=>(b<w0.heap.size∧F)∨w.heap.size≤b) w' t v∧Oth Rb w w'∧∃bad:Int,w'.heap[Rb]?=some (.cells #[.map (some Mb),.int .i64 bad] 174 (0,0))
def ResErr(w:World)(Rb Mb:Nat)(k:Int)(e:Ending)(w':World):Prop :=
 e=.returned (.tuple #[.agg #[.int .i64 0,S [],.int .i64 0,.slice none 0 0],.bool false])∧Oth Rb w w'∧w'.heap[Rb]?=some (.cells #[.map (some Mb),.int .i64 k] 174 (0,0))
def ResPost(F:Prop)(w0 w:World)(Rb Mb:Nat)(r:Except Int Raw)(e:Ending)(w':World):Prop :=
 match r with
 |.ok t=>ResOk F w0 w Rb Mb t e w'
 |.error k=>ResErr w Rb Mb k e w'
def Small(F:Prop)(s:List Opd):Prop:=∀x∈s,x.tree.size≤100000000∧(x.closed=false→x.tree.kind=1→x.tree.args=[]∨F)
theorem low_isop(l:List Lfc.Op)(s:List Opd):∀j,j≤s.length→∀i∈(low l (s.take j)).at_,∃h:i<s.length,s[i].closed=false∧s[i].tree.kind=1
 |0,_=>by simp[low,lowN,lowZ]
 |j+1,h=>by
  have ih:=low_isop l s j (by omega);rw[low_succ l s j (by omega)];unfold lowStep;cases ho:opOf l s[j] with
  |none=>exact ih
  |some o =>
   have hj:∃h:j<s.length,s[j].closed=false∧s[j].tree.kind=1:=by
    refine⟨by omega,?_⟩;unfold opOf at ho;split at ho
    ·cases ho
    rename_i h1;simpa using h1
   simp only;split
   ·intro i hi;simp at hi;subst hi;exact hj
   split
   ·intro i hi;rw[List.mem_append] at hi;rcases hi with hi | hi
    ·exact ih i hi
    simp at hi;subst hi;exact hj
   exact ih
theorem Small.op{F:Prop}{l:List Lfc.Op}{s:List Opd}(h:Small F s){i:Nat}(hi:i∈(low l s).at_)(hl:i<s.length):s[i].tree.size≤100000000∧(s[i].tree.args=[]∨F):=by
 have h1:=h s[i] (Ze _);have h2:=low_isop l s s.length (zN _);rw[List.take_length] at h2;obtain⟨_,h3,h4⟩:=h2 i hi;exact⟨h1.1,h1.2 h3 h4⟩
theorem TreeV.leafP{q:Nat→Prop}{w:World}{k p:Int}{n:List UInt8}{v:Value}(h:TreeV w (.node k n p []) v):TreeVP q w (.node k n p []) v:=by
 obtain⟨v0,v1,v2,v3,e,hp⟩:=TreeV.toP (q:=fun _=>True) (fun _ _=>trivial) h;refine⟨v0,v1,v2,v3,e,?_⟩;rw[TreeP] at hp ⊢;obtain⟨h0,h1,hn,h2,A,c,h3,h4,_⟩:=hp;exact⟨h0,h1,hn,h2,A,c,h3,h4,fun hne=>absurd rfl hne⟩
theorem TreeV.toF{F:Prop}{w:World}{k p:Int}{n:List UInt8}{ts:List Raw}{v:Value}(hF:ts=[]∨F)(h:TreeV w (.node k n p ts) v):TreeVP (fun b=>b<w.heap.size∧F) w (.node k n p ts) v:=by
 rcases hF with rfl | hF
 ·exact h.leafP
 exact TreeV.toP (fun b hb=>⟨hb,hF⟩) h
def ResUpto(F:Prop)(w0:World)(Rb Mb:Nat)(l:List Lfc.Op)(m:Nat):Prop:=∀(s:List Opd)(A:Option Addr)(c:Nat)(w:World),s.length≤m→s.length≤1000000→s.length≤c→Small F s→OpdsAt w0 A s→EnvR w0 Rb Mb l w →
  Calls Tryz.prog 123 #[.pointer (some ⟨Rb,0,none⟩),.slice A s.length c] w (ResPost F w0 w Rb Mb (resP l m s))
theorem lt_of_cell'{w:World}{a:Addr}{v:Value}(h:w.cell? a=some v):a.block<w.heap.size:=by
 rcases Nat.lt_or_ge a.block w.heap.size with h1 | h1
 ·exact h1
 unfold World.cell? at h;rw[Array.getElem?_eq_none h1] at h;cases h
theorem oth_fin{w w1 w2 s4:World}{Rb R:Nat}(h1:Oth Rb w w1)(h2:Below w1.heap.size w1 w2)(ho:Oth R w2 s4)(hR:w.heap.size≤R)(hRb:Rb<w.heap.size){o:Obj}(hc:w1.heap[Rb]?=some o):Oth Rb w s4∧s4.heap[Rb]?=some o:=by
 have hs:=h1.size;have hs2:=h2.size;refine⟨h1.of_new ?_,ho.heap ((h2.block _ (zL hc)).trans hc) (by omega)⟩;exact Oth.below (h2.mono hs) ho hR (by omega)
theorem unary_any(F:Prop)(w0:World)(Rb Mb:Nat)(l:List Lfc.Op)(m:Nat)(ih:ResUpto F w0 Rb Mb l m)(x:Opd)(v:Value)(rest:List Opd)(A:Option Addr)(c:Nat)(there:Bool)(w:World)(hx:x.tree.size<=100000000/\(x.tree.args=[]\/F))(hv:OpdV w0 x v)(hm:rest.length<=m)(hl:rest.length<=1000000)(hc:rest.length<=c)(hsm:Small F rest)(hr:OpdsAt w0 A rest)(h:EnvR w0 Rb Mb l w) :
  Calls Tryz.prog 170 #[.pointer (some ⟨Rb,0,none⟩),v,.slice A rest.length c,.bool there] w (ResPost F w0 w Rb Mb (unT (resP l m) x.tree rest there)):=by
 obtain⟨⟨k,n,p,ts⟩,cl⟩:=x;obtain⟨k',n',p',ts',B,cc,e,rfl,hT⟩:=hv;cases e;obtain⟨hx,hF⟩:=hx;obtain⟨wa,hwa⟩:∃wa,(w.alloc (.cells #[zI k,S n,zI p,.slice B ts.length cc,.bool cl] 129)).alloc (.cells #[zI 0,S [],zI 0,zS] 46)=wa:=⟨_,rfl⟩;have ba:zb w wa:=by rw[<-hwa];exact((zB _ _).alloc (zN _) _).alloc (by simp) _
 have qo:zk wa w.heap.size #[zI k,S n,zI p,.slice B ts.length cc,.bool cl] 129:=by rw[<-hwa];exact heap_alloc_old _ _ _ _ (zW _ _)
 have qr:wa.heap[w.heap.size+1]?=some (.cells #[zI 0,S [],zI 0,zS] 46 (0,0)):=by
  rw[<-hwa];have:=zW (w.alloc (.cells #[zI k,S n,zI p,.slice B ts.length cc,.bool cl] 129)) (.cells #[zI 0,S [],zI 0,zS] 46);simpa using this
 have hsa:=eq2 (show wa.heap.size=w.heap.size+2 by rw[<-hwa];simp);have HE:=zH (h.new ba);have hrb:=h.lt;have hrge:=h.rge;have hs0:=h.bel.size;have BA:=zH ba;have QR:=zH qr;have QO:=zH qo;have HT:=zH (TreeV.toF (F:=F) hF hT);simp only at hx ⊢;clear hT h ba qo qr hF;cases there
 ·have CF:=zH (fail_any w0 Rb Mb l 21 wa HE.o);rw[show unT (resP l m) (.node k n p ts) rest false=.error 21 from rfl];unfold ResPost ResErr;simp only;clear ih;go_enter Tryz.func170,Tryz.ntmps170;go_upto_region 1 with fail;clear hwa;go_wp2_with fail;refine CF.o.mono ?_;rintro e w1⟨rfl,hc1,o1⟩;obtain⟨s1,s2,s3,s4,g1,g2,g3,g4,⟨y0,y1,y2,y3⟩,⟨f0,f1,f2,f3⟩,hq,ho⟩:=put4 (o1.heap QR.o (by omega)) (zI 0) (S []) (zI 0) zS;have HF:=zH (oth_fin ((zE BA.o).trans o1) (zB _ _) ho (by omega) hrb hc1);have HQ:=zH hq;clear hq ho hc1 o1;go_wp2_with fail;refine Zb (results_raw2 rfl _ _ _ _ _ _ _ rfl HQ.o) ?_;exact⟨rfl,HF.o.1,HF.o.2⟩
 have CR:=zH (ih rest A c wa hm hl hc hsm hr HE.o);have hun:unT (resP l m) (.node k n p ts) rest true=(match resP l m rest with | .error e=>.error e | .ok t=>.ok (appT (.node k n p ts) t)):=rfl;rw[hun];clear hun ih hr hsm;cases hres:resP l m rest with
 |error kk =>
  rw[hres] at CR;simp only;unfold ResPost ResErr at CR ⊢;simp only at CR ⊢;clear hres;go_enter Tryz.func170,Tryz.ntmps170;go_upto_region 1 with fail;clear hwa;go_wp2_with fail;refine CR.o.mono ?_;rintro e w1⟨rfl,o1,hc1⟩;have hs1:=o1.size;obtain⟨w2,hw2⟩:∃w2,w1.alloc (.cells #[zI 0,S [],zI 0,zS] 46)=w2:=⟨_,rfl⟩;have b2:=zG hw2;have q2:=zQ hw2;have qr1:=o1.heap QR.o (by omega);obtain⟨s1,s2,s3,s4,g1,g2,g3,g4,⟨y0,y1,y2,y3⟩,⟨f0,f1,f2,f3⟩,hq,ho⟩:=put4 ((b2.block _ (zL qr1)).trans qr1) (zI 0) (S []) (zI 0) zS;obtain⟨x0,x1,x2,x3⟩:=cells4 q2;have HF:=zH (oth_fin ((zE BA.o).trans o1) b2 ho (by omega) hrb hc1);have HQ:=zH hq;have HW2:=zH hw2;clear hq ho hc1 o1 b2 q2 qr1 hw2;go_upto_region 4 with fail;rw[HW2.o];go_wp2_with fail;refine Zb (results_raw2 rfl _ _ _ _ _ _ _ rfl HQ.o) ?_;exact⟨rfl,HF.o.1,HF.o.2⟩
 |ok t =>
  rw[hres] at CR;simp only;unfold ResPost ResOk at CR ⊢;simp only at CR ⊢;clear hres;go_enter Tryz.func170,Tryz.ntmps170;go_upto_region 1 with fail;clear hwa;go_wp2_with fail;refine CR.o.mono ?_;rintro e w1⟨v1,rfl,ht1,o1,bad,hc1⟩;obtain⟨k1,n1,p1,us1,A1,c1,e1,rfl,tp1⟩:=ht1.parts4;subst e1;have hs1:=o1.size;obtain⟨w2,hw2⟩:∃w2,w1.alloc (.cells (zT k1 n1 p1 A1 us1 c1) 46)=w2:=⟨_,rfl⟩;have b2:=zG hw2;have q2:=zQ hw2;have hs2:=b2.size;have E1:=HE.o.oth o1 hc1;have bel2:zb w0 w2:=E1.bel.trans (b2.mono E1.bel.size);have QR2:=zH ((b2.block _ (by omega)).trans (o1.heap QR.o (by omega)));have QO2:=zH ((b2.block _ (by omega)).trans (o1.heap QO.o (by omega)));have HT2:Hid (TreeVP (fun b=>(b<w0.heap.size/\F)\/wa.heap.size<=b) w2 (.node k n p ts) (.agg (zT k n p B ts cc))):=by
   obtain⟨v0,v1,v2,v3,e,hp⟩:=HT.o;exact zH ⟨v0,v1,v2,v3,e,TreeP.keep (fun b hb _=>bel2.block b hb.1) bel2.size (fun b _ hb=>.inl hb) _ _ _ _ _ hp⟩
  have HU2:Hid (TreeVP (fun b=>(b<w0.heap.size/\F)\/wa.heap.size<=b) w2 (.node k1 n1 p1 us1) (.agg (zT k1 n1 p1 A1 us1 c1))) :=
   zH ⟨_,_,_,_,rfl,TreeP.keep (fun b _ hlt=>b2.block b hlt) b2.size (fun b _ hb=>hb) _ _ _ _ _ tp1⟩
  have FC:Hid (∀W,zb w2 W->(zc W w.heap.size 0 (zI k)/\zc W w.heap.size 1 (S n)/\zc W w.heap.size 2 (zI p)/\zc W w.heap.size 3 (.slice B ts.length cc))/\(zc W w1.heap.size 0 (zI k1)/\zc W w1.heap.size 1 (S n1)/\zc W w1.heap.size 2 (zI p1)/\zc W w1.heap.size 3 (.slice A1 us1.length c1))):=zH (fun W hb=>by
   have e:=(hb.block _ (zL QO2.o)).trans QO2.o;exact⟨⟨zC e 0,zC e 1,zC e 2,zC e 3⟩,cells4 ((hb.block _ (zL q2)).trans q2)⟩)
  have OW:=zH ((zE BA.o).trans o1);have HC1:=zH hc1;have B2:=zH b2;have HW2:=zH hw2;have G0:zb w2 w2.drew:=(zB _ _).drew;have aa:∀W W',zb w2 W->zb W W'->zb w2 W':=fun W W' h h'=>h.trans (h'.mono h.size);have kp:Hid (∀W W' t v c,wa.heap.size<=c->zb W W'->TreeVP (fun b=>((b<w0.heap.size/\F)\/wa.heap.size<=b)\/c<=b) W t v->TreeVP (fun b=>(b<w0.heap.size/\F)\/wa.heap.size<=b) W' t v):=zH (fun W W' t v c hc hb ht=>by
   obtain⟨v0,v1,v2,v3,rfl,h⟩:=ht;exact⟨v0,v1,v2,v3,rfl,TreeP.keep (fun b _ hlt=>hb.block b hlt) hb.size (fun b _ hb=>by rcases hb with hb | hb;exact hb;exact .inr (by omega)) _ _ _ _ _ h⟩)
  have kp0:Hid (∀W' t v,zb w2 W'->TreeVP (fun b=>(b<w0.heap.size/\F)\/wa.heap.size<=b) w2 t v->TreeVP (fun b=>(b<w0.heap.size/\F)\/wa.heap.size<=b) W' t v):=zH (fun W' t v hb ht=>by
   obtain⟨v0,v1,v2,v3,rfl,h⟩:=ht;exact⟨v0,v1,v2,v3,rfl,TreeP.keep (fun b _ hlt=>hb.block b hlt) hb.size (fun b _ hb=>hb) _ _ _ _ _ h⟩)
  clear hc1 o1 b2 q2 hw2 E1 bel2 ht1 tp1;go_upto_region 4 with fail;rw[HW2.o];go_wp2_with fail;go_region_held3 (fun W=>(W.cell? ⟨w.heap.size,0,none⟩=some (zI k)/\W.cell? ⟨w.heap.size,1,none⟩=some (S n)/\W.cell? ⟨w.heap.size,2,none⟩=some (zI p)/\W.cell? ⟨w.heap.size,3,none⟩=some (.slice B ts.length cc))/\(W.cell? ⟨w1.heap.size,0,none⟩=some (zI k1)/\W.cell? ⟨w1.heap.size,1,none⟩=some (S n1)/\W.cell? ⟨w1.heap.size,2,none⟩=some (zI p1)/\W.cell? ⟨w1.heap.size,3,none⟩=some (.slice A1 us1.length c1)))
   (first | exact FC.o _ G0 | exact FC.o _ hb5 | exact FC.o _ hb6 | exact FS)
   (first
    |(go_at_call 122;refine(clone_any 100000000 (zN _) (.node k n p ts) _ _ _ hx (kp0.o _ _ _ G0 HT2.o)).mono ?_;rintro e w5⟨⟨v5,rfl,hv5⟩,hb5'⟩;have hb5:=aa _ _ G0 hb5';have V5:=zH (kp.o w5 w5 _ _ _ (by have:=G0.size;omega) (zB _ _) hv5);clear hv5)
    |(go_at_call 169;refine(apply_any _ (.node k1 n1 p1 us1) _ _ w5 _ V5.o (kp0.o _ _ _ hb5 HU2.o)).mono ?_;rintro e w6⟨⟨v6,rfl,hv6⟩,hb6'⟩;have hb6:=aa _ _ hb5 hb6';obtain⟨k7,n7,p7,us7,A7,c7,ht7,rfl,hp7⟩:=hv6.parts4;have V7:=zJ ht7 hp7;obtain⟨s1,s2,s3,s4,g1,g2,g3,g4,⟨y0,y1,y2,y3⟩,⟨f0,f1,f2,f3⟩,hq,ho⟩:=put4 ((hb6.block _ (zL QR2.o)).trans QR2.o) (zI k7) (S n7) (zI p7) (.slice A7 us7.length c7);have FS:=(show(zc s4 w.heap.size 0 (zI k)/\zc s4 w.heap.size 1 (S n)/\zc s4 w.heap.size 2 (zI p)/\zc s4 w.heap.size 3 (.slice B ts.length cc))/\(zc s4 w1.heap.size 0 (zI k1)/\zc s4 w1.heap.size 1 (S n1)/\zc s4 w1.heap.size 2 (zI p1)/\zc s4 w1.heap.size 3 (.slice A1 us1.length c1)) from by
     have e6:=FC.o _ hb6;have hz6:=hb6.size;have hz2:=B2.o.size;have cc1:∀j,s4.cell? ⟨w.heap.size,j,none⟩=w6.cell? ⟨w.heap.size,j,none⟩:=fun j=>ho.cell (p:=⟨w.heap.size,j,none⟩) (by simp only;omega) (by simp only;omega);have cc2:∀j,s4.cell? ⟨w1.heap.size,j,none⟩=w6.cell? ⟨w1.heap.size,j,none⟩:=fun j=>ho.cell (p:=⟨w1.heap.size,j,none⟩) (by have:=lt_of_cell' (FC.o w2 (zB _ _)).2.1;simp only at this ⊢;omega) (by simp only;omega);exact⟨⟨(cc1 0).trans e6.1.1,(cc1 1).trans e6.1.2.1,(cc1 2).trans e6.1.2.2.1,(cc1 3).trans e6.1.2.2.2⟩,⟨(cc2 0).trans e6.2.1,(cc2 1).trans e6.2.2.1,(cc2 2).trans e6.2.2.2.1,(cc2 3).trans e6.2.2.2.2⟩⟩);have HO:=zH ho;have HQ:=zH hq;clear hv6 hp7 ht7 hq ho))
  all_goals
   go_wp2_with fail;refine Zb (results_raw2 rfl _ _ _ _ _ _ _ rfl HQ.o) ?_;have hz5:=hb5.size;have hz6:=hb6.size;have hf:=oth_fin OW.o (B2.o.trans (hb6.mono B2.o.size)) HO.o (by omega) hrb HC1.o;refine⟨_,rfl,⟨_,_,_,_,rfl,?_⟩,hf.1,_,hf.2⟩;refine TreeP.keep (fun b hb hlt=>HO.o.block b hlt (fun e=>by have:=zO e;rcases hb with(hb | hb) | hb <;> omega)) HO.o.size (fun b _ hb=>by rcases hb with(hb | hb) | hb;exact .inl hb;exact .inr (by omega);exact .inr (by omega)) _ _ _ _ _ V7.o.2
end Go.Proofs.YthajalgkjonaaaaGreatDoor
