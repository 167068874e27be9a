/- Parts of the proof that no input makes the law false: OcAll, OcBoth, OcChk, OcChk2, OcCop, OcPrv, OcHld. -/
import Derived.Test.YtadjpadieljjlaaGreatWvAL
set_option linter.unusedVariables false
set_option linter.unusedSimpArgs false
set_option maxRecDepth 100000
set_option maxHeartbeats 32000000
namespace Lfc
def blk:Raw:=.node 0 [] 0 []
def chF(ks:List Int)(fs:List Fact)(ts us:List Raw)(m:Int)(i j:Nat):Prop:=chn ks fs (ts.getD i blk) (us.getD j blk) m
def chB(ks:List Int)(fs:List Fact)(ts us:List Raw)(i j:Nat):Prop:=chn ks fs (us.getD j blk) (ts.getD i blk) 1
end Lfc
namespace Go.Proofs.YtadjpadieljjlaaGreat
open Go.RowKit Go.Maps _root_.Lfc
theorem callFunc_enter {f : FuncId} {fn : Func} {c : Code} (hf : Tryz.prog.funcs[f]? = some fn) (hname : (fn.name == "runtime.NumGoroutine") = false) (hb : fn.body = some c) (xs : Array Value) (W : World) : (callFunc f xs).run Tryz.prog W = .ok (.enter f xs) W := by
 have h1 : ¬ fn.name = "runtime.NumGoroutine" := by simpa using hname
 simp[callFunc,hf,h1,hb]
theorem odsCan(Bx Mb:Nat)(F A0 L R:Option Addr)(f0 c0 cl cr:Nat)(fs:List Fact)(ks:List Int)(ts us:List Raw)(hks:ks.length≤1000000)(hfl:fs.length≤400)(hfz:∀f∈fs,f.l.size≤1000∧f.r.size≤1000)(hts:∀t∈ts,t.size≤1000)(hus:∀t∈us,t.size≤1000)(hnt:ts.length≤1000000)(hnu:us.length≤1000000)(m:Nat)(hm:m≤1000) :
  ∀(p:Ods)(v:Value)(w:World),p.size≤m→p.rng ts.length us.length→PvO w Bx Mb F A0 L R f0 c0 cl cr fs ks ts us→OdsP (fun b=>b≠Mb) w p v →
   Can ks fs Mb Bx (chF ks fs ts us 2) (chF ks fs ts us 1) (chB ks fs ts us) w p v:=by
 induction m with
 |zero=>intro p v w h;have:=p.size_pos;omega
 |succ m ih0 =>
  have ih:=ih0 (by omega);intro p v w hsz hrg hP hv;have parts:∀(ps:List Ods)(A:Option Addr),Ods.sizes ps≤m→Ods.rngs ts.length us.length ps→(ps≠[]→∃b o,A=some ⟨b,o,none⟩∧b<w.heap.size∧b≠Mb∧OdssP (fun b=>b≠Mb) w b ps o)→Cans ks fs Mb Bx (chF ks fs ts us 2) (chF ks fs ts us 1) (chB ks fs ts us) w A ps:=fun ps A h1 h2 h3 i hi=>by
   obtain⟨b,o,v,hA,hb,hM,hc,hp⟩:=OdsSl.at_ h3 hi;exact⟨b,o,v,hA,hb,hM,hc,ih _ v w (zR (Ods.sizes_mem ps _ (Ze _)) h1) (Ods.rngs_mem ps _ h2 (Ze _)) hP hp⟩
  cases p with
  |arg i j =>
   rw[OdsP] at hv;rw[Ods.rng] at hrg;obtain⟨hi,hj⟩:=hrg;subst hv;have ei:ts.getD i Lfc.blk=ts[i]:=(by simp[List.getD,Zg hi]);have ej:us.getD j Lfc.blk=us[j]:=(by simp[List.getD,Zg hj]);have hprv:∀(w1:World)(q:Nat→Prop),Oth Mb w w1→Cache ks fs Mb q w1→(∀b,w1.heap.size≤b→q b)→(∀b,q b→b≠Mb)→∀rel r,RelIs (chF ks fs ts us 2) (chF ks fs ts us 1) (chB ks fs ts us) (.arg i j) rel r →
     Calls Tryz.prog 158 #[.agg #[.int .i64 (i:Int),.int .i64 (j:Int)],.pointer (some ⟨Bx,0,none⟩),.int .i64 rel] w1 (PrvA ks fs Mb q w1 1 r):=fun w1 q ho hC hq hqM rel r hrel =>
    oArgP_any q Bx Mb i j F A0 L R f0 c0 cl cr fs ks ts us rel r w1 hks hfl hfz (hP.oth ho) hC hq hqM hi hj (hts _ (Ze _)) (hus _ (Ze _)) (by omega) (by omega) (by
     simp only[RelIs,Ods.ls,Ods.le,Ods.eq,chF,chB,ei,ej] at hrel;exact hrel)
   refine⟨_,_,158,160,rfl,fun _ _=>by rfl,fun _ _=>by rfl,⟨callFunc_enter Tryz.func158 (by kernel_rfl) rfl,callFunc_enter Tryz.func160 (by kernel_rfl) rfl⟩,fun w1 q ho hC hq hqM=>⟨fun rel r hrel=>hprv w1 q ho hC hq hqM rel r hrel,?_⟩⟩;refine oArgW_any q Bx Mb i j fs ks _ w1 hC.lt hC (fun W q' hW hC' h1 h2=>hprv W q' (ho.trans (zE hW)) hC' h1 h2 2 _ (.inr (.inl ⟨rfl,?_⟩))) hq hqM;simp only[Ods.wk,Ods.le]
  |lex ps =>
   rw[OdsP] at hv;rw[Ods.rng] at hrg;rw[Ods.size] at hsz;obtain⟨A,c,rfl,hc,h3⟩:=hv;have hE:=parts ps A (by omega) hrg h3;have hn:ps.length≤1000:=(by have:=Ods.sizes_len ps;omega);refine⟨_,_,151,153,rfl,fun _ _=>by rfl,fun _ _=>by rfl,⟨callFunc_enter Tryz.func151 (by kernel_rfl) rfl,callFunc_enter Tryz.func153 (by kernel_rfl) rfl⟩,fun w1 q ho hC hq hqM=>⟨fun rel r hrel=>?_,?_⟩⟩
   ·simp only[RelIs,Ods.ls,Ods.le,Ods.eq] at hrel;rcases hrel with⟨rfl,hr⟩ | ⟨rfl,hr⟩ | ⟨rfl,hr⟩
    ·exact oLex1_any q _ _ _ Bx Mb ks fs ps A c w1 r (hE.oth ho) hn hC hq hqM hr
    ·exact oLex2_any q _ _ _ Bx Mb ks fs ps A c w1 r (hE.oth ho) hn hC hq hqM hr
    exact oLex3_any q _ _ _ Bx Mb ks fs ps A c w1 r (hE.oth ho) hn hC hq hqM hr
   exact oLexW_any q _ _ _ Bx Mb ks fs ps A c w1 _ (hE.oth ho) hn hC hq hqM (by simp only[Ods.wk])
  |sim ps =>
   rw[OdsP] at hv;rw[Ods.rng] at hrg;rw[Ods.size] at hsz;obtain⟨A,c,rfl,hc,h3⟩:=hv;have hE:=parts ps A (by omega) hrg h3;have hn:ps.length≤1000:=(by have:=Ods.sizes_len ps;omega);refine⟨_,_,155,157,rfl,fun _ _=>by rfl,fun _ _=>by rfl,⟨callFunc_enter Tryz.func155 (by kernel_rfl) rfl,callFunc_enter Tryz.func157 (by kernel_rfl) rfl⟩,fun w1 q ho hC hq hqM=>⟨fun rel r hrel=>?_,?_⟩⟩
   ·simp only[RelIs,Ods.ls,Ods.le,Ods.eq] at hrel;rcases hrel with⟨rfl,hr⟩ | ⟨rfl,hr⟩ | ⟨rfl,hr⟩
    ·exact oSim1_any q _ _ _ Bx Mb ks fs ps A c w1 r (hE.oth ho) hn hC hq hqM hr
    ·exact oSim2_any q _ _ _ Bx Mb ks fs ps A c w1 r (hE.oth ho) hn hC hq hqM hr
    exact oSim3_any q _ _ _ Bx Mb ks fs ps A c w1 r (hE.oth ho) hn hC hq hqM hr
   exact oSimW_any q _ _ _ Bx Mb ks fs ps A c w1 _ (hE.oth ho) hn hC hq hqM (by simp only[Ods.wk])
end Go.Proofs.YtadjpadieljjlaaGreat
namespace Lfc
mutual
def odsOf:Ord→Ord→Ods
 |.node k a ps,.node _ a' ps'=>if k=2 then .lex (odsOfs ps ps') else if k=3 then .sim (odsOfs ps ps') else .arg a.toNat a'.toNat
def odsOfs:List Ord→List Ord→List Ods
 |a :: r,b :: r'=>odsOf a b :: odsOfs r r'
 |[],_=>[]
 |_ :: _,[]=>[]
end
theorem shps_at:∀(ps ps':List Ord),Ord.shps ps ps'=true→∀(i:Nat)(h:i<ps.length)(h':i<ps'.length),Ord.shp ps[i] ps'[i]=true
 |[],[],_,i,h,_=>by cases h
 |a :: r,b :: r',h,i,hi,hi'=>by
  rw[Ord.shps,Bool.and_eq_true] at h;cases i with
  |zero=>exact h.1
  |succ i=>exact shps_at r r' h.2 i (by simpa using hi) (by simpa using hi')
 |[],_ :: _,h,_,_,_=>by simp[Ord.shps] at h
 |_ :: _,[],h,_,_,_=>by simp[Ord.shps] at h
theorem forms_atO:∀(ps:List Ord),Ord.forms ps=true→∀(i:Nat)(h:i<ps.length),ps[i].form=true
 |[],_,i,h=>by cases h
 |a :: r,h,i,hi=>by
  rw[Ord.forms,Bool.and_eq_true] at h;cases i with
  |zero=>exact h.1
  |succ i=>exact forms_atO r h.2 i (by simpa using hi)
theorem rngs_atO(lo hi:Int):∀(ps:List Ord),Ord.rngs lo hi ps=true→∀(i:Nat)(h:i<ps.length),ps[i].rng lo hi=true
 |[],_,i,h=>by cases h
 |a :: r,h,i,hi'=>by
  rw[Ord.rngs,Bool.and_eq_true] at h;cases i with
  |zero=>exact h.1
  |succ i=>exact rngs_atO lo hi r h.2 i (by simpa using hi')
theorem odsOfs_len:∀(ps ps':List Ord),ps.length=ps'.length→(odsOfs ps ps').length=ps.length
 |[],_,_=>by simp[odsOfs]
 |a :: r,b :: r',h=>by simp[odsOfs,odsOfs_len r r' (by simpa using h)]
 |_ :: _,[],h=>by simp at h
theorem odsOfs_take:∀(ps ps':List Ord)(k:Nat)(h:k<ps.length)(h':k<ps'.length),odsOfs (ps.take (k+1)) (ps'.take (k+1))=odsOfs (ps.take k) (ps'.take k)++[odsOf ps[k] ps'[k]]
 |[],_,_,h,_=>by cases h
 |_ :: _,[],_,_,h=>by cases h
 |a :: r,b :: r',0,_,_=>by simp[odsOfs]
 |a :: r,b :: r',k+1,h,h'=>by
  have:=odsOfs_take r r' k (by simpa using h) (by simpa using h');simp only[List.take_succ_cons,odsOfs,List.getElem_cons_succ,List.cons_append];rw[this]
end Lfc
namespace Go.Proofs.YtadjpadieljjlaaGreat
open Go.RowKit Go.Maps _root_.Lfc
theorem ordsInfo:(Tryz.prog.info? 87).map (fun i=>(i.zero,i.size,i.bytes))=some (some .nilIface,1,16):=by kernel_rfl
def BoI(w2:World)(os:List Ods)(v:Value)(wr:World):Prop:=∃xs,wr.ownsRow w2.heap.size 87 1 v os.length xs∧ODRow (fun b=>w2.heap.size≤b∧v.ownBlock≠some b) wr os xs∧Below w2.heap.size w2 wr
theorem BoI.step{w2 wr w9 w10:World}{os:List Ods}{v v' u:Value}{p:Ods}{xs:List Value}{o:Obj}(hown:wr.ownsRow w2.heap.size 87 1 v os.length xs)(hrow:ODRow (fun b=>w2.heap.size≤b∧v.ownBlock≠some b) wr os xs)(hb:Below w2.heap.size w2 wr)(b9:Below wr.heap.size wr w9)(hp:OdsP (fun b=>wr.heap.size≤b) w9 p u)
  (hown':w10.ownsRow w2.heap.size 87 1 v' (os.length+1) (xs++[u])) (hg:(w9.alloc o).grownBy w10 v.ownBlock) (hloc:v'.ownBlock=v.ownBlock∨v'.ownBlock=some (w9.heap.size+1)):BoI w2 (os++[p]) v' w10:=by
 have hs9:=b9.size;have hs10:w9.heap.size+1≤w10.heap.size:=by have:=hg.size;simpa using this
 have hs2:=hb.size;have hlt:∀b,v.ownBlock=some b→w2.heap.size≤b∧b<wr.heap.size:=fun b e=>hown.lt b e;have hold:∀b,v.ownBlock≠some b→b<w9.heap.size→w10.heap[b]?=w9.heap[b]?:=fun b hne hlt=>(hg.block b (by simp;omega) (fun e=>hne e.symm)).trans (zA _ _ _ hlt);have hne':∀b,b<w9.heap.size→v.ownBlock≠some b→v'.ownBlock≠some b:=fun b hlt hne e=>by
  rcases hloc with e2 | e2
  ·exact hne (e2 ▸ e)
  rw[e2] at e;have:=zO e;omega
 refine⟨_,by rw[Zq];exact hown',ODRow.append (us:=[p]) (zs:=[u]) ⟨u,[],rfl,OdsP.keep (fun b hb2 hlt2=>?_) (by omega) (fun b hlt2 hb2=>?_) p u hp,rfl⟩ (hrow.keep (fun b hq hlt2=>(hold b hq.2 (by omega)).trans (b9.block b hlt2)) (by omega) (fun b hlt2 hq=>⟨hq.1,hne' b (by omega) hq.2⟩)),?_⟩
 ·have hb2:wr.heap.size≤b:=hb2;exact hold b (fun e=>by have:=(hlt b e).2;omega) hlt2
 ·have hb2:wr.heap.size≤b:=hb2;exact⟨by omega,hne' b hlt2 (fun e=>by have:=(hlt b e).2;omega)⟩
 exact Below.grown ((hb.trans (b9.mono hs2)).alloc (by omega) o) hg (by simp;omega) (fun b e=>(hlt b e).1)
theorem BoI.fin{w2 wr:World}{os:List Ods}{v:Value}(h:BoI w2 os v wr):∃A c,v=.slice A os.length c∧os.length≤c∧(os≠[]→∃b o,A=some ⟨b,o,none⟩∧b<wr.heap.size∧w2.heap.size≤b∧OdssP (fun b=>w2.heap.size≤b) wr b os o):=by
 obtain⟨xs,hown,hrow,hb⟩:=h;rcases hown.2 with⟨rfl,e0⟩ | ⟨g,cap,cur,rfl,hbg,hg,hnc,_,_,_⟩
 ·have:os=[]:=Zz e0;exact⟨none,0,by rw[e0],by omega,fun h=>absurd this h⟩
 refine⟨_,cap,rfl,hnc,fun _=>⟨g,0,rfl,zL hg,hbg,?_⟩⟩;refine(ODRow.keep (fun _ _ _=>rfl) (zN _) (fun b _ hb=>hb.1) hrow).lie (fun j u hj=>?_);have:=hown.cells (g:=g) rfl j u hj;rw[ocell_add] at this;simpa using this
theorem oBoth_upto(m:Nat)(hmm:m<=1000)(hi1 hi2:Int):∀(o o':Lfc.Ord)(v v':Value)(w:World),o.size<=m->o.shp o'=true->o.form=true->o'.form=true->o.rng 0 hi1=true->o'.rng 0 hi2=true->OrdV w o v->OrdV w o' v' ->
  Calls Tryz.prog 36 #[v,v'] w fun e w'=>(∃T a,e=.returned (.iface T a)/\OdsP (fun b=>w.heap.size<=b) w' (odsOf o o') (.iface T a))/\zb w w':=by
 induction m with
 |zero=>intro o o' v v' w h;have:=o.size_pos;omega
 |succ m ih0 =>
  intro o o' v v' w hm hsh hfo hfo' hr hr' hv hv';have ih:=ih0 (by omega);clear ih0;obtain⟨kd,ar,ts⟩:=o;obtain⟨kd',ar',us⟩:=o';rw[Lfc.Ord.shp,Za,Zd] at hsh;obtain⟨rfl,hshs⟩:=hsh;have hlen:=((shps_spec ts us).1 hshs).1;obtain⟨A,c,rfl,hc,hA⟩:=hv.open_;obtain⟨A',c',rfl,hc',hA'⟩:=hv'.open_;rw[<-hlen];simp only[Lfc.Ord.size] at hm;have hsl:=Lfc.Ord.sizes_len ts;obtain⟨n,hn⟩:∃n,ts.length=n:=⟨_,rfl⟩;have hkd:(kd=1/\n=0/\0<=ar/\0<=ar')\/kd=2\/kd=3:=by
   rw[Lfc.Ord.form] at hfo;rw[Lfc.Ord.rng] at hr hr';by_cases h1:kd=1
   ·rw[if_pos h1] at hfo hr hr';simp only[Zd,Za] at hfo hr hr';exact .inl ⟨h1,by omega,hr.1,hr'.1⟩
   rw[if_neg h1] at hfo;by_cases h2:kd=2\/kd=3
   ·exact .inr h2
   rw[if_neg h2] at hfo;cases hfo
  have hparts:kd≠1->(∀i(h:i<ts.length)(h':i<us.length),ts[i].shp us[i]=true/\ts[i].form=true/\us[i].form=true/\ts[i].rng 0 hi1=true/\us[i].rng 0 hi2=true):=fun h1 i h h'=>by
   rw[Lfc.Ord.form,if_neg h1] at hfo hfo';rw[Lfc.Ord.rng,if_neg h1] at hr hr';have h2:kd=2\/kd=3:=(by rcases hkd with h | h | h <;> omega);rw[if_pos h2] at hfo hfo';simp only[Za] at hfo hfo';exact⟨((shps_spec ts us).1 hshs).2 i h h',forms_atO ts hfo.2 i h,forms_atO us hfo'.2 i h',rngs_atO 0 hi1 ts hr i h,rngs_atO 0 hi2 us hr' i h'⟩
  have HPT:=zH hparts;have IH:=zH ih;obtain⟨i0,hi,hz0,hz1,hz2⟩:=info_parts ordsInfo;obtain⟨w1,hw1⟩:∃w1,w.alloc (.cells #[zI kd,zI ar,.slice A n c] 26)=w1:=⟨_,rfl⟩;obtain⟨w2,hw2⟩:∃w2,w1.alloc (.cells #[zI kd,zI ar',.slice A' n c'] 26)=w2:=⟨_,rfl⟩;have b1:=zG hw1;have b2:=zG hw2;have q1:=zQ hw1;have q2:=zQ hw2;have l1:=zL q1;have l2:=zL q2;have b02:zb w w2:=b1.trans (b2.mono (by omega));have s02:w.heap.size<=w2.heap.size:=by omega
  have Q1:=zH ((b2.block _ l1).trans q1);have Q2:=zH q2;have B02:=zH b02;have HA:=zH (hA.below b02);have HA':=zH (hA'.below b02);obtain⟨y0,y1,y2⟩:=cells3o Q1.o;obtain⟨z0,z1,z2⟩:=cells3o Q2.o;have I0:Hid (BoI w2 (odsOfs (ts.take 0) (us.take 0)) zS w2):=zH (by
   rw[List.take_zero,List.take_zero,odsOfs];exact⟨[],World.ownsRow_nil w2 w2.heap.size _ 1,by rw[ODRow],zB _ _⟩)
  have HM:Hid (∀i(h:i<ts.length),ts[i].size<=m):=zH (fun i h=>by have:=Lfc.Ord.sizes_mem ts ts[i] (Ze _);omega);have hnn:n<=1000:=by omega
  have HN:=zH hn;have HLU:=zH hlen;rw[hn];clear hA hA' hv hv' b1 b2 q1 q2 b02 hfo hfo' hr hr' hshs hparts ih hlen hn hm hsl hc hc';go_enter Tryz.func36,Tryz.ntmps36;go_wp2_with fail;go_loopw [5,10] (fun v i wr=>∃k:Nat,k<=n/\i=zI (k:Int)/\Hid (BoI w2 (odsOfs (ts.take k) (us.take k)) v wr)) (fun _ i _=>n-(intOf i).toNat);case atStart=>exact⟨0,by omega,rfl,I0⟩
  clear I0 hw1 hw2 y0 y1 y2 z0 z1 z2;obtain⟨k,hk,rfl,HI⟩:=hrel;by_cases hlt:k<n
  ·have hkd1:kd≠1:=(by rcases hkd with h | h | h <;> omega);have hltT:k<ts.length:=(by rw[HN.o];exact hlt);have hltU:k<us.length:=(by rw[<-HLU.o];exact hltT);obtain⟨os,hos⟩:∃os,odsOfs (ts.take k) (us.take k)=os:=⟨_,rfl⟩;have hol:os.length=k:=(by rw[<-hos,odsOfs_len _ _ (by simp;omega)];simp;omega);have HTK:=zH (odsOfs_take ts us k hltT hltU);rw[hos] at HI HTK;obtain⟨xs,hown,hrow,hbw⟩:=HI.o;obtain⟨b,o,k1,a1,ss,B,c1,rfl,hb,ht,d0,d1,d2,hcu,hB,hT⟩:=(HA.o.below hbw).at_ hltT;obtain⟨b',o',k2,a2,rr,B',c2,rfl,hb',ht',e0,e1,e2,hcu',hB',hT'⟩:=(HA'.o.below hbw).at_ hltU;obtain⟨y0,y1,y2⟩:=cells3o ((hbw.block _ (by omega)).trans Q1.o);obtain⟨z0,z1,z2⟩:=cells3o ((hbw.block _ l2).trans Q2.o);have hi0:=zP k;have hi1':(k:Int)<(n:Int):=(by omega);obtain⟨p1,p2,p3,p4,p5⟩:=HPT.o hkd1 k hltT hltU;have hbd:=(zB wr.heap.size wr).drew;have CA:=zH (IH.o ts[k] us[k] _ _ wr.drew (HM.o k hltT) p1 p2 p3 p4 p5 (hT.below hbd) (hT'.below hbd));have HROW:=zH hrow;have HBW:=zH hbw;rw[hol] at hown;have HOWN:=zH hown;have HOL:=zH hol;have hlm:k+1<=maxLen:=(by unfold maxLen;omega);have hl16:(k+1)*16<=140737488355328:=(by omega);have hsw:=hbw.size;have S0:Hid (∀W,zb wr W->(zc W w.heap.size 2 (.slice (some ⟨b,o,none⟩) n c)/\zc W w1.heap.size 2 (.slice (some ⟨b',o',none⟩) n c'))/\(zc W b (o+k*3) (zI k1)/\zc W b (o+k*3+1) (zI a1)/\zc W b (o+k*3+2) (.slice B ss.length c1))/\(zc W b' (o'+k*3) (zI k2)/\zc W b' (o'+k*3+1) (zI a2)/\zc W b' (o'+k*3+2) (.slice B' rr.length c2))):=zH (fun W hW=>⟨⟨(hW.cell (p:=⟨w.heap.size,2,none⟩) (by simp only;omega)).trans y2,(hW.cell (p:=⟨w1.heap.size,2,none⟩) (by simp only;omega)).trans z2⟩,⟨(hW.cell (p:=⟨b,_,none⟩) hb).trans d0,(hW.cell (p:=⟨b,_,none⟩) hb).trans d1,(hW.cell (p:=⟨b,_,none⟩) hb).trans d2⟩,⟨(hW.cell (p:=⟨b',_,none⟩) hb').trans e0,(hW.cell (p:=⟨b',_,none⟩) hb').trans e1,(hW.cell (p:=⟨b',_,none⟩) hb').trans e2⟩⟩);clear hown hrow hbw hT hT' hB hB' ht ht' HI hcu hcu' p1 p2 p3 p4 p5 hbd hol y0 y1 y2 z0 z1 z2;obtain⟨⟨v1,v2⟩,⟨v3,v4,v5⟩,⟨v6,v7,v8⟩⟩:=S0.o wr (zB _ _);clear S0;go_upto_region 5 with fail;go_region_law (first
    |(go_simp;go_at_call 36;refine CA.o.mono ?_;rintro e w9⟨⟨T9,a9,rfl,hp9⟩,b9'⟩;have b9:zb wr w9:=(zB _ _).drew.trans b9';have hown9:=ownsRow_keep HOWN.o (fun g hg=>b9.block g (HOWN.o.lt g hg).2);have hs9:w2.heap.size<=w9.heap.size:=zR hsw b9.size)
    |(refine step_append_own_at _ (by rfl) _ _ 118 (by rfl) w2.heap.size 87 i0 .nilIface 1 16 Tryz.underlying118 hi hz0 hz1 hz2 rfl (by decide) _ _ _ (by rfl) (hown9.alloc _) ⟨w9.heap.size,0,none⟩ 1 1 [.iface T9 a9] (by rfl) (by rfl) (fun j u h=>ocells_new w9 _ rfl [.iface T9 a9] _ j u h) (fun u hu=>by simp at hu;subst hu;rfl) hlm hl16 (oalloc_le hs9) ?_;intro v' w10 hown10 hg10 hloc10))
   all_goals
    have HNX:Hid (BoI w2 (odsOfs (ts.take (k+1)) (us.take (k+1))) v' w10):=zH (by
     rw[HTK.o];exact BoI.step (by rw[HOL.o];exact HOWN.o) HROW.o HBW.o b9 hp9 (by rw[HOL.o];exact hown10) hg10 (oalloc_loc hloc10))
    clear hown10 hg10 hloc10 hp9 b9 hown9;go_wp2_with fail;go_roundw;case rel=>exact⟨k+1,by omega,by go_num,HNX⟩
    case measure=>simp[intOf];omega
  obtain rfl:n=k:=by omega
  have hbw:zb w2 wr:=by obtain⟨xs,_,_,h⟩:=HI.o;exact h
  obtain⟨y0,y1,y2⟩:=cells3o ((hbw.block _ (by omega)).trans Q1.o);obtain⟨z0,z1,z2⟩:=cells3o ((hbw.block _ l2).trans Q2.o);have htl:ts.take n=ts:=by rw[<-HN.o];exact List.take_length
  have hul:us.take n=us:=by rw[<-HN.o,HLU.o];exact List.take_length
  have HB0:=zH (B02.o.trans (hbw.mono s02));rw[htl,hul] at HI;obtain⟨A9,c9,e9,hc9,hS9⟩:=HI.o.fin;have hq9:∀b,b<wr.heap.size->w2.heap.size<=b->w.heap.size<=b:=fun b _ hb=>by omega
  have hos:(odsOfs ts us).length=n:=by rw[odsOfs_len _ _ HLU.o,HN.o]
  have HFIN:Hid (odsOfs ts us≠[]->∃b o,A9=some ⟨b,o,none⟩/\b<wr.heap.size/\w.heap.size<=b/\OdssP (fun b=>w.heap.size<=b) wr b (odsOfs ts us) o):=zH (fun hne=>by
   obtain⟨b,o,hA,hb,hq,h⟩:=hS9 hne;exact⟨b,o,hA,hb,by omega,OdssP.keep (fun _ _ _=>rfl) (zN _) hq9 _ _ _ hb hq h⟩)
  have HOS:=zH hos;have HC9:=zH hc9;have HE9:=zH e9;subst e9;clear HI hS9 hbw htl hul hq9 hos hc9;rcases hkd with⟨rfl,rfl,ha,ha'⟩ | rfl | rfl
  ·have HZ:Hid ((∃T a,Ending.returned (.iface 123 (.agg #[zI ar,zI ar']))=.returned (.iface T a)/\OdsP (fun b=>w.heap.size<=b) wr (odsOf (.node 1 ar ts) (.node 1 ar' us)) (.iface T a))/\zb w wr):=zH ⟨⟨_,_,rfl,by
    rw[odsOf,if_neg (by decide),if_neg (by decide),OdsP,Int.toNat_of_nonneg ha,Int.toNat_of_nonneg ha']⟩,HB0.o⟩
   clear HFIN HOS HC9 HE9;go_wp2_with fail;go_ret;exact HZ.o
  ·have HZ:Hid ((∃T a,Ending.returned (.iface 120 (.agg #[.slice A9 (odsOfs ts us).length c9]))=.returned (.iface T a)/\OdsP (fun b=>w.heap.size<=b) wr (odsOf (.node 2 ar ts) (.node 2 ar' us)) (.iface T a))/\zb w wr):=zH ⟨⟨_,_,rfl,by
    rw[odsOf,if_pos rfl,OdsP];exact⟨A9,c9,rfl,HC9.o,HFIN.o⟩⟩,HB0.o⟩
   clear HFIN HOS HC9 HE9;go_wp2_with fail;go_ret;exact HZ.o
  have HZ:Hid ((∃T a,Ending.returned (.iface 121 (.agg #[.slice A9 (odsOfs ts us).length c9]))=.returned (.iface T a)/\OdsP (fun b=>w.heap.size<=b) wr (odsOf (.node 3 ar ts) (.node 3 ar' us)) (.iface T a))/\zb w wr):=zH ⟨⟨_,_,rfl,by
   rw[odsOf,if_neg (by decide),if_pos rfl,OdsP];exact⟨A9,c9,rfl,HC9.o,HFIN.o⟩⟩,HB0.o⟩
  clear HFIN HOS HC9 HE9;go_wp2_with fail;go_ret;exact HZ.o
end Go.Proofs.YtadjpadieljjlaaGreat
namespace Lfc
def flat:List Fact→List Raw
 |[]=>[]
 |f :: r=>f.l :: f.r :: flat r
theorem flat_app:∀(x:List Fact)(f:Fact),flat (x++[f])=flat x++[f.l,f.r]
 |[],f=>rfl
 |a :: r,f=>by simp[flat,flat_app r f]
theorem flat_len:∀(x:List Fact),(flat x).length=2*x.length
 |[]=>rfl
 |a :: r=>by simp[flat,flat_len r];omega
def chkF(fs:List Fact)(o p:Ord)(ts us:List Raw):Int :=
 if firstE (flat fs++ts++us)≠0 then firstE (flat fs++ts++us) else if allO (flat fs++ts++us)=false then 32 else if o.vld ts.length≠0 then o.vld ts.length else if p.vld us.length≠0 then p.vld us.length else if o.shp p=false then 92 else 0
end Lfc
namespace Go.Proofs.YtadjpadieljjlaaGreat
section
open Go.RowKit Go.Maps _root_.Lfc
theorem FactsP.at_{q:Nat→Prop}{w:World}{F:Option Addr}{fs:List Fact}(h:FactsP q w F fs){i:Nat}(hi:i<fs.length):∃b o,F=some ⟨b,o,none⟩∧b<w.heap.size∧q b∧FactO q w b (o+i*9) fs[i]:=by
 obtain⟨b,o,hF,hlt,hb,hf⟩:=h (by intro h0;rw[h0] at hi;cases hi);exact⟨b,o,hF,hlt,hb,hf i hi⟩
theorem oChk1_any(k p k' p' rel:Int)(n n':List UInt8)(A A':Option Addr)(x c x' c':Nat)(w:World)(hr:rel=1\/rel=2\/rel=3) :
  Calls Tryz.prog 63 #[.agg #[zI k,S n,zI p,.slice A x c,zI rel,zI k',S n',zI p',.slice A' x' c']] w fun e w'=>e=.returned (.bool false)/\zb w w':=by
 obtain⟨w1,hw1⟩:∃w1,w.alloc (.cells #[zI k,S n,zI p,.slice A x c,zI rel,zI k',S n',zI p',.slice A' x' c'] 70)=w1:=⟨_,rfl⟩;have b1:=zG hw1;have q1:=zQ hw1;have y4:zc w1 w.heap.size 4 (zI rel):=zC q1 4;have CR:=zH (oRel_any rel w1);have hb:(rel == 1 || rel == 2 || rel == 3)=true:=by rcases hr with rfl | rfl | rfl <;> rfl
 rw[hb] at CR;have B1:=zH b1;clear b1 q1 hb;go_enter Tryz.func63,Tryz.ntmps63;go_wp2_with fail;refine CR.o.mono ?_;rintro e w2⟨rfl,rfl⟩;go_wp2_with fail;go_ret;exact⟨rfl,B1.o⟩
theorem idxFact_any(q:Nat->Prop)(fs:List Fact)(F:Option Addr)(f0:Nat)(w:World)(hn:fs.length<=1000)(hF:FactsP q w F fs)(hr:∀f∈fs,f.rel=1\/f.rel=2\/f.rel=3) :
  Calls Tryz.prog 92 #[.slice F fs.length f0,.func (.func 63) #[] #[]] w fun e w'=>e=.returned (zI (-1))/\zb w w':=by
 have HF:=zH hF;have HR:=zH hr;obtain⟨n,hnn⟩:∃n,fs.length=n:=⟨_,rfl⟩;rw[hnn] at hn ⊢;have HN:=zH hnn;have B0:=zH (zB w.heap.size w);clear hF hr hnn;go_enter Tryz.func92,Tryz.ntmps92;go_wp2_with fail;go_loopw [8] (fun i wr=>∃k:Nat,k<=n/\i=zI (k:Int)/\Hid (zb w wr)) (fun i _=>n-(intOf i).toNat);case atStart=>exact⟨0,by omega,rfl,B0⟩
 clear B0;obtain⟨k,hk,rfl,HB⟩:=hrel;by_cases hlt:k<n
 ·have hlt2:k<fs.length:=by rw[HN.o];exact hlt
  obtain⟨b,o,rfl,hb,hqb,kk,nm,p,ts,A,c,k',n',p',ts',A',c',e1,e2,⟨d0,d1,d2,d3⟩,d4,⟨d5,d6,d7,d8⟩,v1,v2⟩:=(HF.o.below HB.o).at_ hlt2;have hi0:=zP k;have hi1:(k:Int)<(n:Int):=by omega
  have CC:=zH (oChk1_any kk p k' p' fs[k].rel nm n' A A' ts.length c ts'.length c' wr (HR.o _ (Ze _)));obtain⟨rr,hrr⟩:∃rr,fs[k].rel=rr:=⟨_,rfl⟩;rw[hrr] at CC d4;clear v1 v2 e1 e2 hrr hqb;go_wp2_with fail;refine CC.o.mono ?_;rintro e w2⟨rfl,b2⟩;have HB2:=zH (HB.o.trans (b2.mono HB.o.size));clear b2 d0 d1 d2 d3 d4 d5 d6 d7 d8 CC;go_wp2_with fail;go_roundw;case rel=>exact⟨k+1,by omega,by go_num,HB2⟩
  case measure=>simp[intOf];omega
 obtain rfl:k=n:=by omega
 go_wp2_with fail;go_ret;exact⟨rfl,HB.o⟩
theorem conFact_any(q:Nat->Prop)(fs:List Fact)(F:Option Addr)(f0:Nat)(w:World)(hn:fs.length<=1000)(hF:FactsP q w F fs)(hr:∀f∈fs,f.rel=1\/f.rel=2\/f.rel=3) :
  Calls Tryz.prog 62 #[.slice F fs.length f0,.func (.func 63) #[] #[]] w fun e w'=>e=.returned (.bool false)/\zb w w':=by
 have C:=zH (idxFact_any q fs F f0 w hn hF hr);clear hF hr;go_enter Tryz.func62,Tryz.ntmps62;go_wp2_with fail;refine C.o.mono ?_;rintro e w2⟨rfl,b2⟩;have B2:=zH b2;clear b2;go_wp2_with fail;go_ret;exact⟨rfl,B2.o⟩
theorem ownsRow_keepC{w w':World}{base:Nat}{e:TypeId}{size n:Nat}{v:Value}{xs:List Value}(h:w.ownsRow base e size v n xs)(hk:∀g,v.ownBlock=some g→w'.heap[g]?=w.heap[g]?):w'.ownsRow base e size v n xs:=by
 refine⟨h.1,h.2.imp id ?_⟩;rintro⟨g,cap,cur,rfl,hb,hg,rest⟩;exact⟨g,cap,cur,rfl,hb,(hk g rfl).trans hg,rest⟩
def GaI(q:Nat→Prop)(w2:World)(l:List Raw)(v:Value)(wr:World):Prop:=∃xs,wr.ownsRow w2.heap.size 51 4 v l.length xs∧RowP (fun b=>b<w2.heap.size) wr l xs∧Below w2.heap.size w2 wr
theorem GaI.step{q:Nat→Prop}{w2 wr w9 w10:World}{l:List Raw}{f:Fact}{v v':Value}{xs:List Value}{o:Obj}{k p k' p':Int}{n n':List UInt8}{ts ts':List Raw}{A A':Option Addr}{c c':Nat}(hown:wr.ownsRow w2.heap.size 51 4 v l.length xs)(hrow:RowP (fun b=>b<w2.heap.size) wr l xs)(hb:Below w2.heap.size w2 wr)(b9:Below wr.heap.size wr w9)
  (hl:TreeVP (fun b=>b<w2.heap.size) w2 f.l (.agg #[.int .i64 k,S n,.int .i64 p,.slice A ts.length c])) (hr:TreeVP (fun b=>b<w2.heap.size) w2 f.r (.agg #[.int .i64 k',S n',.int .i64 p',.slice A' ts'.length c']))
  (hown':w10.ownsRow w2.heap.size 51 4 v' (l.length+2) (xs++[.int .i64 k,S n,.int .i64 p,.slice A ts.length c,.int .i64 k',S n',.int .i64 p',.slice A' ts'.length c'])) (hg:(w9.alloc o).grownBy w10 v.ownBlock):GaI q w2 (l++[f.l,f.r]) v' w10:=by
 have hs2:=hb.size;have hs9:=b9.size;have h10:Below w2.heap.size w2 w10:=Below.grown ((hb.trans (b9.mono hs2)).alloc (by omega) o) hg (by simp;omega) (fun b e=>(hown.lt b e).1);have hk:∀b,b<w2.heap.size→b<wr.heap.size→w10.heap[b]?=wr.heap[b]?:=fun b hb2 _=>(h10.block b hb2).trans (hb.block b hb2).symm;obtain⟨_,_,_,_,e,hP⟩:=hl;cases e;obtain⟨_,_,_,_,e,hP'⟩:=hr;cases e;refine⟨_,by rw[Zq];exact hown',RowP.append ?_ (RowP.keep hk (by have:=h10.size;have:=hg.size;simp at this;omega) (fun _ _ h=>h) hrow),h10⟩;rw[RowP];refine⟨_,_,_,_,_,rfl,TreeP.keep (fun b hb2 _=>h10.block b hb2) h10.size (fun _ _ h=>h) _ _ _ _ _ hP,?_⟩;rw[RowP];exact⟨_,_,_,_,[],rfl,TreeP.keep (fun b hb2 _=>h10.block b hb2) h10.size (fun _ _ h=>h) _ _ _ _ _ hP',by rw[RowP]⟩
theorem oneCell8{k p k' p':Int}{n n':List UInt8}{A A':Option Addr}{l c l' c':Nat}:∀u∈[Value.int .i64 k,S n,.int .i64 p,.slice A l c,.int .i64 k',S n',.int .i64 p',.slice A' l' c'],u.oneCell'=true:=by
 intro u hu;simp only[List.mem_cons,List.not_mem_nil,or_false] at hu;rcases hu with rfl | rfl | rfl | rfl | rfl | rfl | rfl | rfl <;> rfl
theorem oCheckF_any(q:Nat->Prop)(fs:List Fact)(F:Option Addr)(f0:Nat)(rel:Int)(o p:Lfc.Ord)(vo vp:Value)(ts us:List Raw)(L R:Option Addr)(cl cr:Nat)(w:World)(hfl:fs.length<=64)(hF:FactsP q w F fs)(hrl:∀f∈fs,f.rel=1\/f.rel=2\/f.rel=3)(hfz:∀f∈fs,f.l.size<=1000000/\f.r.size<=1000000)(hrel:rel=1\/rel=2\/rel=3)(hos:o.size<=1000000)(hps:p.size<=1000000)(hvo:OrdV w o vo)(hvp:OrdV w p vp)
  (hn:ts.length<=1000) (hm:us.length<=1000) (hst:∀t∈ts++us,t.size<=1000000) (hL:L=none->ts.length=0/\cl=0) (hR:R=none->us.length=0/\cr=0) (hts:TreesAt w L ts) (hus:TreesAt w R us) :
  Calls Tryz.prog 35 #[.slice F fs.length f0,zI rel,vo,.slice L ts.length cl,vp,.slice R us.length cr] w fun e w'=>e=.returned (zI (chkF fs o p ts us))/\zb w w':=by
 have HVO:=zH hvo;have HVP:=zH hvp;obtain⟨A1,c1,k1,a1,l1,rfl⟩:∃A c kd ar n,vo=.agg #[zI kd,zI ar,.slice A n c]:=by
  obtain⟨kd,ar,ts⟩:=o;obtain⟨A,c,rfl,hc,hA⟩:=hvo.open_;exact⟨A,c,kd,ar,_,rfl⟩
 obtain⟨A2,c2,k2,a2,l2,rfl⟩:∃A c kd ar n,vp=.agg #[zI kd,zI ar,.slice A n c]:=by
  obtain⟨kd,ar,ts⟩:=p;obtain⟨A,c,rfl,hc,hA⟩:=hvp.open_;exact⟨A,c,kd,ar,_,rfl⟩
 obtain⟨xs1,hx1,hr1,hc1,ho1⟩:=treesAt_part hts;obtain⟨xs2,hx2,hr2,hc2,ho2⟩:=treesAt_part hus;obtain⟨all,hall⟩:∃all,flat fs++ts++us=all:=⟨_,rfl⟩;obtain⟨n,hnn⟩:∃n,ts.length=n:=⟨_,rfl⟩;obtain⟨m,hmm⟩:∃m,us.length=m:=⟨_,rfl⟩;obtain⟨nf,hnf⟩:∃nf,fs.length=nf:=⟨_,rfl⟩;have hlen:all.length=2*nf+n+m:=by rw[<-hall,Zq,Zq,flat_len,hnn,hmm,hnf]
 have HST:Hid (∀k(h:k<all.length),all[k].size<=1000000):=zH (fun k h=>by
  have hmem:all[k]∈flat fs++ts++us:=by rw[hall];exact Ze h
  rw[List.append_assoc] at hmem;rcases List.mem_append.1 hmem with h1 | h1
  ·have:∀(l:List Fact),(∀f∈l,f.l.size<=1000000/\f.r.size<=1000000)->∀t∈flat l,t.size<=1000000:=fun l=>by
    induction l with
    |nil=>intro _ t h;cases h
    |cons a r ih =>
     intro hf t ht;simp only[flat,List.mem_cons] at ht;rcases ht with rfl | rfl | ht
     ·exact(hf a (List.mem_cons_self ..)).1
     ·exact(hf a (List.mem_cons_self ..)).2
     exact ih (fun f h=>hf f (List.mem_cons_of_mem _ h)) t ht
   exact this fs hfz _ h1
  exact hst _ h1)
 have hcd:∃res,chkF fs o p ts us=res:=⟨_,rfl⟩;obtain⟨res,hres⟩:=hcd;obtain⟨zo,hzo⟩:∃zo,o.vld n=zo:=⟨_,rfl⟩;obtain⟨zp,hzp⟩:∃zp,p.vld m=zp:=⟨_,rfl⟩;obtain⟨sh,hsh⟩:∃sh,o.shp p=sh:=⟨_,rfl⟩;have HRES:Hid ((firstE all≠0->res=firstE all)/\(firstE all=0->allO all=false->res=32)/\(firstE all=0->allO all=true->((zo≠0->res=zo)/\(zo=0->((zp≠0->res=zp)/\(zp=0->((sh=false->res=92)/\(sh=true->res=0)))))))):=zH (by
  unfold chkF at hres;rw[hall,hnn,hmm,hzo,hzp,hsh] at hres;refine⟨fun h=>?_,fun h h2=>?_,fun h h2=>⟨fun h3=>?_,fun h3=>⟨fun h4=>?_,fun h4=>⟨fun h5=>?_,fun h5=>?_⟩⟩⟩⟩
  ·rw[if_pos h] at hres;exact hres.symm
  ·rw[if_neg (by omega),if_pos h2] at hres;exact hres.symm
  ·rw[if_neg (by omega),if_neg (by rw[h2];decide),if_pos h3] at hres;exact hres.symm
  ·rw[if_neg (by omega),if_neg (by rw[h2];decide),if_neg (by omega),if_pos h4] at hres;exact hres.symm
  ·rw[if_neg (by omega),if_neg (by rw[h2];decide),if_neg (by omega),if_neg (by omega),if_pos h5] at hres;exact hres.symm
  rw[if_neg (by omega),if_neg (by rw[h2];decide),if_neg (by omega),if_neg (by omega),if_neg (by rw[h5];decide)] at hres;exact hres.symm)
 rw[hres];rw[hnn] at hn hL hx1 ⊢;rw[hmm] at hm hR hx2 ⊢;rw[hnf] at hfl ⊢;obtain⟨w1,hw1⟩:∃w1,w.alloc (.cells #[zI k1,zI a1,.slice A1 l1 c1] 26)=w1:=⟨_,rfl⟩;obtain⟨w2,hw2⟩:∃w2,w1.alloc (.cells #[zI k2,zI a2,.slice A2 l2 c2] 26)=w2:=⟨_,rfl⟩;have b1:=zG hw1;have b2:=zG hw2;have q1:=zQ hw1;have q2:=zQ hw2;have e1:=zL q1;have e2:=zL q2;have b02:zb w w2:=b1.trans (b2.mono (by omega));have s02:w.heap.size<=w2.heap.size:=by omega
 have Q12:=zH ((b2.block _ e1).trans q1);have Q22:=zH q2;have B02:=zH b02;have HFS:=zH (hF.keep (q':=fun b=>q b/\b<w2.heap.size) (fun b _ hlt=>b02.block b hlt) b02.size (fun b hlt hb=>⟨hb,by omega⟩));have HF2:=zH (hF.below b02);have HRL:=zH hrl;have HX:=zJ (And.intro hx1 (And.intro hr1 (And.intro hc1 ho1))) (And.intro hx2 (And.intro hr2 (And.intro hc2 ho2)));have HLR:=zJ hL hR;have HNF:=zH hnf;have HALL:=zH hall;have HLEN:=zH hlen;have HNM:=zJ hzo (And.intro hzp (And.intro hsh (And.intro hos hps)));have CR:Hid (∀W,Calls Tryz.prog 61 #[zI rel] W fun e w'=>e=.returned (.bool true)/\w'=W):=zH (fun W=>by
  have:=oRel_any rel W;rwa[show(rel == 1 || rel == 2 || rel == 3)=true by rcases hrel with rfl | rfl | rfl <;> rfl] at this)
 have I0:Hid (GaI q w2 (flat (fs.take 0)) zS w2):=zH ⟨[],World.ownsRow_nil w2 w2.heap.size _ 4,by rw[List.take_zero,flat,RowP],zB _ _⟩;obtain⟨i0,hi,hz0,hz1,hz2⟩:=info_parts termInfo;have hnlt:n<=1000/\m<=1000:=⟨hn,hm⟩;clear hvo hvp hx1 hr1 hc1 ho1 hx2 hr2 hc2 ho2 hall hnn hmm hlen hsh hst hL hR hts hus b1 b2 q1 q2 b02 hres hF hrl hfz hnf hzo hzp hrel hos hps;go_enter Tryz.func35,Tryz.ntmps35;go_wp2_with fail;go_loopw [13,25] (fun v i wr=>∃k:Nat,k<=nf/\i=zI (k:Int)/\Hid (GaI q w2 (flat (fs.take k)) v wr)) (fun _ i _=>nf-(intOf i).toNat);case atStart=>exact⟨0,by omega,rfl,I0⟩
 clear I0 hw1 hw2;obtain⟨k,hk,rfl,HI⟩:=hrel;by_cases hlt:k<nf
 ·have hlt2:k<fs.length:=by rw[HNF.o];exact hlt
  obtain⟨xs,hown,hrow,hbw⟩:=HI.o;have hfl2:(flat (fs.take k)).length=2*k:=by rw[flat_len,List.length_take];omega
  have HTK:Hid (flat (fs.take (k+1))=flat (fs.take k)++[fs[k].l,fs[k].r]):=zH (by rw[Zm hlt2,flat_app]);obtain⟨b,oo,rfl,hb,hqb,kk,nm,pp,ls,B,c,kk',nm',pp',rs,B',c',f1,f2,⟨d0,d1,d2,d3⟩,d4,⟨d5,d6,d7,d8⟩,v1,v2⟩:=HFS.o.at_ hlt2;have HV1:=zH (v1.keep (q':=fun b=>b<w2.heap.size) (fun _ _ _=>rfl) (zN _) (fun b _ hb=>hb.2));have HV2:=zH (v2.keep (q':=fun b=>b<w2.heap.size) (fun _ _ _=>rfl) (zN _) (fun b _ hb=>hb.2));have cc:∀j v,zc w2 b j v->zc wr b j v:=fun j v h=>(hbw.cell (p:=⟨b,j,none⟩) hb).trans h;obtain⟨rr,hrr⟩:∃rr,fs[k].rel=rr:=⟨_,rfl⟩;rw[hrr] at d4;have g0:=cc _ _ d0;have g1:=cc _ _ d1;have g2:=cc _ _ d2;have g3:=cc _ _ d3;have g4:=cc _ _ d4;have g5:=cc _ _ d5;have g6:=cc _ _ d6;have g7:=cc _ _ d7;have g8:=cc _ _ d8;have hi0:=zP k;have hi1:(k:Int)<(nf:Int):=by omega
  obtain⟨wx,hwx⟩:∃wx,wr.alloc (.cells #[zI kk,S nm,zI pp,.slice B (List.length ls) c,zI rr,zI kk',S nm',zI pp',.slice B' (List.length rs) c'] 70)=wx:=⟨_,rfl⟩;have bx:=zG hwx;have qx:=zQ hwx;have x0:=(zC qx 0:zc wx wr.heap.size 0 (zI kk));have x1:=(zC qx 1:zc wx wr.heap.size 1 (S nm));have x2:=(zC qx 2:zc wx wr.heap.size 2 (zI pp));have x3:=(zC qx 3:zc wx wr.heap.size 3 (.slice B (List.length ls) c));have x5:=(zC qx 5:zc wx wr.heap.size 5 (zI kk'));have x6:=(zC qx 6:zc wx wr.heap.size 6 (S nm'));have x7:=(zC qx 7:zc wx wr.heap.size 7 (zI pp'));have x8:=(zC qx 8:zc wx wr.heap.size 8 (.slice B' (List.length rs) c'));have HWX:=zH hwx;have HBX:=zH bx;have HROW:=zH hrow;have HBW:=zH hbw;have HOWN:=zH hown;have HFL:=zH hfl2;have HOW2:Hid (wx.ownsRow w2.heap.size 51 4 u13 (2*k) xs):=zH (by rw[<-hfl2];exact ownsRow_keepC hown (fun g hg=>bx.block g (hown.lt g hg).2));have hlm:2*k+2<=maxLen:=by unfold maxLen;omega
  have hl56:(2*k+2)*56<=140737488355328:=by omega
  have hbz:w2.heap.size<=wx.heap.size:=zR hbw.size bx.size;clear hwx bx qx hown hrow hbw v1 v2 d0 d1 d2 d3 d4 d5 d6 d7 d8 cc f1 f2 hrr HI hfl2;go_upto_region 5 with fail;rw[HWX.o];clear HWX g0 g1 g2 g3 g4 g5 g6 g7 g8;go_wp2_with (at_builtin;refine wpList_append_own_at _ rfl _ _ 27 rfl w2.heap.size 51 i0 (.agg #[zI 0,S [],zI 0,zS]) 4 56 Tryz.underlying27 hi hz0 hz1 hz2 rfl (by decide) _ _ _ rfl (HOW2.o.alloc _) ⟨wx.heap.size,0,none⟩ 2 2 [zI kk,S nm,zI pp,.slice B (List.length ls) c,zI kk',S nm',zI pp',.slice B' (List.length rs) c'] rfl rfl (fun jj v hj=>ocells_new wx _ rfl [zI kk,S nm,zI pp,.slice B (List.length ls) c,zI kk',S nm',zI pp',.slice B' (List.length rs) c'] 51 jj v hj) oneCell8 hlm hl56 (oalloc_le hbz) ?_);intro v' w10 hown10 hg10 _ hloc10;have HN:Hid (GaI q w2 (flat (fs.take (k+1))) v' w10):=zH (by
   rw[HTK.o];exact GaI.step HOWN.o HROW.o HBW.o HBX.o HV1.o HV2.o (by rw[HFL.o];exact hown10) hg10)
  clear hown10 hg10 hloc10;go_wp2_with fail;go_roundw;case rel=>exact⟨k+1,by omega,by go_num,HN⟩
  case measure=>simp[intOf];omega
 obtain rfl:k=nf:=by omega
 obtain⟨xs0,hown0,hrow0,hb0⟩:=HI.o;have htk:fs.take k=fs:=by rw[<-HNF.o];exact List.take_length
 rw[htk] at hown0 hrow0;obtain⟨n0,hn0⟩:∃n0,(flat fs).length=n0:=⟨_,rfl⟩;have hn02:n0=2*k:=by rw[<-hn0,flat_len,HNF.o]
 rw[hn0] at hown0;obtain⟨A0,c0,rfl,hc0⟩:=own_form hown0;obtain⟨wr0,hwr0⟩:∃wr0,wr0=wr:=⟨_,rfl⟩;subst hwr0;obtain⟨w3,hw3⟩:∃w3,wr0.alloc (.cells #[.slice A0 n0 c0,.slice L n cl,.slice R m cr] 27)=w3:=⟨_,rfl⟩;have b3:=zG hw3;have q3:=zQ hw3;have e3:=zL q3;have b23:zb w2 w3:=hb0.trans (b3.mono hb0.size);have b03:zb w w3:=B02.o.trans (b23.mono s02);have s23:=b23.size;have Q1:=zH ((b23.block _ (by omega)).trans Q12.o);have Q2:=zH ((b23.block _ e2).trans Q22.o);have s03:w.heap.size<=w3.heap.size:=by omega
 obtain⟨⟨hx1,hr1,hc1,ho1⟩,hx2,hr2,hc2,ho2⟩:=HX.o;have hPO:PartsO w3 wr0.heap.size 0 [⟨A0,n0,c0,xs0⟩,⟨L,n,cl,xs1⟩,⟨R,m,cr,xs2⟩]:=by
  intro k hk;have hk3:k<3:=hk;have hk':k=0\/k=1\/k=2:=by omega
  rcases hk' with rfl | rfl | rfl
  ·refine⟨zC q3 0,hown0.1,fun e=>?_,fun a ha j u hj=>?_,hrow0.cell1⟩
   ·rcases hown0.2 with⟨h1,h2⟩ | ⟨g,cap,cur,h1,_⟩
    ·injection h1 with _ e2 e3;exact⟨h2,e3⟩
    injection h1 with e1 _ _;rw[e1] at e;cases e
   rcases hown0.2 with⟨h1,h2⟩ | ⟨g,cap,cur,h1,hbg,hg,_⟩
   ·injection h1 with e1 _ _;rw[e1] at ha;cases ha
   injection h1 with e1 _ _;rw[e1] at ha;cases ha;exact(b3.cell (World.block_lt_of_cell? wr0 _ (hown0.cells (g:=g) (by rw[e1];rfl) j u hj))).trans (hown0.cells (g:=g) (by rw[e1];rfl) j u hj)
  ·exact⟨zC q3 1,hx1,HLR.o.1,fun a ha j u hj=>(b03.cell (World.block_lt_of_cell? w _ (hc1 a ha j u hj))).trans (hc1 a ha j u hj),ho1⟩
  exact⟨zC q3 2,hx2,HLR.o.2,fun a ha j u hj=>(b03.cell (World.block_lt_of_cell? w _ (hc2 a ha j u hj))).trans (hc2 a ha j u hj),ho2⟩
 have CC:=zH (concatT_any wr0.heap.size 0 3 _ w3 (by simp) (by simp[partsN];omega) hPO);have HRW:Hid (∀w4 v,w4.ownsRow w3.heap.size 51 4 v (partsN [⟨A0,n0,c0,xs0⟩,⟨L,n,cl,xs1⟩,⟨R,m,cr,xs2⟩]) (partsX [⟨A0,n0,c0,xs0⟩,⟨L,n,cl,xs1⟩,⟨R,m,cr,xs2⟩])->zb w3 w4->∃A c,v=.slice A all.length c/\TreesAt w4 A all):=zH (fun w4 v ho hb=>by
  have hb2:=b23.trans (hb.mono s23);have hb0':=b03.trans (hb.mono s03);refine treesAt_own (q:=fun b=>b<w2.heap.size) (xs:=(xs0++xs1)++xs2) (by simpa[partsX] using ho) ?_;rw[<-HALL.o];refine RowP.append (RowP.keep (fun b hb1 hb2=>hb0'.block b hb2) hb0'.size (fun b h _=>by omega) hr2) (RowP.append (RowP.keep (fun b hb1 hb2=>hb0'.block b hb2) hb0'.size (fun b h _=>by omega) hr1) (RowP.keep (fun b hb1 _=>?_) (by have:=hb.size;have:=b3.size;omega) (fun _ _ h=>h) hrow0));have hb1:b<w2.heap.size:=hb1;exact(hb2.block b hb1).trans (hb0.block b hb1).symm)
 obtain⟨h_o,h_p,h_s,hos,hps⟩:=HNM.o;have CV1:Hid (∀W,zb w3 W->Calls Tryz.prog 33 #[.agg #[zI k1,zI a1,.slice A1 l1 c1],zI (n:Int)] W fun e w'=>e=.returned (zI zo)/\zb W w'):=zH (fun W hW=>by
  have:=oValid_any o _ (n:Int) W hos (by omega) (by omega) (HVO.o.below (b03.trans (hW.mono s03)));rwa[h_o] at this)
 have CV2:Hid (∀W,zb w3 W->Calls Tryz.prog 33 #[.agg #[zI k2,zI a2,.slice A2 l2 c2],zI (m:Int)] W fun e w'=>e=.returned (zI zp)/\zb W w'):=zH (fun W hW=>by
  have:=oValid_any p _ (m:Int) W hps (by omega) (by omega) (HVP.o.below (b03.trans (hW.mono s03)));rwa[h_p] at this)
 have CS:Hid (∀W,zb w3 W->Calls Tryz.prog 34 #[.agg #[zI k1,zI a1,.slice A1 l1 c1],.agg #[zI k2,zI a2,.slice A2 l2 c2]] W fun e w'=>e=.returned (.bool sh)/\zb W w'):=zH (fun W hW=>by
  have:=oShape_upto _ hos o p _ _ W (zN _) (HVO.o.below (b03.trans (hW.mono s03))) (HVP.o.below (b03.trans (hW.mono s03)));rwa[h_s] at this)
 have CFF:Hid (∀W,zb w3 W->Calls Tryz.prog 62 #[.slice F k f0,.func (.func 63) #[] #[]] W fun e w'=>e=.returned (.bool false)/\zb W w'):=zH (fun W hW=>by
  have:=conFact_any q fs F f0 W (by rw[HNF.o];omega) (HF2.o.below (b23.trans (hW.mono s23))) HRL.o;rwa[HNF.o] at this)
 have B03:=zH b03;have hl2:all.length<=3000:=by rw[HLEN.o];omega
 obtain⟨N,hN⟩:∃N,all.length=N:=⟨_,rfl⟩;have HN:=zH hN;rw[hN] at hl2;clear hN h_o h_p h_s hos hps hx1 hr1 hc1 ho1 hx2 hr2 hc2 ho2 hPO b03 b23 b3 q3 hb0 hrow0 hown0 hn02 hn0 htk HI hc0;obtain⟨nf,hnf⟩:∃nf,nf=k:=⟨_,rfl⟩;subst hnf;go_wp2_with fail;refine CC.o.mono ?_;rintro e w4⟨⟨v4,rfl,hown⟩,b4⟩;obtain⟨A4,c4,rfl,hT4⟩:=HRW.o _ _ hown b4;rw[HN.o];have HT4:=zH hT4;have B4:=zH b4;have I0:Hid (zb w4 w4):=zH (zB _ _);clear hown hT4 b4 CC HRW hw3;go_wp2_with fail;go_loopw [44] (fun i wr=>∃k:Nat,k<=N/\i=zI (k:Int)/\Hid (firstE all=firstE (all.drop k))/\Hid (zb w4 wr)) (fun i _=>N-(intOf i).toNat);case atStart=>exact⟨0,by omega,rfl,zH rfl,I0⟩
 obtain⟨k,hk,rfl,HF,HB⟩:=hrel;by_cases hlt:k<N
 ·have hlt2:k<all.length:=by rw[HN.o];exact hlt
  obtain⟨b,oo,kk,nn,pp,us',B',cc,rfl,hb,ht,d0,d1,d2,d3,hcu,hB,hT⟩:=HT4.o.at_ hlt2;have hbw:=HB.o;have f0:=(hbw.cell (p:=⟨b,oo+k*4,none⟩) hb).trans d0;have f1:=(hbw.cell (p:=⟨b,oo+k*4+1,none⟩) hb).trans d1;have f2:=(hbw.cell (p:=⟨b,oo+k*4+2,none⟩) hb).trans d2;have f3:=(hbw.cell (p:=⟨b,oo+k*4+3,none⟩) hb).trans d3;have hi0:=zP k;have hi1:(k:Int)<(N:Int):=by omega
  obtain⟨wx,hwx⟩:∃wx,wr.alloc (.cells (zT kk nn pp B' us' cc) 51)=wx:=⟨_,rfl⟩;have bx:=zG hwx;have qx:=zQ hwx;obtain⟨y0,y1,y2,y3⟩:=cells4t qx;have CW:=zH (tWf_any all[k] _ wx (by have:=HST.o k hlt2;omega) (hT.below (hbw.trans (bx.mono hbw.size))));have HB2:=zH (hbw.trans (bx.mono hbw.size));have HFD:=zH (HF.o.trans (firstE_drop hlt2));have HWX:=zH hwx;obtain⟨z,hz⟩:∃z,all[k].twf=z:=⟨_,rfl⟩;rw[hz] at CW HFD;clear hz qx bx hwx hT hB ht d0 d1 d2 d3 hbw hlt2;go_upto_region 11 with fail;rw[HWX.o];clear HWX f0 f1 f2 f3;go_wp2_with fail;refine CW.o.mono ?_;rintro e w5⟨rfl,b5⟩;have HB5:=zH (HB2.o.trans (b5.mono HB2.o.size));clear b5 CW y0 y1 y2 y3;by_cases hz0:z=0
  ·have HFE:Hid (firstE all=firstE (all.drop (k+1))):=zH (by rw[HFD.o,if_pos hz0]);clear HFD;subst hz0;go_wp2_with fail;go_roundw;case rel=>exact⟨k+1,by omega,by go_num,HFE,HB5⟩
   case measure=>simp[intOf];omega
  have HFE:Hid (firstE all=z):=zH (by rw[HFD.o,if_neg hz0]);have hz1:(z == 0)=false:=by simpa using hz0
  have hz2:(z != 0)=true:=by simpa using hz0
  have hz3:decide (z=0)=false:=by simpa using hz0
  have HZ:Hid (Ending.returned (zI z)=.returned (zI res)/\zb w w5):=zH ⟨by rw[HRES.o.1 (by rw[HFE.o];exact hz0),HFE.o],B03.o.trans ((B4.o.trans (HB5.o.mono B4.o.size)).mono s03)⟩;clear HFD hz0;go_wp2_with fail;go_ret;exact HZ.o
 obtain rfl:k=N:=by omega
 have HFE:Hid (firstE all=0):=zH (by rw[HF.o,<-HN.o,List.drop_length,firstE]);clear HF;have I0:Hid (zb w4 wr):=HB;clear HB;obtain⟨wq2,hwq2⟩:∃wq2,wq2=wr:=⟨_,rfl⟩;subst hwq2;go_wp2_with fail;go_loopw [56] (fun i wr=>∃j:Nat,j<=k/\i=zI (j:Int)/\Hid (allO all=allO (all.drop j))/\Hid (zb w4 wr)) (fun i _=>k-(intOf i).toNat);case atStart=>exact⟨0,by omega,rfl,zH rfl,I0⟩
 clear I0;obtain⟨j,hj,rfl,HF,HB⟩:=hrel;by_cases hlt:j<k
 ·have hlt2:j<all.length:=by rw[HN.o];exact hlt
  obtain⟨b,oo,kk,nn,pp,us',B',cc,rfl,hb,ht,d0,d1,d2,d3,hcu,hB,hT⟩:=HT4.o.at_ hlt2;have hbw:=HB.o;have f0:=(hbw.cell (p:=⟨b,oo+j*4,none⟩) hb).trans d0;have f1:=(hbw.cell (p:=⟨b,oo+j*4+1,none⟩) hb).trans d1;have f2:=(hbw.cell (p:=⟨b,oo+j*4+2,none⟩) hb).trans d2;have f3:=(hbw.cell (p:=⟨b,oo+j*4+3,none⟩) hb).trans d3;have hi0:=zP j;have hi1:(j:Int)<(k:Int):=by omega
  obtain⟨wx,hwx⟩:∃wx,wr.alloc (.cells (zT kk nn pp B' us' cc) 51)=wx:=⟨_,rfl⟩;have bx:=zG hwx;have qx:=zQ hwx;obtain⟨y0,y1,y2,y3⟩:=cells4t qx;have CW:=zH (tIsO_any all[j] _ wx (HST.o j hlt2) (hT.below (hbw.trans (bx.mono hbw.size))));have HB2:=zH (hbw.trans (bx.mono hbw.size));have HFD:=zH (HF.o.trans (allO_drop hlt2));have HWX:=zH hwx;obtain⟨z,hz⟩:∃z,all[j].isO=z:=⟨_,rfl⟩;rw[hz] at CW HFD;clear hz qx bx hwx hT hB ht d0 d1 d2 d3 hbw hlt2;go_upto_region 18 with fail;rw[HWX.o];clear HWX f0 f1 f2 f3;go_wp2_with fail;refine CW.o.mono ?_;rintro e w5⟨rfl,b5⟩;have HB5:=zH (HB2.o.trans (b5.mono HB2.o.size));clear b5 CW y0 y1 y2 y3;cases z
  ·have HZ:Hid (Ending.returned (zI 32)=.returned (zI res)/\zb w w5):=zH ⟨by rw[HRES.o.2.1 HFE.o (by rw[HFD.o];rfl)],B03.o.trans ((B4.o.trans (HB5.o.mono B4.o.size)).mono s03)⟩;clear HFD;go_wp2_with fail;go_ret;exact HZ.o
  have HFE2:Hid (allO all=allO (all.drop (j+1))):=zH (by rw[HFD.o];rfl);clear HFD;go_wp2_with fail;go_roundw;case rel=>exact⟨j+1,by omega,by go_num,HFE2,HB5⟩
  case measure=>simp[intOf];omega
 obtain rfl:j=k:=by omega
 have HAO:Hid (allO all=true):=zH (by rw[HF.o,<-HN.o,List.drop_length,allO]);have HRZ:=zH (HRES.o.2.2 HFE.o HAO.o);have b3r:=B4.o.trans (HB.o.mono B4.o.size);have HB0:=zH b3r;obtain⟨y0,y1,y2⟩:=cells3o ((b3r.block _ (by omega)).trans Q1.o);have C1:=zH (CV1.o _ b3r);clear HF HB HAO b3r;go_wp2_with fail;refine C1.o.mono ?_;rintro e w6⟨rfl,b6⟩;have b36:=HB0.o.trans (b6.mono HB0.o.size);have HB6:=zH b36;by_cases hzo:zo=0
 ·obtain⟨z0,z1,z2⟩:=cells3o ((b36.block _ (by omega)).trans Q2.o);have C2:=zH (CV2.o _ b36);have HRP:=zH (HRZ.o.2 hzo);clear b36 b6 C1 y0 y1 y2 HRZ;subst hzo;go_wp2_with fail;refine C2.o.mono ?_;rintro e w7⟨rfl,b7⟩;have b37:=HB6.o.trans (b7.mono HB6.o.size);have HB7:=zH b37;by_cases hzp:zp=0
  ·obtain⟨y0,y1,y2⟩:=cells3o ((b37.block _ (by omega)).trans Q1.o);clear z0 z1 z2;obtain⟨z0,z1,z2⟩:=cells3o ((b37.block _ (by omega)).trans Q2.o);have C3:=zH (CS.o _ b37);have HRS:=zH (HRP.o.2 hzp);clear b37 b7 C2 HRP;subst hzp;go_wp2_with fail;refine C3.o.mono ?_;rintro e w8⟨rfl,b8⟩;have b38:=HB7.o.trans (b8.mono HB7.o.size);have HB8:=zH b38;clear b8 C3 y0 y1 y2 z0 z1 z2;cases sh with
   |false =>
    have HZ:Hid (Ending.returned (zI 92)=.returned (zI res)/\zb w w8):=zH ⟨by rw[HRS.o.1 rfl],B03.o.trans (HB8.o.mono s03)⟩;clear HRS b38;go_wp2_with fail;go_ret;exact HZ.o
   |true =>
    have HRT:=zH (HRS.o.2 rfl);have CF:=zH (CFF.o _ b38);clear HRS b38;go_wp2_with fail;refine(CR.o _).mono ?_;rintro e w9⟨rfl,rfl⟩;go_wp2_with fail;refine CF.o.mono ?_;rintro e w10⟨rfl,b10⟩;have HZ:Hid (Ending.returned (zI 0)=.returned (zI res)/\zb w w10):=zH ⟨by rw[HRT.o],B03.o.trans ((HB8.o.trans (b10.mono HB8.o.size)).mono s03)⟩;clear b10 CF;go_wp2_with fail;go_ret;exact HZ.o
  have hz1:(zp == 0)=false:=by simpa using hzp
  have hz2:(zp != 0)=true:=by simpa using hzp
  have hz3:decide (zp=0)=false:=by simpa using hzp
  have HZ:Hid (Ending.returned (zI zp)=.returned (zI res)/\zb w w7):=zH ⟨by rw[HRP.o.1 hzp],B03.o.trans (HB7.o.mono s03)⟩;clear b37 b7 C2 HRP hzp z0 z1 z2;go_wp2_with fail;go_ret;exact HZ.o
 have hz1:(zo == 0)=false:=by simpa using hzo
 have hz2:(zo != 0)=true:=by simpa using hzo
 have hz3:decide (zo=0)=false:=by simpa using hzo
 have HZ:Hid (Ending.returned (zI zo)=.returned (zI res)/\zb w w6):=zH ⟨by rw[HRZ.o.1 hzo],B03.o.trans (HB6.o.mono s03)⟩;clear b36 b6 C1 HRZ hzo y0 y1 y2;go_wp2_with fail;go_ret;exact HZ.o
end
section
open Go.RowKit Go.Maps
theorem oneCellP{ix:Int}{A A1 A2:Option Addr}{n n1 n2 c c1 c2:Nat}:∀u∈[Value.int .i64 ix,.slice A n c,.slice A1 n1 c1,.slice A2 n2 c2],u.oneCell'=true:=by
 intro u hu;simp only[List.mem_cons,List.not_mem_nil,or_false] at hu;rcases hu with rfl | rfl | rfl | rfl <;> rfl
end
end Go.Proofs.YtadjpadieljjlaaGreat
namespace Lfc
def rels(ks:List Int)(fs:List Fact)(ts us:List Raw)(p:Ods)(rel:Int):Prop :=
 (rel=1∧Ods.ls (chF ks fs ts us 2) (chF ks fs ts us 1) (chB ks fs ts us) p)∨(rel=2∧Ods.le (chF ks fs ts us 2) (chF ks fs ts us 1) (chB ks fs ts us) p)∨(rel=3∧Ods.eq (chF ks fs ts us 1) (chB ks fs ts us) p)
def hldF(ks:List Int)(fs:List Fact)(o p:Ord)(ts us:List Raw)(rel:Int):Prop:=chkF fs o p ts us=0∧rels ks fs ts us (odsOf o p) rel
mutual
theorem odsOf_size:∀(o p:Ord),(odsOf o p).size≤o.size
 |.node k a ps,.node _ a' ps'=>by
  have h:=odsOfs_size ps ps';rw[odsOf,Ord.size];split
  ·rw[Ods.size];omega
  split
  ·rw[Ods.size];omega
  rw[Ods.size];omega
theorem odsOfs_size:∀(ps ps':List Ord),Ods.sizes (odsOfs ps ps')≤Ord.sizes ps
 |a :: r,b :: r'=>by
  have h1:=odsOf_size a b;have h2:=odsOfs_size r r';rw[odsOfs,Ods.sizes,Ord.sizes];omega
 |[],_=>by rw[odsOfs,Ods.sizes];omega
 |_ :: _,[]=>by rw[odsOfs,Ods.sizes];omega
end
mutual
theorem odsOf_rng(n m:Nat):∀(o p:Ord),o.shp p=true→o.form=true→p.form=true→o.rng 0 ((n:Int)-1)=true→p.rng 0 ((m:Int)-1)=true→(odsOf o p).rng n m
 |.node k a ps,.node k' a' ps',hs,hf,hf',hr,hr'=>by
  rw[Ord.shp,Bool.and_eq_true,decide_eq_true_eq] at hs;obtain⟨rfl,hs⟩:=hs;rw[Ord.form] at hf hf';rw[Ord.rng] at hr hr';rw[odsOf];by_cases h1:k=1
  ·subst h1;rw[if_neg (by decide),if_neg (by decide),Ods.rng];rw[if_pos rfl] at hr hr';simp only[Bool.and_eq_true,decide_eq_true_eq] at hr hr';omega
  rw[if_neg h1] at hf hf' hr hr';by_cases h2:k=2∨k=3
  ·rw[if_pos h2] at hf hf';simp only[Bool.and_eq_true] at hf hf';have h:=odsOfs_rng n m ps ps' hs hf.2 hf'.2 hr hr';rcases h2 with rfl | rfl
   ·rw[if_pos rfl,Ods.rng];exact h
   rw[if_neg (by decide),if_pos rfl,Ods.rng];exact h
  rw[if_neg h2] at hf;cases hf
theorem odsOfs_rng(n m:Nat):∀(ps ps':List Ord),Ord.shps ps ps'=true→Ord.forms ps=true→Ord.forms ps'=true→Ord.rngs 0 ((n:Int)-1) ps=true→Ord.rngs 0 ((m:Int)-1) ps'=true→Ods.rngs n m (odsOfs ps ps')
 |a :: r,b :: r',hs,hf,hf',hr,hr'=>by
  rw[Ord.shps,Bool.and_eq_true] at hs;rw[Ord.forms,Bool.and_eq_true] at hf hf';rw[Ord.rngs,Bool.and_eq_true] at hr hr';rw[odsOfs,Ods.rngs];exact⟨odsOf_rng n m a b hs.1 hf.1 hf'.1 hr.1 hr'.1,odsOfs_rng n m r r' hs.2 hf.2 hf'.2 hr.2 hr'.2⟩
 |[],_,_,_,_,_,_=>by rw[odsOfs,Ods.rngs];trivial
 |_ :: _,[],_,_,_,_,_=>by rw[odsOfs,Ods.rngs];trivial
end
theorem vld_zero{o:Ord}{n:Int}(h:o.vld n=0):o.size≤64∧o.form=true∧o.rng 0 (n-1)=true:=by
 rw[Ord.vld] at h;split at h
 ·cases h
 rename_i h1;split at h
 ·cases h
 rename_i h2;refine⟨?_,?_,?_⟩
 ·by_cases h3:64<o.size
  ·exact absurd (.inl h3) h1
  omega
 ·cases hf:o.form
  ·exact absurd (.inr hf) h1
  rfl
 cases hf:o.rng 0 (n-1)
 ·exact absurd hf h2
 rfl
theorem chkF_zero{fs:List Fact}{o p:Ord}{ts us:List Raw}(h:chkF fs o p ts us=0):firstE (flat fs++ts++us)=0∧allO (flat fs++ts++us)=true∧o.vld ts.length=0∧p.vld us.length=0∧o.shp p=true:=by
 rw[chkF] at h;split at h
 ·rename_i h1;exact absurd h h1
 rename_i h1;split at h
 ·cases h
 rename_i h2;split at h
 ·rename_i h3;exact absurd h h3
 rename_i h3;split at h
 ·rename_i h4;exact absurd h h4
 rename_i h4;split at h
 ·cases h
 rename_i h5;refine⟨by omega,?_,by omega,by omega,?_⟩
 ·cases hh:allO (flat fs++ts++us)
  ·exact absurd hh h2
  rfl
 cases hh:o.shp p
 ·exact absurd hh h5
 rfl
end Lfc
namespace Go.Proofs.YtadjpadieljjlaaGreat
section
open Go.RowKit Go.Maps _root_.Lfc
structure QuO(w:World)(fs:List Fact)(F:Option Addr)(o p:Lfc.Ord)(vo vp:Value)(ts us:List Raw)(L R:Option Addr)(cl cr:Nat)(ks:List Int)(A0:Option Addr):Prop where
 fl:fs.length≤64
 rl:∀f∈fs,f.rel=1∨f.rel=2∨f.rel=3
 fz:∀f∈fs,f.l.size≤1000∧f.r.size≤1000
 fs:FactsP (fun _=>True) w F fs
 os:o.size≤1000
 ps:p.size≤1000
 vo:OrdV w o vo
 vp:OrdV w p vp
 n:ts.length≤1000
 m:us.length≤1000
 st:∀t∈ts++us,t.size≤1000
 l:L=none→ts.length=0∧cl=0
 r:R=none→us.length=0∧cr=0
 ts:TreesAt w L ts
 us:TreesAt w R us
 kl:ks.length≤1000000
 ks:IntsP (fun _=>True) w A0 ks
theorem QuO.below{w w':World}{fs:List Fact}{F:Option Addr}{o p:Lfc.Ord}{vo vp:Value}{ts us:List Raw}{L R:Option Addr}{cl cr:Nat}{ks:List Int}{A0:Option Addr}(h:QuO w fs F o p vo vp ts us L R cl cr ks A0)(hb:Below w.heap.size w w'):QuO w' fs F o p vo vp ts us L R cl cr ks A0 :=
 ⟨h.fl,h.rl,h.fz,h.fs.below hb,h.os,h.ps,h.vo.below hb,h.vp.below hb,h.n,h.m,h.st,h.l,h.r,h.ts.below hb,h.us.below hb,h.kl,h.ks.keep (fun b _ hlt=>hb.block b hlt) hb.size (fun _ _ h=>h)⟩
theorem TreesAt.toP{w:World}{A:Option Addr}{ts:List Raw}(h:TreesAt w A ts):TreesAtP (fun b=>b<w.heap.size) w A ts:=fun hne=>by
 obtain⟨b,o,hA,hb,hts⟩:=h hne;exact⟨b,o,hA,hb,hb,TreesO.toP (q:=fun b=>b<w.heap.size) (fun _ h=>h) ts b o hts⟩
theorem QuO.prover{w w1:World}{fs:List Fact}{F:Option Addr}{o p:Lfc.Ord}{vo vp:Value}{ts us:List Raw}{L R:Option Addr}{cl cr f0 c0:Nat}{ks:List Int}{A0:Option Addr}{Bx Mb:Nat}(h:QuO w fs F o p vo vp ts us L R cl cr ks A0)(hb:Below w.heap.size w w1)(hM:w.heap.size≤Mb)(hne:Bx≠Mb)
  (hq:w1.heap[Bx]?=some (.cells #[.slice F fs.length f0,.slice A0 ks.length c0,.slice L ts.length cl,.slice R us.length cr,.map (some Mb)] 85 (0,0))):PvO w1 Bx Mb F A0 L R f0 c0 cl cr fs ks ts us :=
 ⟨zL hq,hne,zC hq 0,zC hq 1,zC hq 2,zC hq 3,zC hq 4,
  h.fs.keep (fun b _ hlt=>hb.block b hlt) hb.size (fun b hlt _=>by omega),h.ks.keep (fun b _ hlt=>hb.block b hlt) hb.size (fun b hlt _=>by omega),
  h.ts.toP.keep (fun b _ hlt=>hb.block b hlt) hb.size (fun b hlt _=>by omega),h.us.toP.keep (fun b _ hlt=>hb.block b hlt) hb.size (fun b hlt _=>by omega)⟩
def PrvF(w:World)(r:Prop)(e:Ending)(w':World):Prop:=(∃(ix:Int)(A A1 A2:Option Addr)(n n1 n2 c c1 c2:Nat)(b:Bool),e=.returned (.tuple #[.agg #[.int .i64 ix,.slice A n c,.slice A1 n1 c1,.slice A2 n2 c2],.bool b])∧(b=true↔r))∧Below w.heap.size w w'
theorem relIs_of{ks:List Int}{fs:List Fact}{ts us:List Raw}{p:Ods}{rel:Int}(h:rel=1∨rel=2∨rel=3):RelIs (chF ks fs ts us 2) (chF ks fs ts us 1) (chB ks fs ts us) p rel (rels ks fs ts us p rel):=by
 rcases h with rfl | rfl | rfl
 ·exact .inl ⟨rfl,by simp[rels]⟩
 ·exact .inr (.inl ⟨rfl,by simp[rels]⟩)
 exact .inr (.inr ⟨rfl,by simp[rels]⟩)
end
section
open Go.RowKit Go.Maps
def HldF(w:World)(z:Int)(r:Prop)(e:Ending)(w':World):Prop:=(∃b:Bool,e=.returned (.tuple #[.bool b,.int .i64 z])∧(b=true↔r))∧Below w.heap.size w w'
end
end Go.Proofs.YtadjpadieljjlaaGreat
