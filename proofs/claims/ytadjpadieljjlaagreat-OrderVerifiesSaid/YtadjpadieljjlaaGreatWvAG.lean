/- Parts of the proof that no input makes the law false: OrRef, OrShape, OrVld, OrChk, OrLinks, OrLinks2, OrCopied. -/
import Derived.Test.YtadjpadieljjlaaGreatWvAF
set_option linter.unusedVariables false
set_option linter.unusedSimpArgs false
set_option maxRecDepth 100000
set_option maxHeartbeats 32000000
namespace Go.Proofs.YtadjpadieljjlaaGreat
section
open Go.RowKit _root_.Lfc
theorem rCount_any(m:Nat)(hmm:m<=1000000):∀(o:Lfc.Ord)(v:Value)(w:World),o.size<=m->OrdV w o v ->
  Calls Tryz.prog 95 #[v] w fun e w'=>e=.returned (zI (o.size:Int))/\zb w w':=by
 induction m with
 |zero=>intro o v w h _;have:=o.size_pos;omega
 |succ m ih0 =>
  intro o v w hm hv;have ih:=ih0 (by omega);clear ih0;obtain⟨kd,ar,ts⟩:=o;obtain⟨A,c,rfl,hc,hA⟩:=hv.open_;simp only[Lfc.Ord.size] at hm;have hlen:=Lfc.Ord.sizes_len ts;have IH:=zH ih;obtain⟨w0,hw0⟩:∃w0,w.alloc (.cells #[zI kd,zI ar,.slice A ts.length c] 26)=w0:=⟨_,rfl⟩;have b0:=zG hw0;have hq0:=zQ hw0;have s0:=zL hq0;have HQ:=zH hq0;have HA:=zH (hA.below b0);have HB0:=zH b0;obtain⟨y0,y1,y2⟩:=cells3o hq0;clear ih hA hv hq0 b0;simp only[Lfc.Ord.size];go_enter Tryz.func95,Tryz.ntmps95;go_wp2_with fail;go_loopw [3,4] (fun n i wr=>∃k:Nat,k<=ts.length/\i=zI k/\n=zI ((Lfc.Ord.sizes (ts.take k)+1:Nat):Int)/\zb w0 wr) (fun _ i _=>ts.length-(intOf i).toNat);case atStart=>exact⟨0,by omega,rfl,by simp[Lfc.Ord.sizes],by first | exact zB _ _ | (rw[hw0];exact zB _ _)⟩
  clear hw0 y0 y1 y2;obtain⟨k,hk,rfl,rfl,hbw⟩:=hrel;obtain⟨x0,x1,x2⟩:=cells3o ((hbw.block _ s0).trans HQ.o);have hle3:=Lfc.Ord.sizes_take_le ts k;by_cases hlt:k<ts.length
  ·obtain⟨b,o,k1,a1,us,B,c1,rfl,hb,ht,d0,d1,d2,hcu,hB,hT⟩:=(HA.o.below hbw).at_ hlt;have hst:=Lfc.Ord.sizes_take ts k hlt;have hle2:=Lfc.Ord.sizes_take_le ts (k+1);have hmem:=Lfc.Ord.sizes_mem ts ts[k] (Ze _);have HS:=zH hst;clear hB ht;generalize hZ:ts[k].size=z at *;generalize hY:Lfc.Ord.sizes (ts.take k)=y at *;have HZ:=zH hZ;clear hZ hst hY;go_wp2_with fail;refine(IH.o ts[k] _ _ (by rw[HZ.o];omega) hT).mono ?_;rintro e w1⟨rfl,hb1⟩;rw[HZ.o];have hyz:y+z<=Lfc.Ord.sizes ts:=(by have:=HS.o;omega);go_wp2_with fail;go_roundw;case rel=>exact⟨k+1,by omega,by go_num,by rw[HS.o];go_num,hbw.trans (hb1.mono hbw.size)⟩
   case measure=>simp[intOf];omega
  have hkl:k=ts.length:=by omega
  go_wp2_with fail;go_ret;exact⟨ret_int (by rw[hkl,List.take_length]),HB0.o.trans (hbw.mono (Nat.le_of_lt s0))⟩
theorem rShaped_any(m:Nat)(hmm:m<=1000000):∀(o:Lfc.Ord)(v:Value)(w:World),o.size<=m->OrdV w o v ->
  Calls Tryz.prog 96 #[v] w fun e w'=>e=.returned (.bool o.form)/\zb w w':=by
 induction m with
 |zero=>intro o v w h _;have:=o.size_pos;omega
 |succ m ih0 =>
  intro o v w hm hv;have ih:=ih0 (by omega);clear ih0;obtain⟨kd,ar,ts⟩:=o;obtain⟨A,c,rfl,hc,hA⟩:=hv.open_;simp only[Lfc.Ord.size] at hm;have hlen:=Lfc.Ord.sizes_len ts;have IH:=zH ih;obtain⟨w0,hw0⟩:∃w0,w.alloc (.cells #[zI kd,zI ar,.slice A ts.length c] 26)=w0:=⟨_,rfl⟩;have b0:=zG hw0;have hq0:=zQ hw0;have s0:=zL hq0;have HQ:=zH hq0;have HA:=zH (hA.below b0);have HB0:=zH b0;obtain⟨y0,y1,y2⟩:=cells3o hq0;clear ih hA hv hq0 b0;have HS:=zH (forms_specO ts);have HF:=zH (forms_falseO ts);rw[Lfc.Ord.form];by_cases hk1:kd=1
  ·subst hk1;rw[if_pos rfl];by_cases hl0:ts.length=0
   ·have hl1:((ts.length:Int) == 0)=true:=(by simp[hl0]);have HD:Hid (decide (ts.length=0)=true):=zH (Zt hl0);rw[HD.o];clear hl0;go_enter Tryz.func96,Tryz.ntmps96;go_wp2_with fail;go_ret;exact⟨rfl,HB0.o⟩
   have hl1:((ts.length:Int) == 0)=false:=(by rw[beq_eq_false_iff_ne];omega);have HD:Hid (decide (ts.length=0)=false):=zH (Zu hl0);rw[HD.o];clear hl0;go_enter Tryz.func96,Tryz.ntmps96;go_wp2_with fail;go_ret;exact⟨rfl,HB0.o⟩
  have hk1f:(kd == 1)=false:=by simpa using hk1
  rw[if_neg hk1];by_cases hk2:kd=2\/kd=3
  ·rw[if_pos hk2];clear hk1;have GOAL:Hid (∀l:Bool,l=(decide (ar=0) && decide (0<ts.length) && Lfc.Ord.forms ts)->Ending.returned (.bool l)=Ending.returned (.bool (decide (ar=0) && decide (0<ts.length) && Lfc.Ord.forms ts))):=zH (fun l h=>by rw[h]);rcases hk2 with rfl | rfl;all_goals
    go_enter Tryz.func96,Tryz.ntmps96;go_wp2_with fail;go_loopw [3] (fun i wr=>∃k:Nat,k<=ts.length/\i=zI k/\zb w0 wr/\Hid (∀j(h:j<ts.length),j<k->(ts[j]).form=true)) (fun i _=>ts.length-(intOf i).toNat);case atStart=>exact⟨0,by omega,rfl,by first | exact zB _ _ | (rw[hw0];exact zB _ _),zH fun j _ hj=>by omega⟩
    clear hw0 y0 y1 y2;obtain⟨k,hk,rfl,hbw,hp⟩:=hrel;obtain⟨x0,x1,x2⟩:=cells3o ((hbw.block _ s0).trans HQ.o);by_cases hlt:k<ts.length
    ·obtain⟨b,o,k1,a1,us,B,c1,rfl,hb,ht,d0,d1,d2,hcu,hB,hT⟩:=(HA.o.below hbw).at_ hlt;have hmem:=Lfc.Ord.sizes_mem ts ts[k] (Ze _);clear hB ht;have hT2:=zH hT;cases hq:(ts[k]).form
     ·have hres:=HF.o k hlt hq;have HRES:=zH hres;have HQQ:=zH hq;clear hq hres;go_wp2_with fail;refine(IH.o ts[k] _ _ (by omega) hT2.o).mono ?_;rintro e w1⟨rfl,hb1⟩;rw[HQQ.o];go_wp2_with fail;go_ret;exact⟨ret_bool (by simp[HRES.o]),HB0.o.trans ((hbw.trans (hb1.mono hbw.size)).mono (Nat.le_of_lt s0))⟩
     have HQQ:=zH hq;clear hq;go_wp2_with fail;refine(IH.o ts[k] _ _ (by omega) hT2.o).mono ?_;rintro e w1⟨rfl,hb1⟩;rw[HQQ.o];go_wp2_with fail;go_roundw;case rel =>
      refine⟨k+1,by omega,by go_num,hbw.trans (hb1.mono hbw.size),zH fun j h hj=>?_⟩;rcases Nat.lt_or_ge j k with h1 | h1
      ·exact hp.o j h h1
      obtain rfl:j=k:=(by omega);exact HQQ.o
     case measure=>simp[intOf];omega
    have HRES:=zH (HS.o.2 fun j h=>hp.o j h (by omega));by_cases hl0:0<ts.length
    ·have hl1:decide ((ts.length:Int)>0)=true:=Zt (by omega);have hl2:decide ((0:Int)<(ts.length:Int))=true:=Zt (by omega);by_cases ha0:ar=0
     ·subst ha0;go_wp2_with fail;go_ret;exact⟨ret_bool (by rw[HRES.o]),HB0.o.trans (hbw.mono (Nat.le_of_lt s0))⟩
     have ha1:(ar == 0)=false:=(by simpa using ha0);go_wp2_with fail;go_ret;exact⟨ret_bool (by simp[ha0]),HB0.o.trans (hbw.mono (Nat.le_of_lt s0))⟩
    have hl1:decide ((ts.length:Int)>0)=false:=Zu (by omega);have hl2:decide ((0:Int)<(ts.length:Int))=false:=Zu (by omega);go_wp2_with fail;go_ret;exact⟨ret_bool (by rw[Zu hl0];simp),HB0.o.trans (hbw.mono (Nat.le_of_lt s0))⟩
  rw[if_neg hk2];have hk2f:(kd == 2)=false:=by simp;omega
  have hk3f:(kd == 3)=false:=by simp;omega
  go_enter Tryz.func96,Tryz.ntmps96;go_wp2_with fail;go_ret;exact⟨rfl,HB0.o⟩
theorem rRanged_any(lo hi:Int)(m:Nat)(hmm:m<=1000000):∀(o:Lfc.Ord)(v:Value)(w:World),o.size<=m->OrdV w o v ->
  Calls Tryz.prog 97 #[v,zI lo,zI hi] w fun e w'=>e=.returned (.bool (o.rng lo hi))/\zb w w':=by
 induction m with
 |zero=>intro o v w h _;have:=o.size_pos;omega
 |succ m ih0 =>
  intro o v w hm hv;have ih:=ih0 (by omega);clear ih0;obtain⟨kd,ar,ts⟩:=o;obtain⟨A,c,rfl,hc,hA⟩:=hv.open_;simp only[Lfc.Ord.size] at hm;have hlen:=Lfc.Ord.sizes_len ts;have IH:=zH ih;obtain⟨w0,hw0⟩:∃w0,w.alloc (.cells #[zI kd,zI ar,.slice A ts.length c] 26)=w0:=⟨_,rfl⟩;have b0:=zG hw0;have hq0:=zQ hw0;have s0:=zL hq0;have HQ:=zH hq0;have HA:=zH (hA.below b0);have HB0:=zH b0;obtain⟨y0,y1,y2⟩:=cells3o hq0;clear ih hA hv hq0 b0;have HS:=zH (rngs_spec lo hi ts);have HF:=zH (rngs_false lo hi ts);rw[Lfc.Ord.rng];by_cases hk1:kd=1
  ·subst hk1;rw[if_pos rfl];go_enter Tryz.func97,Tryz.ntmps97;go_upto_region 1 with fail;cases h1:decide (lo<=ar)
   ·have h1':decide (ar≥lo)=false:=h1;go_wp2_with fail;go_ret;exact⟨ret_bool (by rw[h1];rfl),HB0.o⟩
   have h1':decide (ar≥lo)=true:=h1;cases h2:decide (ar<=hi);all_goals
    go_wp2_with fail;go_ret;exact⟨ret_bool (by rw[h1,h2];rfl),HB0.o⟩
  have hk1f:(kd == 1)=false:=by simpa using hk1
  rw[if_neg hk1];go_enter Tryz.func97,Tryz.ntmps97;go_wp2_with fail;go_loopw [7] (fun i wr=>∃k:Nat,k<=ts.length/\i=zI k/\zb w0 wr/\Hid (∀j(h:j<ts.length),j<k->(ts[j]).rng lo hi=true)) (fun i _=>ts.length-(intOf i).toNat);case atStart=>exact⟨0,by omega,rfl,by first | exact zB _ _ | (rw[hw0];exact zB _ _),zH fun j _ hj=>by omega⟩
  clear hw0 y0 y1 y2;obtain⟨k,hk,rfl,hbw,hp⟩:=hrel;obtain⟨x0,x1,x2⟩:=cells3o ((hbw.block _ s0).trans HQ.o);by_cases hlt:k<ts.length
  ·obtain⟨b,o,k1,a1,us,B,c1,rfl,hb,ht,d0,d1,d2,hcu,hB,hT⟩:=(HA.o.below hbw).at_ hlt;have hmem:=Lfc.Ord.sizes_mem ts ts[k] (Ze _);clear hB ht;have hT2:=zH hT;cases hq:(ts[k]).rng lo hi
   ·have hres:=HF.o k hlt hq;have HRES:=zH hres;have HQQ:=zH hq;clear hq hres;go_wp2_with fail;refine(IH.o ts[k] _ _ (by omega) hT2.o).mono ?_;rintro e w1⟨rfl,hb1⟩;rw[HQQ.o];go_wp2_with fail;go_ret;exact⟨ret_bool (by simp[HRES.o]),HB0.o.trans ((hbw.trans (hb1.mono hbw.size)).mono (Nat.le_of_lt s0))⟩
   have HQQ:=zH hq;clear hq;go_wp2_with fail;refine(IH.o ts[k] _ _ (by omega) hT2.o).mono ?_;rintro e w1⟨rfl,hb1⟩;rw[HQQ.o];go_wp2_with fail;go_roundw;case rel =>
    refine⟨k+1,by omega,by go_num,hbw.trans (hb1.mono hbw.size),zH fun j h hj=>?_⟩;rcases Nat.lt_or_ge j k with h1 | h1
    ·exact hp.o j h h1
    obtain rfl:j=k:=(by omega);exact HQQ.o
   case measure=>simp[intOf];omega
  have HRES:=zH (HS.o.2 fun j h=>hp.o j h (by omega));go_wp2_with fail;go_ret;exact⟨ret_bool (by rw[HRES.o]),HB0.o.trans (hbw.mono (Nat.le_of_lt s0))⟩
theorem enters_shape:∀args w,(callFunc 34 args).run Tryz.prog w=.ok (.enter 34 args) w:=enters_of Tryz.func34 (by kernel_rfl) rfl
def ShpUpto(m:Nat):Prop:=∀(t u:Lfc.Ord)(v v':Value)(w:World),t.size≤m→OrdV w t v→OrdV w u v' →
  Calls Tryz.prog 34 #[v,v'] w fun e w'=>e=.returned (.bool (Lfc.Ord.shp t u))∧Below w.heap.size w w'
theorem oEqual_any(m:Nat)(ih:ShpUpto m)(ts us:List Lfc.Ord)(A A':Option Addr)(c c':Nat)(w:World)(hm:Lfc.Ord.sizes ts<=m)(hmax:ts.length<=1000000)(h:OrdsAt w A ts)(h':OrdsAt w A' us) :
  Calls Tryz.prog 58 #[.slice A ts.length c,.slice A' us.length c',.func (.func 34) #[] #[]] w fun e w'=>e=.returned (.bool (Lfc.Ord.shps ts us))/\zb w w':=by
 have he:=enters_shape;have IH:=zH ih;have HA:=zH h;have HA':=zH h';clear ih h h';by_cases hl:ts.length=us.length
 ·have HS:=zH (shps_spec ts us);have HF:=zH (shps_false ts us);have HL:=zH hl;generalize Lfc.Ord.shps ts us=res at *;rw[<-hl];clear hl;go_enter Tryz.func58,Tryz.ntmps58;go_wp2_with fail;go_loopw [17] (fun i wr=>∃k:Nat,k<=ts.length/\i=zI k/\zb w wr/\Hid (∀j(h:j<ts.length)(h':j<us.length),j<k->Lfc.Ord.shp ts[j] us[j]=true)) (fun i _=>ts.length-(intOf i).toNat);case atStart=>exact⟨0,by omega,rfl,zB _ _,zH fun j _ _ hj=>by omega⟩
  obtain⟨k,hk,rfl,hbw,hp⟩:=hrel;by_cases hlt:k<ts.length
  ·have hlt':k<us.length:=(by have:=HL.o;omega);obtain⟨b,o,k1,n1,xs,B,c1,rfl,hb,ht,d0,d1,d2,hcu,hB,hT⟩:=(HA.o.below hbw).at_ hlt;obtain⟨b',o',k2,n2,ys,B',c2,rfl,hb',ht',e0,e1,e2,hcu',hB',hT'⟩:=(HA'.o.below hbw).at_ hlt';have hmem:=Lfc.Ord.sizes_mem ts ts[k] (Ze _);clear hB hB' ht ht';have b1:zb wr ((wr.alloc (.cells #[zI k1,zI n1,.slice B xs.length c1] 26)).alloc (.cells #[zI k2,zI n2,.slice B' ys.length c2] 26)):=((zB _ _).alloc (zN _) _).alloc (by simp) _;have hT2:=hT.below b1;have hT2':=hT'.below b1;cases hq:Lfc.Ord.shp ts[k] us[k]
   ·have hres:=HF.o k hlt hlt' hq;subst hres;have HQ:=zH hq;clear hq;go_wp2_with fail;refine(IH.o ts[k] us[k] _ _ _ (by omega) hT2 hT2').mono ?_;rintro e w1⟨rfl,hb1⟩;rw[HQ.o];go_wp2_with fail;go_ret;exact⟨rfl,hbw.trans ((b1.mono hbw.size).trans (hb1.mono (zR hbw.size b1.size)))⟩
   have HQ:=zH hq;clear hq;go_wp2_with fail;refine(IH.o ts[k] us[k] _ _ _ (by omega) hT2 hT2').mono ?_;rintro e w1⟨rfl,hb1⟩;rw[HQ.o];go_wp2_with fail;go_roundw;case rel =>
    refine⟨k+1,by omega,by go_num,hbw.trans ((b1.mono hbw.size).trans (hb1.mono (zR hbw.size b1.size))),zH fun j h h' hj=>?_⟩;rcases Nat.lt_or_ge j k with h1 | h1
    ·exact hp.o j h h' h1
    obtain rfl:j=k:=(by omega);exact HQ.o
   case measure=>simp[intOf];omega
  have hres:=HS.o.2 ⟨HL.o,fun j h h'=>hp.o j h h' (by omega)⟩;subst hres;go_wp2_with fail;go_ret;exact⟨rfl,hbw⟩
 rw[shps_len ts us hl];have hne:((ts.length:Int) != (us.length:Int))=true:=by simp;omega
 clear hl;go_enter Tryz.func58,Tryz.ntmps58;go_wp2_with fail;go_ret;exact⟨rfl,zB _ _⟩
theorem oShape_upto(m:Nat)(hmm:m<=1000000):∀(t u:Lfc.Ord)(v v':Value)(w:World),t.size<=m->OrdV w t v->OrdV w u v' ->
  Calls Tryz.prog 34 #[v,v'] w fun e w'=>e=.returned (.bool (Lfc.Ord.shp t u))/\zb w w':=by
 induction m with
 |zero=>intro t u v v' w h _ _;have:=t.size_pos;omega
 |succ m ih0 =>
  intro t u v v' w hsz hv hv';have ih:=ih0 (by omega);clear ih0;obtain⟨kd,ar,ts⟩:=t;obtain⟨kd',ar',us⟩:=u;obtain⟨A,c,rfl,hc,hA⟩:=hv.open_;obtain⟨A',c',rfl,hc',hA'⟩:=hv'.open_;simp only[Lfc.Ord.size] at hsz;have hlen:=Lfc.Ord.sizes_len ts;have hlen':=Lfc.Ord.sizes_len us;obtain⟨wa,hwa⟩:∃wa,w.alloc (.cells #[zI kd,zI ar,.slice A ts.length c] 26)=wa:=⟨_,rfl⟩;obtain⟨wb,hwb⟩:∃wb,wa.alloc (.cells #[zI kd',zI ar',.slice A' us.length c'] 26)=wb:=⟨_,rfl⟩;have ba:=zG hwa;have bab:=zG hwb;have qa:=zQ hwa;have qb:=zQ hwb;have sa:=zL qa;have sb:=zL qb;have qab:=(bab.block _ sa).trans qa;have bb:zb w wb:=ba.trans (bab.mono (by omega));have HA:=zH (hA.below bb);have HA':=zH (hA'.below bb);have QA:=zH qab;have QB:=zH qb;have HB:=zH bb;have IH:=zH ih;obtain⟨y0,y1,y2⟩:=cells3o qab;obtain⟨z0,z1,z2⟩:=cells3o qb;clear ih hv hv' hA hA' ba bab qa qb qab bb;rw[Lfc.Ord.shp];have HE:=zH (oEqual_any m IH.o ts us A A' c c' wb (by omega) (by omega) HA.o HA'.o);by_cases hk:kd=kd'
  ·rw[Zt hk,Bool.true_and];have hk2:(kd == kd')=true:=(by simpa using hk);subst hk;generalize Lfc.Ord.shps ts us=q at *;go_enter Tryz.func34,Tryz.ntmps34;go_wp2_with fail;refine HE.o.mono ?_;rintro e w1⟨rfl,hb1⟩;cases q;all_goals
    go_wp2_with fail;go_ret;exact⟨rfl,HB.o.trans (hb1.mono HB.o.size)⟩
  have hk2:(kd == kd')=false:=by simpa using hk
  have HD:Hid (decide (kd=kd')=false):=zH (Zu hk);rw[HD.o];go_enter Tryz.func34,Tryz.ntmps34;go_wp2_with fail;go_ret;exact⟨by simp,HB.o⟩
theorem rShape_upto(m:Nat)(hmm:m<=1000000):∀(t u:Lfc.Ord)(v v':Value)(w:World),t.size<=m->u.size<=1000000->OrdV w t v->OrdV w u v' ->
  Calls Tryz.prog 67 #[v,v'] w fun e w'=>e=.returned (.bool (Lfc.Ord.shp t u))/\zb w w':=by
 induction m with
 |zero=>intro t u v v' w h _ _;have:=t.size_pos;omega
 |succ m ih0 =>
  intro t u v v' w hsz hsu hv hv';have ih:=ih0 (by omega);clear ih0;obtain⟨kd,ar,ts⟩:=t;obtain⟨kd',ar',us⟩:=u;obtain⟨A,c,rfl,hc,hA⟩:=hv.open_;obtain⟨A',c',rfl,hc',hA'⟩:=hv'.open_;simp only[Lfc.Ord.size] at hsz hsu;have hlen:=Lfc.Ord.sizes_len ts;have hlen':=Lfc.Ord.sizes_len us;obtain⟨wa,hwa⟩:∃wa,w.alloc (.cells #[zI kd,zI ar,.slice A ts.length c] 26)=wa:=⟨_,rfl⟩;obtain⟨wb,hwb⟩:∃wb,wa.alloc (.cells #[zI kd',zI ar',.slice A' us.length c'] 26)=wb:=⟨_,rfl⟩;have ba:=zG hwa;have bab:=zG hwb;have qa:=zQ hwa;have qb:=zQ hwb;have sa:=zL qa;have sb:=zL qb;have qab:=(bab.block _ sa).trans qa;have bb:zb w wb:=ba.trans (bab.mono (by omega));have HA:=zH (hA.below bb);have HA':=zH (hA'.below bb);have QA:=zH qab;have QB:=zH qb;have HB:=zH bb;have IH:=zH ih;obtain⟨y0,y1,y2⟩:=cells3o qab;obtain⟨z0,z1,z2⟩:=cells3o qb;clear ih hv hv' hA hA' ba bab qa qb qab bb;rw[Lfc.Ord.shp];have HS:=zH (shps_spec ts us);have HF:=zH (shps_false ts us);by_cases hk:kd=kd'
  ·have hk2:(kd != kd')=false:=(by simpa using hk);subst hk;by_cases hl:ts.length=us.length
   ·have hl2:((ts.length:Int) != (us.length:Int))=false:=(by simp;omega);have HL:=zH hl;clear hl;go_enter Tryz.func67,Tryz.ntmps67;go_wp2_with fail;go_loopw [5] (fun i wr=>∃k:Nat,k<=ts.length/\i=zI k/\zb wb wr/\Hid (∀j(h:j<ts.length)(h':j<us.length),j<k->Lfc.Ord.shp ts[j] us[j]=true)) (fun i _=>ts.length-(intOf i).toNat);case atStart=>exact⟨0,by omega,rfl,by first | exact zB _ _ | (rw[hwa,hwb];exact zB _ _),zH fun j _ _ hj=>by omega⟩
    clear hwa hwb y0 y1 y2 z0 z1 z2;obtain⟨k,hk,rfl,hbw,hp⟩:=hrel;obtain⟨y0,y1,y2⟩:=cells3o ((hbw.block _ (by omega)).trans QA.o);obtain⟨z0,z1,z2⟩:=cells3o ((hbw.block _ sb).trans QB.o);by_cases hlt:k<ts.length
    ·have hlt':k<us.length:=(by have:=HL.o;omega);obtain⟨b,o,k1,n1,xs,B,c1,rfl,hb,ht,d0,d1,d2,hcu,hB,hT⟩:=(HA.o.below hbw).at_ hlt;obtain⟨b',o',k2,n2,ys,B',c2,rfl,hb',ht',e0,e1,e2,hcu',hB',hT'⟩:=(HA'.o.below hbw).at_ hlt';have hmem:=Lfc.Ord.sizes_mem ts ts[k] (Ze _);have hmem':=Lfc.Ord.sizes_mem us us[k] (Ze _);have hi0:=zP k;have hi1:(k:Int)<(ts.length:Int):=(by omega);have hi2:(k:Int)<(us.length:Int):=(by omega);clear hB hB' ht ht';have bd:zb wr wr.drew:=(zB _ _).drew;have hT2:=hT.below bd;have hT2':=hT'.below bd;have CALL:=zH (IH.o ts[k] us[k] _ _ wr.drew (by omega) (by omega) hT2 hT2');cases hq:Lfc.Ord.shp ts[k] us[k]
     ·have HRES:=zH (HF.o k hlt hlt' hq);rw[hq] at CALL;clear hq hT hT' hT2 hT2';go_wp2_with fail;refine Zs 10 ?_;simp only[Zc,List.take_zero,List.drop_succ_cons,List.drop_zero];change wpStill Tryz.prog _ wr.drew _ _ _;repeat still_step
      try refine wpStill_nil ?_
      change wpList _ _ _ _ _ wr.drew;have HD:Hid (zb wb wr.drew):=zH hbw.drew;go_wp2_with fail;refine CALL.o.mono ?_;rintro e w1⟨rfl,hb1⟩;go_wp2_with fail;go_ret;exact⟨ret_bool (by simp[HRES.o]),HB.o.trans ((HD.o.trans (hb1.mono HD.o.size)).mono HB.o.size)⟩
     have HQ:=zH hq;rw[hq] at CALL;clear hq hT hT' hT2 hT2';go_wp2_with fail;refine Zs 10 ?_;simp only[Zc,List.take_zero,List.drop_succ_cons,List.drop_zero];change wpStill Tryz.prog _ wr.drew _ _ _;repeat still_step
     try refine wpStill_nil ?_
     change wpList _ _ _ _ _ wr.drew;have HD:Hid (zb wb wr.drew):=zH hbw.drew;go_wp2_with fail;refine CALL.o.mono ?_;rintro e w1⟨rfl,hb1⟩;go_wp2_with fail;go_roundw;case rel =>
      refine⟨k+1,by omega,by go_num,HD.o.trans (hb1.mono HD.o.size),zH fun j h h' hj=>?_⟩;rcases Nat.lt_or_ge j k with h1 | h1
      ·exact hp.o j h h' h1
      obtain rfl:j=k:=(by omega);exact HQ.o
     case measure=>simp[intOf];omega
    have HRES:=zH (HS.o.2 ⟨HL.o,fun j h h'=>hp.o j h h' (by omega)⟩);go_wp2_with fail;go_ret;exact⟨ret_bool (by simp[HRES.o]),HB.o.trans (hbw.mono HB.o.size)⟩
   have hl2:((ts.length:Int) != (us.length:Int))=true:=(by simp;omega);have HRES:=zH (shps_len ts us hl);go_enter Tryz.func67,Tryz.ntmps67;go_wp2_with fail;go_ret;exact⟨ret_bool (by simp[HRES.o]),HB.o⟩
  have hk2:(kd != kd')=true:=by simpa using hk
  go_enter Tryz.func67,Tryz.ntmps67;go_wp2_with fail;go_ret;exact⟨ret_bool (by simp[hk]),HB.o⟩
end
section
open Go.RowKit
theorem oValid_any(o:Lfc.Ord)(v:Value)(n:Int)(w:World)(hsz:o.size<=1000000)(hn0:-1000<=n)(hn1:n<=1000)(hv:OrdV w o v) :
  Calls Tryz.prog 33 #[v,zI n] w fun e w'=>e=.returned (zI (o.vld n))/\zb w w':=by
 obtain⟨A,c,kd,ar,ts,hT,rfl,hc,hA⟩:∃A c kd ar ts,o=.node kd ar ts/\v=.agg #[zI kd,zI ar,.slice A ts.length c]/\ts.length<=c/\OrdsAt w A ts:=by
  obtain⟨kd,ar,ts⟩:=o;obtain⟨A,c,rfl,hc,hA⟩:=hv.open_;exact⟨A,c,kd,ar,ts,rfl,rfl,hc,hA⟩
 obtain⟨w1,hw1⟩:∃w1,w.alloc (.cells #[zI kd,zI ar,.slice A ts.length c] 26)=w1:=⟨_,rfl⟩;have b01:=zG hw1;have q1:=zQ hw1;obtain⟨y0,y1,y2⟩:=cells3o q1;have C1:=zH (oSmall_any o _ w1 hsz (hv.below b01));have C2:=zH (fun W (hW:zb w1 W)=>oArgs_upto 0 (n-1) _ hsz o _ W (zN _) ((hv.below b01).below hW));have HQ:=zH q1;have HR:Hid (o.vld n=if 64<o.size\/o.form=false then 92 else if o.rng 0 (n-1)=false then 5 else 0):=zH rfl;have hw2:IntKind.i64.wrap (n-1)=n-1:=Zi _ (by omega);have s01:=b01.size;rw[HR.o];have HSM:Hid ((64<o.size\/o.form=false)↔(decide (o.size<=64) && o.form)=false):=zH (by
  rw[Bool.and_eq_false_iff,Zf];constructor
  ·rintro (h | h)
   ·exact .inl (by omega)
   exact .inr h
  rintro (h | h)
  ·exact .inl (by omega)
  exact .inr h)
 clear hT hA hv q1 HR;generalize (decide (o.size<=64) && o.form)=f at *;cases f
 ·have HS2:=zH (HSM.o.2 rfl);rw[if_pos HS2.o];clear HSM;go_enter Tryz.func33,Tryz.ntmps33;go_wp2_with fail;refine C1.o.mono ?_;rintro e w2⟨rfl,hb2⟩;go_wp2_with fail;go_ret;exact⟨rfl,b01.trans (hb2.mono s01)⟩
 have HS2:Hid (¬(64<o.size\/o.form=false)):=zH (fun h=>by have:=HSM.o.1 h;cases this);rw[if_neg HS2.o];clear HSM;generalize o.rng 0 (n-1)=r at *;go_enter Tryz.func33,Tryz.ntmps33;go_wp2_with fail;refine C1.o.mono ?_;rintro e w2⟨rfl,hb2⟩;obtain⟨x0,x1,x2⟩:=cells3o ((hb2.block _ (zL HQ.o)).trans HQ.o);go_wp2_with fail;refine(C2.o _ hb2).mono ?_;rintro e w3⟨rfl,hb3⟩;cases r;all_goals
  go_wp2_with fail;go_ret;exact⟨by simp,b01.trans ((hb2.trans (hb3.mono hb2.size)).mono s01)⟩
theorem rValid_any(o:Lfc.Ord)(v:Value)(n:Int)(w:World)(hsz:o.size<=1000000)(hn0:-1000<=n)(hn1:n<=1000)(hv:OrdV w o v) :
  Calls Tryz.prog 66 #[v,zI n] w fun e w'=>e=.returned (zI (o.vld n))/\zb w w':=by
 obtain⟨A,c,kd,ar,ts,hT,rfl,hc,hA⟩:∃A c kd ar ts,o=.node kd ar ts/\v=.agg #[zI kd,zI ar,.slice A ts.length c]/\ts.length<=c/\OrdsAt w A ts:=by
  obtain⟨kd,ar,ts⟩:=o;obtain⟨A,c,rfl,hc,hA⟩:=hv.open_;exact⟨A,c,kd,ar,ts,rfl,rfl,hc,hA⟩
 obtain⟨w1,hw1⟩:∃w1,w.alloc (.cells #[zI kd,zI ar,.slice A ts.length c] 26)=w1:=⟨_,rfl⟩;have b01:=zG hw1;have q1:=zQ hw1;obtain⟨y0,y1,y2⟩:=cells3o q1;have C1:=zH (rCount_any _ hsz o _ w1 (zN _) (hv.below b01));have C2:=zH (fun W (hW:zb w1 W)=>rShaped_any _ hsz o _ W (zN _) ((hv.below b01).below hW));have C3:=zH (fun W (hW:zb w1 W)=>rRanged_any 0 (n-1) _ hsz o _ W (zN _) ((hv.below b01).below hW));have HQ:=zH q1;have HR:Hid (o.vld n=if 64<o.size\/o.form=false then 92 else if o.rng 0 (n-1)=false then 5 else 0):=zH rfl;have hw2:IntKind.i64.wrap (n-1)=n-1:=Zi _ (by omega);have s01:=b01.size;rw[HR.o];clear hT hA hv q1 HR;generalize o.form=f at *;generalize o.rng 0 (n-1)=r at *;by_cases hbig:64<o.size
 ·have hd1:decide ((o.size:Int)>64)=true:=Zt (by omega);have hd2:decide ((64:Int)<(o.size:Int))=true:=Zt (by omega);rw[if_pos (.inl hbig)];go_enter Tryz.func66,Tryz.ntmps66;go_wp2_with fail;refine C1.o.mono ?_;rintro e w2⟨rfl,hb2⟩;go_wp2_with fail;go_ret;exact⟨rfl,b01.trans (hb2.mono s01)⟩
 have hd1:decide ((o.size:Int)>64)=false:=Zu (by omega);have hd2:decide ((64:Int)<(o.size:Int))=false:=Zu (by omega);cases f
 ·rw[if_pos (.inr rfl)];go_enter Tryz.func66,Tryz.ntmps66;go_wp2_with fail;refine C1.o.mono ?_;rintro e w2⟨rfl,hb2⟩;obtain⟨x0,x1,x2⟩:=cells3o ((hb2.block _ (zL HQ.o)).trans HQ.o);go_wp2_with fail;refine(C2.o _ hb2).mono ?_;rintro e w3⟨rfl,hb3⟩;go_wp2_with fail;go_ret;exact⟨rfl,b01.trans ((hb2.trans (hb3.mono hb2.size)).mono s01)⟩
 have HNB:=zH hbig;rw[if_neg (by rintro (h | h);exact hbig h;cases h)];go_enter Tryz.func66,Tryz.ntmps66;go_wp2_with fail;refine C1.o.mono ?_;rintro e w2⟨rfl,hb2⟩;obtain⟨x0,x1,x2⟩:=cells3o ((hb2.block _ (zL HQ.o)).trans HQ.o);go_wp2_with fail;refine(C2.o _ hb2).mono ?_;rintro e w3⟨rfl,hb3'⟩;have hb3:=hb2.trans (hb3'.mono hb2.size);obtain⟨x0,x1,x2⟩:=cells3o ((hb3.block _ (zL HQ.o)).trans HQ.o);go_wp2_with fail;refine(C3.o _ hb3).mono ?_;rintro e w4⟨rfl,hb4⟩;cases r;all_goals
  go_wp2_with fail;go_ret;exact⟨by simp,b01.trans ((hb3.trans (hb4.mono hb3.size)).mono s01)⟩
end
end Go.Proofs.YtadjpadieljjlaaGreat
namespace Lfc
def firstE:List Raw→Int
 |[]=>0
 |t :: r=>if t.twf=0 then firstE r else t.twf
def allO:List Raw→Bool
 |[]=>true
 |t :: r=>t.isO && allO r
theorem firstE_drop{l:List Raw}{k:Nat}(h:k<l.length):firstE (l.drop k)=if l[k].twf=0 then firstE (l.drop (k+1)) else l[k].twf:=by
 rw[List.drop_eq_getElem_cons h,firstE]
theorem allO_drop{l:List Raw}{k:Nat}(h:k<l.length):allO (l.drop k)=(l[k].isO && allO (l.drop (k+1))):=by
 rw[List.drop_eq_getElem_cons h,allO]
def chkE(l:List Raw):Int:=if firstE l=0 then(if allO l then 0 else 32) else firstE l
end Lfc
namespace Go.Proofs.YtadjpadieljjlaaGreat
section
open Go.RowKit _root_.Lfc
theorem RowP.cell1{q:Nat→Prop}{w:World}:∀{ts:List Raw}{xs:List Value},RowP q w ts xs→∀u∈xs,u.oneCell'=true
 |[],xs,h,u,hu=>by rw[RowP] at h;subst h;cases hu
 |t :: r,xs,h,u,hu=>by
  rw[RowP] at h;obtain⟨v0,v1,v2,v3,ys,rfl,ht,hr⟩:=h;obtain⟨k,n,p,ts⟩:=t;rw[TreeP] at ht;obtain⟨rfl,rfl,_,rfl,A,c,rfl,_⟩:=ht;simp only[List.mem_cons] at hu;rcases hu with rfl | rfl | rfl | rfl | hu
  ·rfl
  ·rfl
  ·rfl
  ·rfl
  exact hr.cell1 u hu
theorem addr_add0(b o j:Nat):(⟨b,o,none⟩:Addr).add j=⟨b,o+j,none⟩:=by unfold Addr.add;split <;> simp_all
theorem treesAt_part{w:World}{A:Option Addr}{ts:List Raw}(h:TreesAt w A ts):∃xs,xs.length=ts.length*4∧RowP (fun b=>b<w.heap.size) w ts xs∧(∀a,A=some a→∀j u,xs[j]?=some u→w.cell? (a.add j)=some u)∧(∀u∈xs,u.oneCell'=true):=by
 by_cases h0:ts=[]
 ·subst h0;exact⟨[],rfl,by rw[RowP],fun _ _ j u hj=>by simp at hj,fun u hu=>by cases hu⟩
 obtain⟨b,o,rfl,hb,hts⟩:=h h0;obtain⟨xs,hx,hc⟩:=(TreesO.toP (q:=fun b=>b<w.heap.size) (fun _ h=>h) ts b o hts).row;refine⟨xs,by rw[hx.len];omega,hx,fun a ha j u hj=>?_,hx.cell1⟩;cases ha;rw[addr_add0];exact hc j u hj
theorem treesAt_own{q:Nat→Prop}{w:World}{base:Nat}{v:Value}{n:Nat}{xs:List Value}{ts:List Raw}(h:w.ownsRow base 51 4 v n xs)(hr:RowP q w ts xs):∃A c,v=.slice A ts.length c∧TreesAt w A ts:=by
 have hl:=hr.len;have hn:n=ts.length:=by have:=h.1;omega
 subst hn;rcases h.2 with⟨rfl,h0⟩ | ⟨g,cap,cur,rfl,hb,hg,_⟩
 ·have:ts=[]:=Zz h0;subst this;exact⟨none,0,rfl,fun h=>absurd rfl h⟩
 refine⟨some ⟨g,0,none⟩,cap,rfl,fun _=>⟨g,0,rfl,zL hg,?_⟩⟩;exact TreesP.toC ts g 0 (hr.lie (own_cells h))
end
section
open Go.RowKit Go.Maps _root_.Lfc
theorem own_form{w:World}{base:Nat}{e:TypeId}{size n:Nat}{v:Value}{xs:List Value}(h:w.ownsRow base e size v n xs):∃A c,v=.slice A n c∧n≤c:=by
 rcases h.2 with⟨rfl,rfl⟩ | ⟨g,cap,cur,rfl,_,_,hnc,_⟩
 ·exact⟨none,0,rfl,zN _⟩
 exact⟨_,_,rfl,hnc⟩
theorem cloneInts_any(zs:List Int)(A:Option Addr)(c:Nat)(w:World)(hl:zs.length≤10000000)(h:IntsO w A zs) :
  Calls Tryz.prog 94 #[.slice A zs.length c] w fun e w'=>(∃A' c',e=.returned (.slice A' zs.length c')∧zs.length≤c'∧IntsP (fun b=>w.heap.size≤b) w' A' zs)∧Below w.heap.size w w':=by
 have fin:∀e w',(∃v',e=Ending.returned v'∧w'.ownsRow w.heap.size 3 1 v' zs.length (ints zs)∧v'≠.slice none 0 0∧Below w.heap.size w w')→(∃A' c',e=.returned (.slice A' zs.length c')∧zs.length≤c'∧IntsP (fun b=>w.heap.size≤b) w' A' zs)∧Below w.heap.size w w':=by
  rintro e w'⟨v',rfl,hown,_,hb⟩;obtain⟨A',c',rfl,hc⟩:=own_form hown;exact⟨⟨A',c',rfl,hc,intsP_own hown⟩,hb⟩
 by_cases h0:zs=[]
 ·subst h0;cases A with
  |none =>
   refine(Tryz.slices_Clone_int_nil 0 c w).mono ?_;rintro e w'⟨rfl,rfl⟩;exact⟨⟨none,0,rfl,zN _,fun h=>absurd rfl h⟩,zB _ _⟩
  |some a=>exact(Tryz.slices_Clone_int_zero a c w).mono fin
 obtain⟨b,o,rfl,hlt,hc⟩:=h h0;refine(Tryz.slices_Clone_int b o zs.length c zs w (zN _) (by omega) hc).mono ?_;rintro e w'⟨v',he,hown,h1,h2⟩;rw[List.take_length] at hown;exact fin e w' ⟨v',he,hown,h1,h2⟩
def LinkRow(q:Nat→Prop)(w:World):List Link→List Value→Prop
 |[],xs=>xs=[]
 |x :: r,xs=>∃k n p ts At ct A c ys,x.term=.node k n p ts∧xs=.int .i64 x.kind :: .int .i64 k :: S n :: .int .i64 p :: .slice At (List.length ts) ct :: .slice A x.path.length c :: .int .i64 x.fact :: ys∧x.path.length≤c∧IntsP q w A x.path∧TreeVP q w x.term (.agg #[.int .i64 k,S n,.int .i64 p,.slice At (List.length ts) ct])∧LinkRow q w r ys
theorem LinkRow.len{q:Nat→Prop}{w:World}:∀{l:List Link}{xs:List Value},LinkRow q w l xs→xs.length=l.length*7
 |[],xs,h=>by rw[LinkRow] at h;subst h;rfl
 |x :: r,xs,h=>by
  rw[LinkRow] at h;obtain⟨k,n,p,ts,At,ct,A,c,ys,_,rfl,_,_,_,hr⟩:=h;have:=hr.len;simp;omega
theorem LinkRow.keep{q q':Nat→Prop}{w w':World}(hk:∀b,q b→b<w.heap.size→w'.heap[b]?=w.heap[b]?)(hs:w.heap.size≤w'.heap.size)(hq:∀b,b<w.heap.size→q b→q' b):∀{l:List Link}{xs:List Value},LinkRow q w l xs→LinkRow q' w' l xs
 |[],xs,h=>by rw[LinkRow] at h ⊢;exact h
 |x :: r,xs,h=>by
  rw[LinkRow] at h ⊢;obtain⟨k,n,p,ts,At,ct,A,c,ys,e,rfl,hc,hi,ht,hr⟩:=h;exact⟨k,n,p,ts,At,ct,A,c,ys,e,rfl,hc,hi.keep hk hs hq,ht.keep hk hs hq,hr.keep hk hs hq⟩
theorem LinkRow.append{q:Nat→Prop}{w:World}{m:List Link}{zs:List Value}(hz:LinkRow q w m zs):∀{l:List Link}{xs:List Value},LinkRow q w l xs→LinkRow q w (l++m) (xs++zs)
 |[],xs,h=>by rw[LinkRow] at h;subst h;exact hz
 |x :: r,xs,h=>by
  rw[LinkRow] at h;obtain⟨k,n,p,ts,At,ct,A,c,ys,e,rfl,hc,hi,ht,hr⟩:=h;rw[List.cons_append,LinkRow];exact⟨k,n,p,ts,At,ct,A,c,ys++zs,e,rfl,hc,hi,ht,LinkRow.append hz hr⟩
theorem LinkRow.lie{q:Nat→Prop}{w:World}{b:Nat}:∀{l:List Link}{xs:List Value}{o:Nat},LinkRow q w l xs→CellsAt w b o xs→∀i(h:i<l.length),LinkP q w b (o+i*7) l[i]
 |[],_,_,_,_,i,h=>by cases h
 |x :: r,xs,o,h,hc,i,hi=>by
  rw[LinkRow] at h;obtain⟨k,n,p,ts,At,ct,A,c,ys,e,rfl,hcl,hp,ht,hr⟩:=h;cases i with
  |zero =>
   exact⟨k,n,p,ts,At,ct,A,c,e,by simpa using hc 0 _ rfl,by simpa using hc 1 _ rfl,by simpa using hc 2 _ rfl,by simpa using hc 3 _ rfl,by simpa using hc 4 _ rfl,by simpa using hc 5 _ rfl,by simpa using hc 6 _ rfl,hcl,hp,ht⟩
  |succ i =>
   have:=hr.lie (o:=o+7) (fun j u hj=>by
    have:=hc (j+7) u (by simpa using hj);rw[show o+7+j=o+(j+7) by omega];exact this) i (by simpa using hi)
   rw[show o+(i+1)*7=o+7+i*7 by omega];exact this
theorem linksP_own{q:Nat→Prop}{w:World}{base:Nat}{A:Option Addr}{n c:Nat}{xs:List Value}{l:List Link}(h:w.ownsRow base 93 7 (.slice A n c) l.length xs)(hq:∀b,base≤b→q b)(hr:LinkRow q w l xs):LinksP q w A l:=fun hne=>by
 rcases h.2 with⟨_,h0⟩ | ⟨g,cap,cur,hv,hb,hg,_⟩
 ·exact absurd (Zz h0) hne
 injection hv with hA h1 h2;subst hA h1 h2;exact⟨g,0,rfl,zL hg,hq g hb,hr.lie (own_cells h)⟩
theorem linkInfo:(Tryz.prog.info? 93).map (fun i=>(i.zero,i.size,i.bytes))=some (some (.agg #[.int .i64 0,.int .i64 0,S [],.int .i64 0,.slice none 0 0,.slice none 0 0,.int .i64 0]),7,96):=by kernel_rfl
def LkI(w:World)(l:List Link)(v:Value)(wr:World):Prop:=∃xs,wr.ownsRow w.heap.size 93 7 v l.length xs∧LinkRow (fun b=>w.heap.size≤b∧v.ownBlock≠some b) wr l xs∧Below w.heap.size w wr
theorem oneCell7{a k p f:Int}{n:List UInt8}{A B:Option Addr}{i c j d:Nat}:∀u∈[Value.int .i64 a,.int .i64 k,S n,.int .i64 p,.slice A i c,.slice B j d,.int .i64 f],u.oneCell'=true:=by
 intro u hu;simp only[List.mem_cons,List.not_mem_nil,or_false] at hu;rcases hu with rfl | rfl | rfl | rfl | rfl | rfl | rfl <;> rfl
theorem LkI.step{w wr W w':World}{l:List Link}{v v':Value}{x:Link}{xs:List Value}{k p:Int}{n:List UInt8}{ts:List Raw}{At A:Option Addr}{ct c:Nat}{o:Obj}
  (hown:wr.ownsRow w.heap.size 93 7 v l.length xs) (hrow:LinkRow (fun b=>w.heap.size≤b∧v.ownBlock≠some b) wr l xs) (hb:Below w.heap.size w wr) (hW:Below wr.heap.size wr W)
  (ht:x.term=.node k n p ts) (hc:x.path.length≤c) (hp:IntsP (fun b=>wr.heap.size≤b) W A x.path) (hv:TreeVP (fun b=>wr.heap.size≤b) W x.term (.agg #[.int .i64 k,S n,.int .i64 p,.slice At (List.length ts) ct]))
  (h':w'.ownsRow w.heap.size 93 7 v' (l.length+1) (xs++[.int .i64 x.kind,.int .i64 k,S n,.int .i64 p,.slice At (List.length ts) ct,.slice A x.path.length c,.int .i64 x.fact])) (hg:(W.alloc o).grownBy w' v.ownBlock) (hloc:v'.ownBlock=v.ownBlock∨v'.ownBlock=some (W.alloc o).heap.size):LkI w (l++[x]) v' w':=by
 have hsz:(W.alloc o).heap.size=W.heap.size+1:=by simp
 have hs1:=hW.size;have hs2:=hg.size;have hold:∀b,v.ownBlock≠some b→b<W.heap.size→w'.heap[b]?=W.heap[b]?:=fun b hne hlt=>(hg.block b (by omega) (fun e=>hne e.symm)).trans (zA _ _ _ hlt);have hvb:∀b,v.ownBlock=some b→b<wr.heap.size:=fun b e=>(hown.lt b e).2;have hne':∀b,b<W.heap.size→v.ownBlock≠some b→v'.ownBlock≠some b:=fun b hlt hne e=>by
  rcases hloc with e2 | e2
  ·exact hne (e2 ▸ e)
  rw[e2] at e;have:=zO e;omega
 refine⟨_,by rw[Zq];exact h',LinkRow.append ?_ (hrow.keep (fun b hq hlt=>(hold b hq.2 (by omega)).trans (hW.block b hlt)) (by omega) (fun b hlt hq=>⟨hq.1,hne' b (by omega) hq.2⟩)),?_⟩
 ·rw[LinkRow];have hq:∀b,wr.heap.size≤b→v.ownBlock≠some b:=fun b hb2 e=>by have:=hvb b e;omega
  refine⟨k,n,p,ts,At,ct,A,c,[],ht,rfl,hc,hp.keep (fun b hb2 hlt=>hold b (hq b hb2) hlt) (by omega) (fun b hlt hb2=>⟨by have:=hb.size;have hb2:wr.heap.size≤b:=hb2;omega,hne' b hlt (hq b hb2)⟩),hv.keep (fun b hb2 hlt=>hold b (hq b hb2) hlt) (by omega) (fun b hlt hb2=>⟨by have:=hb.size;have hb2:wr.heap.size≤b:=hb2;omega,hne' b hlt (hq b hb2)⟩),by rw[LinkRow]⟩
 have hb1:Below w.heap.size w (W.alloc o):=(hb.trans (hW.mono hb.size)).alloc (by have:=hb.size;omega) _;exact Below.grown hb1 hg (by have:=hb.size;omega) (fun b e=>(hown.lt b e).1)
theorem oLinks_any(q:Nat->Prop)(l:List Link)(A:Option Addr)(c:Nat)(w:World)(hn:l.length<=100000)(hst:∀x∈l,x.term.size<=1000000/\x.path.length<=10000000)(hl:LinksP q w A l) :
  Calls Tryz.prog 64 #[.slice A l.length c] w fun e w'=>(∃A' c',e=.returned (.slice A' l.length c')/\l.length<=c'/\LinksP (fun b=>w.heap.size<=b) w' A' l)/\zb w w':=by
 obtain⟨i0,hi,hz0,hz1,hz2⟩:=info_parts linkInfo;have HL:=zH hl;have HST:=zH hst;obtain⟨N,hN⟩:∃N,l.length=N:=⟨_,rfl⟩;rw[hN] at hn ⊢;have HN:=zH hN;have I0:Hid (LkI w (l.take 0) zS w):=zH ⟨[],World.ownsRow_nil w w.heap.size _ 7,by rw[List.take_zero,LinkRow],zB _ _⟩;clear hl hst hN;go_enter Tryz.func64,Tryz.ntmps64;go_wp2_with fail;go_loopw [3,8] (fun v i wr=>∃(k:Nat),k<=N/\i=zI (k:Int)/\Hid (LkI w (l.take k) v wr)) (fun _ i _=>N-(intOf i).toNat);case atStart=>exact⟨0,by omega,rfl,I0⟩
 clear I0;obtain⟨k,hk,rfl,HI⟩:=hrel;obtain⟨xs,hown,hrow,hbw⟩:=HI.o;have htk:(l.take k).length=k:=by rw[List.length_take,HN.o];omega
 by_cases hlt:k<N
 ·have hlt2:k<l.length:=by rw[HN.o];exact hlt
  have HT:=zH (Zm hlt2);obtain⟨b,o,rfl,hb,_,hall⟩:=HL.o (by intro h;rw[h] at hlt2;cases hlt2);obtain⟨kk,nn,pp,us,At,ct,Ap,cp,he,d0,d1,d2,d3,d4,d5,d6,hcp,hip,htv⟩:=hall k hlt2;obtain⟨hsz,hpl⟩:=HST.o _ (Ze hlt2);generalize l[k]=x at *;obtain⟨xk,xt,xp,xf⟩:=x;simp only at he d0 d5 d6 hcp hip htv hsz hpl;have HE:=zH he;have HTK:=zH htk;rw[htk] at hown;have f0:=(hbw.cell (p:=⟨b,o+k*7,none⟩) hb).trans d0;have f1:=(hbw.cell (p:=⟨b,o+k*7+1,none⟩) hb).trans d1;have f2:=(hbw.cell (p:=⟨b,o+k*7+2,none⟩) hb).trans d2;have f3:=(hbw.cell (p:=⟨b,o+k*7+3,none⟩) hb).trans d3;have f4:=(hbw.cell (p:=⟨b,o+k*7+4,none⟩) hb).trans d4;have f5:=(hbw.cell (p:=⟨b,o+k*7+5,none⟩) hb).trans d5;have f6:=(hbw.cell (p:=⟨b,o+k*7+6,none⟩) hb).trans d6;have hi0:=zP k;have hi1:(k:Int)<(N:Int):=by omega
  obtain⟨wx,hwx⟩:∃wx,wr.alloc (.cells #[zI xk,zI kk,S nn,zI pp,.slice At us.length ct,.slice Ap xp.length cp,zI xf] 93)=wx:=⟨_,rfl⟩;have bx:=zG hwx;have qx:=zQ hwx;have lx:=zL qx;have BX:=zH bx;have HWX:=zH hwx;have HB:=zH hbw;have hox:=hown.kept (zE (T:=wx.heap.size) bx) (.inr fun e=>by have:=(hown.lt _ e).2;have:=bx.size;omega);have SC:Hid (∀W,zb wx W->zc W wr.heap.size 0 (zI xk)/\(zc W wr.heap.size 1 (zI kk)/\zc W wr.heap.size 2 (S nn)/\zc W wr.heap.size 3 (zI pp)/\zc W wr.heap.size 4 (.slice At us.length ct))/\zc W wr.heap.size 5 (.slice Ap xp.length cp)/\zc W wr.heap.size 6 (zI xf)):=zH (fun W hW=>by
   have e:=(hW.block _ lx).trans qx;exact⟨zC e 0,⟨zC e 1,zC e 2,zC e 3,zC e 4⟩,zC e 5,zC e 6⟩)
  have SB:Hid (∀W:World,W.heap[wr.heap.size]?=wx.heap[wr.heap.size]?->zc W wr.heap.size 0 (zI xk)/\(zc W wr.heap.size 1 (zI kk)/\zc W wr.heap.size 2 (S nn)/\zc W wr.heap.size 3 (zI pp)/\zc W wr.heap.size 4 (.slice At us.length ct))/\zc W wr.heap.size 5 (.slice Ap xp.length cp)/\zc W wr.heap.size 6 (zI xf)):=zH (fun W hW=>by
   have e:=hW.trans qx;exact⟨zC e 0,⟨zC e 1,zC e 2,zC e 3,zC e 4⟩,zC e 5,zC e 6⟩)
  have hvne:u3.ownBlock≠some wr.heap.size:=fun e=>by have:=(hown.lt _ e).2;omega
  have hv0:=(htv.toV.below hbw).below bx;have hp0:=(hip.toO.below hbw).below bx;have CT:Hid (∀W,zb wx W->Calls Tryz.prog 93 #[.agg (zT kk nn pp At us ct)] W fun e w'=>(∃A' c',e=.returned (.agg (zT kk nn pp A' us c'))/\TreeVP (fun b=>W.heap.size<=b) w' xt (.agg (zT kk nn pp A' us c')))/\zb W w'):=zH (fun W hW=>by
   refine(ownTerm_upto _ hsz xt _ W (zN _) (hv0.below hW)).mono ?_;rintro e w'⟨⟨v',rfl,h⟩,hb⟩;rw[HE.o] at h;obtain⟨A',c',rfl,_⟩:=h.openT;rw[<-HE.o] at h;exact⟨⟨A',c',rfl,h⟩,hb⟩)
  have CC:Hid (∀W,zb wx W->Calls Tryz.prog 94 #[.slice Ap xp.length cp] W fun e w'=>(∃A' c',e=.returned (.slice A' xp.length c')/\xp.length<=c'/\IntsP (fun b=>W.heap.size<=b) w' A' xp)/\zb W w'):=zH (fun W hW=>cloneInts_any xp Ap cp W hpl (hp0.below hW));have OW:Hid (∀W,zb wx W->W.ownsRow w.heap.size 93 7 u3 k xs):=zH (fun W hW=>hox.kept (zE (T:=W.heap.size) hW) (.inr fun e=>by have:=(hox.lt _ e).2;have:=hW.size;omega));have HOWN:=zH hown;have HROW:=zH hrow;have hlm:k+1<=maxLen:=by unfold maxLen;omega
  have hlb:(k+1)*96<=140737488355328:=by omega
  have hsw:w.heap.size<=wx.heap.size:=zR hbw.size bx.size;have G0:zb wx wx.drew:=(zB _ _).drew;have aa:∀W W',zb wx W->zb W W'->zb wx W':=fun W W' h h'=>h.trans (h'.mono h.size);clear hown hrow hbw hox hv0 hp0 htv hip he hwx bx qx d0 d1 d2 d3 d4 d5 d6 hall HI htk hlt2 hb hsz hpl;go_upto_region 5 with fail;rw[HWX.o];clear HWX f0 f1 f2 f3 f4 f5 f6;go_region_held3 (fun W=>W.cell? ⟨wr.heap.size,0,none⟩=some (zI xk)/\(W.cell? ⟨wr.heap.size,1,none⟩=some (zI kk)/\W.cell? ⟨wr.heap.size,2,none⟩=some (S nn)/\W.cell? ⟨wr.heap.size,3,none⟩=some (zI pp)/\W.cell? ⟨wr.heap.size,4,none⟩=some (.slice At us.length ct))/\W.cell? ⟨wr.heap.size,5,none⟩=some (.slice Ap xp.length cp)/\W.cell? ⟨wr.heap.size,6,none⟩=some (zI xf))
   (first | exact SC.o _ G0 | assumption | (refine SC.o _ ?_;assumption) | (refine SC.o _ ?_;refine Below.alloc ?_ (Below.size (by assumption)) _;assumption))
   (first
    |(go_at_call 93;((with_reducible refine(CT.o _ ?_).mono ?_));assumption;rintro e w5⟨⟨A5,c5,rfl,h5⟩,hb5'⟩;have hb5:=aa _ _ (by assumption) hb5')
    |(go_at_call 94;((with_reducible refine(CC.o _ ?_).mono ?_));assumption;rintro e w6⟨⟨A6,c6,rfl,hc6,h6⟩,hb6'⟩;have hb6:=aa _ _ (by assumption) hb6')
    |(refine step_append_own_at _ (by rfl) _ _ 37 (by rfl) w.heap.size 93 i0 _ 7 96 Tryz.underlying37 hi hz0 hz1 hz2 rfl (by decide) _ _ _ (by rfl) ((OW.o w6 hb6).alloc _) ⟨w6.heap.size,0,none⟩ 1 1 [zI xk,zI kk,S nn,zI pp,.slice A5 us.length c5,.slice A6 xp.length c6,zI xf] (by rfl) (by rfl) (fun j u h=>ocells_new w6 _ rfl [zI xk,zI kk,S nn,zI pp,.slice A5 us.length c5,.slice A6 xp.length c6,zI xf] _ j u h) oneCell7 hlm hlb (oalloc_le (zR hsw hb6.size)) ?_;intro v9 w9 hown9 hg9 hloc9;have HN9:Hid (LkI w (l.take (k+1)) v9 w9):=zH (by rw[HT.o];exact LkI.step (x:=⟨xk,xt,xp,xf⟩) (by rw[HTK.o];exact HOWN.o) HROW.o HB.o (BX.o.trans (hb6.mono BX.o.size)) HE.o hc6 (h6.keep (fun _ _ _=>rfl) (zN _) (fun b _ h=>zR (zR BX.o.size hb5.size) h)) (h5.keep (fun b _ hlt=>hb6'.block b hlt) hb6'.size (fun b _ h=>zR BX.o.size h)) (by rw[HTK.o];exact hown9) hg9 hloc9);have h9c:=SB.o w9 ((hg9.block wr.heap.size (by have:=hb6.size;simp;omega) (fun e=>hvne e.symm)).trans ((zA _ _ _ (by have:=hb6.size;omega)).trans (hb6.block _ lx)));(try dsimp only at h9c);clear hg9 hloc9 hown9)
    |(refine step_append_own_at _ (by rfl) _ _ 37 (by rfl) w.heap.size 93 i0 _ 7 96 Tryz.underlying37 hi hz0 hz1 hz2 rfl (by decide) _ _ _ (by rfl) ((OW.o w5 hb5).alloc _) ⟨w5.heap.size,0,none⟩ 1 1 [zI xk,zI kk,S nn,zI pp,.slice A5 us.length c5,.slice A6 xp.length c6,zI xf] (by rfl) (by rfl) (fun j u h=>ocells_new w5 _ rfl [zI xk,zI kk,S nn,zI pp,.slice A5 us.length c5,.slice A6 xp.length c6,zI xf] _ j u h) oneCell7 hlm hlb (oalloc_le (zR hsw hb5.size)) ?_;intro v9 w9 hown9 hg9 hloc9;have HN9:Hid (LkI w (l.take (k+1)) v9 w9):=zH (by rw[HT.o];exact LkI.step (x:=⟨xk,xt,xp,xf⟩) (by rw[HTK.o];exact HOWN.o) HROW.o HB.o (BX.o.trans (hb5.mono BX.o.size)) HE.o hc6 (h6.keep (fun b _ hlt=>hb5'.block b hlt) hb5'.size (fun b _ h=>zR BX.o.size h)) (h5.keep (fun _ _ _=>rfl) (zN _) (fun b _ h=>zR (zR BX.o.size hb6.size) h)) (by rw[HTK.o];exact hown9) hg9 hloc9);have h9c:=SB.o w9 ((hg9.block wr.heap.size (by have:=hb5.size;simp;omega) (fun e=>hvne e.symm)).trans ((zA _ _ _ (by have:=hb5.size;omega)).trans (hb5.block _ lx)));(try dsimp only at h9c);clear hg9 hloc9 hown9))
  all_goals
   go_wp2_with fail;go_roundw;case rel=>exact⟨k+1,by omega,by go_num,HN9⟩
   case measure=>simp[intOf];omega
 obtain rfl:k=N:=by omega
 have HZ:Hid ((∃A' c',Ending.returned u3=.returned (.slice A' k c')/\k<=c'/\LinksP (fun b=>w.heap.size<=b) wr A' l)/\zb w wr):=zH (by
  rw[<-HN.o,List.take_length] at hown hrow;obtain⟨A',c',hv,hc⟩:=own_form hown;subst hv;rw[HN.o] at hc;refine⟨⟨A',c',by rw[HN.o],hc,linksP_own hown (fun _ h=>h) (hrow.keep (fun _ _ _=>rfl) (zN _) (fun b _ h=>h.1))⟩,hbw⟩)
 clear hown hrow hbw HI;go_wp2_with fail;go_ret;exact HZ.o
def CpI(w2:World)(B:Nat)(ix:Int)(l m:List Link)(A5 A6:Option Addr)(N M c5 c6:Nat)(W:World):Prop :=
 Below w2.heap.size w2 W∧w2.heap.size≤B∧W.heap[B]?=some (.cells #[.int .i64 ix,.slice none 0 0,.slice A5 N c5,.slice A6 M c6] 39 (0,0))∧(LinksP (fun b=>w2.heap.size≤b) W A5 l∧N≤c5)∧(LinksP (fun b=>w2.heap.size≤b) W A6 m∧M≤c6)
theorem cpi_mid{w2 w5 w6 s4:World}{ix:Int}{l m:List Link}{A5 A6:Option Addr}{N M c5 c6:Nat}{o:Obj}(h5:LinksP (fun b=>w2.heap.size≤b) w5 A5 l)(hc5:N≤c5)(h6:LinksP (fun b=>(w5.alloc o).heap.size≤b) w6 A6 m)(hc6:M≤c6)(hs:w2.heap.size≤w5.heap.size)(hb6:Below (w5.alloc o).heap.size (w5.alloc o) w6)
  (hq:s4.heap[w5.heap.size]?=some (.cells #[.int .i64 ix,.slice none 0 0,.slice A5 N c5,.slice A6 M c6] 39 (0,0))) (ho:Oth w5.heap.size w6 s4) (hs4:Below w2.heap.size w2 s4):CpI w2 w5.heap.size ix l m A5 A6 N M c5 c6 s4:=by
 have e:(w5.alloc o).heap.size=w5.heap.size+1:=by simp
 have hs6:=hb6.size;refine⟨hs4,hs,hq,⟨h5.keep (fun b _ hlt=>?_) (zR (by omega) ho.size) (fun _ _ h=>h),hc5⟩,⟨h6.keep (fun b hb hlt=>?_) ho.size (fun b _ hb=>?_),hc6⟩⟩
 ·exact(ho.block b (by omega) (fun e=>by have e:=zO e;omega)).trans ((hb6.block b (by omega)).trans (zA _ _ _ hlt))
 ·have hb:(w5.alloc o).heap.size≤b:=hb;exact ho.block b hlt (fun e=>by have e:=zO e;omega)
 have hb:(w5.alloc o).heap.size≤b:=hb;show w2.heap.size≤b;omega
theorem cpi_first{w2 w5 w6 s4:World}{ix:Int}{l m:List Link}{A5 A6:Option Addr}{N M c5 c6:Nat}(h5:LinksP (fun b=>w2.heap.size<b) w5 A5 l)(hc5:N≤c5)(h6:LinksP (fun b=>w5.heap.size≤b) w6 A6 m)(hc6:M≤c6)(hs:w2.heap.size<w5.heap.size)(hb6:Below w5.heap.size w5 w6)
  (hq:s4.heap[w2.heap.size]?=some (.cells #[.int .i64 ix,.slice none 0 0,.slice A5 N c5,.slice A6 M c6] 39 (0,0))) (ho:Oth w2.heap.size w6 s4) (hs4:Below w2.heap.size w2 s4):CpI w2 w2.heap.size ix l m A5 A6 N M c5 c6 s4:=by
 have hs6:=hb6.size;refine⟨hs4,zN _,hq,⟨h5.keep (fun b hb hlt=>?_) (zR hs6 ho.size) (fun b _ hb=>Nat.le_of_lt hb),hc5⟩,⟨h6.keep (fun b hb hlt=>?_) ho.size (fun b _ hb=>?_),hc6⟩⟩
 ·have hb:w2.heap.size<b:=hb;exact(ho.block b (by omega) (fun e=>by have e:=zO e;omega)).trans (hb6.block b hlt)
 ·have hb:w5.heap.size≤b:=hb;exact ho.block b hlt (fun e=>by have e:=zO e;omega)
 have hb:w5.heap.size≤b:=hb;show w2.heap.size≤b;omega
theorem oCopied0_any(q q':Nat->Prop)(ix:Int)(l m:List Link)(A B:Option Addr)(c d:Nat)(w:World)(hn:l.length<=100000)(hm:m.length<=100000)(hst:∀x∈l,x.term.size<=1000000/\x.path.length<=10000000)(hmt:∀x∈m,x.term.size<=1000000/\x.path.length<=10000000)(hl:LinksP q w A l)(hl':LinksP q' w B m) :
  Calls Tryz.prog 37 #[.agg #[zI ix,zS,.slice A l.length c,.slice B m.length d]] w fun e w'=>(∃A' c' B' d',e=.returned (.agg #[zI ix,zS,.slice A' l.length c',.slice B' m.length d'])/\l.length<=c'/\m.length<=d'/\LinksP (fun b=>w.heap.size<=b) w' A' l/\LinksP (fun b=>w.heap.size<=b) w' B' m)/\zb w w':=by
 obtain⟨N,hN⟩:∃N,l.length=N:=⟨_,rfl⟩;obtain⟨M,hM⟩:∃M,m.length=M:=⟨_,rfl⟩;obtain⟨w1,hw1⟩:∃w1,w.alloc (.cells #[zI ix,zS,.slice A N c,.slice B M d] 39)=w1:=⟨_,rfl⟩;obtain⟨w2,hw2⟩:∃w2,w1.alloc (.cells #[zI 0,zS,zS,zS] 39)=w2:=⟨_,rfl⟩;have b1:=zG hw1;have b2:=zG hw2;have q1:=zQ hw1;have q2:=zQ hw2;have l1:=zL q1;have l2:=zL q2;have b02:zb w w2:=b1.trans (b2.mono (by omega));have s02:w.heap.size<=w2.heap.size:=by omega
 have Q1:=zH ((b2.block _ l1).trans q1);have Q2:=zH q2;have B02:=zH b02;have CL:Hid (∀W,zb w2 W->Calls Tryz.prog 64 #[.slice A N c] W fun e w'=>(∃A' c',e=.returned (.slice A' N c')/\N<=c'/\LinksP (fun b=>W.heap.size<=b) w' A' l)/\zb W w'):=zH (fun W hW=>by
  have:=oLinks_any q l A c W hn hst (hl.below (b02.trans (hW.mono s02)));rwa[hN] at this)
 have CM:Hid (∀W,zb w2 W->Calls Tryz.prog 64 #[.slice B M d] W fun e w'=>(∃A' c',e=.returned (.slice A' M c')/\M<=c'/\LinksP (fun b=>W.heap.size<=b) w' A' m)/\zb W w'):=zH (fun W hW=>by
  have:=oLinks_any q' m B d W hm hmt (hl'.below (b02.trans (hW.mono s02)));rwa[hM] at this)
 have SC:Hid (∀W,zb w2 W->zc W w.heap.size 0 (zI ix)/\zc W w.heap.size 2 (.slice A N c)/\zc W w.heap.size 3 (.slice B M d)):=zH (fun W hW=>by
  have e:=(hW.block _ (by omega)).trans Q1.o;exact⟨zC e 0,zC e 2,zC e 3⟩)
 have G0:zb w2 w2.drew:=(zB _ _).drew;have aa:∀W W',zb w2 W->zb W W'->zb w2 W':=fun W W' h h'=>h.trans (h'.mono h.size);have HA0:zb w2 (w2.alloc (.cells #[zI 0,zS,zS,zS] 39)).drew:=((zB _ _).alloc (zN _) _).drew;have HA1:w2.heap.size<(w2.alloc (.cells #[zI 0,zS,zS,zS] 39)).drew.heap.size:=by simp[World.drew]
 have HA2:(w2.alloc (.cells #[zI 0,zS,zS,zS] 39)).drew.heap[w2.heap.size]?=some (Obj.cells #[zI 0,zS,zS,zS] 39 (0,0)):=zW w2 _;have HN:=zH hN;have HM:=zH hM;rw[hN,hM];clear hl hl' hst hmt hn hm hN hM b1 b2 q1 q2 b02;go_enter Tryz.func37,Tryz.ntmps37;go_upto_region 1 with fail;clear hw1 hw2;go_region_held3 (fun W=>W.cell? ⟨w.heap.size,0,none⟩=some (zI ix)/\W.cell? ⟨w.heap.size,2,none⟩=some (.slice A N c)/\W.cell? ⟨w.heap.size,3,none⟩=some (.slice B M d))
  (first | exact SC.o _ G0 | exact SC.o _ HA0 | assumption | (refine SC.o _ ?_;assumption) | exact SC.o _ (hsa5 _) | exact SC.o _ (hsa6 _) | exact SC.o _ HA0)
  (first
   |(go_at_call 64;((with_reducible refine(CL.o w2.drew G0).mono ?_));rintro e w5⟨⟨A5,c5,rfl,hc5,h5⟩,hb5'⟩;have hb5:=aa _ _ G0 hb5';have hsa5:∀o,zb w2 (w5.alloc o):=fun o=>hb5.alloc hb5.size o;have H5:Hid (LinksP (fun b=>w2.heap.size<=b) w5 A5 l/\N<=c5):=zH ⟨h5,hc5⟩;clear h5 hc5)
   |(go_at_call 64;((with_reducible refine(CL.o (w2.alloc (.cells #[zI 0,zS,zS,zS] 39)).drew HA0).mono ?_));rintro e w5⟨⟨A5,c5,rfl,hc5,h5⟩,hb5'⟩;have hb5:=aa _ _ HA0 hb5';have hsa5:∀o,zb w2 (w5.alloc o):=fun o=>hb5.alloc hb5.size o;have qb5:=zH ((hb5'.block w2.heap.size HA1).trans HA2);have H5:Hid (LinksP (fun b=>w2.heap.size<b) w5 A5 l/\N<=c5):=zH ⟨h5.keep (fun _ _ _=>rfl) (zN _) (fun b _ h=>Zl HA1 h),hc5⟩;clear h5 hc5)
   |(go_at_call 64;((with_reducible refine(CM.o (w5.alloc (.cells #[zI 0,zS,zS,zS] 39)) (hb5.alloc hb5.size _)).mono ?_));rintro e w6⟨⟨A6,c6,rfl,hc6,h6⟩,hb6'⟩;have hb6:=aa _ _ (hb5.alloc hb5.size _) hb6';have hsa6:∀o,zb w2 (w6.alloc o):=fun o=>hb6.alloc hb6.size o;have qb6:=(hb6'.block w5.heap.size (by simp)).trans (zW w5 (.cells #[zI 0,zS,zS,zS] 39));obtain⟨s1,s2,s3,s4,k1,k2,k3,k4,⟨x0,x1,x2,x3⟩,⟨t0,t1,t2,t3⟩,hq,ho⟩:=put4 qb6 (zI ix) zS (.slice A5 N c5) (.slice A6 M c6);have hs4:zb w2 s4:=Oth.below hb6 ho hb5.size hb6.size;have HF:Hid (CpI w2 w5.heap.size ix l m A5 A6 N M c5 c6 s4):=zH (cpi_mid H5.o.1 H5.o.2 h6 hc6 hb5.size hb6' hq ho hs4);clear hq ho qb6 h6 hc6)
   |(go_at_call 64;((with_reducible refine(CM.o w5 hb5).mono ?_));rintro e w6⟨⟨A6,c6,rfl,hc6,h6⟩,hb6'⟩;have hb6:=aa _ _ hb5 hb6';have hsa6:∀o,zb w2 (w6.alloc o):=fun o=>hb6.alloc hb6.size o;have qb6:=(hb6'.block w2.heap.size (zL qb5.o)).trans qb5.o;obtain⟨s1,s2,s3,s4,k1,k2,k3,k4,⟨x0,x1,x2,x3⟩,⟨t0,t1,t2,t3⟩,hq,ho⟩:=put4 qb6 (zI ix) zS (.slice A5 N c5) (.slice A6 M c6);have hs4:zb w2 s4:=Oth.below hb6 ho (zN _) hb6.size;have HF:Hid (CpI w2 w2.heap.size ix l m A5 A6 N M c5 c6 s4):=zH (cpi_first H5.o.1 H5.o.2 h6 hc6 (zL qb5.o) hb6' hq ho hs4);clear hq ho qb6 h6 hc6)
   |(go_at_call 64;((with_reducible refine(CM.o w5 hb5).mono ?_));rintro e w6⟨⟨A6,c6,rfl,hc6,h6⟩,hb6'⟩;have hb6:=aa _ _ hb5 hb6';have hsa6:∀o,zb w2 (w6.alloc o):=fun o=>hb6.alloc hb6.size o;have H6:Hid (LinksP (fun b=>w2.heap.size<=b) w6 A5 l/\N<=c5/\LinksP (fun b=>w2.heap.size<=b) w6 A6 m/\M<=c6):=zH ⟨H5.o.1.below hb6',H5.o.2,h6.keep (fun _ _ _=>rfl) (zN _) (fun b _ h=>zR hb5.size h),hc6⟩;clear h6 hc6))
 ·obtain⟨s4,hs4⟩:∃s4,w6.alloc (.cells #[zI ix,zS,.slice A5 N c5,.slice A6 M c6] 39)=s4:=⟨_,rfl⟩;have HF:Hid (CpI w2 w6.heap.size ix l m A5 A6 N M c5 c6 s4):=zH (by
   have bz:=zG hs4;exact⟨hb6.trans (bz.mono hb6.size),hb6.size,by rw[<-hs4];exact zW _ _,⟨H6.o.1.below bz,H6.o.2.1⟩,⟨H6.o.2.2.1.below bz,H6.o.2.2.2⟩⟩)
  rw[hs4];clear hs4;obtain⟨hbW,hBx,hqB,⟨g5,hc5⟩,⟨g6,hc6⟩⟩:=HF.o;obtain⟨y0,y1,y2,y3⟩:=cells4t ((hbW.block _ (by omega)).trans Q1.o);obtain⟨z0,z1,z2,z3⟩:=cells4t hqB;obtain⟨r1,r2,r3,r4,m1,m2,m3,m4,⟨p0,p1,p2,p3⟩,⟨f0,f1,f2,f3⟩,hqr,hor⟩:=put4 ((hbW.block _ l2).trans Q2.o) (zI ix) zS (.slice A5 N c5) (.slice A6 M c6);have HQ:=zH hqr;have HZ:Hid ((∃A' c' B' d',Ending.returned (.agg #[zI ix,zS,.slice A5 N c5,.slice A6 M c6])=.returned (.agg #[zI ix,zS,.slice A' N c',.slice B' M d'])/\N<=c'/\M<=d'/\LinksP (fun b=>w.heap.size<=b) r4 A' l/\LinksP (fun b=>w.heap.size<=b) r4 B' m)/\zb w r4):=zH ⟨⟨A5,c5,A6,c6,rfl,hc5,hc6,g5.keep (fun b hb hlt=>hor.block b hlt (fun e=>by have e:=zO e;have hb:w2.heap.size<=b:=hb;omega)) hor.size (fun b _ hb=>zR s02 hb),g6.keep (fun b hb hlt=>hor.block b hlt (fun e=>by have e:=zO e;have hb:w2.heap.size<=b:=hb;omega)) hor.size (fun b _ hb=>zR s02 hb)⟩,Oth.below (B02.o.trans (hbW.mono s02)) hor (by omega) (zR s02 hbW.size)⟩;clear hqr hor g5 g6 hqB hbW HF;go_wp2_with fail;go_loopw [18] (fun i wr=>i=zI 0/\wr=s4) (fun i _=>0);case atStart=>exact⟨rfl,by simp⟩
  obtain⟨rfl,hwx⟩:=hrel;subst hwx;go_wp2_with fail;refine Zb (results_proof rfl _ _ _ _ _ _ _ rfl HQ.o) ?_;exact HZ.o
 ·clear k1 k2 k3 k4 x0 x1 x2 x3 t0 t1 t2 t3;obtain⟨hbW,hBx,hqB,⟨g5,hc5⟩,⟨g6,hc6⟩⟩:=HF.o;obtain⟨y0,y1,y2,y3⟩:=cells4t ((hbW.block _ (by omega)).trans Q1.o);obtain⟨z0,z1,z2,z3⟩:=cells4t hqB;obtain⟨r1,r2,r3,r4,m1,m2,m3,m4,⟨p0,p1,p2,p3⟩,⟨f0,f1,f2,f3⟩,hqr,hor⟩:=put4 ((hbW.block _ l2).trans Q2.o) (zI ix) zS (.slice A5 N c5) (.slice A6 M c6);have HQ:=zH hqr;have HZ:Hid ((∃A' c' B' d',Ending.returned (.agg #[zI ix,zS,.slice A5 N c5,.slice A6 M c6])=.returned (.agg #[zI ix,zS,.slice A' N c',.slice B' M d'])/\N<=c'/\M<=d'/\LinksP (fun b=>w.heap.size<=b) r4 A' l/\LinksP (fun b=>w.heap.size<=b) r4 B' m)/\zb w r4):=zH ⟨⟨A5,c5,A6,c6,rfl,hc5,hc6,g5.keep (fun b hb hlt=>hor.block b hlt (fun e=>by have e:=zO e;have hb:w2.heap.size<=b:=hb;omega)) hor.size (fun b _ hb=>zR s02 hb),g6.keep (fun b hb hlt=>hor.block b hlt (fun e=>by have e:=zO e;have hb:w2.heap.size<=b:=hb;omega)) hor.size (fun b _ hb=>zR s02 hb)⟩,Oth.below (B02.o.trans (hbW.mono s02)) hor (by omega) (zR s02 hbW.size)⟩;clear hqr hor g5 g6 hqB hbW HF;go_wp2_with fail;go_loopw [18] (fun i wr=>i=zI 0/\wr=s4) (fun i _=>0);case atStart=>exact⟨rfl,by simp⟩
  obtain⟨rfl,hwx⟩:=hrel;subst hwx;go_wp2_with fail;refine Zb (results_proof rfl _ _ _ _ _ _ _ rfl HQ.o) ?_;exact HZ.o
 clear k1 k2 k3 k4 x0 x1 x2 x3 t0 t1 t2 t3;obtain⟨hbW,hBx,hqB,⟨g5,hc5⟩,⟨g6,hc6⟩⟩:=HF.o;obtain⟨y0,y1,y2,y3⟩:=cells4t ((hbW.block _ (by omega)).trans Q1.o);obtain⟨z0,z1,z2,z3⟩:=cells4t hqB;obtain⟨r1,r2,r3,r4,m1,m2,m3,m4,⟨p0,p1,p2,p3⟩,⟨f0,f1,f2,f3⟩,hqr,hor⟩:=put4 ((hbW.block _ l2).trans Q2.o) (zI ix) zS (.slice A5 N c5) (.slice A6 M c6);have HQ:=zH hqr;have HZ:Hid ((∃A' c' B' d',Ending.returned (.agg #[zI ix,zS,.slice A5 N c5,.slice A6 M c6])=.returned (.agg #[zI ix,zS,.slice A' N c',.slice B' M d'])/\N<=c'/\M<=d'/\LinksP (fun b=>w.heap.size<=b) r4 A' l/\LinksP (fun b=>w.heap.size<=b) r4 B' m)/\zb w r4):=zH ⟨⟨A5,c5,A6,c6,rfl,hc5,hc6,g5.keep (fun b hb hlt=>hor.block b hlt (fun e=>by have e:=zO e;have hb:w2.heap.size<=b:=hb;omega)) hor.size (fun b _ hb=>zR s02 hb),g6.keep (fun b hb hlt=>hor.block b hlt (fun e=>by have e:=zO e;have hb:w2.heap.size<=b:=hb;omega)) hor.size (fun b _ hb=>zR s02 hb)⟩,Oth.below (B02.o.trans (hbW.mono s02)) hor (by omega) (zR s02 hbW.size)⟩;clear hqr hor g5 g6 hqB hbW HF;go_wp2_with fail;go_loopw [18] (fun i wr=>i=zI 0/\wr=s4) (fun i _=>0);case atStart=>exact⟨rfl,by simp⟩
 obtain⟨rfl,hwx⟩:=hrel;subst hwx;go_wp2_with fail;refine Zb (results_proof rfl _ _ _ _ _ _ _ rfl HQ.o) ?_;exact HZ.o
end
end Go.Proofs.YtadjpadieljjlaaGreat
