/- Parts of the proof that no input makes the law false: PaRfs, PaAk, RawTree, PaBkW, PaDoorK, RowParseBack. -/
import Derived.Lib.LaidTab
import Derived.Stop.LaidErr
import Derived.Test.YthajalgkjonaaaaGreatDoorBxBB
set_option linter.unusedVariables false
set_option linter.unusedSimpArgs false
set_option maxRecDepth 100000
set_option maxHeartbeats 32000000
namespace Lfc
inductive Raw.Sml:Raw→Prop
 |leaf1 (n:List UInt8) (p:Int):Raw.Sml (.node 1 n p [])
 |leaf4 (n:List UInt8) (p:Int):Raw.Sml (.node 4 n p [])
 |two (k:Int) (n:List UInt8) (p:Int) (a b:Raw) (hk:k=5∨k=6) (ha:Raw.Sml a) (hb:Raw.Sml b):Raw.Sml (.node k n p [a,b])
end Lfc
namespace Go.Proofs.YthajalgkjonaaaaGreatDoor
section
open Go.RowKit Go.Maps Go.WideMaps _root_.Lfc
def RFmtS(w0:World)(q:List (List UInt8))(Aq:Option Addr)(cq:Nat)(m:Nat):Prop:=∀(t:Raw)(v:Value)(w:World)(acc:List UInt8)(vb:Value),t.size≤m→Raw.Sml t→TreeV w0 t v→Below w0.heap.size w0 w→w.ownsRow w0.heap.size 5 1 vb acc.length (Lib.byteCells acc)→acc.length+(t.text q).length≤10000000000 →
  Calls Tryz.prog 38 #[vb,v,.slice Aq q.length cq] w fun e w'=>∃vb',e=.returned vb'∧w'.ownsRow w0.heap.size 5 1 vb' (acc++t.text q).length (Lib.byteCells (acc++t.text q))∧KeptU w w'∧Below w0.heap.size w0 w'
theorem rtwoS_any(w0:World)(q:List (List UInt8))(Aq:Option Addr)(cq m:Nat)(ih:RFmtS w0 q Aq cq m)(k p:Int)(n mid:List UInt8)(a a':Raw)(hm:a.size+a'.size<=m)(hfa:Raw.Sml a)(hfa':Raw.Sml a')(v:Value)(w:World)(acc:List UInt8)(vb:Value)(hv:TreeV w0 (.node k n p [a,a']) v)(hb0:zb w0 w)(hown:w.ownsRow w0.heap.size 5 1 vb acc.length (Lib.byteCells acc))(hl:acc.length+((a.text q).length+mid.length+(a'.text q).length+2)<=10000000000) :
  Calls Tryz.prog 70 #[vb,v,.slice Aq q.length cq,S mid] w fun e w'=>∃vb',e=.returned vb'/\w'.ownsRow w0.heap.size 5 1 vb' (acc++([40]++a.text q++mid++a'.text q++[41])).length (Lib.byteCells (acc++([40]++a.text q++mid++a'.text q++[41])))/\KeptU w w'/\zb w0 w':=by
 obtain⟨A,c,rfl,hc,hA⟩:=hv.open_;simp only[List.length_cons,List.length_nil,Nat.zero_add,Nat.reduceAdd] at *;have IH:=zH ih;obtain⟨i0,hi0,hz0,hz1,hz2⟩:=info_parts byteInfo;obtain⟨Bk,O,k1,n1,p1,us,B1,c1,rfl,hbB,ht,d0,d1,d2,d3,hcu,hB1,hT⟩:=hA.at_ (i:=0) (by simp);obtain⟨B2',O',k2,n2,p2,ys,B2,c2,hBO,hb',ht',e0,e1,e2,e3,hcu',hB2,hT'⟩:=hA.at_ (i:=1) (by simp);simp only[List.getElem_cons_zero,List.getElem_cons_succ,Nat.zero_mul,Nat.one_mul,Nat.add_zero] at hT ht d0 d1 d2 d3 hT' ht' e0 e1 e2 e3;cases hBO;clear ht hB1 hA ht' hB2 hb';obtain⟨wa,hwa⟩:∃wa,w.alloc (.cells #[zI k,S n,zI p,.slice (some ⟨Bk,O,none⟩) 2 c] 46)=wa:=⟨_,rfl⟩;have ba:=zG hwa;have qa:=zQ hwa;have H0:Hid (BS w0 w w.heap.size #[zI k,S n,zI p,.slice (some ⟨Bk,O,none⟩) 2 c] acc wa vb):=zH ⟨own_below hown ba,KeptU.new ba,hb0.trans (ba.mono hb0.size),qa⟩;have SC:=zH (fun(wx:World) (vx:Value) (ax:List UInt8) (h:BS w0 w w.heap.size #[zI k,S n,zI p,.slice (some ⟨Bk,O,none⟩) 2 c] ax wx vx)=>show zc wx w.heap.size 3 (.slice (some ⟨Bk,O,none⟩) 2 c)/\(zc wx Bk O (zI k1)/\zc wx Bk (O+1) (S n1)/\zc wx Bk (O+2) (zI p1)/\zc wx Bk (O+3) (.slice B1 us.length c1))/\(zc wx Bk (O+4) (zI k2)/\zc wx Bk (O+4+1) (S n2)/\zc wx Bk (O+4+2) (zI p2)/\zc wx Bk (O+4+3) (.slice B2 ys.length c2)) from
  ⟨zC h.box 3,⟨(h.bel.cell (p:=⟨Bk,_,none⟩) hbB).trans d0,(h.bel.cell (p:=⟨Bk,_,none⟩) hbB).trans d1,(h.bel.cell (p:=⟨Bk,_,none⟩) hbB).trans d2,(h.bel.cell (p:=⟨Bk,_,none⟩) hbB).trans d3⟩,⟨(h.bel.cell (p:=⟨Bk,_,none⟩) hbB).trans e0,(h.bel.cell (p:=⟨Bk,_,none⟩) hbB).trans e1,(h.bel.cell (p:=⟨Bk,_,none⟩) hbB).trans e2,(h.bel.cell (p:=⟨Bk,_,none⟩) hbB).trans e3⟩⟩)
 obtain⟨Al,cl,rfl⟩:=own_form hown;have hlm:acc.length+1<=maxLen:=by unfold maxLen;omega
 have hlb:(acc.length+1)*1<=140737488355328:=by omega
 have hsz0:=H0.o.bel.size;have h1a:a.size<=m:=by omega
 have h1b:a'.size<=m:=by omega
 have h4a:(acc++[40]).length+(a.text q).length<=10000000000:=by simp only[Zq,List.length_singleton];omega
 have h4b:(acc++[40]++a.text q++mid).length+(a'.text q).length<=10000000000:=by simp only[Zq,List.length_singleton];omega
 clear qa ba hv ih hown hb0 d0 d1 d2 d3 e0 e1 e2 e3;go_enter Tryz.func70,Tryz.ntmps70;go_upto_region 1 with fail;clear hwa;go_region_held3 (fun w'=>w'.cell? ⟨w.heap.size,3,none⟩=some (.slice (some ⟨Bk,O,none⟩) 2 c)/\(w'.cell? ⟨Bk,O,none⟩=some (zI k1)/\w'.cell? ⟨Bk,O+1,none⟩=some (S n1)/\w'.cell? ⟨Bk,O+2,none⟩=some (zI p1)/\w'.cell? ⟨Bk,O+3,none⟩=some (.slice B1 us.length c1))/\(w'.cell? ⟨Bk,O+4,none⟩=some (zI k2)/\w'.cell? ⟨Bk,O+4+1,none⟩=some (S n2)/\w'.cell? ⟨Bk,O+4+2,none⟩=some (zI p2)/\w'.cell? ⟨Bk,O+4+3,none⟩=some (.slice B2 ys.length c2)))
  (first | exact SC.o _ _ _ (H0.o.new (zB _ _).drew) | exact SC.o _ _ _ (H0.o.new ((zB _ _).alloc (zN _) _).drew) | exact SC.o _ _ _ H1.o | exact SC.o _ _ _ H2.o)
  (first
   |(go_at_call 38;refine(IH.o a _ _ (acc++[40]) _ h1a hfa hT H1.o.bel H1.o.own h4a).mono ?_;rintro e w2⟨v2,rfl,hown2,hg2,hb2⟩;have H2:=zH (H1.o.next hown2 hg2 hb2))
   |(refine step_append_own_at _ (by rfl) _ _ 68 (by rfl) w0.heap.size 5 i0 (.int .u8 0) 1 1 Tryz.underlying68 hi0 hz0 hz1 hz2 rfl (by decide) _ _ _ (by rfl) ((H0.o.own.alloc _).drew) ⟨wa.heap.size,0,none⟩ 1 1 [.int .u8 40] (by rfl) (by rfl) (fun j u h=>cell_one_new wa _ 5 j u h) (byte_one 40) hlm hlb (alloc_le hsz0) ?_;intro v1 w1 hown1 hg1 hloc1;have H1:=zH ((H0.o.new (((zB _ _).alloc (zN _) _).drew)).push (bs:=[40]) hown1 hg1)))
 go_wp2_with fail;have hlm2:(acc++[40]++a.text q).length+(⟨mid.toArray⟩:ByteArray).size<=maxLen:=by rw[bsize];simp only[Zq,List.length_singleton];unfold maxLen;omega
 have hlb2:(acc++[40]++a.text q).length+(⟨mid.toArray⟩:ByteArray).size<=140737488355328:=by rw[bsize];simp only[Zq,List.length_singleton];omega
 have hsz2:=H2.o.bel.size;clear hown2 hg2 hb2 hown1 hg1 hloc1;go_region_held3 (fun w'=>w'.cell? ⟨w.heap.size,3,none⟩=some (.slice (some ⟨Bk,O,none⟩) 2 c)/\(w'.cell? ⟨Bk,O,none⟩=some (zI k1)/\w'.cell? ⟨Bk,O+1,none⟩=some (S n1)/\w'.cell? ⟨Bk,O+2,none⟩=some (zI p1)/\w'.cell? ⟨Bk,O+3,none⟩=some (.slice B1 us.length c1))/\(w'.cell? ⟨Bk,O+4,none⟩=some (zI k2)/\w'.cell? ⟨Bk,O+4+1,none⟩=some (S n2)/\w'.cell? ⟨Bk,O+4+2,none⟩=some (zI p2)/\w'.cell? ⟨Bk,O+4+3,none⟩=some (.slice B2 ys.length c2)))
  (first | exact SC.o _ _ _ (H2.o.new (zB _ _).drew) | exact SC.o _ _ _ H3.o | exact SC.o _ _ _ H4.o)
  (first
   |(go_at_call 38;refine(IH.o a' _ _ (acc++[40]++a.text q++mid) _ h1b hfa' hT' H3.o.bel H3.o.own h4b).mono ?_;rintro e w4⟨v4,rfl,hown4,hg4,hb4⟩;have H4:=zH (H3.o.next hown4 hg4 hb4))
   |(refine step_append_strB _ (by rfl) _ _ 68 9 (by rfl) w0.heap.size 5 i0 Tryz.underlying68 Tryz.underlying9 hi0 hz0 hz1 hz2 _ _ _ (by rfl) (H2.o.own.drew) ⟨mid.toArray⟩ (by rfl) hlm2 hlb2 hsz2 ?_;intro v3 w3 hown3 hg3;have H3:=zH ((H2.o.new (zB _ _).drew).pushS hown3 hg3)))
 clear hown4 hg4 hb4 hown3 hg3;have hlm4:(acc++[40]++a.text q++mid++a'.text q).length+1<=maxLen:=by simp only[Zq,List.length_singleton];unfold maxLen;omega
 have hlb4:((acc++[40]++a.text q++mid++a'.text q).length+1)*1<=140737488355328:=by simp only[Zq,List.length_singleton];omega
 have hsz4:=H4.o.bel.size;obtain⟨Z,hZ⟩:∃Z,acc++[40]++a.text q++mid++a'.text q=Z:=⟨_,rfl⟩;rw[hZ] at H4 hlm4 hlb4;have HZ:=zH hZ;clear hZ;go_wp2_with (at_builtin;refine wpList_append_own_at _ rfl _ _ 68 rfl w0.heap.size 5 i0 (.int .u8 0) 1 1 Tryz.underlying68 hi0 hz0 hz1 hz2 rfl (by decide) _ _ _ rfl (H4.o.own.alloc _) ⟨w4.heap.size,0,none⟩ 1 1 [.int .u8 41] rfl rfl (cell_one_new _ _ _) (byte_one 41) hlm4 hlb4 (alloc_le hsz4) ?_);intro v5 w5 hown5 hg5 _ _;have H5:=zH ((H4.o.new ((zB _ _).alloc (zN _) _)).push (bs:=[41]) hown5 hg5);clear hown5 hg5;go_wp2_with fail;go_ret;refine⟨_,rfl,?_,H5.o.kept,H5.o.bel⟩;have:=H5.o.own;rw[<-HZ.o] at this;simpa[List.append_assoc] using this
theorem rfmtS_two(w0:World)(q:List (List UInt8))(Aq:Option Addr)(cq m:Nat)(ih:RFmtS w0 q Aq cq m)(k p:Int)(n:List UInt8)(hk:k=5\/k=6)(a a':Raw)(hm:a.size+a'.size<=m)(hfa:Raw.Sml a)(hfa':Raw.Sml a')(v:Value)(w:World)(acc:List UInt8)(vb:Value)(hv:TreeV w0 (.node k n p [a,a']) v)(hb0:zb w0 w)(hown:w.ownsRow w0.heap.size 5 1 vb acc.length (Lib.byteCells acc))(hl:acc.length+((Raw.node k n p [a,a']).text q).length<=10000000000) :
  Calls Tryz.prog 38 #[vb,v,.slice Aq q.length cq] w fun e w'=>∃vb',e=.returned vb'/\w'.ownsRow w0.heap.size 5 1 vb' (acc++(Raw.node k n p [a,a']).text q).length (Lib.byteCells (acc++(Raw.node k n p [a,a']).text q))/\KeptU w w'/\zb w0 w':=by
 obtain⟨mid,hmid,htx⟩:∃mid:List UInt8,((k=5/\mid=[32])\/(k=6/\mid=[32,45,62,32]))/\(Raw.node k n p [a,a']).text q=[40]++a.text q++mid++a'.text q++[41]:=by
  rcases hk with rfl | rfl
  ·exact⟨_,.inl ⟨rfl,rfl⟩,by simp[Raw.text,Raw.texts,putText,twoText]⟩
  exact⟨_,.inr ⟨rfl,rfl⟩,by simp[Raw.text,Raw.texts,putText,twoText]⟩
 rw[htx] at hl ⊢;simp only[Zq,List.length_singleton] at hl;obtain⟨wa,hwa⟩:∃wa:World,wa=wa/\True:=⟨w,rfl,trivial⟩;clear hwa wa;have hv':=hv;obtain⟨A,c,rfl,hc,hA⟩:=hv.open_;obtain⟨wa,hwa⟩:∃wa,w.alloc (.cells #[zI k,S n,zI p,.slice A 2 c] 46)=wa:=⟨_,rfl⟩;have ba:=zG hwa;have qa:=zQ hwa;obtain⟨x0,x1,x2,x3⟩:=cells4 qa;have HT:=zH (rtwoS_any w0 q Aq cq m ih k p n mid a a' hm hfa hfa' _ wa acc vb hv' (hb0.trans (ba.mono hb0.size)) (own_below hown ba) (by omega));have HB:=zH ba;simp only[List.length_cons,List.length_nil,Nat.zero_add,Nat.reduceAdd] at *;clear hv hv' hA ih hown hb0 htx qa ba hk;rcases hmid with⟨rfl,rfl⟩ | ⟨rfl,rfl⟩;all_goals
  go_enter Tryz.func38,Tryz.ntmps38;go_upto_region 1 with fail;clear hwa;go_wp2_with fail;refine HT.o.mono ?_;rintro e w2⟨v2,rfl,hown2,hk2,hb2⟩;have H2:=zJ hown2 (And.intro ((KeptU.new HB.o).trans hk2) hb2);clear hown2 hk2 hb2;go_wp2_with fail;go_ret;exact⟨_,rfl,H2.o⟩
theorem rfmtS_leaf(w0:World)(q:List (List UInt8))(Aq:Option Addr)(cq:Nat)(hq:NamesAt w0 Aq q)(hql:q.length<=1000000000)(k p:Int)(n:List UInt8)(hk:(k=1/\n ∉ q)\/k=4)(v:Value)(w:World)(acc:List UInt8)(vb:Value)(hv:TreeV w0 (.node k n p []) v)(hb0:zb w0 w)(hown:w.ownsRow w0.heap.size 5 1 vb acc.length (Lib.byteCells acc))(hl:acc.length+((Raw.node k n p []).text q).length<=10000000000) :
  Calls Tryz.prog 38 #[vb,v,.slice Aq q.length cq] w fun e w'=>∃vb',e=.returned vb'/\w'.ownsRow w0.heap.size 5 1 vb' (acc++(Raw.node k n p []).text q).length (Lib.byteCells (acc++(Raw.node k n p []).text q))/\KeptU w w'/\zb w0 w':=by
 have hnn:=hv.name_le;obtain⟨A,c,rfl,hc,hA⟩:=hv.open_;simp only[List.length_nil] at *;obtain⟨i0,hi0,hz0,hz1,hz2⟩:=info_parts byteInfo;obtain⟨wa,hwa⟩:∃wa,w.alloc (.cells #[zI k,S n,zI p,.slice A 0 c] 46)=wa:=⟨_,rfl⟩;have ba:=zG hwa;have qa:=zQ hwa;obtain⟨x0,x1,x2,x3⟩:=cells4 qa;have H0:Hid (BS w0 w w.heap.size #[zI k,S n,zI p,.slice A 0 c] acc wa vb):=zH ⟨own_below hown ba,KeptU.new ba,hb0.trans (ba.mono hb0.size),qa⟩;have HIN:=zH (rIn_any q n Aq cq wa hql (hq.below H0.o.bel));obtain⟨Al,cl,rfl⟩:=own_form hown;have hsz0:=H0.o.bel.size;clear qa ba hv hown hb0 hA hq;rcases hk with⟨rfl,hnq⟩ | rfl
 ·have htx:(Raw.node 1 n p []).text q=n:=by simp[Raw.text,putText,hnq]
  rw[htx] at hl ⊢;rw[Zu hnq] at HIN;have hlm:acc.length+(⟨n.toArray⟩:ByteArray).size<=maxLen:=by rw[bsize];unfold maxLen;omega
  have hlb:acc.length+(⟨n.toArray⟩:ByteArray).size<=140737488355328:=by rw[bsize];omega
  clear htx hnq;go_enter Tryz.func38,Tryz.ntmps38;go_upto_region 1 with fail;clear hwa;go_wp2_with fail;refine HIN.o.mono ?_;rintro e w2⟨rfl,hw2⟩;obtain rfl:=hw2;go_wp2_with (at_builtin;refine Lib.wpList_append_own_string wa rfl _ _ 68 9 rfl w0.heap.size 5 i0 Tryz.underlying68 Tryz.underlying9 hi0 hz0 hz1 hz2 _ _ _ rfl H0.o.own ⟨n.toArray⟩ rfl hlm hlb hsz0 ?_);intro v3 w3 hown3 hg3 _;have H3:=zH (H0.o.pushS hown3 hg3);clear hown3 hg3;go_wp2_with fail;go_ret;exact⟨_,rfl,H3.o.own,H3.o.kept,H3.o.bel⟩
 have htx:(Raw.node 4 n p []).text q=[116,121,112,101]:=by simp[Raw.text,putText]
 rw[htx] at hl ⊢;simp only[List.length_cons,List.length_nil] at hl;have hlm:acc.length+(⟨#[116,121,112,101]⟩:ByteArray).size<=maxLen:=by show acc.length+4<=maxLen;unfold maxLen;omega
 have hlb:acc.length+(⟨#[116,121,112,101]⟩:ByteArray).size<=140737488355328:=by show acc.length+4<=_;omega
 clear htx;go_enter Tryz.func38,Tryz.ntmps38;go_upto_region 1 with fail;clear hwa;go_wp2_with (at_builtin;refine Lib.wpList_append_own_string wa rfl _ _ 68 9 rfl w0.heap.size 5 i0 Tryz.underlying68 Tryz.underlying9 hi0 hz0 hz1 hz2 _ _ _ rfl H0.o.own ⟨#[116,121,112,101]⟩ rfl hlm hlb hsz0 ?_);intro v3 w3 hown3 hg3 _;have H3:=zH (H0.o.pushS (bs:=[116,121,112,101]) hown3 hg3);clear hown3 hg3;go_wp2_with fail;go_ret;exact⟨_,rfl,H3.o.own,H3.o.kept,H3.o.bel⟩
theorem rfmtS_upto(w0:World)(cq:Nat)(m:Nat):RFmtS w0 [] none cq m:=by
 induction m with
 |zero=>intro t v w acc vb h;have:=t.size_pos;omega
 |succ m ih =>
  intro t v w acc vb hsz hsm hv hb0 hown hl;have hq:NamesAt w0 none []:=fun h=>absurd h (by decide);cases hsm with
  |leaf1 n p=>exact rfmtS_leaf w0 [] none cq hq (by decide) 1 p n (.inl ⟨rfl,by simp⟩) v w acc vb hv hb0 hown hl
  |leaf4 n p=>exact rfmtS_leaf w0 [] none cq hq (by decide) 4 p n (.inr rfl) v w acc vb hv hb0 hown hl
  |two k n p a b hk ha hb =>
   simp only[Raw.size,Raw.sizes,Nat.add_zero] at hsz;exact rfmtS_two w0 [] none cq m ih k p n hk a b (by omega) ha hb v w acc vb hv hb0 hown hl
theorem rFormatS_any(t:Raw)(hs:Raw.Sml t)(hz:t.wf=0)(v:Value)(cq:Nat)(w:World)(hmax:t.size<=1000000000)(hv:TreeV w t v)  :
  Calls Tryz.prog 16 #[v,.slice none 0 cq] w fun e w'=>e=.returned (S (t.fmt []))/\zb w w':=by
 have hshort:=hv.short;obtain⟨A,c,kd,nm,ps,ts,hT,rfl,hc,hA⟩:∃A c kd nm ps ts,t=.node kd nm ps ts/\v=.agg (zT kd nm ps A ts c)/\ts.length<=c/\TreesAt w A ts:=by
  obtain⟨kd,nm,ps,ts⟩:=t;obtain⟨A,c,rfl,hc,hA⟩:=hv.open_;exact⟨A,c,kd,nm,ps,ts,rfl,rfl,hc,hA⟩
 clear hT hA;obtain⟨w1,hw1⟩:∃w1,w.alloc (.cells (zT kd nm ps A ts c) 46)=w1:=⟨_,rfl⟩;have b01:=zG hw1;have s1:=eq2 (show w1.heap.size=w.heap.size+1 by rw[<-hw1];simp);have q1:=zQ hw1;obtain⟨y0,y1,y2,y3⟩:=cells4 q1;have Q1:=zH q1;have HV:=zH (hv.below b01);have HS:=zH hs;have HWF:=zH (rWf_any t _ w1 hmax HV.o);clear hv q1 hs;have hf:t.fmt []=t.text []:=if_pos hz;rw[hf];rw[hz] at HWF;obtain⟨hfm,hsz,_⟩:=wf_zero hz;have hlen:=text_len [] 1000000 t hshort;have hlen2:t.size*(1000000+20)<=4096*1000020:=Nat.mul_le_mul_right _ hsz;clear hf hz;go_enter Tryz.func16,Tryz.ntmps16;go_upto_region 1 with fail;clear hw1;go_wp2_with fail;refine HWF.o.mono ?_;rintro e w2⟨rfl,hb2⟩;have hs2:=hb2.size;obtain⟨z0,z1,z2,z3⟩:=cells4 ((hb2.block _ (by omega)).trans Q1.o);have HF:=zH (show Calls Tryz.prog 38 #[zS,.agg (zT kd nm ps A ts c),.slice none 0 cq] w2 _ from rfmtS_upto w2 cq t.size t _ w2 [] zS (zN _) HS.o (HV.o.below hb2) (zB _ _) (own_nil _ _ _ _) (by simp only[List.length_nil];omega));clear y0 y1 y2 y3;go_wp2_with fail;refine HF.o.mono ?_;rintro e w5⟨v5,rfl,hown5,hg5,hb5⟩;rw[List.nil_append] at hown5;obtain⟨A5,c5,rfl⟩:=own_form hown5;have HB5:=zH hb5;generalize hTX:t.text []=TX at *;have hconv:=own_string Tryz.underlying68 Tryz.underlying5 Tryz.underlying9 hown5;have HTX:=zH hTX;clear hown5 hg5 hb5 hTX;go_wp2_with fail;go_ret;exact⟨by rw[HTX.o];rfl,b01.trans ((hb2.mono (by omega)).trans (HB5.o.mono (by omega)))⟩
end
section
open Go.RowKit _root_.Lfc
theorem its_second{w:World}{b o:Nat}{s1 s2:IS}(h:ItsV w (some ⟨b,o,none⟩) [(awI1,s1),(awI2,s2)]):∀j u,(itCells awI2 s2)[j]?=some u→w.cell? ⟨b,o+(22+j),none⟩=some u:=by
 obtain⟨b',o',e,_,hc,_⟩:=h (by simp);cases e;intro j u hj;have hj22:j<22:=(Array.getElem?_eq_some_iff.1 hj).1;exact hc (22+j) u (by have:=itRow_at [(awI1,s1),(awI2,s2)] 1 (by simp) j hj22;rw[Nat.one_mul] at this;rw[this];exact hj)
theorem its_tree{w:World}{b o:Nat}{s1 s2:IS}(h:ItsV w (some ⟨b,o,none⟩) [(awI1,s1),(awI2,s2)]):TreesAt w s2.ty.1 [awT]:=by
 obtain⟨b',o',e,_,_,hi⟩:=h (by simp);exact(hi (awI2,s2) (by simp)).ty.1
theorem awake4_any(w:World):Calls Tryz.prog 12 #[] w fun e w'=>e=.returned (.bool true)/\zb w w':=by
 have C1:=zH (aw_parse w);go_enter Tryz.func12,Tryz.ntmps12;go_upto_region 3 with(go_at_call 9;refine C1.o.mono ?_;rintro e w1⟨⟨s1,s2,b,o,c,B,d,rfl,hv,hb,hc,ho⟩,b1⟩);have HV:=zH hv;have HO:=zH ho;have K1:=zH (fun W (hW:zb w1 W) j u hj=>(hW.cell (p:=⟨b,_,none⟩) hb).trans (its_second hv j u hj));have k1:=K1.o w1 (zB _ _);have c0:zc w1 b (o+22) (zI 1):=k1 0 _ rfl;have c1:zc w1 b (o+23) (zI 18):=k1 1 _ rfl;have c3:zc w1 b (o+25) (.slice s2.ty.1 1 s2.ty.2):=k1 3 _ rfl;have c1':zc w1 b (o+22+1) (zI 18):=k1 1 _ rfl;have c3':zc w1 b (o+22+3) (.slice s2.ty.1 1 s2.ty.2):=k1 3 _ rfl;clear hv ho k1;have C2:=zH (aw_parse2 w1);go_upto_region 5 with fail;clear c0 c1 c3 c1' c3';go_upto_region 6 with(go_at_call 9;refine C2.o.mono ?_;rintro e w2⟨rfl,b2⟩);have C3:=zH (aw_expr B d w2 (HO.o.below b2));have B12:=zH (b1.trans (b2.mono b1.size));have HV2:=zH (HV.o.below b2);have B2:=zH b2;clear b1 b2 C2 C1;go_upto_region 7 with(go_at_call 15;refine C3.o.mono ?_;rintro e w3⟨⟨tk,tn,tp,D,n',g,rfl⟩,b3⟩;obtain⟨w4,hw4⟩:∃w4,w3.alloc (.cells #[zI tk,S tn,zI tp,.slice D n' g] 46)=w4:=⟨_,rfl⟩);have b4:=zG hw4;have b24:=b3.trans (b4.mono b3.size);have B14:=zH (B12.o.trans (b24.mono B12.o.size));have HV4:=zH (HV2.o.below b24);have k4:=K1.o w4 (B2.o.trans (b24.mono B2.o.size));have c0:zc w4 b (o+22) (zI 1):=k4 0 _ rfl;have c1:zc w4 b (o+23) (zI 18):=k4 1 _ rfl;have c3:zc w4 b (o+25) (.slice s2.ty.1 1 s2.ty.2):=k4 3 _ rfl;have c1':zc w4 b (o+22+1) (zI 18):=k4 1 _ rfl;have c3':zc w4 b (o+22+3) (.slice s2.ty.1 1 s2.ty.2):=k4 3 _ rfl;obtain⟨tb,tq,k5,n5,p5,us,E,h,hA,hT,d0,d1,d2,d3,hTV⟩:=trees_head (its_tree HV4.o);rw[hA] at c3 c3';have CF:=zH (rFormatS_any awT (.two _ _ _ _ _ (.inr rfl) (.two _ _ _ _ _ (.inl rfl) (.two _ _ _ _ _ (.inl rfl) (.leaf1 _ _) (.leaf1 _ _)) (.leaf1 _ _)) (.leaf4 _ _)) (by rfl) _ 0 w4 (by decide) hTV);rw[aw_4] at CF;have CW:=zH (fun W (hb:zb w4 W)=>aw_wf (some ⟨b,o,none⟩) c s1 s2 W (HV4.o.below hb));have CM:=zH (fun W (hb:zb w4 W)=>aw_fmt (some ⟨b,o,none⟩) c s1 s2 W (HV4.o.below hb));have hpos:=aw_6;generalize formatP [awI1,awI2]=J at *;have hp1:decide ((J.length:Int)>0)=true:=Zt (by omega);have hp2:decide (0<J.length)=true:=Zt hpos;clear hTV k4 hA hT b3 b4 b24 C3;clear hw4;go_wp2_with (first
  |(go_at_call 16;refine CF.o.mono ?_;rintro e w5⟨rfl,b5⟩)
  |(go_at_call 26;refine(CW.o _ b5).mono ?_;rintro e w6⟨rfl,b6⟩;have b46:=b5.trans (b6.mono b5.size))
  |(go_at_call 10;refine(CM.o _ b46).mono ?_;rintro e w7⟨rfl,b7⟩;have b47:=b46.trans (b7.mono b46.size)))
 go_ret;exact⟨rfl,B14.o.trans (b47.mono B14.o.size)⟩
end
section
open Go.RowKit
theorem tapeAt_new{w wT:World}{vl:Value}{zl:List Int}(hl:IntsAt w vl zl)(hw:WordsAt w)(T:Nat)(hT:w.heap.size≤T)(hb:Below w.heap.size w wT)(ht:wT.heap[T]?=some (.cells #[vl,.int .i64 0] 50 (0,0))):TapeAt T wT:=by
 obtain⟨A,c,rfl,h1,h2⟩:=hl;obtain⟨b,o,cw,w1,w2,w3,w4⟩:=hw;refine⟨⟨A,zl.length,c,0,ht,Nat.zero_le _,h1,fun hp=>?_⟩,⟨b,o,cw,(hb.cell (p:=⟨_,0,none⟩) w3).trans w1,by omega,by omega,fun k hk=>(hb.cell (p:=⟨b,o+k,none⟩) w2).trans (w4 k hk)⟩⟩;obtain⟨b,o,hA,hlt,hc⟩:=h2 hp;exact⟨b,o,hA,by omega,fun k hk=>⟨_,(hb.cell (p:=⟨b,o+k,none⟩) hlt).trans (hc k hk)⟩⟩
end
section
open Go.RowKit _root_.Lfc
theorem items04_any(v0:Value)(z0:List Int)(w:World)(i0:IntsAt w v0 z0)(hw:WordsAt w) :
  Calls Tryz.prog 8 #[v0,.agg #[zI 0,zI 23,zI 0,zI 0]] w fun e w'=>(∃A c xs,e=.returned (.slice A xs.length c)/\xs.length<=6/\ItsV w' A xs/\(∀y∈xs,MadeI y.1)/\wfItems (xs.map Prod.fst)=0)/\zb w w':=by
 obtain⟨wT,hwT⟩:∃wT,(w.alloc (.cells #[zI 0,zI 23,zI 0,zI 0] 25)).alloc (.cells #[v0,zI 0] 50)=wT:=⟨_,rfl⟩;have bT:zb w wT:=by rw[<-hwT];exact((zB _ _).alloc (zN _) _).alloc (by simp) _
 have qB:zk wT w.heap.size #[zI 0,zI 23,zI 0,zI 0] 25:=by rw[<-hwT];exact heap_alloc_old _ _ _ _ (zW _ _)
 have qT:wT.heap[w.heap.size+1]?=some (.cells #[v0,zI 0] 50 (0,0)):=by
  rw[<-hwT];have:=zW (w.alloc (.cells #[zI 0,zI 23,zI 0,zI 0] 25)) (.cells #[v0,zI 0] 50);simpa using this
 have CI:=zH (mItems_any (w.heap.size+1) wT (tapeAt_new i0 hw (w.heap.size+1) (Nat.le_succ _) bT qT));have BT:=zH bT;have QB:=zH qB;obtain⟨A0,c0,rfl,_⟩:=i0;clear bT qT qB hw;go_enter Tryz.func8,Tryz.ntmps8;go_upto_region 2 with(go_at_call 25;(with_reducible refine CI.o.mono ?_);rintro e w3⟨A,c,xs,rfl,h6,hv,hm,hwf,o3⟩);have q3:=o3.heap QB.o (by omega);have z0:zc w3 w.heap.size 0 (zI 0):=zC q3 0;have z1:zc w3 w.heap.size 1 (zI 23):=zC q3 1;have HF:Hid ((∃A' c' ys,Ending.returned (.slice A xs.length c)=Ending.returned (Value.slice A' ys.length c')/\ys.length<=6/\ItsV w3 A' ys/\(∀y∈ys,MadeI y.1)/\wfItems (ys.map Prod.fst)=0)/\zb w w3):=zH ⟨⟨A,c,xs,rfl,h6,hv,hm,hwf⟩,Oth.below BT.o o3 (Nat.le_succ _) BT.o.size⟩;clear hwT hv hm hwf o3 q3 CI QB BT;obtain⟨n,hn⟩:∃n,xs.length=n:=⟨_,rfl⟩;rw[hn] at HF h6 ⊢;clear hn;rcases Nat.eq_zero_or_pos n with h0 | h0
 ·subst h0;go_wp2_with fail;go_ret;exact HF.o
 have hl0:((n:Int) == 0)=false:=by simp;omega
 have C0:=zH (cut_any 0 n w3 h0 (by omega));have C1:Hid (Calls Tryz.prog 23 #[zI 23,zI 24] w3 fun e w'=>e=.returned (zI 23)/\w'=w3):=zH (by
  have h:=cut_any 23 24 w3 (by omega) (by omega);rw[show cutI 23 24=23 by decide] at h;exact h)
 go_wp2_with (first | (go_at_call 23;(with_reducible refine C0.o.mono ?_);rintro e _⟨rfl,rfl⟩) | (go_at_call 23;(with_reducible refine C1.o.mono ?_);rintro e _⟨rfl,rfl⟩));go_ret;exact HF.o
theorem parseBack_any(xs:List (Itm × IS))(w:World)(h6:xs.length≤6)(hm:∀y∈xs,MadeI y.1)(hwf:wfItems (xs.map Prod.fst)=0) :
  Calls Tryz.prog 9 #[S (formatP (xs.map Prod.fst))] w fun e w'=>(∃ys A c B d n,ys.length=xs.length∧ys.map (fun y=>y.1.strip)=xs.map (fun y=>y.1.strip)∧(∀y∈ys,y.1.fit 100000)∧e=.returned (.tuple #[.slice A xs.length c,.slice B (opsOf (xs.map Prod.fst)).length d,.int .i64 0,.int .i64 n])∧ItsV w' A ys∧OpsAt w' B (opsOf (xs.map Prod.fst)))∧Below w.heap.size w w':=by
 have hm':∀x∈xs.map Prod.fst,MadeI x:=fun x hx=>by
  obtain⟨y,hy,rfl⟩:=List.mem_map.1 hx;exact hm y hy
 obtain⟨hl,a,hext,hst,hlex⟩:=made_back (xs.map Prod.fst) hm' (by simpa using h6) hwf;have h:=parse_any (formatP (xs.map Prod.fst)) w (by omega) (dirsOK_all (by rw[hlex]));rw[hext] at h;refine h.mono fun e w' he=>?_;obtain⟨⟨ys,A,c,B,d,h1,h2,h3,_,h5⟩,hb⟩:=he;have h1':a=ys.map Prod.fst:=h1;have hs:ys.map (fun y=>y.1.strip)=xs.map (fun y=>y.1.strip):=by
  rw[h1',List.map_map,List.map_map] at hst;exact hst
 have hlen:ys.length=xs.length:=by simpa using congrArg List.length hs
 refine⟨⟨ys,A,c,B,d,_,hlen,hs,fun y hy=>?_,by rw[h2,hlen],h3,h5⟩,hb⟩;obtain⟨x,hx,e⟩:=mem_map_eq hs hy;exact made_fit e.symm (hm x hx)
theorem parseBack_walk(v0:Value)(z0:List Int)(w:World)(i0:IntsAt w v0 z0)(hp:WordsAt w/\PowAt w/\4<=w.heap.size) :
  Calls Tryz.prog 3 #[v0] w fun e w'=>e=.returned (.bool true)/\zb w w':=by
 have C1:=zH (items04_any v0 z0 w i0 hp.1);have HP:=zH hp.2;clear i0 hp;go_enter Tryz.func3,Tryz.ntmps3;go_upto_region 2 with(go_at_call 8;(with_reducible refine C1.o.mono ?_);rintro e w1⟨⟨A,c,xs,rfl,h6,hv,hm,hwf⟩,b1⟩);have C2:=zH (format_made xs A c w1 h6 hv hm (HP.o.1.below b1 HP.o.2) (zR HP.o.2 b1.size));have C3:=zH (fun W=>parseBack_any xs W h6 hm hwf);have HV:=zH hv;have B1:=zH b1;obtain⟨s,hs⟩:∃s,formatP (xs.map Prod.fst)=s:=⟨_,rfl⟩;rw[hs] at C2 C3;clear hs hv hm hwf b1 HP C1;go_upto_region 3 with(first
  |(go_at_call 10;(with_reducible refine C2.o.mono ?_);rintro e w2⟨rfl,b2⟩)
  |(go_at_call 9;(with_reducible refine(C3.o _).mono ?_);rintro e w3⟨⟨ys,A3,c3,B3,d3,k3,hlen,hst,hfit,rfl,hv3,ho3⟩,b3⟩))
 have HV3:=zH ((HV.o.below b2).below b3);have CS:=zH (sItems_any ys xs xs.length hlen rfl hst hfit A3 A c3 c w3 (by omega) hv3 HV3.o);have HO:=zH ho3;have B3':=zH (B1.o.trans ((b2.trans (b3.mono b2.size)).mono B1.o.size));clear hv3 ho3 hlen hst hfit b2 b3 C2 C3 HV B1;have hop:(opsOf (xs.map Prod.fst)).length<=6:=zR (opsOf_len _) (by simpa using h6);go_upto_region 5 with(go_at_call 11;(with_reducible refine CS.o.mono ?_);rintro e w4⟨rfl,b4⟩);have HV4:=zH (HV3.o.below b4);have HO4:=zH (HO.o.below b4);have B4:=zH (B3'.o.trans (b4.mono B3'.o.size));clear b4 CS HO HV3 B3';go_wp2_with fail;go_loopw [8,9] (fun v8 v9 wr=>∃k:Nat,k<=xs.length/\v8=zI ((opsOf ((xs.map Prod.fst).take k)).length:Int)/\v9=zI (k:Int)/\Hid (zb w4 wr)) (fun _ i _=>xs.length-(intOf i).toNat);case atStart=>exact⟨0,Nat.zero_le _,rfl,rfl,zH (zB _ _)⟩
 obtain⟨k,hk,rfl,rfl,HB⟩:=hrel;by_cases hlt:k<xs.length
 ·have hi0:=zP k;have hi1:(k:Int)<(xs.length:Int):=by omega
  have hlt':k<(xs.map Prod.fst).length:=by simpa using hlt
  have hstep:=opsOf_step (xs.map Prod.fst) k hlt';have hat:=opsOf_at (xs.map Prod.fst) k hlt';have hle:=opsOf_le (xs.map Prod.fst) k;rw[List.getElem_map] at hstep hat;obtain⟨b,o,rfl,hb,hcs,hit⟩:=HV4.o (by intro e;rw[e] at hlt;simp at hlt);have I0:=(it_at hcs hlt).below HB.o hb;have x0:zc wr b (o+k*22) (zI xs[k].1.kind):=I0 0 _ rfl;have x5:zc wr b (o+k*22+5) (S xs[k].1.op.name):=I0 5 _ rfl;have x6:zc wr b (o+k*22+5+1) (zI xs[k].1.op.fix):=I0 6 _ rfl;have x7:zc wr b (o+k*22+5+2) (zI xs[k].1.op.prec):=I0 7 _ rfl;clear hcs hit I0;generalize hxk:xs[k].1=xk at *;clear hxk;by_cases h3:xk.kind=3
  ·rw[if_pos h3] at hstep;have hq:=hat h3;obtain⟨hn,hqe⟩:=List.getElem?_eq_some_iff.1 hq;obtain⟨b',o',rfl,hb',hcs'⟩:=HO4.o.2 (by intro e;rw[e] at hn;simp at hn);obtain⟨d0,d1,d2⟩:=hcs' _ hn;rw[hqe] at d0 d1 d2
   replace d0:=(HB.o.cell (p:=⟨b',_,none⟩) hb').trans d0
   replace d1:=(HB.o.cell (p:=⟨b',_,none⟩) hb').trans d1
   replace d2:=(HB.o.cell (p:=⟨b',_,none⟩) hb').trans d2
   have HST:=zH hstep;have hk0:(xk.kind == 3)=true:=(by simp[h3]);clear hat hq hqe hcs' hstep hle h3;generalize (opsOf ((xs.map Prod.fst).take k)).length=q at *;generalize (opsOf (xs.map Prod.fst)).length=qn at *;have hq0:=zP q;have hq1:(q:Int)<(qn:Int):=(by omega);have hq2:decide ((q:Int)≥(qn:Int))=false:=(by simp;omega);have hq3:decide ((qn:Int)<=(q:Int))=false:=(by simp;omega);have hq4:decide (qn<=q)=false:=(by simp;omega);obtain⟨xkd,xps,xnm,xty,xva,⟨on,ox,op⟩,xso,xpa,xbl,xfa,xsi,xod,xle,xri,xre,xct⟩:=xk;simp only at x0 x5 x6 x7 hk0 d0 d1 d2;have hqw:IntKind.i64.wrap ((q:Int)+1)=((q+1:Nat):Int):=(by rw[Zi _ (by omega)];omega);have HD:=zH HB.o.drew;go_upto_region 10 with fail;refine Zs 15 ?_;simp only[Zc,List.take_zero,List.drop_succ_cons,List.drop_zero];change wpStill Tryz.prog _ wr.drew _ _ _;repeat still_step
   try refine wpStill_nil ?_
   change wpList _ _ _ _ _ wr.drew;go_wp2_with fail;go_roundw;case rel=>exact⟨k+1,by omega,by rw[HST.o];go_num,by go_num,HD⟩
   case measure=>simp[intOf];omega
  rw[if_neg h3,Nat.add_zero] at hstep;have HST:=zH hstep;have hk0:(xk.kind == 3)=false:=by simpa using h3
  clear hat hle h3 hstep x5 x6 x7;generalize (opsOf ((xs.map Prod.fst).take k)).length=q at *;go_wp2_with fail;go_roundw;case rel=>exact⟨k+1,by omega,by rw[HST.o];rfl,by go_num,HB⟩
  case measure=>simp[intOf];omega
 have hkx:k=xs.length:=by omega
 subst hkx;have e:(xs.map Prod.fst).take xs.length=xs.map Prod.fst:=List.take_of_length_le (by simp);rw[e];have BW:=zH (B4.o.trans (HB.o.mono B4.o.size));generalize (opsOf (xs.map Prod.fst)).length=qn at *;go_wp2_with (go_at_call 12;refine(awake4_any _).mono ?_;rintro e w6⟨rfl,b6⟩);go_ret;exact⟨rfl,BW.o.trans (b6.mono BW.o.size)⟩
end
section
open Go.RowKit Go.Maps Go.WideMaps
def pWordsNameK:String:=Rows.parseBackRow.named.headD default
theorem pgWordsK:Tryz.prog.globalNamed pWordsNameK=some 0:=by kernel_rfl
theorem pgWordsTypeK:(Tryz.prog.globals[0]?).map (·.type)=some 36:=by kernel_rfl
theorem pWords_datumK{H:Type}:(Rows.laid_lfcheck_lfcheckmade_words:DataW H)=.slice (Lfc.words.map fun l=>.lit (.string l)) []:=rfl
theorem pgPow : Tryz.prog.globalNamed "internal/strconv.uint64pow10" = some 3 := by kernel_rfl
theorem pgPowType:(Tryz.prog.globals[3]?).map (·.type)=some 223:=by kernel_rfl
theorem pPowAt_of{W:World}(h:laidMetH Tryz.prog Rows.parseBackRow.laid W):PowAt W:=by
 rw[MakeChecks.laidMetH_plain _ _ _ (by kernel_rfl)] at h;exact Lib.tabIs_of_head pgPow pgPowType Tryz.underlying223 Tryz.underlying106 (by kernel_rfl) (by kernel_rfl) (laidMet.tail (laidMet.tail h))
theorem pBackAt_of{W:World}(h:laidMetH Tryz.prog Rows.parseBackRow.laid W):WordsAt W∧PowAt W∧4≤W.heap.size:=by
 have HP:=pPowAt_of h;rw[MakeChecks.laidMetH_plain _ _ _ (by kernel_rfl)] at h;obtain⟨ps,hv,_⟩:=h;obtain⟨_,_,_,_,_,_,_,_,_,_,hv,_⟩:=hv;obtain⟨_,_,_,_,_,_,_,_,_,_,hv,_⟩:=hv;obtain⟨_,_,_,_,_,_,_,_,_,_,hv,_⟩:=hv;obtain⟨g0,t0,cs0,f0,p0,q0,hg0,ht0,hv0,hd0,_⟩:=hv;obtain rfl:=zO (pgWordsK.symm.trans hg0);obtain rfl:=zO (pgWordsTypeK.symm.trans ht0);rw[pWords_datumK] at hd0;obtain⟨a,cap,hcs,hcap,hel⟩:=open_row Tryz.underlying36 (by kernel_rfl) hd0;obtain⟨b,o,spot⟩:=a;have each:∀k,k<13→W.cell? ((⟨b,o,spot⟩:Addr).add k)=some (S (Lfc.words.getD k [])):=by
  intro k hk;have hk':k<Lfc.words.length:=hk;obtain⟨v,n,q,hc,ht⟩:=hel k (.lit (.string Lfc.words[k])) (by rw[List.getElem?_map,Zg hk'];rfl);obtain⟨s,hs,hx,_⟩:=DataW.trod_string Tryz.underlying9 ht;simp only[List.cons.injEq,and_true] at hs;subst hs;simp only[Prod.mk.injEq,DataW.lit.injEq,Lit.string.injEq] at hx;rw[hc,List.getD_eq_getElem?_getD,Zg hk',Option.getD_some,hx.1]
 have hspot:spot=none:=by simpa[Addr.add] using World.cell?_spot (each 0 (by decide))
 subst hspot;have hcell:W.cell? ⟨0,0,none⟩=some (.slice (some ⟨b,o,none⟩) 13 cap):=by
  have:=World.var?_cell hg0 hv0 0;rw[Array.eq_one_of_toList hcs,List.length_map,show Lfc.words.length=13 from rfl] at this;simpa using this
 have each':∀k,k<13→W.cell? ⟨b,o+k,none⟩=some (S (Lfc.words.getD k [])):=fun k hk=>by
  rw[←Go.WideShapes.add_plain];exact each k hk
 exact⟨⟨b,o,cap,hcell,lt_of_cell (each' 0 (by decide)),lt_of_cell hcell,each'⟩,HP,lt_of_cell (HP.cell pgPow 0 (by decide))⟩
end
end Go.Proofs.YthajalgkjonaaaaGreatDoor
namespace Go.Proofs.YthajalgkjonaaaaGreatDoor.parseBack
open Go.ChangeShapes Go.WideShapes Go.ChangeAt Go.RowKit
theorem readable:∀t∈Tryz.f3.params.toList,Tryz.prog.readableRec t=true∧t<Tryz.prog.types.size:=by
 have h:(Tryz.f3.params.toList.all fun t=>Tryz.prog.readableRec t && decide (t<Tryz.prog.types.size))=true:=by kernel_rfl
 intro t ht;have:=List.all_eq_true.1 h t ht;simp only[Za,Zd] at this;exact this
theorem contract(H:Type)(enc:TypeId × Value→H)(W:World)(base:Nat)(args:Array Value)(ds gs:List (DataW H))(before:List MemPlace)
  (hval:∀(j:Nat) t v,Tryz.f3.params[j]?=some t→args[j]?=some v→Value.okWide Tryz.prog W .any base t v)
  (hW:DataW.Whole enc Tryz.prog Tryz.f3.params.toList Rows.parseBackSpec.vars false W args.toList ds gs before) (hL:laidMetH Tryz.prog Rows.parseBackRow.laid W) :
  Calls Tryz.prog 3 args W fun e W'=>∃v,e=.returned v∧Rows.parseBackSpec.post enc Tryz.prog Tryz.f3 false true false false W args v W':=by
 have hW':=hW;obtain⟨p,q,hA0,hV,rfl,hfz,hnd⟩:=hW;have hA:DataW.TrodAll enc Tryz.prog W 0 (fun _=>true) true Tryz.f3.params.toList args.toList ds p:=hA0;rw[Tryz.params3] at hA hval;obtain⟨v0,d0,rfl,rfl,h0⟩:=trodAll_one hA;obtain⟨rfl,rfl⟩:=trodVars_none hV;obtain⟨z0,i0⟩:=intsAt_of (hval 0 22 v0 rfl rfl) h0;clear hA0;refine(parseBack_walk v0 z0 W i0 (pBackAt_of hL)).mono fun e W' ⟨he,hb⟩=>?_;subst he;exact⟨_,rfl,law_post rfl ⟨rfl,rfl,rfl⟩ rfl readable hW' hb⟩
theorem laid_met(os:Os):laidMet Tryz.prog Rows.parseBackRow.laid ((World.doorLaid Tryz.prog 400 os).forCall (fun _ _=>0) ⟨#[],#[.slice none 0 0],[]⟩).memory :=
 laidMet_of_run' 8 (by kernel_rfl) (by kernel_rfl)
theorem reads(os:Os){H:Type}(enc:TypeId × Value→H):∃places,DataW.whole enc Tryz.prog ((World.doorLaid Tryz.prog 400 os).forCall (fun _ _=>0) ⟨#[],#[.slice none 0 0],[]⟩).memory Tryz.f3.params.toList Rows.parseBackSpec.vars false (#[.slice none 0 0]:Array Value).toList 8=some ([.nil],[],places) :=
 ⟨[],by kernel_rfl⟩
theorem lifted(os:Os)(started:os.Started)(H:Type)(enc:TypeId × Value→H)(F:Stop.Interp) :
  ReturnsInHanded {} Tryz.checked os 3 .any ((OpenSpec.ofChange Rows.parseBackSpec).preRow enc Tryz.prog Tryz.f3 Rows.parseBackRow.domain false Rows.parseBackRow.laid) (((OpenSpec.ofChange Rows.parseBackSpec).at F).post enc Tryz.prog Tryz.f3 false true false false):=by
 obtain⟨places,hx⟩:=reads os enc;refine returnsInHanded_of_row (C:=Tryz.checked) (s:=OpenSpec.ofChange Rows.parseBackSpec) own started (by kernel_rfl) Tryz.func3
  (witness_row_atRef (enc:=enc) (C:=Tryz.checked) false (World.doorLaid Tryz.prog 400 os) #[.slice none 0 0] rfl (by kernel_rfl) (by kernel_rfl) (by kernel_rfl)
   (OpenSpec.preRow_of_cond 8 hx (by kernel_rfl) (fun k hk=>by cases hk) (by kernel_rfl) (laid_met os))) ?_
 intro W base args ds gs before hval hW _ _ _ hL _ _;exact contract H enc W base args ds gs before hval hW hL
theorem said:Rows.ParseBackSaid :=
 OpenClaim.holds_of_cond 3 Tryz.f3 rfl rfl rfl rfl rfl rfl rfl ⟨rfl,rfl,rfl,rfl,rfl⟩ rfl rfl rfl rfl rfl (by kernel_rfl) Tryz.func3 (by kernel_rfl)
  (of_decide_eq_true (by kernel_rfl)) (by unfold Func.isWrapper;first | (rw[if_pos (by decide +kernel)];kernel_rfl) | (rw[if_neg (by decide +kernel)];exact⟨rfl,rfl⟩))
  (fun os started H enc _ F=>by rw[OpenClaim.pre_eq_preRow];exact lifted os started H enc F)
theorem plain(f:FuncId)(fn:Func)(hf:Tryz.pinned.checked.prog.funcNamed Rows.parseBackRow.func=some f)(hfn:Tryz.pinned.checked.prog.funcs[f]?=some fn) :
  true=Tryz.pinned.checked.prog.looks []∧∀(j:Nat) t,fn.params[j]?=some t→Tryz.pinned.checked.prog.wantsStandIn t=false:=by
 obtain rfl:f=3:=zO ((show Tryz.prog.funcNamed Rows.parseBackRow.func=some 3 by kernel_rfl).symm.trans hf) |>.symm;obtain rfl:fn=Tryz.f3:=(zO (Tryz.func3.symm.trans hfn)).symm;refine⟨by kernel_rfl,fun j t ht=>?_⟩;have hall:(Tryz.f3.params.toList.all fun u=>!Tryz.prog.wantsStandIn u)=true:=by kernel_rfl
 have hm:t∈Tryz.f3.params.toList:=by simpa using Array.mem_of_getElem? ht
 exact(show Tryz.prog.wantsStandIn t=false by simpa using List.all_eq_true.1 hall t hm)
theorem card:Rows.ParseBackCardSaid :=
 Claim7.holds_tied_plain_at .later [] _ _ _ _ said (fun _ h=>by cases h) (by kernel_rfl) (fun _ h=>by cases h) parseBack_row_tie rfl ⟨rfl,rfl⟩ (by kernel_rfl) rfl plain (by kernel_rfl)
end Go.Proofs.YthajalgkjonaaaaGreatDoor.parseBack
