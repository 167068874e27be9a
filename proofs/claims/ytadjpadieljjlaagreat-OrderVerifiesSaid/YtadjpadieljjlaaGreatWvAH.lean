/- Parts of the proof that no input makes the law false: TmSame, OrPrv, SmP, OcQ, OcMem, OcMap, OcOds, OcSr. -/
import Derived.Maps.OwnSet
import Derived.Maps.Views
import Derived.DeepKeys4
import Derived.WideKeyPair
import Derived.Test.YtadjpadieljjlaaGreatWvAG
set_option linter.unusedVariables false
set_option linter.unusedSimpArgs false
set_option maxRecDepth 100000
set_option maxHeartbeats 32000000
namespace Lfc
mutual
def Raw.tsm:Raw→Raw→Bool
 |.node k n p xs,.node k' n' p' xs'=>decide (k=k') && decide (p=p') && (decide (n=n') || decide (k=2) || decide (k=3)) && Raw.tsms xs xs'
def Raw.tsms:List Raw→List Raw→Bool
 |[],[]=>true
 |a :: r,a' :: r'=>Raw.tsm a a' && Raw.tsms r r'
 |_,_=>false
end
end Lfc
namespace Go.Proofs.YtadjpadieljjlaaGreat
open Go.RowKit _root_.Lfc
theorem tsms_spec:∀(ts us:List Raw),Raw.tsms ts us=true↔ts.length=us.length∧∀k(h:k<ts.length)(h':k<us.length),Raw.tsm ts[k] us[k]=true
 |[],[]=>by simp[Raw.tsms]
 |[],_ :: _=>by simp[Raw.tsms]
 |_ :: _,[]=>by simp[Raw.tsms]
 |a :: r,b :: q=>by
  rw[Raw.tsms,Za,tsms_spec r q];constructor
  ·rintro⟨h1,h2,h3⟩;refine⟨by simp[h2],fun k h h'=>?_⟩;cases k with
   |zero=>exact h1
   |succ k=>exact h3 k (by simpa using h) (by simpa using h')
  rintro⟨h1,h2⟩;exact⟨h2 0 (by simp) (by simp),by simpa using h1,fun k h h'=>h2 (k+1) (by simpa using h) (by simpa using h')⟩
theorem tsms_false(ts us:List Raw)(k:Nat)(h:k<ts.length)(h':k<us.length)(hf:Raw.tsm ts[k] us[k]=false):Raw.tsms ts us=false:=by
 cases hs:Raw.tsms ts us
 ·rfl
 rw[((tsms_spec ts us).1 hs).2 k h h'] at hf;cases hf
theorem tsms_len(ts us:List Raw)(h:ts.length≠us.length):Raw.tsms ts us=false:=by
 cases hs:Raw.tsms ts us
 ·rfl
 exact absurd ((tsms_spec ts us).1 hs).1 h
theorem enters_tsame:∀args w,(callFunc 167 args).run Tryz.prog w=.ok (.enter 167 args) w:=enters_of Tryz.func167 (by kernel_rfl) rfl
def TSameUpto(m:Nat):Prop:=∀(t u:Raw)(v v':Value)(w:World),t.size≤m→TreeV w t v→TreeV w u v' →
  Calls Tryz.prog 167 #[v,v'] w fun e w'=>e=.returned (.bool (Raw.tsm t u))∧Below w.heap.size w w'
theorem tEqualFunc_any(m:Nat)(ih:TSameUpto m)(ts us:List Raw)(A A':Option Addr)(c c':Nat)(w:World)(hm:Raw.sizes ts<=m)(hmax:ts.length<=1000000000)(h:TreesAt w A ts)(h':TreesAt w A' us) :
  Calls Tryz.prog 169 #[.slice A ts.length c,.slice A' us.length c',.func (.func 167) #[] #[]] w fun e w'=>e=.returned (.bool (Raw.tsms ts us))/\zb w w':=by
 have he:=enters_tsame;have IH:=zH ih;have HA:=zH h;have HA':=zH h';clear ih h h';by_cases hl:ts.length=us.length
 ·have hs:=tsms_spec ts us;have hf:=tsms_false ts us;have HS:=zH hs;have HF:=zH hf;have HL:=zH hl;generalize Raw.tsms ts us=res at *;rw[<-hl];clear hs hf hl;go_enter Tryz.func169,Tryz.ntmps169;go_wp2_with fail;go_loopw [17] (fun i wr=>∃k:Nat,k<=ts.length/\i=zI k/\zb w wr/\Hid (∀j(h:j<ts.length)(h':j<us.length),j<k->Raw.tsm ts[j] us[j]=true)) (fun i _=>ts.length-(intOf i).toNat);case atStart=>exact⟨0,by omega,rfl,zB _ _,zH fun j _ _ hj=>by omega⟩
  obtain⟨k,hk,rfl,hbw,hp⟩:=hrel;by_cases hlt:k<ts.length
  ·have hlt':k<us.length:=(by have:=HL.o;omega);obtain⟨b,o,k1,n1,p1,xs,B,c1,rfl,hb,ht,d0,d1,d2,d3,hcu,hB,hT⟩:=(HA.o.below hbw).at_ hlt;obtain⟨b',o',k2,n2,p2,ys,B',c2,rfl,hb',ht',e0,e1,e2,e3,hcu',hB',hT'⟩:=(HA'.o.below hbw).at_ hlt';have hmem:=Raw.sizes_mem ts ts[k] (Ze _);clear hB hB' ht ht';have b1:zb wr ((wr.alloc (.cells (zT k1 n1 p1 B xs c1) 51)).alloc (.cells (zT k2 n2 p2 B' ys c2) 51)):=((zB _ _).alloc (zN _) _).alloc (by simp) _;have hT2:=hT.below b1;have hT2':=hT'.below b1;cases hq:Raw.tsm ts[k] us[k]
   ·have hres:=HF.o k hlt hlt' hq;subst hres;have HQ:=zH hq;clear hq;go_wp2_with fail;refine(IH.o ts[k] us[k] _ _ _ (by omega) hT2 hT2').mono ?_;rintro e w1⟨rfl,hb1⟩;rw[HQ.o];go_wp2_with fail;go_ret;exact⟨rfl,hbw.trans ((b1.mono hbw.size).trans (hb1.mono (zR hbw.size b1.size)))⟩
   have HQ:=zH hq;clear hq;go_wp2_with fail;refine(IH.o ts[k] us[k] _ _ _ (by omega) hT2 hT2').mono ?_;rintro e w1⟨rfl,hb1⟩;rw[HQ.o];go_wp2_with fail;go_roundw;case rel =>
    refine⟨k+1,by omega,by go_num,hbw.trans ((b1.mono hbw.size).trans (hb1.mono (zR hbw.size b1.size))),zH fun j h h' hj=>?_⟩;rcases Nat.lt_or_ge j k with h1 | h1
    ·exact hp.o j h h' h1
    obtain rfl:j=k:=(by omega);exact HQ.o
   case measure=>simp[intOf];omega
  have hres:=HS.o.2 ⟨HL.o,fun j h h'=>hp.o j h h' (by omega)⟩;subst hres;go_wp2_with fail;go_ret;exact⟨rfl,hbw⟩
 rw[tsms_len ts us hl];have hne:((ts.length:Int) != (us.length:Int))=true:=by simp;omega
 clear hl;go_enter Tryz.func169,Tryz.ntmps169;go_wp2_with fail;go_ret;exact⟨rfl,zB _ _⟩
theorem tSame_upto(m:Nat)(hm:m<=1000000000):TSameUpto m:=by
 induction m with
 |zero=>intro t u v v' w h _ _;have:=t.size_pos;omega
 |succ m ih =>
  intro t u v v' w hsz hv hv';obtain⟨kd,nm,ps,ts⟩:=t;obtain⟨kd',nm',ps',us⟩:=u;obtain⟨A,c,rfl,hc,hA⟩:=hv.open_;obtain⟨A',c',rfl,hc',hA'⟩:=hv'.open_;simp only[Raw.size] at hsz;have hlen:=Raw.sizes_len ts;obtain⟨wa,hwa⟩:∃wa,w.alloc (.cells (zT kd nm ps A ts c) 51)=wa:=⟨_,rfl⟩;obtain⟨wb,hwb⟩:∃wb,wa.alloc (.cells (zT kd' nm' ps' A' us c') 51)=wb:=⟨_,rfl⟩;have b0:zb w wb:=by rw[<-hwb,<-hwa];exact((zB _ _).alloc (zN _) _).alloc (by simp) _
  have qa:=zQ hwa;have qb:=zQ hwb;have qab:zk wb w.heap.size (zT kd nm ps A ts c) 51:=by rw[<-hwb];exact(zA _ _ _ (zL qa)).trans qa
  have y0:=zC qab 0;have y1:=zC qab 1;have y2:=zC qab 2;have y3:=zC qab 3;have z0:=zC qb 0;have z1:=zC qb 1;have z2:=zC qb 2;have z3:=zC qb 3;simp at y0 y1 y2 y3 z0 z1 z2 z3;have HE:=zH (tEqualFunc_any m (ih (by omega)) ts us A A' c c' wb (by omega) (by omega) (hA.below b0) (hA'.below b0));have B0:=zH b0;have HSM:Hid (Raw.tsm (.node kd nm ps ts) (.node kd' nm' ps' us)=(decide (kd=kd') && decide (ps=ps') && (decide (nm=nm') || decide (kd=2) || decide (kd=3)) && Raw.tsms ts us)):=zH (by rw[Raw.tsm]);obtain⟨res,hres⟩:∃res,Raw.tsms ts us=res:=⟨_,rfl⟩;rw[hres] at HSM HE;have HYES:Hid ((kd=kd'/\ps=ps'/\(nm=nm'\/kd=2\/kd=3))->(decide (kd=kd') && decide (ps=ps') && (decide (nm=nm') || decide (kd=2) || decide (kd=3)) && res)=res):=zH (by rintro⟨h1,h2,h3 | h3 | h3⟩ <;> simp[h1,h2,h3] <;> simp_all);have HNO:Hid (¬(kd=kd'/\ps=ps'/\(nm=nm'\/kd=2\/kd=3))->(decide (kd=kd') && decide (ps=ps') && (decide (nm=nm') || decide (kd=2) || decide (kd=3)) && res)=false):=zH (by
   intro h;rw[Bool.and_eq_false_iff];left;rw[<-Bool.not_eq_true];intro h2;simp only[Za,Bool.or_eq_true,Zd] at h2;exact h ⟨h2.1.1,h2.1.2,by rcases h2.2 with(h3 | h3) | h3 <;> simp[h3]⟩)
  clear ih hA hA' hv hv' hres b0 qa qb qab;by_cases h1:kd=kd'
  ·have g1:(kd == kd')=true:=(by simp[h1]);have g1b:(kd != kd')=false:=(by simp[h1]);by_cases h2:ps=ps'
   ·have g2:(ps == ps')=true:=(by simp[h2]);have g2b:(ps != ps')=false:=(by simp[h2]);by_cases h3:nm=nm'
    ·have g3:(nm == nm')=true:=(by simp[h3]);have g3b:(nm != nm')=false:=(by simp[h3]);rw[HSM.o,HYES.o (by exact⟨h1,h2,.inl h3⟩)];clear HSM HYES HNO h1 h2 h3;go_enter Tryz.func167,Tryz.ntmps167;go_wp2_with fail;refine HE.o.mono ?_;rintro e w1⟨rfl,hb1⟩;go_wp2_with fail;go_ret;exact⟨rfl,B0.o.trans (hb1.mono B0.o.size)⟩
    have g3:(nm == nm')=false:=(by simp[h3]);have g3b:(nm != nm')=true:=(by simp[h3]);by_cases h4:kd=2
    ·have g4:(kd == 2)=true:=(by simp[h4]);have g4b:(kd != 2)=false:=(by simp[h4]);rw[HSM.o,HYES.o (by exact⟨h1,h2,.inr (.inl h4)⟩)];clear HSM HYES HNO h1 h2 h3 h4;go_enter Tryz.func167,Tryz.ntmps167;go_wp2_with fail;refine HE.o.mono ?_;rintro e w1⟨rfl,hb1⟩;go_wp2_with fail;go_ret;exact⟨rfl,B0.o.trans (hb1.mono B0.o.size)⟩
    have g4:(kd == 2)=false:=(by simp[h4]);have g4b:(kd != 2)=true:=(by simp[h4]);by_cases h5:kd=3
    ·have g5:(kd == 3)=true:=(by simp[h5]);have g5b:(kd != 3)=false:=(by simp[h5]);rw[HSM.o,HYES.o (by exact⟨h1,h2,.inr (.inr h5)⟩)];clear HSM HYES HNO h1 h2 h3 h4 h5;go_enter Tryz.func167,Tryz.ntmps167;go_wp2_with fail;refine HE.o.mono ?_;rintro e w1⟨rfl,hb1⟩;go_wp2_with fail;go_ret;exact⟨rfl,B0.o.trans (hb1.mono B0.o.size)⟩
    have g5:(kd == 3)=false:=(by simp[h5]);have g5b:(kd != 3)=true:=(by simp[h5]);rw[HSM.o,HNO.o (by rintro⟨_,_,h | h | h⟩;exact h3 h;exact h4 h;exact h5 h)];clear HSM HYES HNO HE h1 h2 h3 h4 h5;go_enter Tryz.func167,Tryz.ntmps167;go_wp2_with fail;go_ret;exact⟨rfl,B0.o⟩
   have g2:(ps == ps')=false:=(by simp[h2]);have g2b:(ps != ps')=true:=(by simp[h2]);rw[HSM.o,HNO.o (by exact fun h=>h2 h.2.1)];clear HSM HYES HNO HE h1 h2;go_enter Tryz.func167,Tryz.ntmps167;go_wp2_with fail;go_ret;exact⟨rfl,B0.o⟩
  have g1:(kd == kd')=false:=by simp[h1]
  have g1b:(kd != kd')=true:=by simp[h1]
  rw[HSM.o,HNO.o (by exact fun h=>h1 h.1)];clear HSM HYES HNO HE h1;go_enter Tryz.func167,Tryz.ntmps167;go_wp2_with fail;go_ret;exact⟨rfl,B0.o⟩
end Go.Proofs.YtadjpadieljjlaaGreat
namespace Lfc
theorem vld_arg{i n:Nat}(h:i<n):(Ord.node 1 (i:Int) []).vld (n:Int)=0:=by
 rw[Ord.vld,if_neg,if_neg]
 ·rw[Ord.rng];simp;omega
 rintro (h | h)
 ·rw[Ord.size,Ord.sizes] at h;omega
 rw[Ord.form] at h;simp at h
theorem shp_arg(i j:Int):Ord.shp (Ord.node 1 i []) (Ord.node 1 j [])=true:=by
 rw[Ord.shp];simp[Ord.shps]
mutual
theorem pth_len{ks:List Int}{t:Raw}:∀(s:Raw)(cr:Nat)(q:List Int),Raw.pth ks t s cr=some q→q.length≤s.size
 |.node k n p xs,cr,q,h=>by
  rw[Raw.pth] at h;split at h
  ·cases h;exact Nat.zero_le _
  split at h
  ·cases h
  have:=pths_len xs _ _ q h;rw[Raw.size];omega
theorem pths_len{ks:List Int}{t:Raw}:∀(xs:List Raw)(cr:Nat)(i:Int)(q:List Int),Raw.pths ks t xs cr i=some q→q.length≤Raw.sizes xs+1
 |[],_,_,q,h=>by rw[Raw.pths] at h;cases h
 |a :: r,cr,i,q,h=>by
  rw[Raw.pths] at h;rw[Raw.sizes];split at h
  ·rename_i q' hq';cases h;have:=pth_len a cr q' hq';simp;omega
  have:=pths_len r cr (i+1) q h;omega
end
theorem path_len{ks:List Int}{t u:Raw}{q:List Int}(h:Raw.path ks t u=some q):q.length≤u.size:=by
 rw[Raw.path] at h;split at h
 ·exact pth_len u 0 q h
 cases h
end Lfc
namespace Go.Proofs.YtadjpadieljjlaaGreat
open Go.RowKit Go.Maps _root_.Lfc
theorem ord_arg(w:World)(i:Int):OrdV w (.node 1 i []) (.agg #[.int .i64 1,.int .i64 i,.slice none 0 0]):=⟨_,_,_,rfl,by rw[OrdC];exact⟨rfl,rfl,none,0,rfl,zN _,fun h=>absurd rfl h⟩⟩
def PrvAns(w:World)(r:Option (List Link))(e:Ending)(w':World):Prop :=
 ((r=none∧e=.returned (.tuple #[.agg #[.int .i64 0,.slice none 0 0,.slice none 0 0,.slice none 0 0],.bool false]))∨(∃l A c B d,r=some l∧e=.returned (.tuple #[.agg #[.int .i64 0,.slice none 0 0,.slice A l.length c,.slice B 0 d],.bool true])∧l.length≤c∧LinksP (fun b=>w.heap.size≤b) w' A l))∧Below w.heap.size w w'
def Lfc.prv0(ks:List Int)(all:List Raw)(t u:Raw):Option (List Link):=if chkE all=0 then Lfc.chain0 ks t u 2 else none
theorem up_links(ks:List Int)(t u:Raw)(hu:u.size≤1000000)(hp:∀q,Raw.path ks t u=some q→q.length≤10000000):(Raw.up ks t u).2.length≤1∧∀x∈(Raw.up ks t u).2,x.term.size≤1000000∧x.path.length≤10000000:=by
 unfold Raw.up;cases hr:Raw.path ks t u with
 |none=>exact⟨Nat.zero_le _,fun x h=>by cases h⟩
 |some q =>
  cases q with
  |nil=>exact⟨Nat.zero_le _,fun x h=>by cases h⟩
  |cons i r =>
   refine⟨zN _,fun x h=>?_⟩;simp only[upOf,List.mem_singleton] at h;subst h;exact⟨hu,hp _ hr⟩
end Go.Proofs.YtadjpadieljjlaaGreat
namespace Lfc
mutual
theorem st_size(ks:List Int)(cr:Nat):∀(s t:Raw)(d:Int)(tv tv':List Int),Raw.st ks cr s t d tv=some tv'→s.size=t.size
 |.node k n p xs,.node k' n' p' ys,d,tv,tv',h=>by
  rw[Raw.st] at h;by_cases hc:k≠k'∨xs.length≠ys.length
  ·rw[if_pos hc] at h;cases h
  rw[if_neg hc] at h;have hl:xs.length=ys.length:=Classical.byContradiction fun e=>hc (.inr e);cases hs:stStep ks cr k n n' p p' d tv with
  |none=>rw[hs] at h;cases h
  |some tv1 =>
   rw[hs] at h;have:=sts_size ks cr xs ys _ tv1 tv' hl h;rw[Raw.size,Raw.size,this]
theorem sts_size(ks:List Int)(cr:Nat):∀(xs ys:List Raw)(d:Int)(tv tv':List Int),xs.length=ys.length→Raw.sts ks cr xs ys d tv=some tv'→Raw.sizes xs=Raw.sizes ys
 |[],[],_,_,_,_,_=>rfl
 |[],_ :: _,_,_,_,hl,_=>by simp at hl
 |_ :: _,[],_,_,_,hl,_=>by simp at hl
 |a :: r,b :: q,d,tv,tv',hl,h=>by
  rw[Raw.sts] at h;cases hs:Raw.st ks cr a b d tv with
  |none=>rw[hs] at h;cases h
  |some tv1 =>
   rw[hs] at h;have h1:=st_size ks cr a b d tv tv1 hs;have h2:=sts_size ks cr r q d tv1 tv' (by simpa using hl) h;rw[Raw.sizes,Raw.sizes,h1,h2]
end
mutual
theorem pth_size(ks:List Int)(t:Raw):∀(s:Raw)(cr:Nat)(q:List Int),Raw.pth ks t s cr=some q→(q=[]∧Raw.stands ks cr s t=true∧t.size=s.size)∨(q≠[]∧t.size<s.size)
 |.node k n p xs,cr,q,h=>by
  rw[Raw.pth] at h;by_cases hs:Raw.stands ks cr (.node k n p xs) t=true
  ·rw[if_pos hs] at h;cases h;refine .inl ⟨rfl,hs,?_⟩;have hs':=hs;rw[Raw.stands] at hs';obtain⟨tv',htv⟩:=Option.isSome_iff_exists.1 hs';exact(st_size ks cr _ _ _ _ _ htv).symm
  rw[if_neg hs] at h;by_cases hp:Raw.pas ks cr (.node k n p xs)=false
  ·rw[if_pos hp] at h;cases h
  rw[if_neg hp] at h;obtain⟨h1,h2⟩:=pths_size ks t xs _ 0 q h;exact .inr ⟨h1,by rw[Raw.size];omega⟩
theorem pths_size(ks:List Int)(t:Raw):∀(xs:List Raw)(cr:Nat)(i:Int)(q:List Int),Raw.pths ks t xs cr i=some q→q≠[]∧t.size≤Raw.sizes xs
 |[],_,_,_,h=>by rw[Raw.pths] at h;cases h
 |a :: r,cr,i,q,h=>by
  rw[Raw.pths] at h;cases hs:Raw.pth ks t a cr with
  |none =>
   rw[hs] at h;obtain⟨h1,h2⟩:=pths_size ks t r cr (i+1) q h;exact⟨h1,by rw[Raw.sizes];omega⟩
  |some q1 =>
   rw[hs] at h;cases h;refine⟨by simp,?_⟩;rw[Raw.sizes];rcases pth_size ks t a cr q1 hs with⟨_,_,h2⟩ | ⟨_,h2⟩ <;> omega
end
theorem path_less{ks:List Int}{x u:Raw}{q:List Int}(h:Raw.path ks x u=some q)(hq:q.length≠0):x.size<u.size:=by
 rw[Raw.path] at h;split at h
 ·rcases pth_size ks x u 0 q h with⟨h1,_⟩ | ⟨_,h2⟩
  ·exact absurd (by rw[h1];rfl) hq
  exact h2
 cases h
end Lfc
namespace Go.Proofs.YtadjpadieljjlaaGreat
end Go.Proofs.YtadjpadieljjlaaGreat
namespace Lfc
structure Fact where
  l:Raw
  rel:Int
  r:Raw
def noFact:Fact:=⟨.node 0 [] 0 [],0,.node 0 [] 0 []⟩
def sd(fs:List Fact)(i:Nat):Raw:=if i % 2=0 then(fs.getD (i / 2) noFact).l else(fs.getD (i / 2) noFact).r
def upS(ks:List Int)(t u:Raw):Int:=(Raw.up ks t u).1
def stp(ks:List Int)(fs:List Fact)(i j:Nat):Int :=
  if i / 2=j / 2∧i≠j then
    (if i % 2=0 then(if (fs.getD (i / 2) noFact).rel=1 then 2 else if upS ks (sd fs i) (sd fs j)=2 then 2 else 1)
     else if (fs.getD (i / 2) noFact).rel=3 then(if upS ks (sd fs i) (sd fs j)=2 then 2 else 1)
     else upS ks (sd fs i) (sd fs j))
  else upS ks (sd fs i) (sd fs j)
inductive Rch(ks:List Int)(fs:List Fact)(l:Raw):Nat→Int→Prop
  |start (i:Nat) (hi:i<2*fs.length) (h:0<upS ks l (sd fs i)):Rch ks fs l i (upS ks l (sd fs i))
  |step (i j:Nat) (s:Int) (h:Rch ks fs l i s) (hj:j<2*fs.length) (hne:j≠i) (hs:0<stp ks fs i j):Rch ks fs l j (max (stp ks fs i j) s)
def chn(ks:List Int)(fs:List Fact)(l r:Raw)(must:Int):Prop:=must≤upS ks l r∨∃i s,Rch ks fs l i s∧0<upS ks (sd fs i) r∧must≤max (upS ks (sd fs i) r) s
theorem Rch.lt{ks:List Int}{fs:List Fact}{l:Raw}{i:Nat}{s:Int}(h:Rch ks fs l i s):i<2*fs.length:=by
  cases h with
  |start _ hi _=>exact hi
  |step _ _ _ _ hj _ _=>exact hj
theorem chn_less{ks:List Int}{fs:List Fact}{l r:Raw}{m m':Int}(hm:m'≤m)(h:chn ks fs l r m):chn ks fs l r m':=by
  rcases h with h | ⟨i,s,h1,h2,h3⟩
  · exact .inl (by omega)
  exact .inr ⟨i,s,h1,h2,by omega⟩
theorem upS_two{ks:List Int}{t u:Raw}(h:2≤upS ks t u):t.size<u.size:=by
  rw[upS,Raw.up] at h;cases hp:Raw.path ks t u with
  |none=>rw[hp] at h;simp[upOf] at h
  |some q =>
    rw[hp] at h;by_cases hq:q.length=0
    · have:q=[]:=List.length_eq_zero_iff.1 hq
      subst this;simp[upOf] at h
    exact path_less hp hq
theorem upS_one{ks:List Int}{t u:Raw}(h:1≤upS ks t u):t.size≤u.size:=by
  rw[upS,Raw.up] at h;cases hp:Raw.path ks t u with
  |none=>rw[hp] at h;simp[upOf] at h
  |some q =>
    have hp':=hp;rw[Raw.path] at hp';split at hp'
    · rcases pth_size ks t u 0 q hp' with⟨_,_,h2⟩ | ⟨_,h2⟩ <;> omega
    cases hp'
theorem upS_range(ks:List Int)(t u:Raw):upS ks t u=0∨upS ks t u=1∨upS ks t u=2:=by
  rw[upS,Raw.up];cases Raw.path ks t u with
  |none=>exact .inl rfl
  |some q=>cases q with
    |nil=>exact .inr (.inl rfl)
    |cons i r=>exact .inr (.inr rfl)
theorem stp_range(ks:List Int)(fs:List Fact)(i j:Nat):stp ks fs i j=0∨stp ks fs i j=1∨stp ks fs i j=2:=by
  unfold stp;have:=upS_range ks (sd fs i) (sd fs j);repeat' split
  all_goals first | exact this | (right;right;rfl) | (right;left;rfl)
theorem Rch.range{ks:List Int}{fs:List Fact}{l:Raw}{i:Nat}{s:Int}(h:Rch ks fs l i s):s=1∨s=2:=by
  induction h with
  |start i hi h=>have:=upS_range ks l (sd fs i);omega
  |step i j s h hj hne hs ih=>have:=stp_range ks fs i j;omega
end Lfc
namespace Go.Proofs.YtadjpadieljjlaaGreat
section
open Go.RowKit Go.Maps _root_.Lfc
attribute [local go_sem ↓] Go.wp_at_zero Go.wp_at_succ
def FactO(q:Nat→Prop)(w:World)(b o:Nat)(f:Fact):Prop:=∃k n p ts A c k' n' p' ts' A' c',f.l=.node k n p ts∧f.r=.node k' n' p' ts' ∧
 (w.cell? ⟨b,o,none⟩=some (.int .i64 k)∧w.cell? ⟨b,o+1,none⟩=some (S n)∧w.cell? ⟨b,o+2,none⟩=some (.int .i64 p)∧w.cell? ⟨b,o+3,none⟩=some (.slice A (List.length ts) c)) ∧
 w.cell? ⟨b,o+4,none⟩=some (.int .i64 f.rel) ∧
 (w.cell? ⟨b,o+5,none⟩=some (.int .i64 k')∧w.cell? ⟨b,o+6,none⟩=some (S n')∧w.cell? ⟨b,o+7,none⟩=some (.int .i64 p')∧w.cell? ⟨b,o+8,none⟩=some (.slice A' (List.length ts') c')) ∧
 TreeVP q w f.l (.agg #[.int .i64 k,S n,.int .i64 p,.slice A (List.length ts) c])∧TreeVP q w f.r (.agg #[.int .i64 k',S n',.int .i64 p',.slice A' (List.length ts') c'])
theorem FactO.keep{q q':Nat→Prop}{w w':World}{b o:Nat}{f:Fact}(hk:∀b,q b→b<w.heap.size→w'.heap[b]?=w.heap[b]?)(hs:w.heap.size≤w'.heap.size)(hq:∀b,b<w.heap.size→q b→q' b)(hb:q b)(hlt:b<w.heap.size)(h:FactO q w b o f):FactO q' w' b o f:=by
 obtain⟨k,n,p,ts,A,c,k',n',p',ts',A',c',e1,e2,⟨c0,c1,c2,c3⟩,c4,⟨c5,c6,c7,c8⟩,v1,v2⟩:=h;have cc:∀j v,w.cell? ⟨b,j,none⟩=some v→w'.cell? ⟨b,j,none⟩=some v:=fun j v hv=>(cell_kept (o:=j) (hk b hb hlt)).trans hv;exact⟨k,n,p,ts,A,c,k',n',p',ts',A',c',e1,e2,⟨cc _ _ c0,cc _ _ c1,cc _ _ c2,cc _ _ c3⟩,cc _ _ c4,⟨cc _ _ c5,cc _ _ c6,cc _ _ c7,cc _ _ c8⟩,v1.keep hk hs hq,v2.keep hk hs hq⟩
def FactsP(q:Nat→Prop)(w:World)(F:Option Addr)(fs:List Fact):Prop:=fs≠[]→∃b o,F=some ⟨b,o,none⟩∧b<w.heap.size∧q b∧∀i(h:i<fs.length),FactO q w b (o+i*9) fs[i]
theorem FactsP.keep{q q':Nat→Prop}{w w':World}{F:Option Addr}{fs:List Fact}(hk:∀b,q b→b<w.heap.size→w'.heap[b]?=w.heap[b]?)(hs:w.heap.size≤w'.heap.size)(hq:∀b,b<w.heap.size→q b→q' b)(h:FactsP q w F fs):FactsP q' w' F fs:=fun hne=>by
 obtain⟨b,o,hF,hlt,hb,hf⟩:=h hne;exact⟨b,o,hF,Zl hlt hs,hq b hlt hb,fun i hi=>(hf i hi).keep hk hs hq hb hlt⟩
theorem FactsP.below{q:Nat→Prop}{w w':World}{F:Option Addr}{fs:List Fact}(h:FactsP q w F fs)(hb:Below w.heap.size w w'):FactsP q w' F fs:=h.keep (fun b _ hlt=>hb.block b hlt) hb.size (fun _ _ h=>h)
def SideAns(q:Nat→Prop)(w:World)(t:Raw)(e:Ending)(w':World):Prop:=(∃v,e=.returned v∧TreeVP q w' t v)∧Below w.heap.size w w'
theorem side_fin{q:Nat→Prop}{w w1:World}{k p:Int}{n:List UInt8}{ts:List Raw}{A:Option Addr}{c:Nat}{t:Raw}(b1:Below w.heap.size w w1)(q1:w1.heap[w.heap.size]?=some (.cells #[.int .i64 0,S [],.int .i64 0,.slice none 0 0] 51 (0,0)))(ht:t=.node k n p ts)(hv:TreeVP q w t (.agg #[.int .i64 k,S n,.int .i64 p,.slice A ts.length c])) :
  ∃s1 s2 s3 s4,w1.setCell ⟨w.heap.size,0,none⟩ (.int .i64 k)=s1∧s1.setCell ⟨w.heap.size,1,none⟩ (S n)=s2∧s2.setCell ⟨w.heap.size,2,none⟩ (.int .i64 p)=s3∧s3.setCell ⟨w.heap.size,3,none⟩ (.slice A ts.length c)=s4 ∧
   (w1.cell? ⟨w.heap.size,0,none⟩=some (.int .i64 0)∧s1.cell? ⟨w.heap.size,1,none⟩=some (S [])∧s2.cell? ⟨w.heap.size,2,none⟩=some (.int .i64 0)∧s3.cell? ⟨w.heap.size,3,none⟩=some (.slice none 0 0)) ∧
   (w1.frozen? ⟨w.heap.size,0,none⟩=false∧s1.frozen? ⟨w.heap.size,1,none⟩=false∧s2.frozen? ⟨w.heap.size,2,none⟩=false∧s3.frozen? ⟨w.heap.size,3,none⟩=false) ∧
   Hid (s4.heap[w.heap.size]?=some (.cells #[.int .i64 k,S n,.int .i64 p,.slice A ts.length c] 51 (0,0)))∧Hid (SideAns q w t (.returned (.agg #[.int .i64 k,S n,.int .i64 p,.slice A ts.length c])) s4):=by
 obtain⟨s1,s2,s3,s4,g1,g2,g3,g4,hy,hf,hq4,hot⟩:=tput4 q1 (.int .i64 k) (S n) (.int .i64 p) (.slice A ts.length c);have hb:Below w.heap.size w s4:=Oth.below b1 hot (zN _) b1.size;exact⟨s1,s2,s3,s4,g1,g2,g3,g4,hy,hf,zH hq4,zH ⟨⟨_,rfl,hv.keep (fun b _ hlt=>hb.block b hlt) hb.size (fun _ _ h=>h)⟩,hb⟩⟩
theorem oSide_any(q:Nat->Prop)(Bx i:Nat)(fs:List Fact)(F:Option Addr)(f0:Nat)(w:World)(hn:fs.length<=1000000)(hi:i<2*fs.length)(hF:FactsP q w F fs)(hx:zc w Bx 0 (.slice F fs.length f0))(hB:Bx<w.heap.size) :
  Calls Tryz.prog 150 #[.pointer (some ⟨Bx,0,none⟩),zI (i:Int)] w (SideAns q w (sd fs i)):=by
 obtain⟨a,ha⟩:∃a,i / 2=a:=⟨_,rfl⟩;have hal:a<fs.length:=by omega
 obtain⟨b,o,rfl,hlt,hqb,hf⟩:=hF (by intro h;rw[h] at hal;simp at hal);obtain⟨k,n,p,ts,A,c,k',n',p',ts',A',c',e1,e2,⟨c0,c1,c2,c3⟩,c4,⟨c5,c6,c7,c8⟩,v1,v2⟩:=hf a hal;have hg:fs.getD a noFact=fs[a]:=by simp[List.getD,hal]
 have hdiv:(i:Int).tdiv 2=(a:Int):=by rw[Int.tdiv_eq_ediv_of_nonneg (by omega)];omega
 have hwr:IntKind.i64.wrap (a:Int)=(a:Int):=Zi _ (by omega);have ha0:(0:Int)<=(a:Int):=by omega
 have ha1:(a:Int)<(fs.length:Int):=by omega
 obtain⟨w1,hw1⟩:∃w1,w.alloc (.cells #[zI 0,S [],zI 0,zS] 51)=w1:=⟨_,rfl⟩;have b1:=zG hw1;have q1:=zQ hw1;have hx1:=(b1.cell (p:=⟨Bx,0,none⟩) hB).trans hx;have cc:∀j v,zc w b j v->zc w1 b j v:=fun j v hv=>(b1.cell (p:=⟨b,j,none⟩) hlt).trans hv;by_cases hr:i % 2=0
 ·have hmod:(i:Int).tmod 2=0:=by rw[Int.tmod_eq_emod_of_nonneg (by omega)];omega
  have hsd:sd fs i=fs[a].l:=by rw[sd,if_pos hr,ha,hg]
  rw[hsd];obtain⟨s1,s2,s3,s4,g1,g2,g3,g4,⟨y0,y1,y2,y3⟩,⟨f0',f1,f2,f3⟩,HQ,HZ⟩:=side_fin b1 q1 e1 v1;have d0:=cc _ _ c0;have d1:=cc _ _ c1;have d2:=cc _ _ c2;have d3:=cc _ _ c3;clear cc c0 c1 c2 c3 c4 c5 c6 c7 c8 v1 v2 hf hF hx b1 q1 hsd hg ha hr;go_enter Tryz.func150,Tryz.ntmps150;go_wp2_with fail;refine Zb (results_term rfl _ _ _ _ _ _ _ rfl HQ.o) ?_;exact HZ.o
 have hmod:(i:Int).tmod 2=1:=by rw[Int.tmod_eq_emod_of_nonneg (by omega)];omega
 have hsd:sd fs i=fs[a].r:=by rw[sd,if_neg hr,ha,hg]
 rw[hsd];obtain⟨s1,s2,s3,s4,g1,g2,g3,g4,⟨y0,y1,y2,y3⟩,⟨f0',f1,f2,f3⟩,HQ,HZ⟩:=side_fin b1 q1 e2 v2;have d5:=cc _ _ c5;have d6:=cc _ _ c6;have d7:=cc _ _ c7;have d8:=cc _ _ c8;clear cc c0 c1 c2 c3 c4 c5 c6 c7 c8 v1 v2 hf hF hx b1 q1 hsd hg ha hr;go_enter Tryz.func150,Tryz.ntmps150;go_wp2_with fail;refine Zb (results_term rfl _ _ _ _ _ _ _ rfl HQ.o) ?_;exact HZ.o
end
section
open Go.RowKit Go.Maps Go.WideMaps _root_.Lfc
def heldE(v:Value):Option (DataW Value × List MemPlace):=some (.held v,[])
def eZero:Value:=.agg #[.int .i64 0,.slice none 0 0]
def ekl(i j:Nat):Lit:=.string (keyBytes [.int .i64 (i:Int),.int .i64 (j:Int)])
theorem eArr:ArrKey Tryz.prog 180 3 2:=⟨Tryz.underlying180,by kernel_rfl,by kernel_rfl,by kernel_rfl⟩
theorem eKeyed:Keyed Tryz.prog 180:=Keyed.of_law (deep_law_laid (by kernel_rfl) (m:=2) (by omega) (of_decide_eq_true (by kernel_rfl)) (by kernel_rfl) (by rw[Tryz.underlying180]))
theorem int_wf(i:Nat)(h:i≤1000000):(Lit.int .i64 (i:Int)).wf=true:=by
 have h1:IntKind.i64.min=-9223372036854775808:=by decide
 have h2:IntKind.i64.max=9223372036854775807:=by decide
 simp[Lit.wf,h1,h2];omega
theorem ekey(i j:Nat)(hi:i≤1000000)(hj:j≤1000000):keyOf Tryz.prog 180 (.agg #[.int .i64 (i:Int),.int .i64 (j:Int)])=some (ekl i j) :=
 keyOf_pair eArr Tryz.underlying3 ⟨Tryz.prog.types.size-1,by kernel_rfl⟩ (int_wf i hi) (int_wf j hj)
theorem ekl_inj{i j i' j':Nat}(hi:i≤1000000)(hj:j≤1000000)(hi':i'≤1000000)(hj':j'≤1000000)(h:ekl i j=ekl i' j'):i=i'∧j=j':=by
 have h1:=ekey i j hi hj;have h2:=ekey i' j' hi' hj';rw[←h] at h2;have:=eKeyed.inj h1 h2;simp at this;omega
theorem countP_drop{α:Type}{p p':α→Bool}{x:α}(hx:p x=true)(hx':p' x=false)(h:∀y,p' y=true→p y=true):∀l:List α,x∈l→l.countP p'+1≤l.countP p
 |[],hm=>by simp at hm
 |y :: l,hm=>by
  have hle:l.countP p'≤l.countP p:=List.countP_mono_left (fun z _ hz=>h z hz);rw[List.countP_cons,List.countP_cons];rcases List.mem_cons.1 hm with rfl | hm
  ·rw[if_pos hx,if_neg (by simp[hx'])];omega
  have:=countP_drop hx hx' h l hm;by_cases hy:p' y=true
  ·rw[if_pos hy,if_pos (h y hy)];omega
  rw[if_neg hy];split <;> omega
def grid(n:Nat):List (Nat × Nat):=(List.range n).flatMap fun i=>(List.range n).map fun j=>(i,j)
theorem grid_mem{n i j:Nat}(hi:i<n)(hj:j<n):(i,j)∈grid n:=by simp[grid,hi,hj]
def EMap(w:World)(Mb n:Nat)(G:Nat→Nat→Value→Prop):Prop:=∃(D:DataW Value)(N0:Nat),w.ownsMap Tryz.prog 180 heldE Mb N0 D∧N0+(grid n).countP (fun k=>!Maps.has D (ekl k.1 k.2))≤(grid n).length ∧
 ∀i j,i<n→j<n→(Maps.has D (ekl i j)=false∧∀z,D.atKey (ekl i j) z=z)∨(Maps.has D (ekl i j)=true∧∃v,G i j v∧∀z,D.atKey (ekl i j) z=.held v)
theorem EMap.mono{w:World}{Mb n:Nat}{G G':Nat→Nat→Value→Prop}(h:EMap w Mb n G)(hg:∀i j v,G i j v→G' i j v):EMap w Mb n G':=by
 obtain⟨D,N0,hown,hN,hD⟩:=h;refine⟨D,N0,hown,hN,fun i j hi hj=>(hD i j hi hj).imp id ?_⟩;rintro⟨h1,v,h2,h3⟩;exact⟨h1,v,hg _ _ _ h2,h3⟩
theorem EMap.lt{w:World}{Mb n:Nat}{G:Nat→Nat→Value→Prop}(h:EMap w Mb n G):Mb<w.heap.size:=by
 obtain⟨D,N0,hown,_⟩:=h;exact hown.lt
theorem EMap.kept{w w':World}{Mb n:Nat}{G:Nat→Nat→Value→Prop}{row:Option Nat}(h:EMap w Mb n G)(hg:w.grownBy w' row)(hne:some Mb≠row):EMap w' Mb n G:=by
 obtain⟨D,N0,hown,hN,hD⟩:=h;exact⟨D,N0,hown.kept hg hne,hN,hD⟩
theorem EMap.made(w:World)(n:Nat)(G:Nat→Nat→Value→Prop):EMap (w.alloc (.map #[] 0)) w.heap.size n G :=
 ⟨.map [],0,World.ownsMap_made _ _ _ _,by rw[Nat.zero_add];exact List.countP_le_length,fun i j _ _=>.inl ⟨rfl,fun _=>rfl⟩⟩
theorem eZeroV(w:World):(zeroValue 183).run Tryz.prog w=.ok eZero w:=by kernel_rfl
theorem EMap.looks{w:World}{Mb n:Nat}{G:Nat→Nat→Value→Prop}(h:EMap w Mb n G){i j:Nat}(hi:i<n)(hj:j<n)(hn:n≤1000000) :
  ∃v b,(∀W,Below w.heap.size w W→(Instr.lookup 83 (.map (some Mb)) (.agg #[.int .i64 (i:Int),.int .i64 (j:Int)]) true).run Tryz.prog W=.ok (.tuple #[v,.bool b]) W)∧((b=false∧v=eZero)∨(b=true∧G i j v)):=by
 obtain⟨D,N0,hown,hN,hD⟩:=h;have hrun:∀W,Below w.heap.size w W→∃v ps,(Instr.lookup 83 (.map (some Mb)) (.agg #[.int .i64 (i:Int),.int .i64 (j:Int)]) true).run Tryz.prog W=.ok (.tuple #[v,.bool (Maps.has D (ekl i j))]) W∧heldE v=some (D.atKey (ekl i j) (.held eZero),ps):=fun W hb =>
  (hown.kept (row:=none) ⟨hb.os,hb.tape,hb.output,hb.size,fun k hk _=>hb.block k hk⟩ (by intro e;cases e)).look_ok eKeyed Tryz.underlying83 (eZeroV W) (show heldE eZero=some (.held eZero,[]) from rfl) (ekey i j (by omega) (by omega))
 rcases hD i j hi hj with⟨h1,h2⟩ | ⟨h1,u,h2,h3⟩
 ·refine⟨eZero,false,fun W hb=>?_,.inl ⟨rfl,rfl⟩⟩;obtain⟨v,ps,hr,hv⟩:=hrun W hb;rw[h2,heldE] at hv;simp only[Option.some.injEq,Prod.mk.injEq,DataW.held.injEq] at hv;rw[h1,hv.1] at hr;exact hr
 refine⟨u,true,fun W hb=>?_,.inr ⟨rfl,h2⟩⟩;obtain⟨v,ps,hr,hv⟩:=hrun W hb;rw[h3,heldE] at hv;simp only[Option.some.injEq,Prod.mk.injEq,DataW.held.injEq] at hv;rw[h1,hv.1] at hr;exact hr
theorem grid_len(n:Nat)(hn:n≤1000):(grid n).length≤1000000:=by
 have h:(grid n).length=n*n:=by simp[grid,List.length_flatMap,List.map_const',List.sum_replicate_nat]
 rw[h];exact Nat.mul_le_mul hn hn
theorem EMap.put{w:World}{Mb n:Nat}{G:World→Nat→Nat→Value→Prop}(h:EMap w Mb n (G w)){i j:Nat}(hi:i<n)(hj:j<n)(hn:n≤1000)(v:Value)(hlook:∃z,(Instr.lookup 83 (.map (some Mb)) (.agg #[.int .i64 (i:Int),.int .i64 (j:Int)]) true).run Tryz.prog w=.ok (.tuple #[z,.bool false]) w)
  (hG:∀w',Oth Mb w w'→∀x y u,G w x y u→G w' x y u) (hv:∀w',Oth Mb w w'→G w' i j v) :
  ∃w',(Instr.mapUpdate 83 (.map (some Mb)) (.agg #[.int .i64 (i:Int),.int .i64 (j:Int)]) v).run Tryz.prog w=.ok () w'∧EMap w' Mb n (G w')∧Oth Mb w w':=by
 obtain⟨D,N0,hown,hN,hD⟩:=h;have hgl:=grid_len n hn;obtain⟨w',hrun,hown',hturn⟩:=hown.store eKeyed Tryz.underlying83 (by unfold maxLen;omega) (ekey i j (by omega) (by omega)) (show heldE v=some (.held v,[]) from rfl);have ho:Oth Mb w w':=hturn.grown;have habs:Maps.has D (ekl i j)=false:=by
  obtain⟨z,hz⟩:=hlook;obtain⟨v2,ps,hrun2,_⟩:=hown.look_ok eKeyed Tryz.underlying83 (eZeroV w) (show heldE eZero=some (.held eZero,[]) from rfl) (ekey i j (by omega) (by omega));rw[hrun2] at hz;simp at hz;exact hz.2
 refine⟨w',hrun,⟨_,_,hown',?_,fun x y hx hy=>?_⟩,ho⟩
 ·have hc:=countP_drop (p:=fun k:Nat × Nat=>!Maps.has D (ekl k.1 k.2)) (p':=fun k:Nat × Nat=>!Maps.has (D.put (ekl i j) (.held v)) (ekl k.1 k.2)) (x:=(i,j)) (by simp[habs]) (by
   rw[has_put_same hown.isMap (by simp[ekl,WideAt.IsKeyLit])];rfl) (fun y hy=>by
   cases hh:Maps.has D (ekl y.1 y.2) with
   |false=>rfl
   |true =>
    exfalso;by_cases e:ekl y.1 y.2=ekl i j
    ·rw[e,has_put_same hown.isMap (by simp[ekl,WideAt.IsKeyLit])] at hy;cases hy
    rw[has_put_other e,hh] at hy;cases hy) (grid n) (grid_mem hi hj)
  omega
 by_cases e:x=i∧y=j
 ·obtain⟨rfl,rfl⟩:=e;refine .inr ⟨has_put_same hown.isMap (by simp[ekl,WideAt.IsKeyLit]) _,v,hv w' ho,fun z=>atKey_put_same hown.isMap (by simp[ekl,WideAt.IsKeyLit]) _ _⟩
 have e':ekl x y≠ekl i j:=fun h=>e (ekl_inj (by omega) (by omega) (by omega) (by omega) h);rw[has_put_other e'];rcases hD x y hx hy with⟨h1,h2⟩ | ⟨h1,u,h2,h3⟩
 ·exact .inl ⟨h1,fun z=>by rw[atKey_put_other e'];exact h2 z⟩
 exact .inr ⟨h1,u,hG w' ho _ _ _ h2,fun z=>by rw[atKey_put_other e'];exact h3 z⟩
def LkO(q:Nat→Prop)(w:World)(A:Option Addr)(n c:Nat):Prop:=n≤c∧∃l:List Link,l.length=n∧LinksP q w A l∧∀x∈l,x.term.size≤1000∧x.path.length≤1000
theorem LkO.keep{q q':Nat→Prop}{w w':World}{A:Option Addr}{n c:Nat}(hk:∀b,q b→b<w.heap.size→w'.heap[b]?=w.heap[b]?)(hs:w.heap.size≤w'.heap.size)(hq:∀b,b<w.heap.size→q b→q' b)(h:LkO q w A n c):LkO q' w' A n c:=by
 obtain⟨hc,l,hl,h1,h2⟩:=h;exact⟨hc,l,hl,h1.keep hk hs hq,h2⟩
theorem LkO.nil{q:Nat→Prop}{w:World}{A:Option Addr}{c:Nat}:LkO q w A 0 c:=⟨Nat.zero_le _,[],rfl,LinksP.nil,fun x h=>by cases h⟩
def EdV(q:Nat→Prop)(w:World)(s:Int)(v:Value):Prop:=∃A n c,v=.agg #[.int .i64 s,.slice A n c]∧n≤1∧LkO q w A n c
theorem EdV.keep{q q':Nat→Prop}{w w':World}{s:Int}{v:Value}(hk:∀b,q b→b<w.heap.size→w'.heap[b]?=w.heap[b]?)(hs:w.heap.size≤w'.heap.size)(hq:∀b,b<w.heap.size→q b→q' b)(h:EdV q w s v):EdV q' w' s v:=by
 obtain⟨A,n,c,e,h1,h2⟩:=h;exact⟨A,n,c,e,h1,h2.keep hk hs hq⟩
theorem up_linksN(N:Nat)(ks:List Int)(t u:Raw)(hu:u.size≤N)(hp:∀q,Raw.path ks t u=some q→q.length≤N):(Raw.up ks t u).2.length≤1∧∀x∈(Raw.up ks t u).2,x.term.size≤N∧x.path.length≤N:=by
 unfold Raw.up;cases hr:Raw.path ks t u with
 |none=>exact⟨Nat.zero_le _,fun x h=>by cases h⟩
 |some q =>
  cases q with
  |nil=>exact⟨Nat.zero_le _,fun x h=>by cases h⟩
  |cons i r =>
   refine⟨zN _,fun x h=>?_⟩;simp only[upOf,List.mem_singleton] at h;subst h;exact⟨hu,hp _ hr⟩
theorem edV_of_up{q:Nat→Prop}{ks:List Int}{t u:Raw}{w:World}{e:Ending}{w':World}(hu:u.size≤1000)(h:EdgeAns w (Raw.up ks t u) e w')(hq:∀b,w.heap.size≤b→q b):∃v,e=.returned v∧EdV q w' (upS ks t u) v∧Below w.heap.size w w':=by
 obtain⟨⟨A,c,rfl,hc,hl⟩,hb⟩:=h;obtain⟨h1,h2⟩:=up_linksN 1000 ks t u hu (fun q h=>zR (path_len h) (by omega));exact⟨_,rfl,⟨A,_,c,rfl,h1,hc,_,rfl,hl.keep (fun _ _ _=>rfl) (zN _) (fun b _ hb=>hq b hb),h2⟩,hb⟩
def Cache(ks:List Int)(fs:List Fact)(Mb:Nat)(q:Nat→Prop)(w:World):Prop:=EMap w Mb (2*fs.length) (fun i j v=>EdV q w (upS ks (sd fs i) (sd fs j)) v)
theorem Cache.keep{ks:List Int}{fs:List Fact}{Mb:Nat}{q q':Nat→Prop}{w w':World}{row:Option Nat}(hg:w.grownBy w' row)(hne:some Mb≠row)(hk:∀b,q b→b<w.heap.size→some b≠row)(hq:∀b,b<w.heap.size→q b→q' b)(h:Cache ks fs Mb q w):Cache ks fs Mb q' w' :=
 (h.kept hg hne).mono (fun i j v he=>he.keep (fun b hb hlt=>hg.block b hlt (hk b hb hlt)) hg.size hq)
theorem Cache.put{ks:List Int}{fs:List Fact}{Mb:Nat}{q:Nat→Prop}{w:World}(h:Cache ks fs Mb q w)(hqM:∀b,q b→b≠Mb){i j:Nat}(hi:i<2*fs.length)(hj:j<2*fs.length)(hn:2*fs.length≤1000){v:Value}(hv:EdV q w (upS ks (sd fs i) (sd fs j)) v)
  (hlook:∃z,(Instr.lookup 83 (.map (some Mb)) (.agg #[.int .i64 (i:Int),.int .i64 (j:Int)]) true).run Tryz.prog w=.ok (.tuple #[z,.bool false]) w) :
  ∃w',(Instr.mapUpdate 83 (.map (some Mb)) (.agg #[.int .i64 (i:Int),.int .i64 (j:Int)]) v).run Tryz.prog w=.ok () w'∧Cache ks fs Mb q w'∧Oth Mb w w' :=
 EMap.put (G:=fun W i j v=>EdV q W (upS ks (sd fs i) (sd fs j)) v) h hi hj hn v hlook (fun w' ho x y u hu=>hu.keep (fun b hb hlt=>ho.block b hlt (fun e=>hqM b hb (zO e))) ho.size (fun _ _ h=>h)) (fun w' ho=>hv.keep (fun b hb hlt=>ho.block b hlt (fun e=>hqM b hb (zO e))) ho.size (fun _ _ h=>h))
theorem Cache.below{ks:List Int}{fs:List Fact}{Mb:Nat}{q:Nat→Prop}{w w':World}(h:Cache ks fs Mb q w)(hb:Below w.heap.size w w'):Cache ks fs Mb q w' :=
 h.keep (row:=none) ⟨hb.os,hb.tape,hb.output,hb.size,fun k hk _=>hb.block k hk⟩ (fun e=>by cases e) (fun _ _ _ e=>by cases e) (fun _ _ h=>h)
structure PvO(w:World)(Bx Mb:Nat)(F A0 L R:Option Addr)(f0 c0 cl cr:Nat)(fs:List Fact)(ks:List Int)(ts us:List Raw):Prop where
 lt:Bx<w.heap.size
 ne:Bx≠Mb
 facts:w.cell? ⟨Bx,0,none⟩=some (.slice F fs.length f0)
 kinds:w.cell? ⟨Bx,1,none⟩=some (.slice A0 ks.length c0)
 left:w.cell? ⟨Bx,2,none⟩=some (.slice L ts.length cl)
 right:w.cell? ⟨Bx,3,none⟩=some (.slice R us.length cr)
 cache:w.cell? ⟨Bx,4,none⟩=some (.map (some Mb))
 fs:FactsP (fun b=>b≠Mb) w F fs
 ks:IntsP (fun b=>b≠Mb) w A0 ks
 ts:TreesAtP (fun b=>b≠Mb) w L ts
 us:TreesAtP (fun b=>b≠Mb) w R us
theorem Oth.keepne{Mb:Nat}{w w':World}(h:Oth Mb w w'):∀b,b≠Mb→b<w.heap.size→w'.heap[b]?=w.heap[b]?:=fun b hb hlt=>h.block b hlt (fun e=>hb (zO e))
theorem PvO.oth{w w':World}{Bx Mb:Nat}{F A0 L R:Option Addr}{f0 c0 cl cr:Nat}{fs:List Fact}{ks:List Int}{ts us:List Raw}(h:PvO w Bx Mb F A0 L R f0 c0 cl cr fs ks ts us)(ho:Oth Mb w w'):PvO w' Bx Mb F A0 L R f0 c0 cl cr fs ks ts us :=
 ⟨Zl h.lt ho.size,h.ne,(ho.cell h.lt h.ne).trans h.facts,(ho.cell h.lt h.ne).trans h.kinds,(ho.cell h.lt h.ne).trans h.left,(ho.cell h.lt h.ne).trans h.right,(ho.cell h.lt h.ne).trans h.cache,
  h.fs.keep ho.keepne ho.size (fun _ _ h=>h),h.ks.keep ho.keepne ho.size (fun _ _ h=>h),h.ts.keep ho.keepne ho.size (fun _ _ h=>h),h.us.keep ho.keepne ho.size (fun _ _ h=>h)⟩
theorem TreeVP.oth{Mb:Nat}{w w':World}{t:Raw}{v:Value}(h:TreeVP (fun b=>b≠Mb) w t v)(ho:Oth Mb w w'):TreeVP (fun b=>b≠Mb) w' t v:=h.keep ho.keepne ho.size (fun _ _ h=>h)
end
end Go.Proofs.YtadjpadieljjlaaGreat
namespace Lfc
mutual
def Ods.size:Ods→Nat
 |.arg _ _=>1
 |.lex ps=>Ods.sizes ps+1
 |.sim ps=>Ods.sizes ps+1
def Ods.sizes:List Ods→Nat
 |[]=>0
 |p :: r=>Ods.size p+Ods.sizes r
end
mutual
def Ods.rng(n m:Nat):Ods→Prop
 |.arg i j=>i<n∧j<m
 |.lex ps=>Ods.rngs n m ps
 |.sim ps=>Ods.rngs n m ps
def Ods.rngs(n m:Nat):List Ods→Prop
 |[]=>True
 |p :: r=>Ods.rng n m p∧Ods.rngs n m r
end
theorem Ods.size_pos(p:Ods):0<p.size:=by cases p <;> simp[Ods.size]
theorem Ods.sizes_mem:∀(ps:List Ods)(p:Ods),p∈ps→p.size≤Ods.sizes ps
 |[],p,h=>by cases h
 |a :: r,p,h=>by
  rw[Ods.sizes];rcases List.mem_cons.1 h with rfl | h
  ·omega
  have:=Ods.sizes_mem r p h;omega
theorem Ods.sizes_len:∀(ps:List Ods),ps.length≤Ods.sizes ps
 |[]=>by simp
 |a :: r=>by
  have:=Ods.sizes_len r;have:=a.size_pos;rw[Ods.sizes,List.length_cons];omega
theorem Ods.rngs_mem{n m:Nat}:∀(ps:List Ods)(p:Ods),Ods.rngs n m ps→p∈ps→Ods.rng n m p
 |[],p,_,h=>by cases h
 |a :: r,p,hr,h=>by
  rw[Ods.rngs] at hr;rcases List.mem_cons.1 h with rfl | h
  ·exact hr.1
  exact Ods.rngs_mem r p hr.2 h
inductive Pf where
 |node (ps:List Pf)
mutual
def Pf.size:Pf→Nat
 |.node ps=>Pf.sizes ps+1
def Pf.sizes:List Pf→Nat
 |[]=>0
 |p :: r=>Pf.size p+Pf.sizes r
end
theorem Pf.size_pos(p:Pf):0<p.size:=by cases p;simp[Pf.size]
theorem Pf.sizes_mem:∀(ps:List Pf)(p:Pf),p∈ps→p.size≤Pf.sizes ps
 |[],p,h=>by cases h
 |a :: r,p,h=>by
  rw[Pf.sizes];rcases List.mem_cons.1 h with rfl | h
  ·omega
  have:=Pf.sizes_mem r p h;omega
theorem Pf.sizes_len:∀(ps:List Pf),ps.length≤Pf.sizes ps
 |[]=>by simp
 |a :: r=>by
  have:=Pf.sizes_len r;have:=a.size_pos;rw[Pf.sizes,List.length_cons];omega
theorem Pf.sizes_app:∀(ps:List Pf)(p:Pf),Pf.sizes (ps++[p])=Pf.sizes ps+p.size
 |[],p=>by simp[Pf.sizes]
 |a :: r,p=>by rw[List.cons_append,Pf.sizes,Pf.sizes,Pf.sizes_app r p];omega
end Lfc
namespace Go.Proofs.YtadjpadieljjlaaGreat
open Go.RowKit Go.Maps _root_.Lfc
mutual
def OdsP(q:Nat→Prop)(w:World):Ods→Value→Prop
 |.arg i j,v=>v=.iface 123 (.agg #[.int .i64 (i:Int),.int .i64 (j:Int)])
 |.lex ps,v=>∃A c,v=.iface 120 (.agg #[.slice A ps.length c])∧ps.length≤c∧(ps≠[]→∃b o,A=some ⟨b,o,none⟩∧b<w.heap.size∧q b∧OdssP q w b ps o)
 |.sim ps,v=>∃A c,v=.iface 121 (.agg #[.slice A ps.length c])∧ps.length≤c∧(ps≠[]→∃b o,A=some ⟨b,o,none⟩∧b<w.heap.size∧q b∧OdssP q w b ps o)
def OdssP(q:Nat→Prop)(w:World)(b:Nat):List Ods→Nat→Prop
 |[],_=>True
 |p :: r,o=>(∃v,w.cell? ⟨b,o,none⟩=some v∧OdsP q w p v)∧OdssP q w b r (o+1)
end
mutual
theorem OdsP.keep{q q':Nat→Prop}{w w':World}(hk:∀b,q b→b<w.heap.size→w'.heap[b]?=w.heap[b]?)(hs:w.heap.size≤w'.heap.size)(hq:∀b,b<w.heap.size→q b→q' b):∀(p:Ods)(v:Value),OdsP q w p v→OdsP q' w' p v
 |.arg i j,v,h=>by rw[OdsP] at h ⊢;exact h
 |.lex ps,v,h=>by
  rw[OdsP] at h ⊢;obtain⟨A,c,hv,hc,h5⟩:=h;refine⟨A,c,hv,hc,fun hne=>?_⟩;obtain⟨b,o,hA,hlt,hqb,hts⟩:=h5 hne;exact⟨b,o,hA,Zl hlt hs,hq b hlt hqb,OdssP.keep hk hs hq ps b o hlt hqb hts⟩
 |.sim ps,v,h=>by
  rw[OdsP] at h ⊢;obtain⟨A,c,hv,hc,h5⟩:=h;refine⟨A,c,hv,hc,fun hne=>?_⟩;obtain⟨b,o,hA,hlt,hqb,hts⟩:=h5 hne;exact⟨b,o,hA,Zl hlt hs,hq b hlt hqb,OdssP.keep hk hs hq ps b o hlt hqb hts⟩
theorem OdssP.keep{q q':Nat→Prop}{w w':World}(hk:∀b,q b→b<w.heap.size→w'.heap[b]?=w.heap[b]?)(hs:w.heap.size≤w'.heap.size)(hq:∀b,b<w.heap.size→q b→q' b):∀(ps:List Ods)(b o:Nat),b<w.heap.size→q b→OdssP q w b ps o→OdssP q' w' b ps o
 |[],_,_,_,_,_=>by rw[OdssP];trivial
 |p :: r,b,o,hlt,hb,h=>by
  rw[OdssP] at h ⊢;obtain⟨⟨v,c0,ht⟩,hr⟩:=h;exact⟨⟨v,(World.cell?_of_block (a:=⟨b,o,none⟩) (hk b hb hlt)).trans c0,OdsP.keep hk hs hq p v ht⟩,OdssP.keep hk hs hq r b (o+1) hlt hb hr⟩
end
def OdsSl(q:Nat→Prop)(w:World)(A:Option Addr)(ps:List Ods):Prop:=ps≠[]→∃b o,A=some ⟨b,o,none⟩∧b<w.heap.size∧q b∧OdssP q w b ps o
theorem OdsSl.keep{q q':Nat→Prop}{w w':World}{A:Option Addr}{ps:List Ods}(hk:∀b,q b→b<w.heap.size→w'.heap[b]?=w.heap[b]?)(hs:w.heap.size≤w'.heap.size)(hq:∀b,b<w.heap.size→q b→q' b)(h:OdsSl q w A ps):OdsSl q' w' A ps:=fun hne=>by
 obtain⟨b,o,hA,hlt,hqb,h⟩:=h hne;exact⟨b,o,hA,Zl hlt hs,hq b hlt hqb,OdssP.keep hk hs hq ps b o hlt hqb h⟩
theorem OdsP.oth{Mb:Nat}{w w':World}(ho:Oth Mb w w'){p:Ods}{v:Value}(h:OdsP (fun b=>b≠Mb) w p v):OdsP (fun b=>b≠Mb) w' p v :=
 OdsP.keep (fun b hb hlt=>ho.block b hlt (fun e=>hb (zO e))) ho.size (fun _ _ h=>h) p v h
theorem OdsSl.oth{Mb:Nat}{w w':World}(ho:Oth Mb w w'){A:Option Addr}{ps:List Ods}(h:OdsSl (fun b=>b≠Mb) w A ps):OdsSl (fun b=>b≠Mb) w' A ps :=
 OdsSl.keep (fun b hb hlt=>ho.block b hlt (fun e=>hb (zO e))) ho.size (fun _ _ h=>h) h
theorem OdssP.at_{q:Nat→Prop}{w:World}{b:Nat}:∀(ps:List Ods)(o i:Nat)(h:i<ps.length),OdssP q w b ps o→∃v,w.cell? ⟨b,o+i,none⟩=some v∧OdsP q w ps[i] v
 |[],_,_,h,_=>by cases h
 |p :: r,o,i,hi,h=>by
  rw[OdssP] at h;cases i with
  |zero=>exact h.1
  |succ i =>
   have:=OdssP.at_ r (o+1) i (by simpa using hi) h.2;rw[show o+(i+1)=o+1+i by omega];exact this
theorem OdsSl.at_{q:Nat→Prop}{w:World}{A:Option Addr}{ps:List Ods}(h:OdsSl q w A ps){i:Nat}(hi:i<ps.length):∃b o v,A=some ⟨b,o,none⟩∧b<w.heap.size∧q b∧w.cell? ⟨b,o+i,none⟩=some v∧OdsP q w ps[i] v:=by
 obtain⟨b,o,hA,hlt,hqb,h⟩:=h (by intro h0;rw[h0] at hi;cases hi);obtain⟨v,h1,h2⟩:=OdssP.at_ ps o i hi h;exact⟨b,o,v,hA,hlt,hqb,h1,h2⟩
def ODRow(q:Nat→Prop)(w:World):List Ods→List Value→Prop
 |[],xs=>xs=[]
 |p :: r,xs=>∃v ys,xs=v :: ys∧OdsP q w p v∧ODRow q w r ys
theorem ODRow.keep{q q':Nat→Prop}{w w':World}(hk:∀b,q b→b<w.heap.size→w'.heap[b]?=w.heap[b]?)(hs:w.heap.size≤w'.heap.size)(hq:∀b,b<w.heap.size→q b→q' b):∀{ps:List Ods}{xs:List Value},ODRow q w ps xs→ODRow q' w' ps xs
 |[],xs,h=>by rw[ODRow] at h ⊢;exact h
 |p :: r,xs,h=>by
  rw[ODRow] at h ⊢;obtain⟨v,ys,rfl,ht,hr⟩:=h;exact⟨v,ys,rfl,OdsP.keep hk hs hq p v ht,hr.keep hk hs hq⟩
theorem ODRow.append{q:Nat→Prop}{w:World}{us:List Ods}{zs:List Value}(hz:ODRow q w us zs):∀{ps:List Ods}{xs:List Value},ODRow q w ps xs→ODRow q w (ps++us) (xs++zs)
 |[],xs,h=>by rw[ODRow] at h;subst h;exact hz
 |p :: r,xs,h=>by
  rw[ODRow] at h;obtain⟨v,ys,rfl,ht,hr⟩:=h;rw[List.cons_append,ODRow];exact⟨v,ys++zs,by simp,ht,ODRow.append hz hr⟩
theorem ODRow.lie{q:Nat→Prop}{w:World}{b:Nat}:∀{ps:List Ods}{xs:List Value}{o:Nat},ODRow q w ps xs→(∀j u,xs[j]?=some u→w.cell? ⟨b,o+j,none⟩=some u)→OdssP q w b ps o
 |[],_,_,_,_=>by rw[OdssP];trivial
 |p :: r,xs,o,h,hc=>by
  rw[ODRow] at h;obtain⟨v,ys,rfl,ht,hr⟩:=h;rw[OdssP];refine⟨⟨v,hc 0 _ rfl,ht⟩,hr.lie fun j u hj=>?_⟩;have:=hc (j+1) u (by simpa using hj);rw[show o+1+j=o+(j+1) by omega];exact this
def ChV(q:Nat→Prop)(w:World)(v:Value):Prop:=∃A n c,v=.slice A n c∧n≤5000∧LkO q w A n c
theorem ChV.keep{q q':Nat→Prop}{w w':World}(hk:∀b,q b→b<w.heap.size→w'.heap[b]?=w.heap[b]?)(hs:w.heap.size≤w'.heap.size)(hq:∀b,b<w.heap.size→q b→q' b){v:Value}(h:ChV q w v):ChV q' w' v:=by
 obtain⟨A,n,c,rfl,hn,hl⟩:=h;exact⟨A,n,c,rfl,hn,hl.keep hk hs hq⟩
mutual
def PfP(q:Nat→Prop)(w:World):Pf→Value→Value→Value→Value→Prop
 |.node ps,v0,v1,v2,v3=>(∃ix,v0=.int .i64 ix)∧(∃A c,v1=.slice A ps.length c∧ps.length≤c∧(ps≠[]→∃b o,A=some ⟨b,o,none⟩∧b<w.heap.size∧q b∧PfsP q w b ps o))∧ChV q w v2∧ChV q w v3
def PfsP(q:Nat→Prop)(w:World)(b:Nat):List Pf→Nat→Prop
 |[],_=>True
 |p :: r,o=>(∃v0 v1 v2 v3,w.cell? ⟨b,o,none⟩=some v0∧w.cell? ⟨b,o+1,none⟩=some v1∧w.cell? ⟨b,o+2,none⟩=some v2∧w.cell? ⟨b,o+3,none⟩=some v3∧PfP q w p v0 v1 v2 v3)∧PfsP q w b r (o+4)
end
mutual
theorem PfP.keep{q q':Nat→Prop}{w w':World}(hk:∀b,q b→b<w.heap.size→w'.heap[b]?=w.heap[b]?)(hs:w.heap.size≤w'.heap.size)(hq:∀b,b<w.heap.size→q b→q' b):∀(p:Pf)(v0 v1 v2 v3:Value),PfP q w p v0 v1 v2 v3→PfP q' w' p v0 v1 v2 v3
 |.node ps,v0,v1,v2,v3,h=>by
  rw[PfP] at h ⊢;obtain⟨h0,⟨A,c,h3,h4,h5⟩,h6,h7⟩:=h;refine⟨h0,⟨A,c,h3,h4,fun hne=>?_⟩,h6.keep hk hs hq,h7.keep hk hs hq⟩;obtain⟨b,o,hA,hlt,hqb,hts⟩:=h5 hne;exact⟨b,o,hA,Zl hlt hs,hq b hlt hqb,PfsP.keep hk hs hq ps b o hlt hqb hts⟩
theorem PfsP.keep{q q':Nat→Prop}{w w':World}(hk:∀b,q b→b<w.heap.size→w'.heap[b]?=w.heap[b]?)(hs:w.heap.size≤w'.heap.size)(hq:∀b,b<w.heap.size→q b→q' b):∀(ps:List Pf)(b o:Nat),b<w.heap.size→q b→PfsP q w b ps o→PfsP q' w' b ps o
 |[],_,_,_,_,_=>by rw[PfsP];trivial
 |p :: r,b,o,hlt,hb,h=>by
  rw[PfsP] at h ⊢;obtain⟨⟨v0,v1,v2,v3,c0,c1,c2,c3,ht⟩,hr⟩:=h;have hc:=fun j=>World.cell?_of_block (a:=⟨b,j,none⟩) (hk b hb hlt);exact⟨⟨v0,v1,v2,v3,(hc _).trans c0,(hc _).trans c1,(hc _).trans c2,(hc _).trans c3,PfP.keep hk hs hq p _ _ _ _ ht⟩,PfsP.keep hk hs hq r b (o+4) hlt hb hr⟩
end
theorem PfsP.at_{q:Nat→Prop}{w:World}{b:Nat}:∀(ps:List Pf)(o i:Nat)(h:i<ps.length),PfsP q w b ps o→∃v0 v1 v2 v3,w.cell? ⟨b,o+i*4,none⟩=some v0∧w.cell? ⟨b,o+i*4+1,none⟩=some v1∧w.cell? ⟨b,o+i*4+2,none⟩=some v2∧w.cell? ⟨b,o+i*4+3,none⟩=some v3∧PfP q w ps[i] v0 v1 v2 v3
 |[],_,_,h,_=>by cases h
 |p :: r,o,i,hi,h=>by
  rw[PfsP] at h;cases i with
  |zero=>simpa using h.1
  |succ i =>
   have:=PfsP.at_ r (o+4) i (by simpa using hi) h.2;rw[show o+(i+1)*4=o+4+i*4 by omega];exact this
def PRow(q:Nat→Prop)(w:World):List Pf→List Value→Prop
 |[],xs=>xs=[]
 |p :: r,xs=>∃v0 v1 v2 v3 ys,xs=v0 :: v1 :: v2 :: v3 :: ys∧PfP q w p v0 v1 v2 v3∧PRow q w r ys
theorem PRow.keep{q q':Nat→Prop}{w w':World}(hk:∀b,q b→b<w.heap.size→w'.heap[b]?=w.heap[b]?)(hs:w.heap.size≤w'.heap.size)(hq:∀b,b<w.heap.size→q b→q' b):∀{ps:List Pf}{xs:List Value},PRow q w ps xs→PRow q' w' ps xs
 |[],xs,h=>by rw[PRow] at h ⊢;exact h
 |p :: r,xs,h=>by
  rw[PRow] at h ⊢;obtain⟨v0,v1,v2,v3,ys,rfl,ht,hr⟩:=h;exact⟨v0,v1,v2,v3,ys,rfl,PfP.keep hk hs hq p _ _ _ _ ht,hr.keep hk hs hq⟩
theorem PRow.append{q:Nat→Prop}{w:World}{us:List Pf}{zs:List Value}(hz:PRow q w us zs):∀{ps:List Pf}{xs:List Value},PRow q w ps xs→PRow q w (ps++us) (xs++zs)
 |[],xs,h=>by rw[PRow] at h;subst h;exact hz
 |p :: r,xs,h=>by
  rw[PRow] at h;obtain⟨v0,v1,v2,v3,ys,rfl,ht,hr⟩:=h;rw[List.cons_append,PRow];exact⟨v0,v1,v2,v3,ys++zs,by simp,ht,PRow.append hz hr⟩
theorem PRow.one{q:Nat→Prop}{w:World}{p:Pf}{v0 v1 v2 v3:Value}(h:PfP q w p v0 v1 v2 v3):PRow q w [p] [v0,v1,v2,v3]:=⟨v0,v1,v2,v3,[],rfl,h,rfl⟩
theorem PRow.lie{q:Nat→Prop}{w:World}{b:Nat}:∀{ps:List Pf}{xs:List Value}{o:Nat},PRow q w ps xs→(∀j u,xs[j]?=some u→w.cell? ⟨b,o+j,none⟩=some u)→PfsP q w b ps o
 |[],_,_,_,_=>by rw[PfsP];trivial
 |p :: r,xs,o,h,hc=>by
  rw[PRow] at h;obtain⟨v0,v1,v2,v3,ys,rfl,ht,hr⟩:=h;rw[PfsP];refine⟨⟨v0,v1,v2,v3,hc 0 _ rfl,hc 1 _ rfl,hc 2 _ rfl,hc 3 _ rfl,ht⟩,hr.lie fun j u hj=>?_⟩;have:=hc (j+4) u (by simpa using hj);rw[show o+4+j=o+(j+4) by omega];exact this
theorem pfp_none{q:Nat→Prop}{w:World}(ix:Int):PfP q w (.node []) (.int .i64 ix) (.slice none 0 0) (.slice none 0 0) (.slice none 0 0):=by
 rw[PfP];exact⟨⟨ix,rfl⟩,⟨none,0,rfl,zN _,fun h=>absurd rfl h⟩,⟨none,0,0,rfl,by omega,LkO.nil⟩,⟨none,0,0,rfl,by omega,LkO.nil⟩⟩
end Go.Proofs.YtadjpadieljjlaaGreat
namespace Lfc
def Stp1(ks:List Int)(fs:List Fact)(R:Nat→Int→Bool)(i:Nat)(s:Int)(j:Nat):Prop:=j≠i→0<stp ks fs i j→R j (max (stp ks fs i j) s)=true
def NoEnd(ks:List Int)(fs:List Fact)(r:Raw)(must:Int)(i:Nat)(s:Int):Prop:=¬(0<upS ks (sd fs i) r∧must≤max (upS ks (sd fs i) r) s)
def Procd(ks:List Int)(fs:List Fact)(r:Raw)(must:Int)(R:Nat→Int→Bool)(i:Nat)(s:Int):Prop:=NoEnd ks fs r must i s∧∀j,j<2*fs.length→Stp1 ks fs R i s j
structure SInv(ks:List Int)(fs:List Fact)(l r:Raw)(must:Int)(R:Nat→Int→Bool)(zs:List (Nat × Int))(K:Nat)(cur:Option (Nat × Int × Nat)):Prop where
 sound:∀i s,R i s=true→Rch ks fs l i s
 queue:∀z∈zs,R z.1 z.2=true
 start:∀i,i<K→0<upS ks l (sd fs i)→R i (upS ks l (sd fs i))=true
 done:∀i s,R i s=true→(i,s)∈zs∨Procd ks fs r must R i s∨∃k,cur=some (i,s,k)
 cur:∀i s k,cur=some (i,s,k)→R i s=true∧NoEnd ks fs r must i s∧∀j,j<k→Stp1 ks fs R i s j
def setR(R:Nat→Int→Bool)(i:Nat)(s:Int):Nat→Int→Bool:=fun a b=>R a b || (a == i && b == s)
theorem setR_old{R:Nat→Int→Bool}{i a:Nat}{s b:Int}(h:R a b=true):setR R i s a b=true:=by simp[setR,h]
theorem setR_new(R:Nat→Int→Bool)(i:Nat)(s:Int):setR R i s i s=true:=by simp[setR]
theorem setR_inv{R:Nat→Int→Bool}{i a:Nat}{s b:Int}(h:setR R i s a b=true):R a b=true∨(a=i∧b=s):=by
 simpa[setR] using h
theorem setR_ne{R:Nat→Int→Bool}{i a:Nat}{s b:Int}(h:a≠i∨b≠s):setR R i s a b=R a b:=by
 rcases h with h | h <;> simp[setR,h]
variable {ks:List Int} {fs:List Fact} {l r:Raw} {must:Int} {R:Nat→Int→Bool} {zs:List (Nat × Int)} {K:Nat} {cur:Option (Nat × Int × Nat)}
theorem Stp1.mono{R':Nat→Int→Bool}(hR:∀a b,R a b=true→R' a b=true){i j:Nat}{s:Int}(h:Stp1 ks fs R i s j):Stp1 ks fs R' i s j:=fun h1 h2=>hR _ _ (h h1 h2)
theorem Procd.mono{R':Nat→Int→Bool}(hR:∀a b,R a b=true→R' a b=true){i:Nat}{s:Int}(h:Procd ks fs r must R i s):Procd ks fs r must R' i s:=⟨h.1,fun j hj=>(h.2 j hj).mono hR⟩
theorem SInv.reach(h:SInv ks fs l r must R zs K cur){i:Nat}{s:Int}(hr:Rch ks fs l i s):SInv ks fs l r must (setR R i s) (zs++[(i,s)]) K cur:=by
 have hm:∀a b,R a b=true→setR R i s a b=true:=fun a b h=>setR_old h;refine⟨fun a b hab=>?_,fun z hz=>?_,fun a ha h0=>hm _ _ (h.start a ha h0),fun a b hab=>?_,fun a b k hc=>?_⟩
 ·rcases setR_inv hab with h1 | ⟨rfl,rfl⟩
  ·exact h.sound _ _ h1
  exact hr
 ·rcases List.mem_append.1 hz with hz | hz
  ·exact hm _ _ (h.queue z hz)
  simp only[List.mem_singleton] at hz;subst hz;exact setR_new _ _ _
 ·rcases setR_inv hab with h1 | ⟨rfl,rfl⟩
  ·rcases h.done _ _ h1 with h2 | h2 | h2
   ·exact .inl (List.mem_append_left _ h2)
   ·exact .inr (.inl (h2.mono hm))
   exact .inr (.inr h2)
  exact .inl (by simp)
 obtain⟨h1,h2,h3⟩:=h.cur a b k hc;exact⟨hm _ _ h1,h2,fun j hj=>(h3 j hj).mono hm⟩
theorem SInv.started(h:SInv ks fs l r must R zs K none)(h1:0<upS ks l (sd fs K)→R K (upS ks l (sd fs K))=true):SInv ks fs l r must R zs (K+1) none :=
 ⟨h.sound,h.queue,fun i hi h0=>by
  by_cases e:i=K
  ·subst e;exact h1 h0
  exact h.start i (by omega) h0,h.done,h.cur⟩
theorem SInv.pop{i:Nat}{s:Int}(h:SInv ks fs l r must R ((i,s) :: zs) K none)(he:NoEnd ks fs r must i s):SInv ks fs l r must R zs K (some (i,s,0)):=by
 refine⟨h.sound,fun z hz=>h.queue z (List.mem_cons_of_mem _ hz),h.start,fun a b hab=>?_,fun a b k hc=>?_⟩
 ·rcases h.done a b hab with h2 | h2 | ⟨k,h2⟩
  ·rcases List.mem_cons.1 h2 with h3 | h3
   ·cases h3;exact .inr (.inr ⟨0,rfl⟩)
   exact .inl h3
  ·exact .inr (.inl h2)
  cases h2
 cases hc;exact⟨h.queue (i,s) (List.mem_cons_self ..),he,fun j hj=>absurd hj (Nat.not_lt_zero _)⟩
theorem SInv.next{i k:Nat}{s:Int}(h:SInv ks fs l r must R zs K (some (i,s,k)))(h1:Stp1 ks fs R i s k):SInv ks fs l r must R zs K (some (i,s,k+1)):=by
 refine⟨h.sound,h.queue,h.start,fun a b hab=>?_,fun a b k' hc=>?_⟩
 ·rcases h.done a b hab with h2 | h2 | ⟨k,h2⟩
  ·exact .inl h2
  ·exact .inr (.inl h2)
  cases h2;exact .inr (.inr ⟨_,rfl⟩)
 cases hc;obtain⟨h2,h3,h4⟩:=h.cur i s k rfl;refine⟨h2,h3,fun j hj=>?_⟩;by_cases e:j=k
 ·subst e;exact h1
 exact h4 j (by omega)
theorem SInv.shut{i:Nat}{s:Int}(h:SInv ks fs l r must R zs K (some (i,s,2*fs.length))):SInv ks fs l r must R zs K none:=by
 obtain⟨h2,h3,h4⟩:=h.cur i s _ rfl;refine⟨h.sound,h.queue,h.start,fun a b hab=>?_,fun a b k' hc=>by cases hc⟩;rcases h.done a b hab with h5 | h5 | ⟨k,h5⟩
 ·exact .inl h5
 ·exact .inr (.inl h5)
 cases h5;exact .inr (.inl ⟨h3,h4⟩)
theorem SInv.init:SInv ks fs l r must (fun _ _=>false) [] 0 none :=
 ⟨fun _ _ h=>(by cases h),fun z h=>(by cases h),fun i h=>absurd h (Nat.not_lt_zero _),fun _ _ h=>(by cases h),fun _ _ _ h=>(by cases h)⟩
theorem SInv.all(h:SInv ks fs l r must R [] (2*fs.length) none){i:Nat}{s:Int}(hr:Rch ks fs l i s):R i s=true:=by
 induction hr with
 |start i hi h0=>exact h.start i hi h0
 |step i j s hr hj hne hs ih =>
  rcases h.done i s ih with h1 | h1 | ⟨k,h1⟩
  ·cases h1
  ·exact h1.2 j hj hne hs
  cases h1
theorem SInv.no(h:SInv ks fs l r must R [] (2*fs.length) none)(hd:¬must≤upS ks l r):¬chn ks fs l r must:=by
 rintro (h1 | ⟨i,s,h1,h2,h3⟩)
 ·exact hd h1
 rcases h.done i s (h.all h1) with h4 | h4 | ⟨k,h4⟩
 ·cases h4
 ·exact h4.1 ⟨h2,h3⟩
 cases h4
theorem SInv.yes(h:SInv ks fs l r must R zs K cur){i:Nat}{s:Int}(hr:R i s=true)(h2:0<upS ks (sd fs i) r)(h3:must≤max (upS ks (sd fs i) r) s):chn ks fs l r must:=.inr ⟨i,s,h.sound i s hr,h2,h3⟩
def sides(n:Nat):List (Nat × Int):=(List.range n).flatMap fun i=>[(i,(1:Int)),(i,2)]
theorem sides_len(n:Nat):(sides n).length=2*n:=by
 simp[sides,List.length_flatMap,List.map_const',List.sum_replicate_nat];omega
theorem sides_mem{n i:Nat}{s:Int}(hi:i<n)(hs:s=1∨s=2):(i,s)∈sides n:=by
 simp only[sides,List.mem_flatMap,List.mem_range];exact⟨i,hi,by rcases hs with rfl | rfl <;> simp⟩
def unr(n:Nat)(R:Nat→Int→Bool):Nat:=(sides n).countP fun z=>!R z.1 z.2
theorem unr_le(n:Nat)(R:Nat→Int→Bool):unr n R≤2*n:=by
 rw[←sides_len];exact List.countP_le_length
theorem countP_down{α:Type}{p p':α→Bool}{x:α}(hx:p x=true)(hx':p' x=false)(h:∀y,p' y=true→p y=true):∀l:List α,x∈l→l.countP p'+1≤l.countP p
 |[],hm=>by simp at hm
 |y :: l,hm=>by
  have hle:l.countP p'≤l.countP p:=List.countP_mono_left (fun z _ hz=>h z hz);rw[List.countP_cons,List.countP_cons];rcases List.mem_cons.1 hm with rfl | hm
  ·rw[if_pos hx,if_neg (by simp[hx'])];omega
  have:=countP_down hx hx' h l hm;by_cases hy:p' y=true
  ·rw[if_pos hy,if_pos (h y hy)];omega
  rw[if_neg hy];split <;> omega
theorem unr_set{n i:Nat}{s:Int}(hi:i<n)(hs:s=1∨s=2)(h:R i s=false):unr n (setR R i s)+1≤unr n R :=
 countP_down (x:=(i,s)) (by simp[h]) (by simp[setR_new]) (fun y hy=>by
  cases hh:R y.1 y.2 with
  |false=>rfl
  |true=>rw[setR_old hh] at hy;cases hy) _ (sides_mem hi hs)
end Lfc
