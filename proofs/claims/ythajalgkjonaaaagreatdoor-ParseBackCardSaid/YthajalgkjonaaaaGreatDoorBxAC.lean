/- Parts of the proof that no input makes the law false: Same, RawMem, Spell, RawSize, RawSame, RawRSame, RawFormed, RawWf, RawRForm, RawWf2, RawText, RawNames. -/
import Derived.Deep.QuietTactic
import Derived.BigQuiet
import Derived.Laws.MakeOwn
import Derived.Deep.OwnRows
import Derived.Deep.RegionHeld3
import Derived.Deep.DeepCutAuto
import Derived.Deep.CutBlock
import Derived.RegionTactic
import Derived.Laws.EntriesVeiled
import Derived.Test.YthajalgkjonaaaaGreatDoorBxAB
set_option linter.unusedVariables false
set_option linter.unusedSimpArgs false
set_option maxRecDepth 100000
set_option maxHeartbeats 32000000
namespace Go.Proofs.YthajalgkjonaaaaGreatDoor
section
open Go.RowKit
def TokAt(w:World)(v:Value)(l:List Lfc.Tok):Prop :=
 ∃A c,v=.slice A l.length c∧l.length≤c∧(0<l.length→∃b o,A=some ⟨b,o,none⟩∧b<w.heap.size∧∀k t,l[k]?=some t→w.cell? ⟨b,o+k*3,none⟩=some (.int .i64 t.kind)∧w.cell? ⟨b,o+k*3+1,none⟩=some (S t.text)∧w.cell? ⟨b,o+k*3+2,none⟩=some (.int .i64 (t.pos:Int)))
theorem TokAt.below{w w':World}{v:Value}{l:List Lfc.Tok}(h:TokAt w v l)(hb:Below w.heap.size w w'):TokAt w' v l:=by
 obtain⟨A,c,rfl,h1,h2⟩:=h;refine⟨A,c,rfl,h1,fun hp=>?_⟩;obtain⟨b,o,hA,hlt,hc⟩:=h2 hp;refine⟨b,o,hA,Zl hlt hb.size,fun k t ht=>?_⟩;obtain⟨c0,c1,c2⟩:=hc k t ht;exact⟨(hb.cell (p:=⟨b,_,none⟩) hlt).trans c0,(hb.cell (p:=⟨b,_,none⟩) hlt).trans c1,(hb.cell (p:=⟨b,_,none⟩) hlt).trans c2⟩
theorem tokCells_at(l:List Lfc.Tok):∀(k:Nat)(t:Lfc.Tok),l[k]?=some t→(tokCells l)[k*3]?=some (.int .i64 t.kind)∧(tokCells l)[k*3+1]?=some (S t.text)∧(tokCells l)[k*3+2]?=some (.int .i64 (t.pos:Int)):=by
 induction l with
 |nil=>intro k t h;simp at h
 |cons a r ih =>
  intro k t h;cases k with
  |zero=>simp at h;subst h;simp[tokCells]
  |succ k =>
   have:=ih k t (by simpa using h);have e:∀j,(tokCells (a :: r))[(k+1)*3+j]?=(tokCells r)[k*3+j]?:=by
    intro j;rw[show(k+1)*3+j=(k*3+j)+1+1+1 by omega];simp[tokCells]
   exact⟨(e 0).trans this.1,(e 1).trans this.2.1,(e 2).trans this.2.2⟩
theorem TokAt.of_own{w:World}{base:Nat}{v:Value}{l:List Lfc.Tok}(h:w.ownsRow base 65 3 v l.length (tokCells l)):TokAt w v l:=by
 rcases h.2 with⟨rfl,hn⟩ | ⟨g,cap,cur,rfl,hg,hh,hnc,_⟩
 ·exact⟨none,0,by rw[hn],by omega,fun hp=>by omega⟩
 refine⟨_,_,rfl,hnc,fun hp=>⟨g,0,rfl,?_,fun k t ht=>?_⟩⟩
 ·rcases Nat.lt_or_ge g w.heap.size with h1 | h1
  ·exact h1
  rw[Array.getElem?_eq_none h1] at hh;cases hh
 obtain⟨c0,c1,c2⟩:=tokCells_at l k t ht;have hc:=h.cells (g:=g) rfl;refine⟨?_,?_,?_⟩
 ·have:=hc _ _ c0;rw[addr_add] at this;simpa using this
 ·have:=hc _ _ c1;rw[addr_add] at this;simpa[Nat.add_assoc] using this
 have:=hc _ _ c2;rw[addr_add] at this;simpa[Nat.add_assoc] using this
end
section
open Go.RowKit _root_.Lfc
mutual
def TreeC(w:World):Raw→Value→Value→Value→Value→Prop
 |.node k n p ts,v0,v1,v2,v3=>v0=.int .i64 k∧v1=S n∧n.length≤1000000∧v2=.int .i64 p∧∃A c,v3=.slice A ts.length c∧ts.length≤c∧(ts≠[]→∃b o,A=some ⟨b,o,none⟩∧b<w.heap.size∧TreesO w b ts o)
def TreesO(w:World)(b:Nat):List Raw→Nat→Prop
 |[],_=>True
 |t :: r,o=>(∃v0 v1 v2 v3,w.cell? ⟨b,o,none⟩=some v0∧w.cell? ⟨b,o+1,none⟩=some v1∧w.cell? ⟨b,o+2,none⟩=some v2∧w.cell? ⟨b,o+3,none⟩=some v3∧TreeC w t v0 v1 v2 v3)∧TreesO w b r (o+4)
end
mutual
theorem TreeC.below{w w':World}(hb:Below w.heap.size w w'):∀(t:Raw)(v0 v1 v2 v3:Value),TreeC w t v0 v1 v2 v3→TreeC w' t v0 v1 v2 v3
 |.node k n p ts,v0,v1,v2,v3,h=>by
  rw[TreeC] at h ⊢;obtain⟨h0,h1,hn,h2,A,c,h3,h4,h5⟩:=h;refine⟨h0,h1,hn,h2,A,c,h3,h4,fun hne=>?_⟩;obtain⟨b,o,hA,hlt,hts⟩:=h5 hne;exact⟨b,o,hA,Zl hlt hb.size,TreesO.below hb ts b o hlt hts⟩
theorem TreesO.below{w w':World}(hb:Below w.heap.size w w'):∀(ts:List Raw)(b o:Nat),b<w.heap.size→TreesO w b ts o→TreesO w' b ts o
 |[],_,_,_,_=>by rw[TreesO];trivial
 |t :: r,b,o,hlt,h=>by
  rw[TreesO] at h ⊢;obtain⟨⟨v0,v1,v2,v3,c0,c1,c2,c3,ht⟩,hr⟩:=h;exact⟨⟨v0,v1,v2,v3,(hb.cell (p:=⟨b,_,none⟩) hlt).trans c0,(hb.cell (p:=⟨b,_,none⟩) hlt).trans c1,(hb.cell (p:=⟨b,_,none⟩) hlt).trans c2,(hb.cell (p:=⟨b,_,none⟩) hlt).trans c3,TreeC.below hb t v0 v1 v2 v3 ht⟩,TreesO.below hb r b (o+4) hlt hr⟩
end
theorem TreesO.at_{w:World}{b:Nat}:∀(ts:List Raw)(o i:Nat)(t:Raw),TreesO w b ts o→ts[i]?=some t →
  ∃v0 v1 v2 v3,w.cell? ⟨b,o+i*4,none⟩=some v0∧w.cell? ⟨b,o+i*4+1,none⟩=some v1∧w.cell? ⟨b,o+i*4+2,none⟩=some v2∧w.cell? ⟨b,o+i*4+3,none⟩=some v3∧TreeC w t v0 v1 v2 v3:=by
 intro ts;induction ts with
 |nil=>intro o i t _ h;simp at h
 |cons a r ih =>
  intro o i t h hi;rw[TreesO] at h;cases i with
  |zero=>simp at hi;subst hi;simpa using h.1
  |succ i =>
   have:=ih (o+4) i t h.2 (by simpa using hi);rw[show o+(i+1)*4=o+4+i*4 by omega];exact this
def TreeV(w:World)(t:Raw)(v:Value):Prop:=∃v0 v1 v2 v3,v=.agg #[v0,v1,v2,v3]∧TreeC w t v0 v1 v2 v3
theorem TreeV.below{w w':World}{t:Raw}{v:Value}(h:TreeV w t v)(hb:Below w.heap.size w w'):TreeV w' t v:=by
 obtain⟨v0,v1,v2,v3,rfl,h⟩:=h;exact⟨v0,v1,v2,v3,rfl,TreeC.below hb t _ _ _ _ h⟩
def TreesAt(w:World)(A:Option Addr)(ts:List Raw):Prop:=ts≠[]→∃b o,A=some ⟨b,o,none⟩∧b<w.heap.size∧TreesO w b ts o
theorem TreesAt.below{w w':World}{A:Option Addr}{ts:List Raw}(h:TreesAt w A ts)(hb:Below w.heap.size w w'):TreesAt w' A ts:=fun hne=>by
 obtain⟨b,o,hA,hlt,h⟩:=h hne;exact⟨b,o,hA,Zl hlt hb.size,TreesO.below hb ts b o hlt h⟩
theorem TreeV.open_{w:World}{k p:Int}{n:List UInt8}{ts:List Raw}{v:Value}(h:TreeV w (.node k n p ts) v):∃A c,v=.agg #[.int .i64 k,S n,.int .i64 p,.slice A ts.length c]∧ts.length≤c∧TreesAt w A ts:=by
 obtain⟨v0,v1,v2,v3,rfl,h⟩:=h;rw[TreeC] at h;obtain⟨rfl,rfl,_,rfl,A,c,rfl,hc,h⟩:=h;exact⟨A,c,rfl,hc,h⟩
theorem TreeV.name_le{w:World}{k p:Int}{n:List UInt8}{ts:List Raw}{v:Value}(h:TreeV w (.node k n p ts) v):n.length≤1000000:=by
 obtain⟨v0,v1,v2,v3,rfl,h⟩:=h;rw[TreeC] at h;exact h.2.2.1
theorem TreeV.mk{w:World}{k p:Int}{n:List UInt8}{ts:List Raw}{A:Option Addr}{c:Nat}(hn:n.length≤1000000)(hc:ts.length≤c)(h:TreesAt w A ts):TreeV w (.node k n p ts) (.agg #[.int .i64 k,S n,.int .i64 p,.slice A ts.length c]) :=
 ⟨_,_,_,_,rfl,by rw[TreeC];exact⟨rfl,rfl,hn,rfl,A,c,rfl,hc,h⟩⟩
theorem TreesAt.at_{w:World}{A:Option Addr}{ts:List Raw}(h:TreesAt w A ts){i:Nat}(hi:i<ts.length) :
  ∃b o k n p us B c,A=some ⟨b,o,none⟩∧b<w.heap.size∧ts[i]=.node k n p us∧w.cell? ⟨b,o+i*4,none⟩=some (.int .i64 k)∧w.cell? ⟨b,o+i*4+1,none⟩=some (S n)∧w.cell? ⟨b,o+i*4+2,none⟩=some (.int .i64 p)∧w.cell? ⟨b,o+i*4+3,none⟩=some (.slice B us.length c) ∧
   us.length≤c∧TreesAt w B us∧TreeV w ts[i] (.agg #[.int .i64 k,S n,.int .i64 p,.slice B us.length c]):=by
 obtain⟨b,o,hA,hlt,hts⟩:=h (by intro h0;rw[h0] at hi;simp at hi);obtain⟨v0,v1,v2,v3,c0,c1,c2,c3,ht⟩:=TreesO.at_ ts o i ts[i] hts (Zg hi);cases ht':ts[i] with
 |node k n p us =>
  rw[ht'] at ht;have htv:TreeV w (.node k n p us) (.agg #[v0,v1,v2,v3]):=⟨v0,v1,v2,v3,rfl,ht⟩;rw[TreeC] at ht;obtain⟨rfl,rfl,_,rfl,B,c,rfl,hc,hB⟩:=ht;exact⟨b,o,k,n,p,us,B,c,hA,hlt,rfl,c0,c1,c2,c3,hc,hB,htv⟩
end
end Go.Proofs.YthajalgkjonaaaaGreatDoor
namespace Lfc
def spT(t:Tok):List UInt8:=if t.kind=3 then 37 :: t.text else t.text
end Lfc
namespace Go.Proofs.YthajalgkjonaaaaGreatDoor
section
open Go.RowKit
section
variable {w w':World} {g:Nat} {t:TypeId} {cs:Array Value}
end
end
section
open Go.RowKit _root_.Lfc
theorem sizes_take(ts:List Raw)(k:Nat)(h:k<ts.length):Raw.sizes (ts.take (k+1))=Raw.sizes (ts.take k)+ts[k].size:=by
 rw[Zm h,Raw.sizes_app];simp[Raw.sizes]
theorem depths_take(ts:List Raw)(k:Nat)(h:k<ts.length):Raw.depths (ts.take (k+1))=max (Raw.depths (ts.take k)) ts[k].depth:=by
 rw[Zm h,Raw.depths_app];simp[Raw.depths]
theorem sizes_take_le(ts:List Raw)(k:Nat):Raw.sizes (ts.take k)≤Raw.sizes ts:=by
 have:Raw.sizes ts=Raw.sizes (ts.take k)+Raw.sizes (ts.drop k):=by rw[←Raw.sizes_app,List.take_append_drop]
 omega
theorem size_any(m:Nat):∀(t:Raw)(v:Value)(w:World),t.size<=m->t.size<=1000000000->TreeV w t v ->
  Calls Tryz.prog 104 #[v] w fun e w'=>e=.returned (zI (t.size:Int))/\zb w w':=by
 induction m with
 |zero=>intro t v w h _ _;have:=t.size_pos;omega
 |succ m ih =>
  intro t v w hm hmax hv;obtain⟨kd,nm,ps,ts⟩:=t;obtain⟨A,c,rfl,hc,hA⟩:=hv.open_;simp only[Raw.size] at hm hmax ⊢;have hlen:=Raw.sizes_len ts;have IH:=zH ih;have b0:zb w (w.alloc (.cells (zT kd nm ps A ts c) 46)):=(zB _ _).alloc (zN _) _;have HA:=zH hA;clear ih hA hv;go_enter Tryz.func104,Tryz.ntmps104;go_wp2_with fail;go_loopw [3,9] (fun n i wr=>∃k:Nat,k<=ts.length/\i=zI k/\n=zI ((Raw.sizes (ts.take k)+1:Nat):Int)/\zb w wr) (fun _ i _=>ts.length-(intOf i).toNat);case atStart=>exact⟨0,by omega,rfl,by simp[Raw.sizes],b0⟩
  obtain⟨k,hk,rfl,rfl,hbw⟩:=hrel;have hle:=sizes_take_le ts k;by_cases hlt:k<ts.length
  ·obtain⟨b,o,k1,n1,p1,us,B,c1,rfl,hb,ht,c0',c1',c2',c3',hcu,hB,hT⟩:=(HA.o.below hbw).at_ hlt;have hst:=sizes_take ts k hlt;have hle2:=sizes_take_le ts (k+1);have hmem:=Raw.sizes_mem ts ts[k] (Ze _);have HS:=zH hst;clear hB ht;have b1:zb wr (wr.alloc (.cells (zT k1 n1 p1 B us c1) 46)):=(zB _ _).alloc (zN _) _;have hT2:=hT.below b1;generalize hZ:ts[k].size=z at *;generalize Raw.sizes (ts.take k)=y at *;have HZ:=zH hZ;clear hZ hst;go_wp2_with fail;refine(IH.o ts[k] _ _ (by rw[HZ.o];omega) (by rw[HZ.o];omega) hT2).mono ?_;rintro e w1⟨rfl,hb1⟩;rw[HZ.o];have hyz:y+z<=Raw.sizes ts:=(by have:=HS.o;omega);go_wp2_with fail;go_roundw;case rel=>exact⟨k+1,by omega,by go_num,by rw[HS.o];go_num,hbw.trans ((b1.mono hbw.size).trans (hb1.mono (zR hbw.size b1.size)))⟩
   case measure=>simp[intOf];omega
  have hkl:k=ts.length:=by omega
  go_wp2_with fail;go_ret;exact⟨ret_int (by rw[hkl,List.take_length]),hbw⟩
theorem depths_le(l:List Raw):Raw.depths l≤Raw.sizes l:=by
 induction l with
 |nil=>simp[Raw.depths,Raw.sizes]
 |cons a r ih=>have:=Raw.depth_le_size _ a (zN _);simp only[Raw.depths,Raw.sizes];omega
theorem depth_any(m:Nat):∀(t:Raw)(v:Value)(w:World),t.size<=m->t.size<=1000000000->TreeV w t v ->
  Calls Tryz.prog 105 #[v] w fun e w'=>e=.returned (zI (t.depth:Int))/\zb w w':=by
 induction m with
 |zero=>intro t v w h _ _;have:=t.size_pos;omega
 |succ m ih =>
  intro t v w hm hmax hv;obtain⟨kd,nm,ps,ts⟩:=t;obtain⟨A,c,rfl,hc,hA⟩:=hv.open_;simp only[Raw.size] at hm hmax;simp only[Raw.depth];have hlen:=Raw.sizes_len ts;have IH:=zH ih;have b0:zb w (w.alloc (.cells (zT kd nm ps A ts c) 46)):=(zB _ _).alloc (zN _) _;have HA:=zH hA;clear ih hA hv;go_enter Tryz.func105,Tryz.ntmps105;go_wp2_with fail;go_loopw [3,9] (fun n i wr=>∃k:Nat,k<=ts.length/\i=zI k/\n=zI ((Raw.depths (ts.take k):Nat):Int)/\zb w wr) (fun _ i _=>ts.length-(intOf i).toNat);case atStart=>exact⟨0,by omega,rfl,by simp[Raw.depths],b0⟩
  obtain⟨k,hk,rfl,rfl,hbw⟩:=hrel;have hle:=depths_le (ts.take k);have hle3:=sizes_take_le ts k;by_cases hlt:k<ts.length
  ·obtain⟨b,o,k1,n1,p1,us,B,c1,rfl,hb,ht,c0',c1',c2',c3',hcu,hB,hT⟩:=(HA.o.below hbw).at_ hlt;have hst:=depths_take ts k hlt;have hmem:=Raw.sizes_mem ts ts[k] (Ze _);have hdz:=Raw.depth_le_size _ ts[k] (zN _);have HS:=zH hst;clear hB ht;have b1:zb wr (wr.alloc (.cells (zT k1 n1 p1 B us c1) 46)):=(zB _ _).alloc (zN _) _;have hT2:=hT.below b1;generalize hZ:ts[k].depth=z at *;generalize hY:Raw.depths (ts.take k)=y at *;have HZ:=zH hZ;clear hZ hst hY;go_wp2_with fail;refine(IH.o ts[k] _ _ (by omega) (by omega) hT2).mono ?_;rintro e w1⟨rfl,hb1⟩;rw[HZ.o];go_wp2_with fail;go_roundw;case rel=>exact⟨k+1,by omega,by go_num,by rw[HS.o];congr 1;omega,hbw.trans ((b1.mono hbw.size).trans (hb1.mono (zR hbw.size b1.size)))⟩
   case measure=>simp[intOf];omega
  have hkl:k=ts.length:=by omega
  have hd:=depths_le ts;go_wp2_with fail;go_ret;exact⟨ret_int (by omega),hbw⟩
theorem rSize_any(m:Nat):∀(t:Raw)(v:Value)(w:World),t.size<=m->t.size<=1000000000->TreeV w t v ->
  Calls Tryz.prog 68 #[v] w fun e w'=>e=.returned (zI (t.size:Int))/\Below w.heap.size w w':=by
 induction m with
 |zero=>intro t v w h _ _;have:=t.size_pos;omega
 |succ m ih =>
  intro t v w hm hmax hv;obtain⟨kd,nm,ps,ts⟩:=t;obtain⟨A,c,rfl,hc,hA⟩:=hv.open_;simp only[Raw.size] at hm hmax;simp only[Raw.size];have hlen:=Raw.sizes_len ts;have IH:=zH ih;obtain⟨w0,hw0⟩:∃w0,w.alloc (.cells #[zI kd,S nm,zI ps,.slice A ts.length c] 46)=w0:=⟨_,rfl⟩;have b0:=zG hw0;have s0:w.heap.size<w0.heap.size:=by rw[<-hw0];simp
  have hbox:w0.cell? ⟨w.heap.size,3,none⟩=some (.slice A ts.length c):=by rw[<-hw0];simp[World.cell?_alloc_new]
  have HA:=zH (hA.below b0);have HB:=zH hbox;clear ih hA hv hbox;go_enter Tryz.func68,Tryz.ntmps68;go_wp2_with fail;generalize hG:w.heap.size=G at *;go_loopw [3,4] (fun n i wr=>∃k:Nat,k<=ts.length/\i=zI k/\n=zI ((Raw.sizes (ts.take k)+1:Nat):Int)/\Below w0.heap.size w0 wr) (fun _ i _=>ts.length-(intOf i).toNat);case atStart=>exact⟨0,by omega,rfl,by simp[Raw.sizes],by first | exact zB _ _ | (rw[hw0];exact zB _ _)⟩
  have HGG:=zH hG;clear hw0 hG;obtain⟨k,hk,rfl,rfl,hbw⟩:=hrel;have hbx:wr.cell? ⟨G,3,none⟩=some (.slice A ts.length c):=(hbw.cell (p:=⟨G,3,none⟩) s0).trans HB.o;have hle3:=sizes_take_le ts k;by_cases hlt:k<ts.length
  ·obtain⟨b,o,k1,n1,p1,us,B,c1,rfl,hb,ht,c0',c1',c2',c3',hcu,hB,hT⟩:=(HA.o.below hbw).at_ hlt;have hst:=sizes_take ts k hlt;have hle2:=sizes_take_le ts (k+1);have hmem:=Raw.sizes_mem ts ts[k] (Ze _);have HS:=zH hst;clear hB ht;generalize hZ:ts[k].size=z at *;generalize hY:Raw.sizes (ts.take k)=y at *;have HZ:=zH hZ;clear hZ hst hY;go_wp2_with fail;refine(IH.o ts[k] _ _ (by rw[HZ.o];omega) (by rw[HZ.o];omega) hT).mono ?_;rintro e w1⟨rfl,hb1⟩;rw[HZ.o];have hyz:y+z<=Raw.sizes ts:=(by have:=HS.o;omega);go_wp2_with fail;go_roundw;case rel=>exact⟨k+1,by omega,by go_num,by rw[HS.o];go_num,hbw.trans (hb1.mono hbw.size)⟩
   case measure=>simp[intOf];omega
  have hkl:k=ts.length:=by omega
  go_wp2_with fail;go_ret;exact⟨ret_int (by rw[hkl,List.take_length]),by rw[HGG.o];exact b0.trans (hbw.mono (Nat.le_of_lt s0))⟩
theorem rDepth_any(m:Nat):∀(t:Raw)(v:Value)(w:World),t.size<=m->t.size<=1000000000->TreeV w t v ->
  Calls Tryz.prog 69 #[v] w fun e w'=>e=.returned (zI (t.depth:Int))/\Below w.heap.size w w':=by
 induction m with
 |zero=>intro t v w h _ _;have:=t.size_pos;omega
 |succ m ih =>
  intro t v w hm hmax hv;obtain⟨kd,nm,ps,ts⟩:=t;obtain⟨A,c,rfl,hc,hA⟩:=hv.open_;simp only[Raw.size] at hm hmax;simp only[Raw.depth];have hlen:=Raw.sizes_len ts;have IH:=zH ih;obtain⟨w0,hw0⟩:∃w0,w.alloc (.cells #[zI kd,S nm,zI ps,.slice A ts.length c] 46)=w0:=⟨_,rfl⟩;have b0:=zG hw0;have s0:w.heap.size<w0.heap.size:=by rw[<-hw0];simp
  have hbox:w0.cell? ⟨w.heap.size,3,none⟩=some (.slice A ts.length c):=by rw[<-hw0];simp[World.cell?_alloc_new]
  have HA:=zH (hA.below b0);have HB:=zH hbox;clear ih hA hv hbox;go_enter Tryz.func69,Tryz.ntmps69;go_wp2_with fail;generalize hG:w.heap.size=G at *;go_loopw [3,4] (fun n i wr=>∃k:Nat,k<=ts.length/\i=zI k/\n=zI ((Raw.depths (ts.take k):Nat):Int)/\Below w0.heap.size w0 wr) (fun _ i _=>ts.length-(intOf i).toNat);case atStart=>exact⟨0,by omega,rfl,by simp[Raw.depths],by first | exact zB _ _ | (rw[hw0];exact zB _ _)⟩
  have HGG:=zH hG;clear hw0 hG;obtain⟨k,hk,rfl,rfl,hbw⟩:=hrel;have hbx:wr.cell? ⟨G,3,none⟩=some (.slice A ts.length c):=(hbw.cell (p:=⟨G,3,none⟩) s0).trans HB.o;have hle3:=sizes_take_le ts k;have hle:=depths_le (ts.take k);by_cases hlt:k<ts.length
  ·obtain⟨b,o,k1,n1,p1,us,B,c1,rfl,hb,ht,c0',c1',c2',c3',hcu,hB,hT⟩:=(HA.o.below hbw).at_ hlt;have hst:=depths_take ts k hlt;have hle2:=sizes_take_le ts (k+1);have hmem:=Raw.sizes_mem ts ts[k] (Ze _);have hdz:=Raw.depth_le_size _ ts[k] (zN _);have HS:=zH hst;clear hB ht;generalize hZ:ts[k].depth=z at *;generalize hY:Raw.depths (ts.take k)=y at *;have HZ:=zH hZ;clear hZ hst hY;go_wp2_with fail;refine(IH.o ts[k] _ _ (by omega) (by omega) hT).mono ?_;rintro e w1⟨rfl,hb1⟩;rw[HZ.o];go_wp2_with fail;go_roundw;case rel=>exact⟨k+1,by omega,by go_num,by rw[HS.o];congr 1;omega,hbw.trans (hb1.mono hbw.size)⟩
   case measure=>simp[intOf];omega
  have hkl:k=ts.length:=by omega
  have hd:=depths_le ts;go_wp2_with fail;go_ret;exact⟨ret_int (by omega),by rw[HGG.o];exact b0.trans (hbw.mono (Nat.le_of_lt s0))⟩
theorem sames_spec(at_:Bool):∀(ts us:List Raw),Raw.sames at_ ts us=true↔ts.length=us.length∧∀k(h:k<ts.length)(h':k<us.length),Raw.same at_ ts[k] us[k]=true
 |[],[]=>by simp[Raw.sames]
 |[],_ :: _=>by simp[Raw.sames]
 |_ :: _,[]=>by simp[Raw.sames]
 |a :: r,b :: q=>by
  rw[Raw.sames,Za,sames_spec at_ r q];constructor
  ·rintro⟨h1,h2,h3⟩;refine⟨by simp[h2],fun k h h'=>?_⟩;cases k with
   |zero=>exact h1
   |succ k=>exact h3 k (by simpa using h) (by simpa using h')
  rintro⟨h1,h2⟩;exact⟨h2 0 (by simp) (by simp),by simpa using h1,fun k h h'=>h2 (k+1) (by simpa using h) (by simpa using h')⟩
theorem sames_false(at_:Bool)(ts us:List Raw)(k:Nat)(h:k<ts.length)(h':k<us.length)(hf:Raw.same at_ ts[k] us[k]=false):Raw.sames at_ ts us=false:=by
 cases hs:Raw.sames at_ ts us
 ·rfl
 rw[((sames_spec at_ ts us).1 hs).2 k h h'] at hf;cases hf
theorem sames_len(at_:Bool)(ts us:List Raw)(h:ts.length≠us.length):Raw.sames at_ ts us=false:=by
 cases hs:Raw.sames at_ ts us
 ·rfl
 exact absurd ((sames_spec at_ ts us).1 hs).1 h
theorem kept{w w1:World}{p:Addr}{v:Value}(h:Below w.drew.heap.size w.drew w1)(hp:p.block<w.heap.size)(hv:w.cell? p=some v):w1.cell? p=some v:=(h.cell hp).trans hv
theorem rSame_aux(at_ aa:Bool)(haa:aa=at_)(m:Nat)(hmm:m<=1000000000):∀(t u:Raw)(v v':Value)(w:World),t.size<=m->TreeV w t v->TreeV w u v' ->
  Calls Tryz.prog 17 #[v,v',.bool at_] w fun e w'=>e=.returned (.bool (Raw.same aa t u))/\Below w.heap.size w w':=by
 induction m with
 |zero=>intro t u v v' w h _ _;have:=t.size_pos;omega
 |succ m ih =>
  intro t u v v' w hsz hv hv';obtain⟨kd,nm,ps,ts⟩:=t;obtain⟨kd',nm',ps',us⟩:=u;obtain⟨A,c,rfl,hc,hA⟩:=hv.open_;obtain⟨A',c',rfl,hc',hA'⟩:=hv'.open_;simp only[Raw.size] at hsz;have hlen:=Raw.sizes_len ts;obtain⟨w0,hw0⟩:∃w0,(w.alloc (.cells #[zI kd,S nm,zI ps,.slice A ts.length c] 46)).alloc (.cells #[zI kd',S nm',zI ps',.slice A' us.length c'] 46)=w0:=⟨_,rfl⟩;have b0:Below w.heap.size w w0:=by rw[<-hw0];exact((zB _ _).alloc (zN _) _).alloc (by simp) _
  have s0:w.heap.size+1<w0.heap.size:=by rw[<-hw0];simp
  have hx1:w0.cell? ⟨w.heap.size,3,none⟩=some (.slice A ts.length c):=by rw[<-hw0];simp
  have hx2:w0.cell? ⟨w.heap.size+1,3,none⟩=some (.slice A' us.length c'):=by
   rw[<-hw0];have:=cells_new (w.alloc (.cells #[zI kd,S nm,zI ps,.slice A ts.length c] 46)) (w.heap.size+1) (by simp) [zI kd',S nm',zI ps',.slice A' us.length c'] 46 3 _ rfl;rw[addr_add] at this;exact this
  have IH:=zH (ih (by omega));have HA:=zH (hA.below b0);have HA':=zH (hA'.below b0);have HX1:=zH hx1;have HX2:=zH hx2;have hsame:Raw.same aa (.node kd nm ps ts) (.node kd' nm' ps' us)=(decide (kd=kd') && decide (nm=nm') && (!aa || decide (ps=ps')) && Raw.sames aa ts us):=by
   rw[Raw.same]
  have HW0:=zH hw0;clear ih hA hA' hv hv' hx1 hx2 hw0;by_cases h1:kd=kd'/\nm=nm'/\(at_=true->ps=ps')/\ts.length=us.length
  ·obtain⟨h1,h2,h3,hl⟩:=h1;have g1:((kd:Int) != kd')=false:=(by simp[h1]);have g2:(nm == nm')=true:=(by simp[h2]);have g3:((ts.length:Int) != (us.length:Int))=false:=(by simp;omega);have g4:at_=true->((ps:Int) != ps')=false:=fun h=>(by simp[h3 h]);have hps:(!aa || decide (ps=ps'))=true:=by
    cases aa
    ·rfl
    simp[h3 haa.symm]
   rw[hsame,Zt h1,Zt h2,hps,Bool.true_and,Bool.true_and,Bool.true_and];have HS:=zH (sames_spec aa ts us);have HF:=zH (sames_false aa ts us);have HL:=zH hl;generalize Raw.sames aa ts us=res at *;clear hsame h1 h2 h3 hps hl;have HAA:=zH haa;clear haa;have hat:at_=false\/(at_=true/\((ps:Int) != ps')=false):=by
    cases at_
    ·exact .inl rfl
    exact .inr ⟨rfl,g4 rfl⟩
   clear g4;rcases hat with rfl | ⟨rfl,g4⟩;all_goals
    go_enter Tryz.func17,Tryz.ntmps17;go_wp2_with fail;rw[HW0.o];generalize hG:w.heap.size=G at *;have HGG:=zH hG;clear hG;go_loopw [7] (fun i wr=>∃k:Nat,k<=ts.length/\i=zI k/\Below w0.heap.size w0 wr/\Hid (∀j(h:j<ts.length)(h':j<us.length),j<k->Raw.same aa ts[j] us[j]=true)) (fun i _=>ts.length-(intOf i).toNat);case atStart=>exact⟨0,by omega,rfl,zB _ _,zH fun j _ _ hj=>by omega⟩
    obtain⟨k,hk,rfl,hbw,hp⟩:=hrel;have hbx1:wr.cell? ⟨G,3,none⟩=some (.slice A ts.length c):=(hbw.cell (p:=⟨G,3,none⟩) (by simp only;omega)).trans HX1.o;by_cases hlt:k<ts.length
    ·have hlt':k<us.length:=(by have:=HL.o;omega);have hbx2:wr.cell? ⟨G+1,3,none⟩=some (.slice A' us.length c'):=(hbw.cell (p:=⟨G+1,3,none⟩) s0).trans HX2.o;obtain⟨b,o,k1,n1,p1,xs,B,c1,rfl,hb,ht,d0,d1,d2,d3,hcu,hB,hT⟩:=(HA.o.below hbw).at_ hlt;obtain⟨b',o',k2,n2,p2,ys,B',c2,rfl,hb',ht',e0,e1,e2,e3,hcu',hB',hT'⟩:=(HA'.o.below hbw).at_ hlt';have hmem:=Raw.sizes_mem ts ts[k] (Ze _);clear hB hB' ht ht';have hk0:=zP k;have hk1:(k:Int)<(ts.length:Int):=(by omega);have hk2:(k:Int)<(us.length:Int):=(by omega);have b1:Below wr.heap.size wr wr.drew:=(zB _ _).drew;have hws:=hbw.size;cases hq:Raw.same aa ts[k] us[k]
     ·have hres:=HF.o k hlt hlt' hq;subst hres;have HQ:=zH hq;clear hq;go_wp2_with fail;go_region_held3 (fun w'=>w'.cell? ⟨G,3,none⟩=some (.slice (some ⟨b,o,none⟩) ts.length c)/\w'.cell? ⟨G+1,3,none⟩=some (.slice (some ⟨b',o',none⟩) us.length c') /\
        w'.cell? ⟨b,o+k*4,none⟩=some (zI k1)/\w'.cell? ⟨b,o+k*4+1,none⟩=some (S n1)/\w'.cell? ⟨b,o+k*4+2,none⟩=some (zI p1)/\w'.cell? ⟨b,o+k*4+3,none⟩=some (.slice B xs.length c1) /\
        w'.cell? ⟨b',o'+k*4,none⟩=some (zI k2)/\w'.cell? ⟨b',o'+k*4+1,none⟩=some (S n2)/\w'.cell? ⟨b',o'+k*4+2,none⟩=some (zI p2)/\w'.cell? ⟨b',o'+k*4+3,none⟩=some (.slice B' ys.length c2))
       (first | go_keep | exact⟨kept hb1 (by simp only;omega) hbx1,kept hb1 (by simp only;omega) hbx2,kept hb1 hb d0,kept hb1 hb d1,kept hb1 hb d2,kept hb1 hb d3,kept hb1 hb' e0,kept hb1 hb' e1,kept hb1 hb' e2,kept hb1 hb' e3⟩)
       (first | (go_at_call 17;refine(IH.o ts[k] us[k] _ _ _ (by omega) (hT.below b1) (hT'.below b1)).mono ?_;rintro e w1⟨rfl,hb1⟩;rw[HQ.o]))
      go_wp2_with fail;go_ret;exact⟨rfl,by rw[HGG.o];exact b0.trans ((hbw.mono (by omega)).trans ((b1.trans hb1).mono (zR (by omega) hbw.size)))⟩
     have HQ:=zH hq;clear hq;go_wp2_with fail;go_region_held3 (fun w'=>w'.cell? ⟨G,3,none⟩=some (.slice (some ⟨b,o,none⟩) ts.length c)/\w'.cell? ⟨G+1,3,none⟩=some (.slice (some ⟨b',o',none⟩) us.length c') /\
       w'.cell? ⟨b,o+k*4,none⟩=some (zI k1)/\w'.cell? ⟨b,o+k*4+1,none⟩=some (S n1)/\w'.cell? ⟨b,o+k*4+2,none⟩=some (zI p1)/\w'.cell? ⟨b,o+k*4+3,none⟩=some (.slice B xs.length c1) /\
       w'.cell? ⟨b',o'+k*4,none⟩=some (zI k2)/\w'.cell? ⟨b',o'+k*4+1,none⟩=some (S n2)/\w'.cell? ⟨b',o'+k*4+2,none⟩=some (zI p2)/\w'.cell? ⟨b',o'+k*4+3,none⟩=some (.slice B' ys.length c2))
      (first | go_keep | exact⟨kept hb1 (by simp only;omega) hbx1,kept hb1 (by simp only;omega) hbx2,kept hb1 hb d0,kept hb1 hb d1,kept hb1 hb d2,kept hb1 hb d3,kept hb1 hb' e0,kept hb1 hb' e1,kept hb1 hb' e2,kept hb1 hb' e3⟩)
      (first | (go_at_call 17;refine(IH.o ts[k] us[k] _ _ _ (by omega) (hT.below b1) (hT'.below b1)).mono ?_;rintro e w1⟨rfl,hb1⟩;rw[HQ.o]))
     go_wp2_with fail;go_roundw;case rel =>
      refine⟨k+1,by omega,by go_num,hbw.trans ((b1.trans hb1).mono hbw.size),zH fun j h h' hj=>?_⟩;rcases Nat.lt_or_ge j k with h1 | h1
      ·exact hp.o j h h' h1
      obtain rfl:j=k:=(by omega);exact HQ.o
     case measure=>simp[intOf];omega
    have hres:=HS.o.2 ⟨HL.o,fun j h h'=>hp.o j h h' (by omega)⟩;subst hres;go_wp2_with fail;go_ret;exact⟨rfl,by rw[HGG.o];exact b0.trans (hbw.mono (by omega))⟩
  rw[hsame];have HAA:=zH haa;have HN:=zH h1;clear hsame h1 haa;by_cases c1:kd=kd'
  ·have g1:((kd:Int) != kd')=false:=(by simp[c1]);by_cases c2:nm=nm'
   ·have g2:(nm == nm')=true:=(by simp[c2]);by_cases c3:at_=true/\ps≠ps'
    ·obtain⟨rfl,c3⟩:=c3;have g4:((ps:Int) != ps')=true:=(by simp[c3]);have e:(decide (kd=kd') && decide (nm=nm') && (!aa || decide (ps=ps')) && Raw.sames aa ts us)=false:=(by simp[HAA.o,c3]);rw[e];clear e c1 c2 c3;go_enter Tryz.func17,Tryz.ntmps17;go_wp2_with fail;rw[HW0.o];go_ret;exact⟨rfl,b0⟩
    have c4:ts.length≠us.length:=fun h=>HN.o ⟨c1,c2,fun h'=>Classical.byContradiction fun h''=>c3 ⟨h',h''⟩,h⟩;have g3:((ts.length:Int) != (us.length:Int))=true:=(by simp;omega);have e:(decide (kd=kd') && decide (nm=nm') && (!aa || decide (ps=ps')) && Raw.sames aa ts us)=false:=(by simp[sames_len aa ts us c4]);rw[e];have hat:at_=false\/(at_=true/\((ps:Int) != ps')=false):=by
     cases at_
     ·exact .inl rfl
     exact .inr ⟨rfl,by simpa using c3⟩
    clear e c1 c2 c3 c4;rcases hat with rfl | ⟨rfl,g4⟩;all_goals
     go_enter Tryz.func17,Tryz.ntmps17;go_wp2_with fail;rw[HW0.o];go_ret;exact⟨rfl,b0⟩
   have g2:(nm == nm')=false:=(by simp[c2]);have e:(decide (kd=kd') && decide (nm=nm') && (!aa || decide (ps=ps')) && Raw.sames aa ts us)=false:=(by simp[c2]);rw[e];clear e c1 c2;go_enter Tryz.func17,Tryz.ntmps17;go_wp2_with fail;rw[HW0.o];go_ret;exact⟨rfl,b0⟩
  have g1:((kd:Int) != kd')=true:=by simp[c1]
  have e:(decide (kd=kd') && decide (nm=nm') && (!aa || decide (ps=ps')) && Raw.sames aa ts us)=false:=by simp[c1]
  rw[e];clear e c1;go_enter Tryz.func17,Tryz.ntmps17;go_wp2_with fail;rw[HW0.o];go_ret;exact⟨rfl,b0⟩
theorem rSame_any(at_:Bool)(t u:Raw)(v v':Value)(w:World)(h:t.size≤1000000000)(hv:TreeV w t v)(hv':TreeV w u v') :
  Calls Tryz.prog 17 #[v,v',.bool at_] w fun e w'=>e=.returned (.bool (Raw.same at_ t u))∧Below w.heap.size w w' :=
 rSame_aux at_ at_ rfl _ h t u v v' w (zN _) hv hv'
theorem lenCase0(m:Nat):∃b,((m:Int) == 0)=b∧decide (m=0)=b:=⟨_,rfl,by rw[Bool.eq_iff_iff];simp⟩
theorem lenCase1(m:Nat):∃b,((m:Int) == 1)=b∧decide (m=1)=b:=⟨_,rfl,by rw[Bool.eq_iff_iff];simp;omega⟩
theorem lenCase2(m:Nat):∃b,((m:Int) == 2)=b∧decide (m=2)=b:=⟨_,rfl,by rw[Bool.eq_iff_iff];simp;omega⟩
theorem nameCase(n q:List UInt8):∃b,(n == q)=b∧decide (n=q)=b:=⟨_,rfl,by rw[Bool.eq_iff_iff];simp⟩
theorem formed_any(k p:Int)(n:List UInt8)(ts:List Raw)(v:Value)(w:World)(hlen:ts.length<=1000000000)(hv:TreeV w (.node k n p ts) v) :
  Calls Tryz.prog 101 #[v] w fun e w'=>e=.returned (.bool (formed k n ts.length))/\Below w.heap.size w w':=by
 have hn:=hv.name_le;obtain⟨A,c,rfl,hc,hA⟩:=hv.open_;clear hA hv;have b0:Below w.heap.size w (w.alloc (.cells #[zI k,S n,zI p,.slice A ts.length c] 46)):=(zB _ _).alloc (zN _) _;have HI:=zH (fun W=>isName_any n W (by omega));generalize hm:ts.length=m at *;have hk:(k=1\/k=2)\/(k=3\/k=4)\/(k=5\/k=6\/k=9)\/(k=7\/k=8)\/(k≠1/\k≠2/\k≠3/\k≠4/\k≠5/\k≠6/\k≠7/\k≠8/\k≠9):=by omega
 rcases hk with hk | hk | hk | hk | hk
 ·have e:formed k n m=(isName n && decide (m=0)):=by unfold formed;rw[if_pos hk]
  rw[e];clear e;generalize isName n=q at *;obtain⟨bm,g0,d0⟩:=lenCase0 m;rw[d0];clear d0;rcases hk with rfl | rfl;all_goals
   cases q;all_goals
    cases bm;all_goals
     go_enter Tryz.func101,Tryz.ntmps101;go_wp2_with fail;refine(HI.o _).mono ?_;rintro e w1⟨rfl,rfl⟩;go_wp2_with fail;go_ret;exact⟨rfl,b0⟩
 ·have e:formed k n m=(decide (n=[]) && decide (m=0)):=by unfold formed;rw[if_neg (by omega),if_pos hk]
  rw[e];clear e;obtain⟨bm,g0,d0⟩:=lenCase0 m;obtain⟨q,g1,d1⟩:=nameCase n [];rw[d0,d1];clear d0 d1;rcases hk with rfl | rfl;all_goals
   cases q;all_goals
    cases bm;all_goals
     go_enter Tryz.func101,Tryz.ntmps101;go_wp2_with fail;go_ret;exact⟨rfl,b0⟩
 ·have e:formed k n m=(decide (n=[]) && decide (m=2)):=by unfold formed;rw[if_neg (by omega),if_neg (by omega),if_pos hk]
  rw[e];clear e;obtain⟨bm,g0,d0⟩:=lenCase2 m;obtain⟨q,g1,d1⟩:=nameCase n [];rw[d0,d1];clear d0 d1;rcases hk with rfl | rfl | rfl;all_goals
   cases q;all_goals
    cases bm;all_goals
     go_enter Tryz.func101,Tryz.ntmps101;go_wp2_with fail;go_ret;exact⟨rfl,b0⟩
 ·have e:formed k n m=((isName n || decide (n=[95])) && (decide (m=1) || decide (m=2))):=by unfold formed;rw[if_neg (by omega),if_neg (by omega),if_neg (by omega),if_pos hk]
  rw[e];clear e;obtain⟨bm,g0,d0⟩:=lenCase1 m;obtain⟨bn,g1,d1⟩:=lenCase2 m;obtain⟨r,g2,d2⟩:=nameCase n [95];rw[d0,d1,d2];clear d0 d1 d2;generalize isName n=q at *;rcases hk with rfl | rfl;all_goals
   cases q;all_goals
    cases r;all_goals
     cases bm;all_goals
      cases bn;all_goals
       go_enter Tryz.func101,Tryz.ntmps101;go_wp2_with fail;refine(HI.o _).mono ?_;rintro e w1⟨rfl,rfl⟩;go_wp2_with fail;go_ret;exact⟨rfl,b0⟩
 obtain⟨h1,h2,h3,h4,h5,h6,h7,h8,h9⟩:=hk;have e:formed k n m=false:=by unfold formed;rw[if_neg (by omega),if_neg (by omega),if_neg (by omega),if_neg (by omega)]
 rw[e];have e1:(k == 1)=false:=by simp[h1]
 have e2:(k == 2)=false:=by simp[h2]
 have e3:(k == 3)=false:=by simp[h3]
 have e4:(k == 4)=false:=by simp[h4]
 have e5:(k == 5)=false:=by simp[h5]
 have e6:(k == 6)=false:=by simp[h6]
 have e7:(k == 7)=false:=by simp[h7]
 have e8:(k == 8)=false:=by simp[h8]
 have e9:(k == 9)=false:=by simp[h9]
 clear e h1 h2 h3 h4 h5 h6 h7 h8 h9;go_enter Tryz.func101,Tryz.ntmps101;go_wp2_with fail;go_ret;exact⟨rfl,b0⟩
theorem enters_whole:∀args w,(callFunc 100 args).run Tryz.prog w=.ok (.enter 100 args) w:=enters_of Tryz.func100 (by kernel_rfl) rfl
theorem enters_not:∀args w,(callFunc 103 args).run Tryz.prog w=.ok (.enter 103 args) w:=enters_of Tryz.func103 (by kernel_rfl) rfl
def WholeAt(w:World)(B:Nat):Prop:=B<w.heap.size∧w.cell? ⟨B,0,none⟩=some (.func (.func 100) #[] #[.pointer (some ⟨B,0,none⟩)])
theorem WholeAt.below{w w':World}{B:Nat}(h:WholeAt w B)(hb:Below w.heap.size w w'):WholeAt w' B :=
 ⟨Zl h.1 hb.size,(hb.cell (p:=⟨B,0,none⟩) h.1).trans h.2⟩
def WholeUpto(m:Nat):Prop:=∀(t:Raw)(v:Value)(w:World)(B:Nat),t.size≤m→TreeV w t v→WholeAt w B →
  Calls Tryz.prog 100 #[v,.pointer (some ⟨B,0,none⟩)] w fun e w'=>e=.returned (.bool t.form)∧Below w.heap.size w w'
theorem notWhole_any(m:Nat)(ih:WholeUpto m)(t:Raw)(v:Value)(w:World)(B:Nat)(hm:t.size<=m)(hv:TreeV w t v)(hB:WholeAt w B) :
  Calls Tryz.prog 103 #[v,.pointer (some ⟨B,0,none⟩)] w fun e w'=>e=.returned (.bool (!t.form))/\zb w w':=by
 have he:=enters_whole;obtain⟨kd,nm,ps,ts⟩:=t;obtain⟨A,c,rfl,hc,hA⟩:=hv.open_;have b0:zb w (w.alloc (.cells (zT kd nm ps A ts c) 46)):=(zB _ _).alloc (zN _) _;have IH:=zH (ih _ _ _ B hm (hv.below b0) (hB.below b0));have hcell:=(hB.below b0).2;clear ih hB hv hA;generalize (Raw.node kd nm ps ts).form=q at *;go_enter Tryz.func103,Tryz.ntmps103;go_wp2_with fail;refine IH.o.mono ?_;rintro e w1⟨rfl,hb1⟩;cases q;all_goals
  go_wp2_with fail;go_ret;exact⟨rfl,b0.trans (hb1.mono b0.size)⟩
theorem forms_spec:∀(ts:List Raw),Raw.forms ts=true↔∀k(h:k<ts.length),ts[k].form=true
 |[]=>by simp[Raw.forms]
 |a :: r=>by
  rw[Raw.forms,Za,forms_spec r];constructor
  ·rintro⟨h1,h2⟩ k h;cases k with
   |zero=>exact h1
   |succ k=>exact h2 k (by simpa using h)
  intro h;exact⟨h 0 (by simp),fun k hk=>h (k+1) (by simpa using hk)⟩
theorem forms_false(ts:List Raw)(k:Nat)(h:k<ts.length)(hf:ts[k].form=false):Raw.forms ts=false:=by
 cases hs:Raw.forms ts
 ·rfl
 rw[(forms_spec ts).1 hs k h] at hf;cases hf
theorem indexNot_any(m:Nat)(ih:WholeUpto m)(ts:List Raw)(A:Option Addr)(c:Nat)(w:World)(B:Nat)(hm:Raw.sizes ts<=m)(hmax:ts.length<=1000000000)(h:TreesAt w A ts)(hB:WholeAt w B) :
  Calls Tryz.prog 158 #[.slice A ts.length c,.func (.func 103) #[] #[.pointer (some ⟨B,0,none⟩)]] w fun e w'=>∃i:Int,e=.returned (zI i)/\decide (i≥0)=!Raw.forms ts/\zb w w':=by
 have he:=enters_not;have IH:=zH (notWhole_any m ih);have HA:=zH h;have HB:=zH hB;have HS:=zH (forms_spec ts);have HF:=zH (forms_false ts);clear ih h hB;generalize Raw.forms ts=res at *;go_enter Tryz.func158,Tryz.ntmps158;go_wp2_with fail;go_loopw [8] (fun i wr=>∃k:Nat,k<=ts.length/\i=zI k/\zb w wr/\Hid (∀j(h:j<ts.length),j<k->ts[j].form=true)) (fun i _=>ts.length-(intOf i).toNat);case atStart=>exact⟨0,by omega,rfl,zB _ _,zH fun j _ hj=>by omega⟩
 obtain⟨k,hk,rfl,hbw,hp⟩:=hrel;by_cases hlt:k<ts.length
 ·obtain⟨b,o,k1,n1,p1,xs,B1,c1,rfl,hb,ht,d0,d1,d2,d3,hcu,hB,hT⟩:=(HA.o.below hbw).at_ hlt;have hmem:=Raw.sizes_mem ts ts[k] (Ze _);clear hB ht;have hT2:=zH hT;have HB2:=zH (HB.o.below hbw);cases hq:ts[k].form
  ·have hres:=HF.o k hlt hq;subst hres;have HQ:=zH hq;clear hq;go_wp2_with fail;refine(IH.o ts[k] _ _ B (by omega) hT2.o HB2.o).mono ?_;rintro e w1⟨rfl,hb1⟩;rw[HQ.o];go_wp2_with fail;go_ret;exact⟨k,rfl,by simp,hbw.trans (hb1.mono hbw.size)⟩
  have HQ:=zH hq;clear hq;go_wp2_with fail;refine(IH.o ts[k] _ _ B (by omega) hT2.o HB2.o).mono ?_;rintro e w1⟨rfl,hb1⟩;rw[HQ.o];go_wp2_with fail;go_roundw;case rel =>
   refine⟨k+1,by omega,by go_num,hbw.trans (hb1.mono hbw.size),zH fun j h hj=>?_⟩;rcases Nat.lt_or_ge j k with h1 | h1
   ·exact hp.o j h h1
   obtain rfl:j=k:=(by omega);exact HQ.o
  case measure=>simp[intOf];omega
 have hres:=HS.o.2 fun j h=>hp.o j h (by omega);subst hres;go_wp2_with fail;go_ret;exact⟨-1,rfl,by decide,hbw⟩
theorem containsNot_any(m:Nat)(ih:WholeUpto m)(ts:List Raw)(A:Option Addr)(c:Nat)(w:World)(B:Nat)(hm:Raw.sizes ts<=m)(hmax:ts.length<=1000000000)(h:TreesAt w A ts)(hB:WholeAt w B) :
  Calls Tryz.prog 102 #[.slice A ts.length c,.func (.func 103) #[] #[.pointer (some ⟨B,0,none⟩)]] w fun e w'=>e=.returned (.bool (!Raw.forms ts))/\zb w w':=by
 have IH:=zH (indexNot_any m ih ts A c w B hm hmax h hB);clear ih h hB;go_enter Tryz.func102,Tryz.ntmps102;go_wp2_with fail;refine IH.o.mono ?_;rintro e w1⟨i,rfl,hi,hb1⟩;have HI:=zH hi;clear hi;go_wp2_with fail;go_ret;exact⟨ret_bool HI.o,hb1⟩
theorem whole_upto(m:Nat)(hmm:m<=1000000000):WholeUpto m:=by
 induction m with
 |zero=>intro t v w B h _ _;have:=t.size_pos;omega
 |succ m ih =>
  intro t v w B hsz hv hB;obtain⟨kd,nm,ps,ts⟩:=t;obtain⟨A,c,rfl,hc,hA⟩:=hv.open_;have hsz':=hsz;simp only[Raw.size] at hsz';have hlen:=Raw.sizes_len ts;have b0:zb w (w.alloc (.cells (zT kd nm ps A ts c) 46)):=(zB _ _).alloc (zN _) _;have HF:=zH (formed_any kd ps nm ts _ _ (by omega) (hv.below b0));have HC:=zH (fun W (hb:zb w W)=>containsNot_any m (ih (by omega)) ts A c W B (by omega) (by omega) (hA.below hb) (hB.below hb));rw[Raw.form];clear ih hA hv hB;generalize formed kd nm ts.length=q1 at *;generalize Raw.forms ts=q2 at *;have hx:(w.alloc (.cells (zT kd nm ps A ts c) 46)).cell? ⟨w.heap.size,3,none⟩=some (.slice A ts.length c):=by simp
  cases q1
  ·go_enter Tryz.func100,Tryz.ntmps100;go_wp2_with fail;refine HF.o.mono ?_;rintro e w1⟨rfl,hb1⟩;go_wp2_with fail;go_ret;exact⟨rfl,b0.trans (hb1.mono b0.size)⟩
  go_enter Tryz.func100,Tryz.ntmps100;go_wp2_with fail;refine HF.o.mono ?_;rintro e w1⟨rfl,hb1⟩;have hx1:=(hb1.cell (p:=⟨w.heap.size,3,none⟩) (by simp)).trans hx;go_wp2_with fail;refine(HC.o _ (b0.trans (hb1.mono b0.size))).mono ?_;rintro e w2⟨rfl,hb2⟩;cases q2;all_goals
   go_wp2_with fail;go_ret;exact⟨rfl,(b0.trans (hb1.mono b0.size)).trans (hb2.mono (b0.trans (hb1.mono b0.size)).size)⟩
theorem rForm_any(m:Nat)(hmm:m<=1000000000):∀(t:Raw)(v:Value)(w:World),t.size<=m->TreeV w t v ->
  Calls Tryz.prog 67 #[v] w fun e w'=>e=.returned (.bool t.form)/\Below w.heap.size w w':=by
 induction m with
 |zero=>intro t v w h _;have:=t.size_pos;omega
 |succ m ih =>
  intro t v w hsz hv;obtain⟨kd,nm,ps,ts⟩:=t;have hn:=hv.name_le;obtain⟨A,c,rfl,hc,hA⟩:=hv.open_;simp only[Raw.size] at hsz;have hlen:=Raw.sizes_len ts;obtain⟨w0,hw0⟩:∃w0,w.alloc (.cells #[zI kd,S nm,zI ps,.slice A ts.length c] 46)=w0:=⟨_,rfl⟩;have b0:=zG hw0;have s0:w.heap.size<w0.heap.size:=by rw[<-hw0];simp
  have hx0:w0.cell? ⟨w.heap.size,0,none⟩=some (zI kd):=by rw[<-hw0];simp
  have hx1:w0.cell? ⟨w.heap.size,1,none⟩=some (S nm):=by rw[<-hw0];simp
  have hx3:w0.cell? ⟨w.heap.size,3,none⟩=some (.slice A ts.length c):=by rw[<-hw0];simp
  have IH:=zH (ih (by omega));have HA:=zH (hA.below b0);have HN:=zH (fun W=>rIsName_any nm W (by omega));have HW0:=zH hw0;rw[Raw.form];clear ih hA hv hw0;have HS:=zH (forms_spec ts);have HF:=zH (forms_false ts);generalize Raw.forms ts=res at *;generalize hfo:formed kd nm ts.length=fo at *;have HFO:=zH hfo;clear hfo;go_enter Tryz.func67,Tryz.ntmps67;go_upto_block 0 with fail;rw[HW0.o];clear HW0;generalize hG:w.heap.size=G at *;have HGG:=zH hG;clear hG;go_cut [3] (fun s3 wx=>s3=.bool fo/\wx=w0);case first =>
   clear IH HA HS HF;have hk:(kd=1\/kd=2)\/(kd=3\/kd=4)\/(kd=5\/kd=6\/kd=9)\/(kd=7\/kd=8)\/(kd≠1/\kd≠2/\kd≠3/\kd≠4/\kd≠5/\kd≠6/\kd≠7/\kd≠8/\kd≠9):=(by omega);rcases hk with hk | hk | hk | hk | hk
   ·have e:fo=(isName nm && decide (ts.length=0)):=(by rw[<-HFO.o];unfold formed;rw[if_pos hk]);generalize isName nm=q at *;obtain⟨bm,g0,d0⟩:=lenCase0 ts.length;rw[d0] at e;clear HFO;subst e;clear d0;rcases hk with rfl | rfl;all_goals
     cases q;all_goals
      cases bm;all_goals
       go_wp2_with fail;refine(HN.o _).mono ?_;rintro e w1⟨rfl,rfl⟩;go_wp2_with fail;go_meet;exact⟨rfl,rfl⟩
   ·have e:fo=(decide (nm=[]) && decide (ts.length=0)):=(by rw[<-HFO.o];unfold formed;rw[if_neg (by omega),if_pos hk]);obtain⟨bm,g0,d0⟩:=lenCase0 ts.length;obtain⟨q,g1,d1⟩:=nameCase nm [];rw[d0,d1] at e;clear HFO;subst e;clear d0 d1;rcases hk with rfl | rfl;all_goals
     cases q;all_goals
      cases bm;all_goals
       go_wp2_with fail;go_meet;exact⟨rfl,rfl⟩
   ·have e:fo=(decide (nm=[]) && decide (ts.length=2)):=(by rw[<-HFO.o];unfold formed;rw[if_neg (by omega),if_neg (by omega),if_pos hk]);obtain⟨bm,g0,d0⟩:=lenCase2 ts.length;obtain⟨q,g1,d1⟩:=nameCase nm [];rw[d0,d1] at e;clear HFO;subst e;clear d0 d1;rcases hk with rfl | rfl | rfl;all_goals
     cases q;all_goals
      cases bm;all_goals
       go_wp2_with fail;go_meet;exact⟨rfl,rfl⟩
   ·have e:fo=((decide (nm=[95]) || isName nm) && (decide (ts.length=1) || decide (ts.length=2))):=(by rw[<-HFO.o];unfold formed;rw[if_neg (by omega),if_neg (by omega),if_neg (by omega),if_pos hk,Bool.or_comm (isName nm)]);generalize isName nm=q at *;obtain⟨bm,g0,d0⟩:=lenCase1 ts.length;obtain⟨bn,g1,d1⟩:=lenCase2 ts.length;obtain⟨r,g2,d2⟩:=nameCase nm [95];rw[d0,d1,d2] at e;clear HFO;subst e;clear d0 d1 d2;rcases hk with rfl | rfl;all_goals
     cases r
     ·cases q;all_goals
       cases bm;all_goals
        cases bn;all_goals
         go_wp2_with fail;refine(HN.o _).mono ?_;rintro e w1⟨rfl,rfl⟩;go_wp2_with fail;go_meet;exact⟨rfl,rfl⟩
     cases bm;all_goals
      cases bn;all_goals
       go_wp2_with fail;go_meet;exact⟨rfl,rfl⟩
   obtain⟨h1,h2,h3,h4,h5,h6,h7,h8,h9⟩:=hk;have e:fo=false:=(by rw[<-HFO.o];unfold formed;rw[if_neg (by omega),if_neg (by omega),if_neg (by omega),if_neg (by omega)]);clear HFO;subst e;have e1:(kd == 1)=false:=(by simp[h1]);have e2:(kd == 2)=false:=(by simp[h2]);have e3:(kd == 3)=false:=(by simp[h3]);have e4:(kd == 4)=false:=(by simp[h4]);have e5:(kd == 5)=false:=(by simp[h5]);have e6:(kd == 6)=false:=(by simp[h6]);have e7:(kd == 7)=false:=(by simp[h7]);have e8:(kd == 8)=false:=(by simp[h8]);have e9:(kd == 9)=false:=(by simp[h9]);clear h1 h2 h3 h4 h5 h6 h7 h8 h9;go_wp2_with fail;go_meet;exact⟨rfl,rfl⟩
  obtain⟨rfl,rfl⟩:=hcut;clear HFO;cases fo
  ·go_wp2_with fail;go_ret;exact⟨rfl,by rw[HGG.o];exact b0⟩
  go_wp2_with fail;go_loopw [4] (fun i wr=>∃k:Nat,k<=ts.length/\i=zI k/\Below wc.heap.size wc wr/\Hid (∀j(h:j<ts.length),j<k->ts[j].form=true)) (fun i _=>ts.length-(intOf i).toNat);case atStart=>exact⟨0,by omega,rfl,zB _ _,zH fun j _ hj=>by omega⟩
  obtain⟨k,hk,rfl,hbw,hp⟩:=hrel;have hbx:wr.cell? ⟨G,3,none⟩=some (.slice A ts.length c):=(hbw.cell (p:=⟨G,3,none⟩) s0).trans hx3;by_cases hlt:k<ts.length
  ·obtain⟨b,o,k1,n1,p1,xs,B1,c1,rfl,hb,ht,d0,d1,d2,d3,hcu,hB,hT⟩:=(HA.o.below hbw).at_ hlt;have hmem:=Raw.sizes_mem ts ts[k] (Ze _);clear hB ht;have hws:=hbw.size;cases hq:ts[k].form
   ·have hres:=HF.o k hlt hq;subst hres;have HQ:=zH hq;clear hq;go_wp2_with fail;refine(IH.o ts[k] _ _ (by omega) hT).mono ?_;rintro e w1⟨rfl,hb1⟩;rw[HQ.o];go_wp2_with fail;go_ret;exact⟨rfl,by rw[HGG.o];exact b0.trans ((hbw.mono (by omega)).trans (hb1.mono (by omega)))⟩
   have HQ:=zH hq;clear hq;go_wp2_with fail;refine(IH.o ts[k] _ _ (by omega) hT).mono ?_;rintro e w1⟨rfl,hb1⟩;rw[HQ.o];go_wp2_with fail;go_roundw;case rel =>
    refine⟨k+1,by omega,by go_num,hbw.trans (hb1.mono hbw.size),zH fun j h hj=>?_⟩;rcases Nat.lt_or_ge j k with h1 | h1
    ·exact hp.o j h h1
    obtain rfl:j=k:=(by omega);exact HQ.o
   case measure=>simp[intOf];omega
  have hres:=HS.o.2 fun j h=>hp.o j h (by omega);subst hres;go_wp2_with fail;go_ret;exact⟨rfl,by rw[HGG.o];exact b0.trans (hbw.mono (by omega))⟩
theorem wf_any(t:Raw)(v:Value)(w:World)(hmax:t.size<=1000000000)(hv:TreeV w t v) :
  Calls Tryz.prog 48 #[v] w fun e w'=>e=.returned (zI t.wf)/\zb w w':=by
 have he:=enters_whole;have hd:=Raw.depth_le_size _ t (zN _);have HWF:=zH (show t.wf=if !t.form then 1 else if 4096<t.size\/128<t.depth then 2 else 0 from rfl);generalize t.wf=wf at *;obtain⟨A,c,kd,nm,ps,ts,hT,rfl,hc,hA⟩:∃A c kd nm ps ts,t=.node kd nm ps ts/\v=.agg (zT kd nm ps A ts c)/\ts.length<=c/\TreesAt w A ts:=by
  obtain⟨kd,nm,ps,ts⟩:=t;obtain⟨A,c,rfl,hc,hA⟩:=hv.open_;exact⟨A,c,kd,nm,ps,ts,rfl,rfl,hc,hA⟩
 clear hT hA;obtain⟨w0,hw0⟩:∃w0,w.alloc (.cells (zT kd nm ps A ts c) 46)=w0:=⟨_,rfl⟩;have b0:=zG hw0;have s0:w.heap.size+1=w0.heap.size:=by rw[<-hw0];simp
 have hx0:w0.cell? ⟨w.heap.size,0,none⟩=some (zI kd):=by rw[<-hw0];simp
 have hx1:w0.cell? ⟨w.heap.size,1,none⟩=some (S nm):=by rw[<-hw0];simp
 have hx2:w0.cell? ⟨w.heap.size,2,none⟩=some (zI ps):=by rw[<-hw0];simp
 have hx3:w0.cell? ⟨w.heap.size,3,none⟩=some (.slice A ts.length c):=by rw[<-hw0];simp
 obtain⟨w1,hw1⟩:∃w1,w0.alloc (.cells #[.func (.func 100) #[] #[.pointer (some ⟨w0.heap.size,0,none⟩)]] 135)=w1:=⟨_,rfl⟩;have b1:=zG hw1;have s1:w0.heap.size+1=w1.heap.size:=by rw[<-hw1];simp
 have hcell:w1.cell? ⟨w0.heap.size,0,none⟩=some (.func (.func 100) #[] #[.pointer (some ⟨w0.heap.size,0,none⟩)]):=by rw[<-hw1];simp
 have hsz:w1.heap.size=w.heap.size+2:=by omega
 have hy0:=(b1.cell (p:=⟨w.heap.size,0,none⟩) (by simp only;omega)).trans hx0;have hy1:=(b1.cell (p:=⟨w.heap.size,1,none⟩) (by simp only;omega)).trans hx1;have hy2:=(b1.cell (p:=⟨w.heap.size,2,none⟩) (by simp only;omega)).trans hx2;have hy3:=(b1.cell (p:=⟨w.heap.size,3,none⟩) (by simp only;omega)).trans hx3;have b01:zb w w1:=b0.trans (b1.mono (by omega));clear hx0 hx1 hx2 hx3;have HV:=zH (hv.below b01);have HI:=zH (whole_upto _ hmax t _ w1 w0.heap.size (zN _) HV.o ⟨by omega,hcell⟩);go_enter Tryz.func48,Tryz.ntmps48;go_upto_region 3 with fail;clear hw1 hw0;generalize hq:t.form=q at *;have HQ:=zH hq;clear hq;cases q
 ·go_wp2_with fail;refine HI.o.mono ?_;rintro e w2⟨rfl,hb2⟩;go_wp2_with fail;go_ret;exact⟨ret_int (by rw[HWF.o];rfl),b01.trans (hb2.mono (by omega))⟩
 go_wp2_with fail;refine HI.o.mono ?_;rintro e w2⟨rfl,hb2⟩;have hz0:=(hb2.cell (p:=⟨w.heap.size,0,none⟩) (by simp only;omega)).trans hy0;have hz1:=(hb2.cell (p:=⟨w.heap.size,1,none⟩) (by simp only;omega)).trans hy1;have hz2:=(hb2.cell (p:=⟨w.heap.size,2,none⟩) (by simp only;omega)).trans hy2;have hz3:=(hb2.cell (p:=⟨w.heap.size,3,none⟩) (by simp only;omega)).trans hy3;have HV2:=zH (HV.o.below hb2);have hs2:=hb2.size;clear hy0 hy1 hy2 hy3 hcell;by_cases hbig:4096<t.size
 ·have g1:decide ((t.size:Int)>4096)=true:=by simp;omega
  go_wp2_with fail;refine(size_any _ t _ _ (zN _) hmax HV2.o).mono ?_;rintro e w3⟨rfl,hb3⟩;go_wp2_with fail;go_ret;exact⟨ret_int (by rw[HWF.o,if_neg (by simp),if_pos (.inl hbig)]),b01.trans ((hb2.mono (by omega)).trans (hb3.mono (by omega)))⟩
 have g1:decide ((t.size:Int)>4096)=false:=by simp;omega
 go_wp2_with fail;refine(size_any _ t _ _ (zN _) hmax HV2.o).mono ?_;rintro e w3⟨rfl,hb3⟩;have hz0:=(hb3.cell (p:=⟨w.heap.size,0,none⟩) (by simp only;omega)).trans hz0;have hz1:=(hb3.cell (p:=⟨w.heap.size,1,none⟩) (by simp only;omega)).trans hz1;have hz2:=(hb3.cell (p:=⟨w.heap.size,2,none⟩) (by simp only;omega)).trans hz2;have hz3:=(hb3.cell (p:=⟨w.heap.size,3,none⟩) (by simp only;omega)).trans hz3;have HV3:=zH (HV2.o.below hb3);have hs3:=hb3.size;by_cases hdp:128<t.depth
 ·have g2:decide ((t.depth:Int)>128)=true:=by simp;omega
  go_wp2_with fail;refine(depth_any _ t _ _ (zN _) hmax HV3.o).mono ?_;rintro e w4⟨rfl,hb4⟩;go_wp2_with fail;go_ret;exact⟨ret_int (by rw[HWF.o,if_neg (by simp),if_pos (.inr hdp)]),b01.trans ((hb2.mono (by omega)).trans ((hb3.mono (by omega)).trans (hb4.mono (by omega))))⟩
 have g2:decide ((t.depth:Int)>128)=false:=by simp;omega
 go_wp2_with fail;refine(depth_any _ t _ _ (zN _) hmax HV3.o).mono ?_;rintro e w4⟨rfl,hb4⟩;go_wp2_with fail;go_ret;exact⟨ret_int (by rw[HWF.o,if_neg (by simp),if_neg (by omega)]),b01.trans ((hb2.mono (by omega)).trans ((hb3.mono (by omega)).trans (hb4.mono (by omega))))⟩
theorem rWf_any(t:Raw)(v:Value)(w:World)(hmax:t.size<=1000000000)(hv:TreeV w t v) :
  Calls Tryz.prog 37 #[v] w fun e w'=>e=.returned (zI t.wf)/\zb w w':=by
 have hd:=Raw.depth_le_size _ t (zN _);have HWF:=zH (show t.wf=if !t.form then 1 else if 4096<t.size\/128<t.depth then 2 else 0 from rfl);generalize t.wf=wf at *;obtain⟨A,c,kd,nm,ps,ts,hT,rfl,hc,hA⟩:∃A c kd nm ps ts,t=.node kd nm ps ts/\v=.agg (zT kd nm ps A ts c)/\ts.length<=c/\TreesAt w A ts:=by
  obtain⟨kd,nm,ps,ts⟩:=t;obtain⟨A,c,rfl,hc,hA⟩:=hv.open_;exact⟨A,c,kd,nm,ps,ts,rfl,rfl,hc,hA⟩
 clear hT hA;obtain⟨w1,hw1⟩:∃w1,w.alloc (.cells (zT kd nm ps A ts c) 46)=w1:=⟨_,rfl⟩;have b01:=zG hw1;have s0:w.heap.size+1=w1.heap.size:=by rw[<-hw1];simp
 have hy0:w1.cell? ⟨w.heap.size,0,none⟩=some (zI kd):=by rw[<-hw1];simp
 have hy1:w1.cell? ⟨w.heap.size,1,none⟩=some (S nm):=by rw[<-hw1];simp
 have hy2:w1.cell? ⟨w.heap.size,2,none⟩=some (zI ps):=by rw[<-hw1];simp
 have hy3:w1.cell? ⟨w.heap.size,3,none⟩=some (.slice A ts.length c):=by rw[<-hw1];simp
 have HV:=zH (hv.below b01);have HI:=zH (rForm_any _ hmax t _ w1 (zN _) HV.o);go_enter Tryz.func37,Tryz.ntmps37;go_upto_region 1 with fail;clear hw1;generalize hq:t.form=q at *;have HQ:=zH hq;clear hq;cases q
 ·go_wp2_with fail;refine HI.o.mono ?_;rintro e w2⟨rfl,hb2⟩;go_wp2_with fail;go_ret;exact⟨ret_int (by rw[HWF.o];rfl),b01.trans (hb2.mono (by omega))⟩
 go_wp2_with fail;refine HI.o.mono ?_;rintro e w2⟨rfl,hb2⟩;have hz0:=(hb2.cell (p:=⟨w.heap.size,0,none⟩) (by simp only;omega)).trans hy0;have hz1:=(hb2.cell (p:=⟨w.heap.size,1,none⟩) (by simp only;omega)).trans hy1;have hz2:=(hb2.cell (p:=⟨w.heap.size,2,none⟩) (by simp only;omega)).trans hy2;have hz3:=(hb2.cell (p:=⟨w.heap.size,3,none⟩) (by simp only;omega)).trans hy3;have HV2:=zH (HV.o.below hb2);have hs2:=hb2.size;clear hy0 hy1 hy2 hy3;by_cases hbig:4096<t.size
 ·have g1:decide ((t.size:Int)>4096)=true:=by simp;omega
  go_wp2_with fail;refine(rSize_any _ t _ _ (zN _) hmax HV2.o).mono ?_;rintro e w3⟨rfl,hb3⟩;go_wp2_with fail;go_ret;exact⟨ret_int (by rw[HWF.o,if_neg (by simp),if_pos (.inl hbig)]),b01.trans ((hb2.mono (by omega)).trans (hb3.mono (by omega)))⟩
 have g1:decide ((t.size:Int)>4096)=false:=by simp;omega
 go_wp2_with fail;refine(rSize_any _ t _ _ (zN _) hmax HV2.o).mono ?_;rintro e w3⟨rfl,hb3⟩;have hz0:=(hb3.cell (p:=⟨w.heap.size,0,none⟩) (by simp only;omega)).trans hz0;have hz1:=(hb3.cell (p:=⟨w.heap.size,1,none⟩) (by simp only;omega)).trans hz1;have hz2:=(hb3.cell (p:=⟨w.heap.size,2,none⟩) (by simp only;omega)).trans hz2;have hz3:=(hb3.cell (p:=⟨w.heap.size,3,none⟩) (by simp only;omega)).trans hz3;have HV3:=zH (HV2.o.below hb3);have hs3:=hb3.size;by_cases hdp:128<t.depth
 ·have g2:decide ((t.depth:Int)>128)=true:=by simp;omega
  go_wp2_with fail;refine(rDepth_any _ t _ _ (zN _) hmax HV3.o).mono ?_;rintro e w4⟨rfl,hb4⟩;go_wp2_with fail;go_ret;exact⟨ret_int (by rw[HWF.o,if_neg (by simp),if_pos (.inr hdp)]),b01.trans ((hb2.mono (by omega)).trans ((hb3.mono (by omega)).trans (hb4.mono (by omega))))⟩
 have g2:decide ((t.depth:Int)>128)=false:=by simp;omega
 go_wp2_with fail;refine(rDepth_any _ t _ _ (zN _) hmax HV3.o).mono ?_;rintro e w4⟨rfl,hb4⟩;go_wp2_with fail;go_ret;exact⟨ret_int (by rw[HWF.o,if_neg (by simp),if_neg (by omega)]),b01.trans ((hb2.mono (by omega)).trans ((hb3.mono (by omega)).trans (hb4.mono (by omega))))⟩
end
end Go.Proofs.YthajalgkjonaaaaGreatDoor
namespace Lfc
def twoText(o m e:List UInt8):List (List UInt8)→List UInt8
 |[a]=>o++a++e
 |[a,b]=>o++a++m++b++e
 |_=>[]
def bindText(n o e:List UInt8):List (List UInt8)→List UInt8
 |[a]=>[40]++o++n++(e++[32])++a++[41]
 |[a,b]=>[40]++o++n++[58]++a++(e++[32])++b++[41]
 |_=>[]
def putText(q:List (List UInt8))(k:Int)(n:List UInt8)(xs:List (List UInt8)):List UInt8 :=
 if k=1 then(if n∈q then [40]++n++[41] else n)
 else if k=2 then [64]++n
 else if k=3 then [95]
 else if k=4 then [116,121,112,101]
 else if k=5 then twoText [40] [32] [41] xs
 else if k=6 then twoText [40] [32,45,62,32] [41] xs
 else if k=7 then bindText n [123] [125] xs
 else if k=8 then bindText n [91] [93] xs
 else if k=9 then twoText [40] [32,58,32] [41] xs
 else []
mutual
def Raw.text(q:List (List UInt8)):Raw→List UInt8
 |.node k n _ ts=>putText q k n (Raw.texts q ts)
def Raw.texts(q:List (List UInt8)):List Raw→List (List UInt8)
 |[]=>[]
 |a :: r=>Raw.text q a :: Raw.texts q r
end
mutual
def Raw.short(s:Nat):Raw→Prop
 |.node _ n _ ts=>n.length≤s∧Raw.shorts s ts
def Raw.shorts(s:Nat):List Raw→Prop
 |[]=>True
 |a :: r=>Raw.short s a∧Raw.shorts s r
end
theorem putText_len(q:List (List UInt8))(k:Int)(n:List UInt8)(xs:List (List UInt8))(z:Nat)(hx:xs.flatten.length≤z):(putText q k n xs).length≤n.length+20+z:=by
 have h2:∀(o m e:List UInt8),o.length+m.length+e.length≤20→(twoText o m e xs).length≤20+z:=by
  intro o m e h;unfold twoText;split
  ·simp at hx ⊢;omega
  ·simp at hx ⊢;omega
  simp
 have h3:∀(o e:List UInt8),o.length+e.length≤15→(bindText n o e xs).length≤n.length+20+z:=by
  intro o e h;unfold bindText;split
  ·simp at hx ⊢;omega
  ·simp at hx ⊢;omega
  simp
 unfold putText;split
 ·split <;> simp <;> omega
 split
 ·simp;omega
 split
 ·simp;omega
 split
 ·simp;omega
 split
 ·have:=h2 [40] [32] [41] (by simp);omega
 split
 ·have:=h2 [40] [32,45,62,32] [41] (by simp);omega
 split
 ·exact h3 [123] [125] (by simp)
 split
 ·exact h3 [91] [93] (by simp)
 split
 ·have:=h2 [40] [32,58,32] [41] (by simp);omega
 simp
mutual
theorem text_len(q:List (List UInt8))(s:Nat):∀(t:Raw),t.short s→(t.text q).length≤t.size*(s+20)
 |.node k n p ts,h=>by
  rw[Raw.short] at h;have h1:=texts_flat q s ts h.2;have h2:=putText_len q k n _ _ h1;simp only[Raw.text,Raw.size,Nat.add_mul,Nat.one_mul] at h2 ⊢;omega
theorem texts_flat(q:List (List UInt8))(s:Nat):∀(ts:List Raw),Raw.shorts s ts→(Raw.texts q ts).flatten.length≤Raw.sizes ts*(s+20)
 |[],_=>by simp[Raw.texts,Raw.sizes]
 |a :: r,h=>by
  rw[Raw.shorts] at h;have h1:=text_len q s a h.1;have h2:=texts_flat q s r h.2;simp only[Raw.texts,Raw.sizes,List.flatten_cons,List.length_append,Nat.add_mul] at h2 ⊢;omega
end
end Lfc
namespace Go.Proofs.YthajalgkjonaaaaGreatDoor
section
open Go.RowKit _root_.Lfc
mutual
theorem TreeC.short{w:World}:∀(t:Raw)(v0 v1 v2 v3:Value),TreeC w t v0 v1 v2 v3→t.short 1000000
 |.node k n p ts,v0,v1,v2,v3,h=>by
  rw[TreeC] at h;obtain⟨_,_,hn,_,A,c,_,_,h5⟩:=h;rw[Raw.short];refine⟨hn,?_⟩;cases ts with
  |nil=>rw[Raw.shorts];trivial
  |cons a r =>
   obtain⟨b,o,_,_,hts⟩:=h5 (by simp);exact TreesO.short (a :: r) b o hts
theorem TreesO.short{w:World}:∀(ts:List Raw)(b o:Nat),TreesO w b ts o→Raw.shorts 1000000 ts
 |[],_,_,_=>by rw[Raw.shorts];trivial
 |t :: r,b,o,h=>by
  rw[TreesO] at h;obtain⟨⟨v0,v1,v2,v3,_,_,_,_,ht⟩,hr⟩:=h;rw[Raw.shorts];exact⟨TreeC.short t v0 v1 v2 v3 ht,TreesO.short r b (o+4) hr⟩
end
theorem TreeV.short{w:World}{t:Raw}{v:Value}(h:TreeV w t v):t.short 1000000:=by
 obtain⟨v0,v1,v2,v3,_,h⟩:=h;exact TreeC.short t v0 v1 v2 v3 h
end
section
open Go.RowKit
def NamesAt(w:World)(A:Option Addr)(l:List (List UInt8)):Prop:=0<l.length→∃b o,A=some ⟨b,o,none⟩∧b<w.heap.size∧∀k(h:k<l.length),w.cell? ⟨b,o+k,none⟩=some (S l[k])
theorem NamesAt.below{w w':World}{A:Option Addr}{l:List (List UInt8)}(h:NamesAt w A l)(hb:Below w.heap.size w w'):NamesAt w' A l:=fun hne=>by
 obtain⟨b,o,hA,hlt,h⟩:=h hne;exact⟨b,o,hA,Zl hlt hb.size,fun k hk=>(hb.cell (p:=⟨b,o+k,none⟩) hlt).trans (h k hk)⟩
theorem mem_at{l:List (List UInt8)}{x:List UInt8}(k:Nat)(h:k<l.length)(e:x=l[k]):decide (x∈l)=true:=by
 subst e;simp
theorem mem_none{l:List (List UInt8)}{x:List UInt8}(h:∀k(h:k<l.length),x≠l[k]):decide (x∈l)=false:=by
 simp only[Zf,List.mem_iff_getElem,not_exists];exact fun k hk e=>h k hk e.symm
theorem index_any(l:List (List UInt8))(x:List UInt8)(A:Option Addr)(c:Nat)(w:World)(hl:l.length<=1000000000)(h:NamesAt w A l) :
  Calls Tryz.prog 187 #[.slice A l.length c,S x] w fun e w'=>∃i:Int,e=.returned (zI i)/\decide (i≥0)=decide (x∈l)/\w=w':=by
 have HA:=zH h;clear h;go_enter Tryz.func187,Tryz.ntmps187;go_wp2_with fail
 go_loop [8] (fun i=>∃k:Nat,k<=l.length/\i=zI k/\Hid (∀j(h:j<l.length),j<k->x≠l[j])) (fun i=>l.length-(intOf i).toNat)
 case atStart=>exact⟨0,by omega,rfl,zH fun j _ hj=>by omega⟩
 obtain⟨k,hk,rfl,hp⟩:=hrel;by_cases hlt:k<l.length
 ·obtain⟨b,o,rfl,hb,hcells⟩:=HA.o (by omega);have hc:=hcells k hlt;clear hcells;obtain⟨q,g1,d1⟩:∃q,(x == l[k])=q/\decide (x=l[k])=q:=⟨_,rfl,by rw[Bool.eq_iff_iff];simp⟩;cases q
  ·have HD:=zH (of_decide_eq_false d1);clear d1;go_wp2_with fail
   go_round
   case rel =>
    refine⟨k+1,by omega,by go_num,zH fun j h hj=>?_⟩;rcases Nat.lt_or_ge j k with h1 | h1
    ·exact hp.o j h h1
    obtain rfl:j=k:=(by omega);exact HD.o
   case measure=>simp[intOf];omega
  have HD:=zH (mem_at k hlt (of_decide_eq_true d1));clear d1;go_wp2_with fail;go_ret;exact⟨k,rfl,⟨fun _=>of_decide_eq_true HD.o,fun _=>zP k⟩,rfl⟩
 have HD:=zH (mem_none fun j h=>hp.o j h (by omega));go_wp2_with fail;go_ret;exact⟨-1,rfl,⟨fun h=>absurd h (by decide),fun h=>absurd h (of_decide_eq_false HD.o)⟩,rfl⟩
theorem contains_any(l:List (List UInt8))(x:List UInt8)(A:Option Addr)(c:Nat)(w:World)(hl:l.length<=1000000000)(h:NamesAt w A l) :
  Calls Tryz.prog 163 #[.slice A l.length c,S x] w fun e w'=>e=.returned (.bool (decide (x∈l)))/\w=w':=by
 have IH:=zH (index_any l x A c w hl h);clear h;go_enter Tryz.func163,Tryz.ntmps163;go_wp2_with fail;refine IH.o.mono ?_;rintro e w1⟨i,rfl,hi,rfl⟩;have HI:=zH hi;clear hi;go_wp2_with fail;go_ret;exact⟨ret_bool HI.o,rfl⟩
theorem rIn_any(l:List (List UInt8))(x:List UInt8)(A:Option Addr)(c:Nat)(w:World)(hl:l.length<=1000000000)(h:NamesAt w A l) :
  Calls Tryz.prog 44 #[.slice A l.length c,S x] w fun e w'=>e=.returned (.bool (decide (x∈l)))/\w=w':=by
 have HA:=zH h;clear h;generalize hd:decide (x∈l)=res at *;have HR:=zH hd;clear hd;go_enter Tryz.func44,Tryz.ntmps44;go_wp2_with fail
 go_loop [5] (fun i=>∃k:Nat,k<=l.length/\i=zI k/\Hid (∀j(h:j<l.length),j<k->x≠l[j])) (fun i=>l.length-(intOf i).toNat)
 case atStart=>exact⟨0,by omega,rfl,zH fun j _ hj=>by omega⟩
 obtain⟨k,hk,rfl,hp⟩:=hrel;by_cases hlt:k<l.length
 ·obtain⟨b,o,rfl,hb,hcells⟩:=HA.o (by omega);have hc:=hcells k hlt;clear hcells;obtain⟨q,g1,d1⟩:∃q,(l[k] == x)=q/\decide (x=l[k])=q:=⟨_,rfl,by rw[Bool.eq_iff_iff];simp;exact eq_comm⟩;cases q
  ·have HD:=zH (of_decide_eq_false d1);clear d1;go_wp2_with fail
   go_round
   case rel =>
    refine⟨k+1,by omega,by go_num,zH fun j h hj=>?_⟩;rcases Nat.lt_or_ge j k with h1 | h1
    ·exact hp.o j h h1
    obtain rfl:j=k:=(by omega);exact HD.o
   case measure=>simp[intOf];omega
  have HD:=zH (mem_at k hlt (of_decide_eq_true d1));clear d1;go_wp2_with fail;go_ret;exact⟨ret_bool (by rw[<-HR.o,HD.o]),rfl⟩
 have HD:=zH (mem_none fun j h=>hp.o j h (by omega));go_wp2_with fail;go_ret;exact⟨ret_bool (by rw[<-HR.o,HD.o]),rfl⟩
end
end Go.Proofs.YthajalgkjonaaaaGreatDoor
