/- Parts of the proof that no input makes the law false: RawRFmt2,RawRFmt3. -/
import Derived.Test.YthajalgkjonaaaaGreatDoorQxBB
set_option linter.unusedVariables false
set_option linter.unusedSimpArgs false
namespace Go.Proofs.YthajalgkjonaaaaGreatDoor
open Go.RowKit Go.Maps Go.WideMaps
set_option maxRecDepth 100000 in
set_option maxHeartbeats 4000000 in
theorem rfmt_two(w0:World)(q:List (List UInt8))(Aq:Option Addr)(cq m:Nat)(ih:RFmtUpto w0 q Aq cq m)(k p:Int)(n:List UInt8)(hk:k=5∨k=6∨k=9)(a a':Lfc.Raw)(hm:a.size+a'.size≤m)(hfa:a.form=true)(hfa':a'.form=true)(v:Value)(w:World)(acc:List UInt8)(vb:Value)(hv:TreeV w0 (.node k n p [a,a']) v)(hb0:Below w0.heap.size w0 w)(hown:w.ownsRow w0.heap.size 5 1 vb acc.length (Lib.byteCells acc))(hl:acc.length+((Lfc.Raw.node k n p [a,a']).text q).length≤10000000000) :
  Calls Tryz.prog 38 #[vb,v,.slice Aq q.length cq] w fun e w'=>∃vb',e=.returned vb'∧w'.ownsRow w0.heap.size 5 1 vb' (acc++(Lfc.Raw.node k n p [a,a']).text q).length (Lib.byteCells (acc++(Lfc.Raw.node k n p [a,a']).text q))∧KeptU w w'∧Below w0.heap.size w0 w':=by
 obtain⟨mid,hmid,htx⟩:∃mid:List UInt8,((k=5∧mid=[32])∨(k=6∧mid=[32,45,62,32])∨(k=9∧mid=[32,58,32]))∧(Lfc.Raw.node k n p [a,a']).text q=[40]++a.text q++mid++a'.text q++[41]:=by
  rcases hk with rfl | rfl | rfl
  ·exact⟨_,.inl ⟨rfl,rfl⟩,by simp[Lfc.Raw.text,Lfc.Raw.texts,Lfc.putText,Lfc.twoText]⟩
  ·exact⟨_,.inr (.inl ⟨rfl,rfl⟩),by simp[Lfc.Raw.text,Lfc.Raw.texts,Lfc.putText,Lfc.twoText]⟩
  ·exact⟨_,.inr (.inr ⟨rfl,rfl⟩),by simp[Lfc.Raw.text,Lfc.Raw.texts,Lfc.putText,Lfc.twoText]⟩
 rw[htx] at hl ⊢
 simp only[List.length_append,List.length_singleton] at hl
 obtain⟨wa,hwa⟩:∃wa:World,wa=wa∧True:=⟨w,rfl,trivial⟩
 clear hwa wa
 have hv':=hv
 obtain⟨A,c,rfl,hc,hA⟩:=hv.open_
 obtain⟨wa,hwa⟩:∃wa,w.alloc (.cells #[.int .i64 k,S n,.int .i64 p,.slice A 2 c] 46)=wa:=⟨_,rfl⟩
 have ba:Below w.heap.size w wa:=by rw[←hwa];exact(Below.refl _ _).alloc (Nat.le_refl _) _
 have qa:wa.heap[w.heap.size]?=some (.cells #[.int .i64 k,S n,.int .i64 p,.slice A 2 c] 46 (0,0)):=by rw[←hwa];exact heap_alloc_new _ _
 obtain⟨x0,x1,x2,x3⟩:=cells4 qa
 have HT:=Lib.hid (rtwo_any w0 q Aq cq m ih k p n mid a a' hm hfa hfa' _ wa acc vb hv' (hb0.trans (ba.mono hb0.size)) (own_below hown ba) (by omega))
 have HB:=Lib.hid ba
 simp only[List.length_cons,List.length_nil,Nat.zero_add,Nat.reduceAdd] at *
 clear hv hv' hA ih hown hb0 htx qa ba hk
 rcases hmid with⟨rfl,rfl⟩ | ⟨rfl,rfl⟩ | ⟨rfl,rfl⟩
 all_goals
  go_enter Tryz.func38,Tryz.ntmps38
  go_upto_region 1 with fail
  clear hwa
  go_wp2_with fail
  refine HT.out.mono ?_
  rintro e w2⟨v2,rfl,hown2,hk2,hb2⟩
  have H2:=Lib.hid (And.intro hown2 (And.intro ((KeptU.new HB.out).trans hk2) hb2))
  clear hown2 hk2 hb2
  go_wp2_with fail
  go_ret
  exact⟨_,rfl,H2.out⟩
set_option maxRecDepth 100000 in
set_option maxHeartbeats 4000000 in
theorem rfmt_leaf(w0:World)(q:List (List UInt8))(Aq:Option Addr)(cq:Nat)(hq:NamesAt w0 Aq q)(hql:q.length≤1000000000)(k p:Int)(n:List UInt8)(hk:(k=1∧n ∉ q)∨k=2∨k=3∨k=4)(v:Value)(w:World)(acc:List UInt8)(vb:Value)(hv:TreeV w0 (.node k n p []) v)(hb0:Below w0.heap.size w0 w)(hown:w.ownsRow w0.heap.size 5 1 vb acc.length (Lib.byteCells acc))(hl:acc.length+((Lfc.Raw.node k n p []).text q).length≤10000000000) :
  Calls Tryz.prog 38 #[vb,v,.slice Aq q.length cq] w fun e w'=>∃vb',e=.returned vb'∧w'.ownsRow w0.heap.size 5 1 vb' (acc++(Lfc.Raw.node k n p []).text q).length (Lib.byteCells (acc++(Lfc.Raw.node k n p []).text q))∧KeptU w w'∧Below w0.heap.size w0 w':=by
 have hnn:=hv.name_le
 obtain⟨A,c,rfl,hc,hA⟩:=hv.open_
 simp only[List.length_nil] at *
 obtain⟨i0,hi0,hz0,hz1,hz2⟩:=info_parts byteInfo
 obtain⟨wa,hwa⟩:∃wa,w.alloc (.cells #[.int .i64 k,S n,.int .i64 p,.slice A 0 c] 46)=wa:=⟨_,rfl⟩
 have ba:Below w.heap.size w wa:=by rw[←hwa];exact(Below.refl _ _).alloc (Nat.le_refl _) _
 have qa:wa.heap[w.heap.size]?=some (.cells #[.int .i64 k,S n,.int .i64 p,.slice A 0 c] 46 (0,0)):=by rw[←hwa];exact heap_alloc_new _ _
 obtain⟨x0,x1,x2,x3⟩:=cells4 qa
 have H0:Hid (BS w0 w w.heap.size #[.int .i64 k,S n,.int .i64 p,.slice A 0 c] acc wa vb):=Lib.hid ⟨own_below hown ba,KeptU.new ba,hb0.trans (ba.mono hb0.size),qa⟩
 have HIN:=Lib.hid (rIn_any q n Aq cq wa hql (hq.below H0.out.bel))
 obtain⟨Al,cl,rfl⟩:=own_form hown
 have hsz0:=H0.out.bel.size
 clear qa ba hv hown hb0 hA hq
 rcases hk with⟨rfl,hnq⟩ | rfl | rfl | rfl
 ·have htx:(Lfc.Raw.node 1 n p []).text q=n:=by simp[Lfc.Raw.text,Lfc.putText,hnq]
  rw[htx] at hl ⊢
  rw[decide_eq_false hnq] at HIN
  have hlm:acc.length+(⟨n.toArray⟩:ByteArray).size≤maxLen:=by rw[bsize];unfold maxLen;omega
  have hlb:acc.length+(⟨n.toArray⟩:ByteArray).size≤140737488355328:=by rw[bsize];omega
  clear htx hnq
  go_enter Tryz.func38,Tryz.ntmps38
  go_upto_region 1 with fail
  clear hwa
  go_wp2_with fail
  refine HIN.out.mono ?_
  rintro e w2⟨rfl,hw2⟩
  obtain rfl:=hw2
  go_wp2_with (at_builtin;refine Lib.wpList_append_own_string wa rfl _ _ 68 9 rfl w0.heap.size 5 i0 Tryz.underlying68 Tryz.underlying9 hi0 hz0 hz1 hz2 _ _ _ rfl H0.out.own ⟨n.toArray⟩ rfl hlm hlb hsz0 ?_)
  intro v3 w3 hown3 hg3 _
  have H3:=Lib.hid (H0.out.pushS hown3 hg3)
  clear hown3 hg3
  go_wp2_with fail
  go_ret
  exact⟨_,rfl,H3.out.own,H3.out.kept,H3.out.bel⟩
 ·have htx:(Lfc.Raw.node 2 n p []).text q=[64]++n:=by simp[Lfc.Raw.text,Lfc.putText]
  rw[htx] at hl ⊢
  simp only[List.length_append,List.length_singleton] at hl
  have hlm:acc.length+1≤maxLen:=by unfold maxLen;omega
  have hlb:(acc.length+1)*1≤140737488355328:=by omega
  have hlm2:(acc++[64]).length+(⟨n.toArray⟩:ByteArray).size≤maxLen:=by rw[bsize];simp only[List.length_append,List.length_singleton];unfold maxLen;omega
  have hlb2:(acc++[64]).length+(⟨n.toArray⟩:ByteArray).size≤140737488355328:=by rw[bsize];simp only[List.length_append,List.length_singleton];omega
  clear htx
  go_enter Tryz.func38,Tryz.ntmps38
  go_upto_region 1 with fail
  clear hwa
  go_wp2_with fail
  go_region_held3 (fun w'=>w'.cell? ⟨w.heap.size,1,none⟩=some (S n))
   (first | exact Lib.cell_of_heap (H0.out.new (Below.refl _ _).drew).box 1 | exact Lib.cell_of_heap (H0.out.new ((Below.refl _ _).alloc (Nat.le_refl _) _).drew).box 1 | exact Lib.cell_of_heap H1.out.box 1 | exact Lib.cell_of_heap H2.out.box 1)
   (first
    |(refine step_append_own_at _ (by rfl) _ _ 68 (by rfl) w0.heap.size 5 i0 (.int .u8 0) 1 1 Tryz.underlying68 hi0 hz0 hz1 hz2 rfl (by decide) _ _ _ (by rfl) ((H0.out.own.alloc _).drew) ⟨wa.heap.size,0,none⟩ 1 1 [.int .u8 64] (by rfl) (by rfl) (fun j u h=>cell_one_new wa _ 5 j u h) (byte_one 64) hlm hlb (alloc_le hsz0) ?_;intro v1 w1 hown1 hg1 hloc1;have H1:=Lib.hid ((H0.out.new (((Below.refl _ _).alloc (Nat.le_refl _) _).drew)).push (bs:=[64]) hown1 hg1))
    |(refine step_append_strB _ (by rfl) _ _ 68 9 (by rfl) w0.heap.size 5 i0 Tryz.underlying68 Tryz.underlying9 hi0 hz0 hz1 hz2 _ _ _ (by rfl) H1.out.own ⟨n.toArray⟩ (by rfl) hlm2 hlb2 H1.out.bel.size ?_;intro v2 w2 hown2 hg2;have H2:=Lib.hid (H1.out.pushS hown2 hg2)))
  clear hown2 hg2 hown1 hg1 hloc1
  go_wp2_with fail
  go_ret
  refine⟨_,rfl,?_,H2.out.kept,H2.out.bel⟩
  have:=H2.out.own
  rw[List.append_assoc] at this
  exact this
 ·have htx:(Lfc.Raw.node 3 n p []).text q=[95]:=by simp[Lfc.Raw.text,Lfc.putText]
  rw[htx] at hl ⊢
  have hlm:acc.length+1≤maxLen:=by simp only[List.length_singleton] at hl;unfold maxLen;omega
  have hlb:(acc.length+1)*1≤140737488355328:=by simp only[List.length_singleton] at hl;omega
  clear htx
  go_enter Tryz.func38,Tryz.ntmps38
  go_upto_region 1 with fail
  clear hwa
  go_wp2_with (at_builtin;refine wpList_append_own_at _ rfl _ _ 68 rfl w0.heap.size 5 i0 (.int .u8 0) 1 1 Tryz.underlying68 hi0 hz0 hz1 hz2 rfl (by decide) _ _ _ rfl (H0.out.own.alloc _) ⟨wa.heap.size,0,none⟩ 1 1 [.int .u8 95] rfl rfl (cell_one_new _ _ _) (byte_one 95) hlm hlb (alloc_le hsz0) ?_)
  intro v5 w5 hown5 hg5 _ _
  have H5:=Lib.hid ((H0.out.new ((Below.refl _ _).alloc (Nat.le_refl _) _)).push (bs:=[95]) hown5 hg5)
  clear hown5 hg5
  go_wp2_with fail
  go_ret
  exact⟨_,rfl,H5.out.own,H5.out.kept,H5.out.bel⟩
 ·have htx:(Lfc.Raw.node 4 n p []).text q=[116,121,112,101]:=by simp[Lfc.Raw.text,Lfc.putText]
  rw[htx] at hl ⊢
  simp only[List.length_cons,List.length_nil] at hl
  have hlm:acc.length+(⟨#[116,121,112,101]⟩:ByteArray).size≤maxLen:=by show acc.length+4≤maxLen;unfold maxLen;omega
  have hlb:acc.length+(⟨#[116,121,112,101]⟩:ByteArray).size≤140737488355328:=by show acc.length+4≤_;omega
  clear htx
  go_enter Tryz.func38,Tryz.ntmps38
  go_upto_region 1 with fail
  clear hwa
  go_wp2_with (at_builtin;refine Lib.wpList_append_own_string wa rfl _ _ 68 9 rfl w0.heap.size 5 i0 Tryz.underlying68 Tryz.underlying9 hi0 hz0 hz1 hz2 _ _ _ rfl H0.out.own ⟨#[116,121,112,101]⟩ rfl hlm hlb hsz0 ?_)
  intro v3 w3 hown3 hg3 _
  have H3:=Lib.hid (H0.out.pushS (bs:=[116,121,112,101]) hown3 hg3)
  clear hown3 hg3
  go_wp2_with fail
  go_ret
  exact⟨_,rfl,H3.out.own,H3.out.kept,H3.out.bel⟩
end Go.Proofs.YthajalgkjonaaaaGreatDoor
namespace Go.Proofs.YthajalgkjonaaaaGreatDoor
open Go.RowKit Go.Maps Go.WideMaps
theorem byte_two(c d:UInt8):∀u∈[Value.int .u8 (c.toNat:Int),.int .u8 (d.toNat:Int)],u.oneCell'=true:=by
 intro u hu;simp at hu;rcases hu with rfl | rfl <;> rfl
set_option maxRecDepth 100000 in
set_option maxHeartbeats 4000000 in
theorem rfmt_b1k7(w0:World)(q:List (List UInt8))(Aq:Option Addr)(cq m:Nat)(ih:RFmtUpto w0 q Aq cq m)(p:Int)(n:List UInt8)(a:Lfc.Raw)(hm:Lfc.Raw.sizes [a]≤m)(hf:Lfc.Raw.forms [a]=true)(v:Value)(w:World)(acc:List UInt8)(vb:Value)(hv:TreeV w0 (.node 7 n p [a]) v)(hb0:Below w0.heap.size w0 w)(hown:w.ownsRow w0.heap.size 5 1 vb acc.length (Lib.byteCells acc))(hl:acc.length+((Lfc.Raw.node 7 n p [a]).text q).length≤10000000000) :
  Calls Tryz.prog 38 #[vb,v,.slice Aq q.length cq] w fun e w'=>∃vb',e=.returned vb'∧w'.ownsRow w0.heap.size 5 1 vb' (acc++(Lfc.Raw.node 7 n p [a]).text q).length (Lib.byteCells (acc++(Lfc.Raw.node 7 n p [a]).text q))∧KeptU w w'∧Below w0.heap.size w0 w':=by
 have htx:(Lfc.Raw.node 7 n p [a]).text q=[40,123]++n++[125,32]++a.text q++[41]:=by simp[Lfc.Raw.text,Lfc.Raw.texts,Lfc.putText,Lfc.bindText]
 rw[htx] at hl ⊢
 clear htx
 obtain⟨A,c,rfl,hc,hA⟩:=hv.open_
 simp only[Lfc.Raw.sizes,Lfc.Raw.forms,Bool.and_true,Bool.and_eq_true,Nat.add_zero,List.length_append,List.length_cons,List.length_nil,Nat.zero_add,Nat.reduceAdd] at hm hf hl
 have IH:=Lib.hid ih
 obtain⟨i0,hi0,hz0,hz1,hz2⟩:=info_parts byteInfo
 obtain⟨Bk,O,k1,n1,p1,us,B1,c1,rfl,hbB,ht,d0,d1,d2,d3,hcu,hB1,hT⟩:=hA.at_ (i:=0) (by simp)
 simp only[List.getElem_cons_zero,Nat.zero_mul,Nat.add_zero] at hT ht d0 d1 d2 d3
 clear ht hB1 hA
 obtain⟨wa,hwa⟩:∃wa,w.alloc (.cells #[.int .i64 7,S n,.int .i64 p,.slice (some ⟨Bk,O,none⟩) 1 c] 46)=wa:=⟨_,rfl⟩
 have ba:Below w.heap.size w wa:=by rw[←hwa];exact(Below.refl _ _).alloc (Nat.le_refl _) _
 have qa:wa.heap[w.heap.size]?=some (.cells #[.int .i64 7,S n,.int .i64 p,.slice (some ⟨Bk,O,none⟩) 1 c] 46 (0,0)):=by rw[←hwa];exact heap_alloc_new _ _
 obtain⟨x0,x1,x2,x3⟩:=cells4 qa
 have H0:Hid (BS w0 w w.heap.size #[.int .i64 7,S n,.int .i64 p,.slice (some ⟨Bk,O,none⟩) 1 c] acc wa vb):=Lib.hid ⟨own_below hown ba,KeptU.new ba,hb0.trans (ba.mono hb0.size),qa⟩
 have SC:=Lib.hid (fun(wx:World) (vx:Value) (ax:List UInt8) (h:BS w0 w w.heap.size #[.int .i64 7,S n,.int .i64 p,.slice (some ⟨Bk,O,none⟩) 1 c] ax wx vx)=>show wx.cell? ⟨w.heap.size,1,none⟩=some (S n)∧wx.cell? ⟨w.heap.size,3,none⟩=some (.slice (some ⟨Bk,O,none⟩) 1 c)∧(wx.cell? ⟨Bk,O,none⟩=some (.int .i64 k1)∧wx.cell? ⟨Bk,O+1,none⟩=some (S n1)∧wx.cell? ⟨Bk,O+2,none⟩=some (.int .i64 p1)∧wx.cell? ⟨Bk,O+3,none⟩=some (.slice B1 us.length c1)) from
  ⟨Lib.cell_of_heap h.box 1,Lib.cell_of_heap h.box 3,⟨(h.bel.cell (p:=⟨Bk,_,none⟩) hbB).trans d0,(h.bel.cell (p:=⟨Bk,_,none⟩) hbB).trans d1,(h.bel.cell (p:=⟨Bk,_,none⟩) hbB).trans d2,(h.bel.cell (p:=⟨Bk,_,none⟩) hbB).trans d3⟩⟩)
 obtain⟨Al,cl,rfl⟩:=own_form hown
 have l0:(acc.length+2≤maxLen)∧((acc.length+2)*1≤140737488355328):=by
  constructor <;> (try simp only[List.length_append,List.length_cons,List.length_nil,bsize]) <;> (try unfold maxLen) <;> omega
 have l1:((acc++[40,123]).length+(⟨n.toArray⟩:ByteArray).size≤maxLen)∧((acc++[40,123]).length+(⟨n.toArray⟩:ByteArray).size≤140737488355328):=by
  constructor <;> (try simp only[List.length_append,List.length_cons,List.length_nil,bsize]) <;> (try unfold maxLen) <;> omega
 have l4:(((acc++[40,123])++n).length+2≤maxLen)∧((((acc++[40,123])++n).length+2)*1≤140737488355328):=by
  constructor <;> (try simp only[List.length_append,List.length_cons,List.length_nil,bsize]) <;> (try unfold maxLen) <;> omega
 have l5:(((((acc++[40,123])++n)++[125,32])++a.text q).length+1≤maxLen)∧((((((acc++[40,123])++n)++[125,32])++a.text q).length+1)*1≤140737488355328):=by
  constructor <;> (try simp only[List.length_append,List.length_cons,List.length_nil,bsize]) <;> (try unfold maxLen) <;> omega
 have h1b:a.size≤m:=by omega
 have h4b:(((acc++[40,123])++n)++[125,32]).length+(a.text q).length≤10000000000:=by simp only[List.length_append,List.length_cons,List.length_nil];omega
 clear qa ba hv ih hown hb0 d0 d1 d2 d3
 go_enter Tryz.func38,Tryz.ntmps38
 go_upto_region 1 with fail
 clear hwa
 go_wp2_with fail
 go_region_held3 (fun wx=>wx.cell? ⟨w.heap.size,1,none⟩=some (S n)∧wx.cell? ⟨w.heap.size,3,none⟩=some (.slice (some ⟨Bk,O,none⟩) 1 c)∧(wx.cell? ⟨Bk,O,none⟩=some (.int .i64 k1)∧wx.cell? ⟨Bk,O+1,none⟩=some (S n1)∧wx.cell? ⟨Bk,O+2,none⟩=some (.int .i64 p1)∧wx.cell? ⟨Bk,O+3,none⟩=some (.slice B1 us.length c1)))
  (first | exact SC.out _ _ _ (H0.out.new (Below.refl _ _).drew) | exact SC.out _ _ _ (H0.out.new ((Below.refl _ _).alloc (Nat.le_refl _) _).drew) | exact SC.out _ _ _ H1.out | exact SC.out _ _ _ H2.out)
  (first
   |(refine step_append_own_at _ (by rfl) _ _ 68 (by rfl) w0.heap.size 5 i0 (.int .u8 0) 1 1 Tryz.underlying68 hi0 hz0 hz1 hz2 rfl (by decide) _ _ _ (by rfl) ((H0.out.own.alloc _).drew) ⟨wa.heap.size,0,none⟩ 2 2 [.int .u8 40,.int .u8 123] (by rfl) (by rfl) (fun j u h=>cells_new wa _ rfl [.int .u8 40,.int .u8 123] 5 j u h) (byte_two 40 123) l0.1 l0.2 (alloc_le H0.out.bel.size) ?_;intro v1 w1 hown1 hg1 hloc1;have H1:=Lib.hid ((H0.out.new (((Below.refl _ _).alloc (Nat.le_refl _) _).drew)).push (bs:=[40,123]) hown1 hg1))
   |(refine step_append_strB _ (by rfl) _ _ 68 9 (by rfl) w0.heap.size 5 i0 Tryz.underlying68 Tryz.underlying9 hi0 hz0 hz1 hz2 _ _ _ (by rfl) H1.out.own ⟨n.toArray⟩ (by rfl) l1.1 l1.2 H1.out.bel.size ?_;intro v2 w2 hown2 hg2;have H2:=Lib.hid (H1.out.pushS hown2 hg2)))
 clear hown1 hg1 hloc1 hown2 hg2 x0 x1 x2 x3
 obtain⟨x1,x3,_⟩:=SC.out _ _ _ H2.out
 go_wp2_with fail
 have hzw:IntKind.i64.wrap 0=0:=by decide
 go_region_held3 (fun wx=>wx.cell? ⟨w.heap.size,1,none⟩=some (S n)∧wx.cell? ⟨w.heap.size,3,none⟩=some (.slice (some ⟨Bk,O,none⟩) 1 c)∧(wx.cell? ⟨Bk,O,none⟩=some (.int .i64 k1)∧wx.cell? ⟨Bk,O+1,none⟩=some (S n1)∧wx.cell? ⟨Bk,O+2,none⟩=some (.int .i64 p1)∧wx.cell? ⟨Bk,O+3,none⟩=some (.slice B1 us.length c1)))
  (first | exact SC.out _ _ _ (H2.out.new (Below.refl _ _).drew) | exact SC.out _ _ _ (H2.out.new ((Below.refl _ _).alloc (Nat.le_refl _) _).drew) | exact SC.out _ _ _ H5.out | exact SC.out _ _ _ H6.out)
  (first
   |(go_at_call 38;refine(IH.out a _ _ (((acc++[40,123])++n)++[125,32]) _ h1b hf hT H5.out.bel H5.out.own h4b).mono ?_;rintro e w6⟨v6,rfl,hown6,hg6,hb6⟩;have H6:=Lib.hid (H5.out.next hown6 hg6 hb6))
   |(refine step_append_own_at _ (by rfl) _ _ 68 (by rfl) w0.heap.size 5 i0 (.int .u8 0) 1 1 Tryz.underlying68 hi0 hz0 hz1 hz2 rfl (by decide) _ _ _ (by rfl) ((H2.out.own.alloc _).drew) ⟨w2.heap.size,0,none⟩ 2 2 [.int .u8 125,.int .u8 32] (by rfl) (by rfl) (fun j u h=>cells_new w2 _ rfl [.int .u8 125,.int .u8 32] 5 j u h) (byte_two 125 32) l4.1 l4.2 (alloc_le H2.out.bel.size) ?_;intro v5 w5 hown5 hg5 hloc5;have H5:=Lib.hid ((H2.out.new (((Below.refl _ _).alloc (Nat.le_refl _) _).drew)).push (bs:=[125,32]) hown5 hg5)))
 clear hown5 hg5 hloc5 hown6 hg6 hb6
 obtain⟨Z,hZ⟩:∃Z,((((acc++[40,123])++n)++[125,32])++a.text q)=Z:=⟨_,rfl⟩
 rw[hZ] at H6 l5
 have HZ:=Lib.hid hZ
 have hlm6:=l5.1
 have hlb6:=l5.2
 have hsz6:=H6.out.bel.size
 clear hZ
 go_wp2_with (at_builtin;refine wpList_append_own_at _ rfl _ _ 68 rfl w0.heap.size 5 i0 (.int .u8 0) 1 1 Tryz.underlying68 hi0 hz0 hz1 hz2 rfl (by decide) _ _ _ rfl (H6.out.own.alloc _) ⟨w6.heap.size,0,none⟩ 1 1 [.int .u8 41] rfl rfl (cell_one_new _ _ _) (byte_one 41) hlm6 hlb6 (alloc_le hsz6) ?_)
 intro v7 w7 hown7 hg7 _ _
 have H7:=Lib.hid ((H6.out.new ((Below.refl _ _).alloc (Nat.le_refl _) _)).push (bs:=[41]) hown7 hg7)
 clear hown7 hg7
 go_wp2_with fail
 go_ret
 refine⟨_,rfl,?_,H7.out.kept,H7.out.bel⟩
 have:=H7.out.own
 rw[←HZ.out] at this
 simpa[List.append_assoc] using this
set_option maxRecDepth 100000 in
set_option maxHeartbeats 4000000 in
theorem rfmt_b1k8(w0:World)(q:List (List UInt8))(Aq:Option Addr)(cq m:Nat)(ih:RFmtUpto w0 q Aq cq m)(p:Int)(n:List UInt8)(a:Lfc.Raw)(hm:Lfc.Raw.sizes [a]≤m)(hf:Lfc.Raw.forms [a]=true)(v:Value)(w:World)(acc:List UInt8)(vb:Value)(hv:TreeV w0 (.node 8 n p [a]) v)(hb0:Below w0.heap.size w0 w)(hown:w.ownsRow w0.heap.size 5 1 vb acc.length (Lib.byteCells acc))(hl:acc.length+((Lfc.Raw.node 8 n p [a]).text q).length≤10000000000) :
  Calls Tryz.prog 38 #[vb,v,.slice Aq q.length cq] w fun e w'=>∃vb',e=.returned vb'∧w'.ownsRow w0.heap.size 5 1 vb' (acc++(Lfc.Raw.node 8 n p [a]).text q).length (Lib.byteCells (acc++(Lfc.Raw.node 8 n p [a]).text q))∧KeptU w w'∧Below w0.heap.size w0 w':=by
 have htx:(Lfc.Raw.node 8 n p [a]).text q=[40,91]++n++[93,32]++a.text q++[41]:=by simp[Lfc.Raw.text,Lfc.Raw.texts,Lfc.putText,Lfc.bindText]
 rw[htx] at hl ⊢
 clear htx
 obtain⟨A,c,rfl,hc,hA⟩:=hv.open_
 simp only[Lfc.Raw.sizes,Lfc.Raw.forms,Bool.and_true,Bool.and_eq_true,Nat.add_zero,List.length_append,List.length_cons,List.length_nil,Nat.zero_add,Nat.reduceAdd] at hm hf hl
 have IH:=Lib.hid ih
 obtain⟨i0,hi0,hz0,hz1,hz2⟩:=info_parts byteInfo
 obtain⟨Bk,O,k1,n1,p1,us,B1,c1,rfl,hbB,ht,d0,d1,d2,d3,hcu,hB1,hT⟩:=hA.at_ (i:=0) (by simp)
 simp only[List.getElem_cons_zero,Nat.zero_mul,Nat.add_zero] at hT ht d0 d1 d2 d3
 clear ht hB1 hA
 obtain⟨wa,hwa⟩:∃wa,w.alloc (.cells #[.int .i64 8,S n,.int .i64 p,.slice (some ⟨Bk,O,none⟩) 1 c] 46)=wa:=⟨_,rfl⟩
 have ba:Below w.heap.size w wa:=by rw[←hwa];exact(Below.refl _ _).alloc (Nat.le_refl _) _
 have qa:wa.heap[w.heap.size]?=some (.cells #[.int .i64 8,S n,.int .i64 p,.slice (some ⟨Bk,O,none⟩) 1 c] 46 (0,0)):=by rw[←hwa];exact heap_alloc_new _ _
 obtain⟨x0,x1,x2,x3⟩:=cells4 qa
 have H0:Hid (BS w0 w w.heap.size #[.int .i64 8,S n,.int .i64 p,.slice (some ⟨Bk,O,none⟩) 1 c] acc wa vb):=Lib.hid ⟨own_below hown ba,KeptU.new ba,hb0.trans (ba.mono hb0.size),qa⟩
 have SC:=Lib.hid (fun(wx:World) (vx:Value) (ax:List UInt8) (h:BS w0 w w.heap.size #[.int .i64 8,S n,.int .i64 p,.slice (some ⟨Bk,O,none⟩) 1 c] ax wx vx)=>show wx.cell? ⟨w.heap.size,1,none⟩=some (S n)∧wx.cell? ⟨w.heap.size,3,none⟩=some (.slice (some ⟨Bk,O,none⟩) 1 c)∧(wx.cell? ⟨Bk,O,none⟩=some (.int .i64 k1)∧wx.cell? ⟨Bk,O+1,none⟩=some (S n1)∧wx.cell? ⟨Bk,O+2,none⟩=some (.int .i64 p1)∧wx.cell? ⟨Bk,O+3,none⟩=some (.slice B1 us.length c1)) from
  ⟨Lib.cell_of_heap h.box 1,Lib.cell_of_heap h.box 3,⟨(h.bel.cell (p:=⟨Bk,_,none⟩) hbB).trans d0,(h.bel.cell (p:=⟨Bk,_,none⟩) hbB).trans d1,(h.bel.cell (p:=⟨Bk,_,none⟩) hbB).trans d2,(h.bel.cell (p:=⟨Bk,_,none⟩) hbB).trans d3⟩⟩)
 obtain⟨Al,cl,rfl⟩:=own_form hown
 have l0:(acc.length+2≤maxLen)∧((acc.length+2)*1≤140737488355328):=by
  constructor <;> (try simp only[List.length_append,List.length_cons,List.length_nil,bsize]) <;> (try unfold maxLen) <;> omega
 have l1:((acc++[40,91]).length+(⟨n.toArray⟩:ByteArray).size≤maxLen)∧((acc++[40,91]).length+(⟨n.toArray⟩:ByteArray).size≤140737488355328):=by
  constructor <;> (try simp only[List.length_append,List.length_cons,List.length_nil,bsize]) <;> (try unfold maxLen) <;> omega
 have l4:(((acc++[40,91])++n).length+2≤maxLen)∧((((acc++[40,91])++n).length+2)*1≤140737488355328):=by
  constructor <;> (try simp only[List.length_append,List.length_cons,List.length_nil,bsize]) <;> (try unfold maxLen) <;> omega
 have l5:(((((acc++[40,91])++n)++[93,32])++a.text q).length+1≤maxLen)∧((((((acc++[40,91])++n)++[93,32])++a.text q).length+1)*1≤140737488355328):=by
  constructor <;> (try simp only[List.length_append,List.length_cons,List.length_nil,bsize]) <;> (try unfold maxLen) <;> omega
 have h1b:a.size≤m:=by omega
 have h4b:(((acc++[40,91])++n)++[93,32]).length+(a.text q).length≤10000000000:=by simp only[List.length_append,List.length_cons,List.length_nil];omega
 clear qa ba hv ih hown hb0 d0 d1 d2 d3
 go_enter Tryz.func38,Tryz.ntmps38
 go_upto_region 1 with fail
 clear hwa
 go_wp2_with fail
 go_region_held3 (fun wx=>wx.cell? ⟨w.heap.size,1,none⟩=some (S n)∧wx.cell? ⟨w.heap.size,3,none⟩=some (.slice (some ⟨Bk,O,none⟩) 1 c)∧(wx.cell? ⟨Bk,O,none⟩=some (.int .i64 k1)∧wx.cell? ⟨Bk,O+1,none⟩=some (S n1)∧wx.cell? ⟨Bk,O+2,none⟩=some (.int .i64 p1)∧wx.cell? ⟨Bk,O+3,none⟩=some (.slice B1 us.length c1)))
  (first | exact SC.out _ _ _ (H0.out.new (Below.refl _ _).drew) | exact SC.out _ _ _ (H0.out.new ((Below.refl _ _).alloc (Nat.le_refl _) _).drew) | exact SC.out _ _ _ H1.out | exact SC.out _ _ _ H2.out)
  (first
   |(refine step_append_own_at _ (by rfl) _ _ 68 (by rfl) w0.heap.size 5 i0 (.int .u8 0) 1 1 Tryz.underlying68 hi0 hz0 hz1 hz2 rfl (by decide) _ _ _ (by rfl) ((H0.out.own.alloc _).drew) ⟨wa.heap.size,0,none⟩ 2 2 [.int .u8 40,.int .u8 91] (by rfl) (by rfl) (fun j u h=>cells_new wa _ rfl [.int .u8 40,.int .u8 91] 5 j u h) (byte_two 40 91) l0.1 l0.2 (alloc_le H0.out.bel.size) ?_;intro v1 w1 hown1 hg1 hloc1;have H1:=Lib.hid ((H0.out.new (((Below.refl _ _).alloc (Nat.le_refl _) _).drew)).push (bs:=[40,91]) hown1 hg1))
   |(refine step_append_strB _ (by rfl) _ _ 68 9 (by rfl) w0.heap.size 5 i0 Tryz.underlying68 Tryz.underlying9 hi0 hz0 hz1 hz2 _ _ _ (by rfl) H1.out.own ⟨n.toArray⟩ (by rfl) l1.1 l1.2 H1.out.bel.size ?_;intro v2 w2 hown2 hg2;have H2:=Lib.hid (H1.out.pushS hown2 hg2)))
 clear hown1 hg1 hloc1 hown2 hg2 x0 x1 x2 x3
 obtain⟨x1,x3,_⟩:=SC.out _ _ _ H2.out
 go_wp2_with fail
 have hzw:IntKind.i64.wrap 0=0:=by decide
 go_region_held3 (fun wx=>wx.cell? ⟨w.heap.size,1,none⟩=some (S n)∧wx.cell? ⟨w.heap.size,3,none⟩=some (.slice (some ⟨Bk,O,none⟩) 1 c)∧(wx.cell? ⟨Bk,O,none⟩=some (.int .i64 k1)∧wx.cell? ⟨Bk,O+1,none⟩=some (S n1)∧wx.cell? ⟨Bk,O+2,none⟩=some (.int .i64 p1)∧wx.cell? ⟨Bk,O+3,none⟩=some (.slice B1 us.length c1)))
  (first | exact SC.out _ _ _ (H2.out.new (Below.refl _ _).drew) | exact SC.out _ _ _ (H2.out.new ((Below.refl _ _).alloc (Nat.le_refl _) _).drew) | exact SC.out _ _ _ H5.out | exact SC.out _ _ _ H6.out)
  (first
   |(go_at_call 38;refine(IH.out a _ _ (((acc++[40,91])++n)++[93,32]) _ h1b hf hT H5.out.bel H5.out.own h4b).mono ?_;rintro e w6⟨v6,rfl,hown6,hg6,hb6⟩;have H6:=Lib.hid (H5.out.next hown6 hg6 hb6))
   |(refine step_append_own_at _ (by rfl) _ _ 68 (by rfl) w0.heap.size 5 i0 (.int .u8 0) 1 1 Tryz.underlying68 hi0 hz0 hz1 hz2 rfl (by decide) _ _ _ (by rfl) ((H2.out.own.alloc _).drew) ⟨w2.heap.size,0,none⟩ 2 2 [.int .u8 93,.int .u8 32] (by rfl) (by rfl) (fun j u h=>cells_new w2 _ rfl [.int .u8 93,.int .u8 32] 5 j u h) (byte_two 93 32) l4.1 l4.2 (alloc_le H2.out.bel.size) ?_;intro v5 w5 hown5 hg5 hloc5;have H5:=Lib.hid ((H2.out.new (((Below.refl _ _).alloc (Nat.le_refl _) _).drew)).push (bs:=[93,32]) hown5 hg5)))
 clear hown5 hg5 hloc5 hown6 hg6 hb6
 obtain⟨Z,hZ⟩:∃Z,((((acc++[40,91])++n)++[93,32])++a.text q)=Z:=⟨_,rfl⟩
 rw[hZ] at H6 l5
 have HZ:=Lib.hid hZ
 have hlm6:=l5.1
 have hlb6:=l5.2
 have hsz6:=H6.out.bel.size
 clear hZ
 go_wp2_with (at_builtin;refine wpList_append_own_at _ rfl _ _ 68 rfl w0.heap.size 5 i0 (.int .u8 0) 1 1 Tryz.underlying68 hi0 hz0 hz1 hz2 rfl (by decide) _ _ _ rfl (H6.out.own.alloc _) ⟨w6.heap.size,0,none⟩ 1 1 [.int .u8 41] rfl rfl (cell_one_new _ _ _) (byte_one 41) hlm6 hlb6 (alloc_le hsz6) ?_)
 intro v7 w7 hown7 hg7 _ _
 have H7:=Lib.hid ((H6.out.new ((Below.refl _ _).alloc (Nat.le_refl _) _)).push (bs:=[41]) hown7 hg7)
 clear hown7 hg7
 go_wp2_with fail
 go_ret
 refine⟨_,rfl,?_,H7.out.kept,H7.out.bel⟩
 have:=H7.out.own
 rw[←HZ.out] at this
 simpa[List.append_assoc] using this
set_option maxRecDepth 100000 in
set_option maxHeartbeats 4000000 in
theorem rfmt_b2k7(w0:World)(q:List (List UInt8))(Aq:Option Addr)(cq m:Nat)(ih:RFmtUpto w0 q Aq cq m)(p:Int)(n:List UInt8)(a a':Lfc.Raw)(hm:Lfc.Raw.sizes [a,a']≤m)(hf:Lfc.Raw.forms [a,a']=true)(v:Value)(w:World)(acc:List UInt8)(vb:Value)(hv:TreeV w0 (.node 7 n p [a,a']) v)(hb0:Below w0.heap.size w0 w)(hown:w.ownsRow w0.heap.size 5 1 vb acc.length (Lib.byteCells acc))(hl:acc.length+((Lfc.Raw.node 7 n p [a,a']).text q).length≤10000000000) :
  Calls Tryz.prog 38 #[vb,v,.slice Aq q.length cq] w fun e w'=>∃vb',e=.returned vb'∧w'.ownsRow w0.heap.size 5 1 vb' (acc++(Lfc.Raw.node 7 n p [a,a']).text q).length (Lib.byteCells (acc++(Lfc.Raw.node 7 n p [a,a']).text q))∧KeptU w w'∧Below w0.heap.size w0 w':=by
 have htx:(Lfc.Raw.node 7 n p [a,a']).text q=[40,123]++n++[58]++a.text q++[125,32]++a'.text q++[41]:=by simp[Lfc.Raw.text,Lfc.Raw.texts,Lfc.putText,Lfc.bindText]
 rw[htx] at hl ⊢
 clear htx
 obtain⟨A,c,rfl,hc,hA⟩:=hv.open_
 simp only[Lfc.Raw.sizes,Lfc.Raw.forms,Bool.and_true,Bool.and_eq_true,Nat.add_zero,List.length_append,List.length_cons,List.length_nil,Nat.zero_add,Nat.reduceAdd] at hm hf hl
 have IH:=Lib.hid ih
 obtain⟨i0,hi0,hz0,hz1,hz2⟩:=info_parts byteInfo
 obtain⟨Bk,O,k1,n1,p1,us,B1,c1,rfl,hbB,ht,d0,d1,d2,d3,hcu,hB1,hT⟩:=hA.at_ (i:=0) (by simp)
 obtain⟨B2',O',k2,n2,p2,ys,B2,c2,hBO,hb',ht',e0,e1,e2,e3,hcu',hB2,hT'⟩:=hA.at_ (i:=1) (by simp)
 simp only[List.getElem_cons_zero,List.getElem_cons_succ,Nat.zero_mul,Nat.one_mul,Nat.add_zero] at hT ht d0 d1 d2 d3 hT' ht' e0 e1 e2 e3
 cases hBO
 obtain⟨hfa,hfa'⟩:=hf
 clear ht hB1 hA ht' hB2 hb'
 obtain⟨wa,hwa⟩:∃wa,w.alloc (.cells #[.int .i64 7,S n,.int .i64 p,.slice (some ⟨Bk,O,none⟩) 2 c] 46)=wa:=⟨_,rfl⟩
 have ba:Below w.heap.size w wa:=by rw[←hwa];exact(Below.refl _ _).alloc (Nat.le_refl _) _
 have qa:wa.heap[w.heap.size]?=some (.cells #[.int .i64 7,S n,.int .i64 p,.slice (some ⟨Bk,O,none⟩) 2 c] 46 (0,0)):=by rw[←hwa];exact heap_alloc_new _ _
 obtain⟨x0,x1,x2,x3⟩:=cells4 qa
 have H0:Hid (BS w0 w w.heap.size #[.int .i64 7,S n,.int .i64 p,.slice (some ⟨Bk,O,none⟩) 2 c] acc wa vb):=Lib.hid ⟨own_below hown ba,KeptU.new ba,hb0.trans (ba.mono hb0.size),qa⟩
 have SC:=Lib.hid (fun(wx:World) (vx:Value) (ax:List UInt8) (h:BS w0 w w.heap.size #[.int .i64 7,S n,.int .i64 p,.slice (some ⟨Bk,O,none⟩) 2 c] ax wx vx)=>show wx.cell? ⟨w.heap.size,1,none⟩=some (S n)∧wx.cell? ⟨w.heap.size,3,none⟩=some (.slice (some ⟨Bk,O,none⟩) 2 c)∧(wx.cell? ⟨Bk,O,none⟩=some (.int .i64 k1)∧wx.cell? ⟨Bk,O+1,none⟩=some (S n1)∧wx.cell? ⟨Bk,O+2,none⟩=some (.int .i64 p1)∧wx.cell? ⟨Bk,O+3,none⟩=some (.slice B1 us.length c1))∧(wx.cell? ⟨Bk,O+4,none⟩=some (.int .i64 k2)∧wx.cell? ⟨Bk,O+4+1,none⟩=some (S n2)∧wx.cell? ⟨Bk,O+4+2,none⟩=some (.int .i64 p2)∧wx.cell? ⟨Bk,O+4+3,none⟩=some (.slice B2 ys.length c2)) from
  ⟨Lib.cell_of_heap h.box 1,Lib.cell_of_heap h.box 3,⟨(h.bel.cell (p:=⟨Bk,_,none⟩) hbB).trans d0,(h.bel.cell (p:=⟨Bk,_,none⟩) hbB).trans d1,(h.bel.cell (p:=⟨Bk,_,none⟩) hbB).trans d2,(h.bel.cell (p:=⟨Bk,_,none⟩) hbB).trans d3⟩,⟨(h.bel.cell (p:=⟨Bk,_,none⟩) hbB).trans e0,(h.bel.cell (p:=⟨Bk,_,none⟩) hbB).trans e1,(h.bel.cell (p:=⟨Bk,_,none⟩) hbB).trans e2,(h.bel.cell (p:=⟨Bk,_,none⟩) hbB).trans e3⟩⟩)
 obtain⟨Al,cl,rfl⟩:=own_form hown
 have l0:(acc.length+2≤maxLen)∧((acc.length+2)*1≤140737488355328):=by
  constructor <;> (try simp only[List.length_append,List.length_cons,List.length_nil,bsize]) <;> (try unfold maxLen) <;> omega
 have l1:((acc++[40,123]).length+(⟨n.toArray⟩:ByteArray).size≤maxLen)∧((acc++[40,123]).length+(⟨n.toArray⟩:ByteArray).size≤140737488355328):=by
  constructor <;> (try simp only[List.length_append,List.length_cons,List.length_nil,bsize]) <;> (try unfold maxLen) <;> omega
 have l2:(((acc++[40,123])++n).length+1≤maxLen)∧((((acc++[40,123])++n).length+1)*1≤140737488355328):=by
  constructor <;> (try simp only[List.length_append,List.length_cons,List.length_nil,bsize]) <;> (try unfold maxLen) <;> omega
 have l4:(((((acc++[40,123])++n)++[58])++a.text q).length+2≤maxLen)∧((((((acc++[40,123])++n)++[58])++a.text q).length+2)*1≤140737488355328):=by
  constructor <;> (try simp only[List.length_append,List.length_cons,List.length_nil,bsize]) <;> (try unfold maxLen) <;> omega
 have l5:(((((((acc++[40,123])++n)++[58])++a.text q)++[125,32])++a'.text q).length+1≤maxLen)∧((((((((acc++[40,123])++n)++[58])++a.text q)++[125,32])++a'.text q).length+1)*1≤140737488355328):=by
  constructor <;> (try simp only[List.length_append,List.length_cons,List.length_nil,bsize]) <;> (try unfold maxLen) <;> omega
 have h1a:a.size≤m:=by omega
 have h4a:(((acc++[40,123])++n)++[58]).length+(a.text q).length≤10000000000:=by simp only[List.length_append,List.length_cons,List.length_nil];omega
 have h1b:a'.size≤m:=by omega
 have h4b:(((((acc++[40,123])++n)++[58])++a.text q)++[125,32]).length+(a'.text q).length≤10000000000:=by simp only[List.length_append,List.length_cons,List.length_nil];omega
 clear qa ba hv ih hown hb0 d0 d1 d2 d3 e0 e1 e2 e3
 go_enter Tryz.func38,Tryz.ntmps38
 go_upto_region 1 with fail
 clear hwa
 go_wp2_with fail
 go_region_held3 (fun wx=>wx.cell? ⟨w.heap.size,1,none⟩=some (S n)∧wx.cell? ⟨w.heap.size,3,none⟩=some (.slice (some ⟨Bk,O,none⟩) 2 c)∧(wx.cell? ⟨Bk,O,none⟩=some (.int .i64 k1)∧wx.cell? ⟨Bk,O+1,none⟩=some (S n1)∧wx.cell? ⟨Bk,O+2,none⟩=some (.int .i64 p1)∧wx.cell? ⟨Bk,O+3,none⟩=some (.slice B1 us.length c1))∧(wx.cell? ⟨Bk,O+4,none⟩=some (.int .i64 k2)∧wx.cell? ⟨Bk,O+4+1,none⟩=some (S n2)∧wx.cell? ⟨Bk,O+4+2,none⟩=some (.int .i64 p2)∧wx.cell? ⟨Bk,O+4+3,none⟩=some (.slice B2 ys.length c2)))
  (first | exact SC.out _ _ _ (H0.out.new (Below.refl _ _).drew) | exact SC.out _ _ _ (H0.out.new ((Below.refl _ _).alloc (Nat.le_refl _) _).drew) | exact SC.out _ _ _ H1.out | exact SC.out _ _ _ H2.out)
  (first
   |(refine step_append_own_at _ (by rfl) _ _ 68 (by rfl) w0.heap.size 5 i0 (.int .u8 0) 1 1 Tryz.underlying68 hi0 hz0 hz1 hz2 rfl (by decide) _ _ _ (by rfl) ((H0.out.own.alloc _).drew) ⟨wa.heap.size,0,none⟩ 2 2 [.int .u8 40,.int .u8 123] (by rfl) (by rfl) (fun j u h=>cells_new wa _ rfl [.int .u8 40,.int .u8 123] 5 j u h) (byte_two 40 123) l0.1 l0.2 (alloc_le H0.out.bel.size) ?_;intro v1 w1 hown1 hg1 hloc1;have H1:=Lib.hid ((H0.out.new (((Below.refl _ _).alloc (Nat.le_refl _) _).drew)).push (bs:=[40,123]) hown1 hg1))
   |(refine step_append_strB _ (by rfl) _ _ 68 9 (by rfl) w0.heap.size 5 i0 Tryz.underlying68 Tryz.underlying9 hi0 hz0 hz1 hz2 _ _ _ (by rfl) H1.out.own ⟨n.toArray⟩ (by rfl) l1.1 l1.2 H1.out.bel.size ?_;intro v2 w2 hown2 hg2;have H2:=Lib.hid (H1.out.pushS hown2 hg2)))
 clear hown1 hg1 hloc1 hown2 hg2 x0 x1 x2 x3
 obtain⟨x1,x3,_⟩:=SC.out _ _ _ H2.out
 go_wp2_with fail
 go_region_held3 (fun wx=>wx.cell? ⟨w.heap.size,1,none⟩=some (S n)∧wx.cell? ⟨w.heap.size,3,none⟩=some (.slice (some ⟨Bk,O,none⟩) 2 c)∧(wx.cell? ⟨Bk,O,none⟩=some (.int .i64 k1)∧wx.cell? ⟨Bk,O+1,none⟩=some (S n1)∧wx.cell? ⟨Bk,O+2,none⟩=some (.int .i64 p1)∧wx.cell? ⟨Bk,O+3,none⟩=some (.slice B1 us.length c1))∧(wx.cell? ⟨Bk,O+4,none⟩=some (.int .i64 k2)∧wx.cell? ⟨Bk,O+4+1,none⟩=some (S n2)∧wx.cell? ⟨Bk,O+4+2,none⟩=some (.int .i64 p2)∧wx.cell? ⟨Bk,O+4+3,none⟩=some (.slice B2 ys.length c2)))
  (first | exact SC.out _ _ _ (H2.out.new (Below.refl _ _).drew) | exact SC.out _ _ _ (H2.out.new ((Below.refl _ _).alloc (Nat.le_refl _) _).drew) | exact SC.out _ _ _ H3.out | exact SC.out _ _ _ H4.out)
  (first
   |(go_at_call 38;refine(IH.out a _ _ (((acc++[40,123])++n)++[58]) _ h1a hfa hT H3.out.bel H3.out.own h4a).mono ?_;rintro e w4⟨v4,rfl,hown4,hg4,hb4⟩;have H4:=Lib.hid (H3.out.next hown4 hg4 hb4))
   |(refine step_append_own_at _ (by rfl) _ _ 68 (by rfl) w0.heap.size 5 i0 (.int .u8 0) 1 1 Tryz.underlying68 hi0 hz0 hz1 hz2 rfl (by decide) _ _ _ (by rfl) ((H2.out.own.alloc _).drew) ⟨w2.heap.size,0,none⟩ 1 1 [.int .u8 58] (by rfl) (by rfl) (fun j u h=>cells_new w2 _ rfl [.int .u8 58] 5 j u h) (byte_one 58) l2.1 l2.2 (alloc_le H2.out.bel.size) ?_;intro v3 w3 hown3 hg3 hloc3;have H3:=Lib.hid ((H2.out.new (((Below.refl _ _).alloc (Nat.le_refl _) _).drew)).push (bs:=[58]) hown3 hg3)))
 clear hown3 hg3 hloc3 hown4 hg4 hb4 x1 x3
 obtain⟨x1,x3,_⟩:=SC.out _ _ _ H4.out
 go_wp2_with fail
 have hzw:IntKind.i64.wrap 1=1:=by decide
 go_region_held3 (fun wx=>wx.cell? ⟨w.heap.size,1,none⟩=some (S n)∧wx.cell? ⟨w.heap.size,3,none⟩=some (.slice (some ⟨Bk,O,none⟩) 2 c)∧(wx.cell? ⟨Bk,O,none⟩=some (.int .i64 k1)∧wx.cell? ⟨Bk,O+1,none⟩=some (S n1)∧wx.cell? ⟨Bk,O+2,none⟩=some (.int .i64 p1)∧wx.cell? ⟨Bk,O+3,none⟩=some (.slice B1 us.length c1))∧(wx.cell? ⟨Bk,O+4,none⟩=some (.int .i64 k2)∧wx.cell? ⟨Bk,O+4+1,none⟩=some (S n2)∧wx.cell? ⟨Bk,O+4+2,none⟩=some (.int .i64 p2)∧wx.cell? ⟨Bk,O+4+3,none⟩=some (.slice B2 ys.length c2)))
  (first | exact SC.out _ _ _ (H4.out.new (Below.refl _ _).drew) | exact SC.out _ _ _ (H4.out.new ((Below.refl _ _).alloc (Nat.le_refl _) _).drew) | exact SC.out _ _ _ H5.out | exact SC.out _ _ _ H6.out)
  (first
   |(go_at_call 38;refine(IH.out a' _ _ (((((acc++[40,123])++n)++[58])++a.text q)++[125,32]) _ h1b hfa' hT' H5.out.bel H5.out.own h4b).mono ?_;rintro e w6⟨v6,rfl,hown6,hg6,hb6⟩;have H6:=Lib.hid (H5.out.next hown6 hg6 hb6))
   |(refine step_append_own_at _ (by rfl) _ _ 68 (by rfl) w0.heap.size 5 i0 (.int .u8 0) 1 1 Tryz.underlying68 hi0 hz0 hz1 hz2 rfl (by decide) _ _ _ (by rfl) ((H4.out.own.alloc _).drew) ⟨w4.heap.size,0,none⟩ 2 2 [.int .u8 125,.int .u8 32] (by rfl) (by rfl) (fun j u h=>cells_new w4 _ rfl [.int .u8 125,.int .u8 32] 5 j u h) (byte_two 125 32) l4.1 l4.2 (alloc_le H4.out.bel.size) ?_;intro v5 w5 hown5 hg5 hloc5;have H5:=Lib.hid ((H4.out.new (((Below.refl _ _).alloc (Nat.le_refl _) _).drew)).push (bs:=[125,32]) hown5 hg5)))
 clear hown5 hg5 hloc5 hown6 hg6 hb6
 obtain⟨Z,hZ⟩:∃Z,((((((acc++[40,123])++n)++[58])++a.text q)++[125,32])++a'.text q)=Z:=⟨_,rfl⟩
 rw[hZ] at H6 l5
 have HZ:=Lib.hid hZ
 have hlm6:=l5.1
 have hlb6:=l5.2
 have hsz6:=H6.out.bel.size
 clear hZ
 go_wp2_with (at_builtin;refine wpList_append_own_at _ rfl _ _ 68 rfl w0.heap.size 5 i0 (.int .u8 0) 1 1 Tryz.underlying68 hi0 hz0 hz1 hz2 rfl (by decide) _ _ _ rfl (H6.out.own.alloc _) ⟨w6.heap.size,0,none⟩ 1 1 [.int .u8 41] rfl rfl (cell_one_new _ _ _) (byte_one 41) hlm6 hlb6 (alloc_le hsz6) ?_)
 intro v7 w7 hown7 hg7 _ _
 have H7:=Lib.hid ((H6.out.new ((Below.refl _ _).alloc (Nat.le_refl _) _)).push (bs:=[41]) hown7 hg7)
 clear hown7 hg7
 go_wp2_with fail
 go_ret
 refine⟨_,rfl,?_,H7.out.kept,H7.out.bel⟩
 have:=H7.out.own
 rw[←HZ.out] at this
 simpa[List.append_assoc] using this
set_option maxRecDepth 100000 in
set_option maxHeartbeats 4000000 in
theorem rfmt_b2k8(w0:World)(q:List (List UInt8))(Aq:Option Addr)(cq m:Nat)(ih:RFmtUpto w0 q Aq cq m)(p:Int)(n:List UInt8)(a a':Lfc.Raw)(hm:Lfc.Raw.sizes [a,a']≤m)(hf:Lfc.Raw.forms [a,a']=true)(v:Value)(w:World)(acc:List UInt8)(vb:Value)(hv:TreeV w0 (.node 8 n p [a,a']) v)(hb0:Below w0.heap.size w0 w)(hown:w.ownsRow w0.heap.size 5 1 vb acc.length (Lib.byteCells acc))(hl:acc.length+((Lfc.Raw.node 8 n p [a,a']).text q).length≤10000000000) :
  Calls Tryz.prog 38 #[vb,v,.slice Aq q.length cq] w fun e w'=>∃vb',e=.returned vb'∧w'.ownsRow w0.heap.size 5 1 vb' (acc++(Lfc.Raw.node 8 n p [a,a']).text q).length (Lib.byteCells (acc++(Lfc.Raw.node 8 n p [a,a']).text q))∧KeptU w w'∧Below w0.heap.size w0 w':=by
 have htx:(Lfc.Raw.node 8 n p [a,a']).text q=[40,91]++n++[58]++a.text q++[93,32]++a'.text q++[41]:=by simp[Lfc.Raw.text,Lfc.Raw.texts,Lfc.putText,Lfc.bindText]
 rw[htx] at hl ⊢
 clear htx
 obtain⟨A,c,rfl,hc,hA⟩:=hv.open_
 simp only[Lfc.Raw.sizes,Lfc.Raw.forms,Bool.and_true,Bool.and_eq_true,Nat.add_zero,List.length_append,List.length_cons,List.length_nil,Nat.zero_add,Nat.reduceAdd] at hm hf hl
 have IH:=Lib.hid ih
 obtain⟨i0,hi0,hz0,hz1,hz2⟩:=info_parts byteInfo
 obtain⟨Bk,O,k1,n1,p1,us,B1,c1,rfl,hbB,ht,d0,d1,d2,d3,hcu,hB1,hT⟩:=hA.at_ (i:=0) (by simp)
 obtain⟨B2',O',k2,n2,p2,ys,B2,c2,hBO,hb',ht',e0,e1,e2,e3,hcu',hB2,hT'⟩:=hA.at_ (i:=1) (by simp)
 simp only[List.getElem_cons_zero,List.getElem_cons_succ,Nat.zero_mul,Nat.one_mul,Nat.add_zero] at hT ht d0 d1 d2 d3 hT' ht' e0 e1 e2 e3
 cases hBO
 obtain⟨hfa,hfa'⟩:=hf
 clear ht hB1 hA ht' hB2 hb'
 obtain⟨wa,hwa⟩:∃wa,w.alloc (.cells #[.int .i64 8,S n,.int .i64 p,.slice (some ⟨Bk,O,none⟩) 2 c] 46)=wa:=⟨_,rfl⟩
 have ba:Below w.heap.size w wa:=by rw[←hwa];exact(Below.refl _ _).alloc (Nat.le_refl _) _
 have qa:wa.heap[w.heap.size]?=some (.cells #[.int .i64 8,S n,.int .i64 p,.slice (some ⟨Bk,O,none⟩) 2 c] 46 (0,0)):=by rw[←hwa];exact heap_alloc_new _ _
 obtain⟨x0,x1,x2,x3⟩:=cells4 qa
 have H0:Hid (BS w0 w w.heap.size #[.int .i64 8,S n,.int .i64 p,.slice (some ⟨Bk,O,none⟩) 2 c] acc wa vb):=Lib.hid ⟨own_below hown ba,KeptU.new ba,hb0.trans (ba.mono hb0.size),qa⟩
 have SC:=Lib.hid (fun(wx:World) (vx:Value) (ax:List UInt8) (h:BS w0 w w.heap.size #[.int .i64 8,S n,.int .i64 p,.slice (some ⟨Bk,O,none⟩) 2 c] ax wx vx)=>show wx.cell? ⟨w.heap.size,1,none⟩=some (S n)∧wx.cell? ⟨w.heap.size,3,none⟩=some (.slice (some ⟨Bk,O,none⟩) 2 c)∧(wx.cell? ⟨Bk,O,none⟩=some (.int .i64 k1)∧wx.cell? ⟨Bk,O+1,none⟩=some (S n1)∧wx.cell? ⟨Bk,O+2,none⟩=some (.int .i64 p1)∧wx.cell? ⟨Bk,O+3,none⟩=some (.slice B1 us.length c1))∧(wx.cell? ⟨Bk,O+4,none⟩=some (.int .i64 k2)∧wx.cell? ⟨Bk,O+4+1,none⟩=some (S n2)∧wx.cell? ⟨Bk,O+4+2,none⟩=some (.int .i64 p2)∧wx.cell? ⟨Bk,O+4+3,none⟩=some (.slice B2 ys.length c2)) from
  ⟨Lib.cell_of_heap h.box 1,Lib.cell_of_heap h.box 3,⟨(h.bel.cell (p:=⟨Bk,_,none⟩) hbB).trans d0,(h.bel.cell (p:=⟨Bk,_,none⟩) hbB).trans d1,(h.bel.cell (p:=⟨Bk,_,none⟩) hbB).trans d2,(h.bel.cell (p:=⟨Bk,_,none⟩) hbB).trans d3⟩,⟨(h.bel.cell (p:=⟨Bk,_,none⟩) hbB).trans e0,(h.bel.cell (p:=⟨Bk,_,none⟩) hbB).trans e1,(h.bel.cell (p:=⟨Bk,_,none⟩) hbB).trans e2,(h.bel.cell (p:=⟨Bk,_,none⟩) hbB).trans e3⟩⟩)
 obtain⟨Al,cl,rfl⟩:=own_form hown
 have l0:(acc.length+2≤maxLen)∧((acc.length+2)*1≤140737488355328):=by
  constructor <;> (try simp only[List.length_append,List.length_cons,List.length_nil,bsize]) <;> (try unfold maxLen) <;> omega
 have l1:((acc++[40,91]).length+(⟨n.toArray⟩:ByteArray).size≤maxLen)∧((acc++[40,91]).length+(⟨n.toArray⟩:ByteArray).size≤140737488355328):=by
  constructor <;> (try simp only[List.length_append,List.length_cons,List.length_nil,bsize]) <;> (try unfold maxLen) <;> omega
 have l2:(((acc++[40,91])++n).length+1≤maxLen)∧((((acc++[40,91])++n).length+1)*1≤140737488355328):=by
  constructor <;> (try simp only[List.length_append,List.length_cons,List.length_nil,bsize]) <;> (try unfold maxLen) <;> omega
 have l4:(((((acc++[40,91])++n)++[58])++a.text q).length+2≤maxLen)∧((((((acc++[40,91])++n)++[58])++a.text q).length+2)*1≤140737488355328):=by
  constructor <;> (try simp only[List.length_append,List.length_cons,List.length_nil,bsize]) <;> (try unfold maxLen) <;> omega
 have l5:(((((((acc++[40,91])++n)++[58])++a.text q)++[93,32])++a'.text q).length+1≤maxLen)∧((((((((acc++[40,91])++n)++[58])++a.text q)++[93,32])++a'.text q).length+1)*1≤140737488355328):=by
  constructor <;> (try simp only[List.length_append,List.length_cons,List.length_nil,bsize]) <;> (try unfold maxLen) <;> omega
 have h1a:a.size≤m:=by omega
 have h4a:(((acc++[40,91])++n)++[58]).length+(a.text q).length≤10000000000:=by simp only[List.length_append,List.length_cons,List.length_nil];omega
 have h1b:a'.size≤m:=by omega
 have h4b:(((((acc++[40,91])++n)++[58])++a.text q)++[93,32]).length+(a'.text q).length≤10000000000:=by simp only[List.length_append,List.length_cons,List.length_nil];omega
 clear qa ba hv ih hown hb0 d0 d1 d2 d3 e0 e1 e2 e3
 go_enter Tryz.func38,Tryz.ntmps38
 go_upto_region 1 with fail
 clear hwa
 go_wp2_with fail
 go_region_held3 (fun wx=>wx.cell? ⟨w.heap.size,1,none⟩=some (S n)∧wx.cell? ⟨w.heap.size,3,none⟩=some (.slice (some ⟨Bk,O,none⟩) 2 c)∧(wx.cell? ⟨Bk,O,none⟩=some (.int .i64 k1)∧wx.cell? ⟨Bk,O+1,none⟩=some (S n1)∧wx.cell? ⟨Bk,O+2,none⟩=some (.int .i64 p1)∧wx.cell? ⟨Bk,O+3,none⟩=some (.slice B1 us.length c1))∧(wx.cell? ⟨Bk,O+4,none⟩=some (.int .i64 k2)∧wx.cell? ⟨Bk,O+4+1,none⟩=some (S n2)∧wx.cell? ⟨Bk,O+4+2,none⟩=some (.int .i64 p2)∧wx.cell? ⟨Bk,O+4+3,none⟩=some (.slice B2 ys.length c2)))
  (first | exact SC.out _ _ _ (H0.out.new (Below.refl _ _).drew) | exact SC.out _ _ _ (H0.out.new ((Below.refl _ _).alloc (Nat.le_refl _) _).drew) | exact SC.out _ _ _ H1.out | exact SC.out _ _ _ H2.out)
  (first
   |(refine step_append_own_at _ (by rfl) _ _ 68 (by rfl) w0.heap.size 5 i0 (.int .u8 0) 1 1 Tryz.underlying68 hi0 hz0 hz1 hz2 rfl (by decide) _ _ _ (by rfl) ((H0.out.own.alloc _).drew) ⟨wa.heap.size,0,none⟩ 2 2 [.int .u8 40,.int .u8 91] (by rfl) (by rfl) (fun j u h=>cells_new wa _ rfl [.int .u8 40,.int .u8 91] 5 j u h) (byte_two 40 91) l0.1 l0.2 (alloc_le H0.out.bel.size) ?_;intro v1 w1 hown1 hg1 hloc1;have H1:=Lib.hid ((H0.out.new (((Below.refl _ _).alloc (Nat.le_refl _) _).drew)).push (bs:=[40,91]) hown1 hg1))
   |(refine step_append_strB _ (by rfl) _ _ 68 9 (by rfl) w0.heap.size 5 i0 Tryz.underlying68 Tryz.underlying9 hi0 hz0 hz1 hz2 _ _ _ (by rfl) H1.out.own ⟨n.toArray⟩ (by rfl) l1.1 l1.2 H1.out.bel.size ?_;intro v2 w2 hown2 hg2;have H2:=Lib.hid (H1.out.pushS hown2 hg2)))
 clear hown1 hg1 hloc1 hown2 hg2 x0 x1 x2 x3
 obtain⟨x1,x3,_⟩:=SC.out _ _ _ H2.out
 go_wp2_with fail
 go_region_held3 (fun wx=>wx.cell? ⟨w.heap.size,1,none⟩=some (S n)∧wx.cell? ⟨w.heap.size,3,none⟩=some (.slice (some ⟨Bk,O,none⟩) 2 c)∧(wx.cell? ⟨Bk,O,none⟩=some (.int .i64 k1)∧wx.cell? ⟨Bk,O+1,none⟩=some (S n1)∧wx.cell? ⟨Bk,O+2,none⟩=some (.int .i64 p1)∧wx.cell? ⟨Bk,O+3,none⟩=some (.slice B1 us.length c1))∧(wx.cell? ⟨Bk,O+4,none⟩=some (.int .i64 k2)∧wx.cell? ⟨Bk,O+4+1,none⟩=some (S n2)∧wx.cell? ⟨Bk,O+4+2,none⟩=some (.int .i64 p2)∧wx.cell? ⟨Bk,O+4+3,none⟩=some (.slice B2 ys.length c2)))
  (first | exact SC.out _ _ _ (H2.out.new (Below.refl _ _).drew) | exact SC.out _ _ _ (H2.out.new ((Below.refl _ _).alloc (Nat.le_refl _) _).drew) | exact SC.out _ _ _ H3.out | exact SC.out _ _ _ H4.out)
  (first
   |(go_at_call 38;refine(IH.out a _ _ (((acc++[40,91])++n)++[58]) _ h1a hfa hT H3.out.bel H3.out.own h4a).mono ?_;rintro e w4⟨v4,rfl,hown4,hg4,hb4⟩;have H4:=Lib.hid (H3.out.next hown4 hg4 hb4))
   |(refine step_append_own_at _ (by rfl) _ _ 68 (by rfl) w0.heap.size 5 i0 (.int .u8 0) 1 1 Tryz.underlying68 hi0 hz0 hz1 hz2 rfl (by decide) _ _ _ (by rfl) ((H2.out.own.alloc _).drew) ⟨w2.heap.size,0,none⟩ 1 1 [.int .u8 58] (by rfl) (by rfl) (fun j u h=>cells_new w2 _ rfl [.int .u8 58] 5 j u h) (byte_one 58) l2.1 l2.2 (alloc_le H2.out.bel.size) ?_;intro v3 w3 hown3 hg3 hloc3;have H3:=Lib.hid ((H2.out.new (((Below.refl _ _).alloc (Nat.le_refl _) _).drew)).push (bs:=[58]) hown3 hg3)))
 clear hown3 hg3 hloc3 hown4 hg4 hb4 x1 x3
 obtain⟨x1,x3,_⟩:=SC.out _ _ _ H4.out
 go_wp2_with fail
 have hzw:IntKind.i64.wrap 1=1:=by decide
 go_region_held3 (fun wx=>wx.cell? ⟨w.heap.size,1,none⟩=some (S n)∧wx.cell? ⟨w.heap.size,3,none⟩=some (.slice (some ⟨Bk,O,none⟩) 2 c)∧(wx.cell? ⟨Bk,O,none⟩=some (.int .i64 k1)∧wx.cell? ⟨Bk,O+1,none⟩=some (S n1)∧wx.cell? ⟨Bk,O+2,none⟩=some (.int .i64 p1)∧wx.cell? ⟨Bk,O+3,none⟩=some (.slice B1 us.length c1))∧(wx.cell? ⟨Bk,O+4,none⟩=some (.int .i64 k2)∧wx.cell? ⟨Bk,O+4+1,none⟩=some (S n2)∧wx.cell? ⟨Bk,O+4+2,none⟩=some (.int .i64 p2)∧wx.cell? ⟨Bk,O+4+3,none⟩=some (.slice B2 ys.length c2)))
  (first | exact SC.out _ _ _ (H4.out.new (Below.refl _ _).drew) | exact SC.out _ _ _ (H4.out.new ((Below.refl _ _).alloc (Nat.le_refl _) _).drew) | exact SC.out _ _ _ H5.out | exact SC.out _ _ _ H6.out)
  (first
   |(go_at_call 38;refine(IH.out a' _ _ (((((acc++[40,91])++n)++[58])++a.text q)++[93,32]) _ h1b hfa' hT' H5.out.bel H5.out.own h4b).mono ?_;rintro e w6⟨v6,rfl,hown6,hg6,hb6⟩;have H6:=Lib.hid (H5.out.next hown6 hg6 hb6))
   |(refine step_append_own_at _ (by rfl) _ _ 68 (by rfl) w0.heap.size 5 i0 (.int .u8 0) 1 1 Tryz.underlying68 hi0 hz0 hz1 hz2 rfl (by decide) _ _ _ (by rfl) ((H4.out.own.alloc _).drew) ⟨w4.heap.size,0,none⟩ 2 2 [.int .u8 93,.int .u8 32] (by rfl) (by rfl) (fun j u h=>cells_new w4 _ rfl [.int .u8 93,.int .u8 32] 5 j u h) (byte_two 93 32) l4.1 l4.2 (alloc_le H4.out.bel.size) ?_;intro v5 w5 hown5 hg5 hloc5;have H5:=Lib.hid ((H4.out.new (((Below.refl _ _).alloc (Nat.le_refl _) _).drew)).push (bs:=[93,32]) hown5 hg5)))
 clear hown5 hg5 hloc5 hown6 hg6 hb6
 obtain⟨Z,hZ⟩:∃Z,((((((acc++[40,91])++n)++[58])++a.text q)++[93,32])++a'.text q)=Z:=⟨_,rfl⟩
 rw[hZ] at H6 l5
 have HZ:=Lib.hid hZ
 have hlm6:=l5.1
 have hlb6:=l5.2
 have hsz6:=H6.out.bel.size
 clear hZ
 go_wp2_with (at_builtin;refine wpList_append_own_at _ rfl _ _ 68 rfl w0.heap.size 5 i0 (.int .u8 0) 1 1 Tryz.underlying68 hi0 hz0 hz1 hz2 rfl (by decide) _ _ _ rfl (H6.out.own.alloc _) ⟨w6.heap.size,0,none⟩ 1 1 [.int .u8 41] rfl rfl (cell_one_new _ _ _) (byte_one 41) hlm6 hlb6 (alloc_le hsz6) ?_)
 intro v7 w7 hown7 hg7 _ _
 have H7:=Lib.hid ((H6.out.new ((Below.refl _ _).alloc (Nat.le_refl _) _)).push (bs:=[41]) hown7 hg7)
 clear hown7 hg7
 go_wp2_with fail
 go_ret
 refine⟨_,rfl,?_,H7.out.kept,H7.out.bel⟩
 have:=H7.out.own
 rw[←HZ.out] at this
 simpa[List.append_assoc] using this
end Go.Proofs.YthajalgkjonaaaaGreatDoor
