/- Parts of the proof that no input makes the law false: OcCl, OcChP, OcStep, RegTk. -/
import Derived.OrdersHeld
import Derived.Test.YtadjpadieljjlaaGreatIvAJ
set_option linter.unusedVariables false
set_option linter.unusedSimpArgs false
set_option maxRecDepth 100000
set_option maxHeartbeats 32000000
namespace Go.Proofs.YtadjpadieljjlaaGreat
open Go.RowKit Go.Maps
section
variable {P:Program} {w:World}
theorem wpList_append_run {ops:Array Oper} {rest:List Oper} {o:Oper} {a:Act} {Q:Exit→Act→World→Prop} (hgd:o.guard=none) (s x:Operand) (t:TypeId)
  (ho:o.op=.call { callee:=.builtin .append,args:=#[s,x],argTypes:=#[t,t] })
  (v u:Value) (v':Value) (w':World) (hs:a.eval s=v) (hx:a.eval x=u) (hrun:(Builtin.append_ #[t,t] o.type #[v,u]).run P w=.ok v' w')
  (h:wpList P ops Q rest (a.put o.dst v') w'):wpList P ops Q (o :: rest) a w:=by
 refine wpList_plain hgd fun K hK=>?_
 unfold Oper.wp execOp
 simp only [ho,resolve,invoke,builtin,Sem.run_bind,Sem.run_pure,Result.andThen_ok,List.map_toArray,List.map_cons,List.map_nil,hs,hx,hrun]
 exact hK _ _ h
end
theorem QRow.form {W:World} {base:Nat} {v:Value} {zs:List (Nat × Int)} (h:QRow W base v zs):∃A n c,v=.slice A n c:=by
 rcases h with ⟨rfl,_⟩ | ⟨g,o,cap,cur,rfl,_⟩
 ·exact ⟨_,_,_,rfl⟩
 exact ⟨_,_,_,rfl⟩
def ReachAns (ks:List Int) (fs:List Lfc.Fact) (p:Spot) (q:Nat→Prop) (wS:World) (R:Nat→Int→Bool) (zs:List (Nat × Int)) (U:Nat) (v:Value) (i:Nat) (s:Int) (W:World) (e:Ending) (W':World):Prop :=
 e=.returned (.tuple #[])∧∃R' zs' U' v',ChSt ks fs p q wS R' zs' U' v' W'∧(Kpt (p.Q q v) W W'∧∀b,b<W.heap.size→p.Q q v b→p.Q q v' b)∧((0<s∧R i s=false∧R'=Lfc.setR R i s∧zs'=zs++[(i,s)]∧U'+1=U)∨(¬ (0<s∧R i s=false)∧R'=R∧zs'=zs∧U'=U))
theorem reach_any (ks:List Int) (fs:List Lfc.Fact) (p:Spot) (q:Nat→Prop) (wS:World) (R:Nat→Int→Bool) (zs:List (Nat × Int)) (U:Nat) (v:Value) (W:World) (h:ChSt ks fs p q wS R zs U v W) (hok:p.Ok q wS) (i:Nat) (s:Int) (A:Option Addr) (m c:Nat) (hi:i<p.n) (hn:p.n≤1000) (hs:s=0∨s=1∨s=2) (hl:0<s→LkO (p.Q q v) W A m c) (hm:0<s→m≤2*p.n-U+1) (hz:zs.length≤1000000) :
  Calls Tryz.prog 164 #[.int .i64 (i:Int),.int .i64 s,.slice A m c,.pointer (some ⟨p.bb,0,none⟩),.pointer (some ⟨p.bq,0,none⟩)] W (ReachAns ks fs p q wS R zs U v i s W):=by
 obtain ⟨bb,g0,g1,g2,bq,n,Mb⟩:=p
 simp only at hi hn hm
 have hi0:(0:Int)≤(i:Int):=Int.natCast_nonneg _
 have hi1:(i:Int)<(n:Int):=by omega
 have b1:=(zC h.best 1:W.cell? ⟨bb,1,none⟩=_)
 have b2:=(zC h.best 2:W.cell? ⟨bb,2,none⟩=_)
 simp at b1 b2
 have HH:=zH h
 have HOK:=zH hok
 have HL:=zH hl
 have HM:=zH hm
 have HI:=zH hi
 rcases hs with rfl | rfl | rfl
 ·have HZ:Hid (ReachAns ks fs ⟨bb,g0,g1,g2,bq,n,Mb⟩ q wS R zs U v i 0 W (.returned (.tuple #[])) W):=zH ⟨rfl,R,zs,U,v,h,⟨Kpt.refl _ _,fun _ _ h=>h⟩,.inr ⟨by simp,rfl,rfl,rfl⟩⟩
  clear h hok hl hm
  go_enter Tryz.func164,Tryz.ntmps164
  go_wp2_with fail
  refine bodyPost_ret (results_none rfl _ _ _) rfl ?_
  exact HZ.out
 ·obtain ⟨A0,m0,c0,y1,y2,y3,y4,_⟩:=h.row1.cells hi
  obtain ⟨r,hr⟩:∃r,R i 1=r:=⟨_,rfl⟩
  simp only [hr] at y1
  cases r with
  | true =>
   have HZ:Hid (ReachAns ks fs ⟨bb,g0,g1,g2,bq,n,Mb⟩ q wS R zs U v i 1 W (.returned (.tuple #[])) W):=zH ⟨rfl,R,zs,U,v,h,⟨Kpt.refl _ _,fun _ _ h=>h⟩,.inr ⟨by simp [hr],rfl,rfl,rfl⟩⟩
   clear h hok hl hm y2 y3 y4
   go_enter Tryz.func164,Tryz.ntmps164
   go_wp2_with fail
   refine bodyPost_ret (results_none rfl _ _ _) rfl ?_
   exact HZ.out
  | false =>
   obtain ⟨s1,s2,s3,e1,e2,e3,⟨y,c1,c2⟩,⟨f1,f2⟩,⟨d1,d2⟩,v',s4,s5,hrun,d3,d4,e5,hfin⟩:=h.reach hok (g:=g1) (.inl ⟨rfl,rfl⟩) hi hr (hl (by decide)) (hm (by decide)) hz
   simp only at e1 e2 c1 c2 f1 f2 d1 d3 d4 e5
   obtain ⟨U',h1,h2,h3⟩:=hfin.out
   obtain ⟨Av,nv,cv,rfl⟩:=h2.row.form
   have HZ:Hid (ReachAns ks fs ⟨bb,g0,g1,g2,bq,n,Mb⟩ q wS R zs U v i 1 W (.returned (.tuple #[])) s5):=zH ⟨rfl,_,_,U',_,h2,h3,.inl ⟨by decide,hr,rfl,rfl,h1⟩⟩
   have HR:=zH hrun
   clear h hok hl hm y2 y3 y4 d2 hfin hrun hr h1 h2 h3
   go_enter Tryz.func164,Tryz.ntmps164
   go_wp2_with (at_builtin;refine wpList_append_run rfl _ _ 192 rfl _ _ _ _ rfl rfl HR.out ?_)
   refine bodyPost_ret (results_none rfl _ _ _) rfl ?_
   exact HZ.out
 obtain ⟨A0,m0,c0,y1,y2,y3,y4,_⟩:=h.row2.cells hi
 obtain ⟨r,hr⟩:∃r,R i 2=r:=⟨_,rfl⟩
 simp only [hr] at y1
 cases r with
 | true =>
  have HZ:Hid (ReachAns ks fs ⟨bb,g0,g1,g2,bq,n,Mb⟩ q wS R zs U v i 2 W (.returned (.tuple #[])) W):=zH ⟨rfl,R,zs,U,v,h,⟨Kpt.refl _ _,fun _ _ h=>h⟩,.inr ⟨by simp [hr],rfl,rfl,rfl⟩⟩
  clear h hok hl hm y2 y3 y4
  go_enter Tryz.func164,Tryz.ntmps164
  go_wp2_with fail
  refine bodyPost_ret (results_none rfl _ _ _) rfl ?_
  exact HZ.out
 | false =>
  obtain ⟨s1,s2,s3,e1,e2,e3,⟨y,c1,c2⟩,⟨f1,f2⟩,⟨d1,d2⟩,v',s4,s5,hrun,d3,d4,e5,hfin⟩:=h.reach hok (g:=g2) (.inr ⟨rfl,rfl⟩) hi hr (hl (by decide)) (hm (by decide)) hz
  simp only at e1 e2 c1 c2 f1 f2 d1 d3 d4 e5
  obtain ⟨U',h1,h2,h3⟩:=hfin.out
  obtain ⟨Av,nv,cv,rfl⟩:=h2.row.form
  have HZ:Hid (ReachAns ks fs ⟨bb,g0,g1,g2,bq,n,Mb⟩ q wS R zs U v i 2 W (.returned (.tuple #[])) s5):=zH ⟨rfl,_,_,U',_,h2,h3,.inl ⟨by decide,hr,rfl,rfl,h1⟩⟩
  have HR:=zH hrun
  clear h hok hl hm y2 y3 y4 d2 hfin hrun hr h1 h2 h3
  go_enter Tryz.func164,Tryz.ntmps164
  go_wp2_with (at_builtin;refine wpList_append_run rfl _ _ 192 rfl _ _ _ _ rfl rfl HR.out ?_)
  refine bodyPost_ret (results_none rfl _ _ _) rfl ?_
  exact HZ.out
end Go.Proofs.YtadjpadieljjlaaGreat
namespace Lfc
theorem SInv.after_start {ks:List Int} {fs:List Fact} {l r:Raw} {must:Int} {R R':Nat→Int→Bool} {zs zs':List (Nat × Int)} {U U' K n:Nat} {s:Int} (h:SInv ks fs l r must R zs K none) (hK:K<2*fs.length) (hs:upS ks l (sd fs K)=s) (hl:zs.length+U≤2*n)
  (hd:(0<s∧R K s=false∧R'=setR R K s∧zs'=zs++[(K,s)]∧U'+1=U)∨(¬ (0<s∧R K s=false)∧R'=R∧zs'=zs∧U'=U)) :
  SInv ks fs l r must R' zs' (K+1) none∧zs'.length+U'≤2*n:=by
 subst hs
 rcases hd with ⟨h0,hr,rfl,rfl,hu⟩ | ⟨hn,rfl,rfl,rfl⟩
 ·exact ⟨(h.reach (.start K hK h0)).started (fun _=>setR_new _ _ _),by rw [List.length_append];simp;omega⟩
 refine ⟨h.started (fun h0=>?_),hl⟩
 cases hh:R' K (upS ks l (sd fs K)) with
 | true=>rfl
 | false=>exact absurd ⟨h0,hh⟩ hn
theorem SInv.after_step {ks:List Int} {fs:List Fact} {l r:Raw} {must:Int} {R R':Nat→Int→Bool} {zs zs':List (Nat × Int)} {U U' K n i j:Nat} {s t m:Int} (h:SInv ks fs l r must R zs K (some (i,s,j))) (hj:j<2*fs.length) (hji:j≠i) (ht:stp ks fs i j=t) (h0:0<t) (hm:m=max t s) (hl:zs.length+U≤2*n)
  (hd:(0<m∧R j m=false∧R'=setR R j m∧zs'=zs++[(j,m)]∧U'+1=U)∨(¬ (0<m∧R j m=false)∧R'=R∧zs'=zs∧U'=U)) :
  SInv ks fs l r must R' zs' K (some (i,s,j+1))∧zs'.length+U'≤2*n∧2*U'+zs'.length≤2*U+zs.length:=by
 subst ht hm
 rcases hd with ⟨hm0,hr,rfl,rfl,hu⟩ | ⟨hn,rfl,rfl,rfl⟩
 ·have hc:=(h.cur i s j rfl).1
  exact ⟨(h.reach (.step i j s (h.sound i s hc) hj hji h0)).next (fun _ _=>setR_new _ _ _),by rw [List.length_append];simp;omega,by rw [List.length_append];simp;omega⟩
 refine ⟨h.next (fun _ _=>?_),hl,Nat.le_refl _⟩
 cases hh:R' j (max (stp ks fs i j) s) with
 | true=>rfl
 | false=>exact absurd ⟨by omega,hh⟩ hn
theorem SInv.skip {ks:List Int} {fs:List Fact} {l r:Raw} {must:Int} {R:Nat→Int→Bool} {zs:List (Nat × Int)} {K i j:Nat} {s:Int} (h:SInv ks fs l r must R zs K (some (i,s,j))) (hs:j=i∨¬ 0<stp ks fs i j):SInv ks fs l r must R zs K (some (i,s,j+1)) :=
 h.next (fun hne h0=>hs.elim (fun e=>absurd e hne) (fun e=>absurd h0 e))
end Lfc
namespace Go.Proofs.YtadjpadieljjlaaGreat
open Go.RowKit Go.Maps
theorem made_cell (n j:Nat) (h:j<n*2):(madeCells (#[.bool false,.slice none 0 0]:Array Value) (n*2))[j]?=some (if j % 2=0 then .bool false else .slice none 0 0):=by
 simp only [madeCells,Array.getElem?_map,Array.getElem?_range,if_pos h,Option.map_some]
 rcases Nat.mod_two_eq_zero_or_one j with e | e <;> simp [e]
theorem makeReached (W:World) (n:Nat) (hn:n≤1000):(Instr.makeSlice 190 (.int .i64 (n:Int)) (.int .i64 (n:Int))).run Tryz.prog W=.ok (.slice (some ⟨W.heap.size,0,none⟩) n n) (W.alloc (.cells (madeCells (#[.bool false,.slice none 0 0]:Array Value) (n*2)) 194)):=by
 obtain ⟨i0,hi,hz0,hz1,hz2⟩:=info_parts reachedInfo
 have hr:=run_make (P:=Tryz.prog) W 190 194 i0 (.agg #[.bool false,.slice none 0 0]) Tryz.underlying190 hi hz0 .i64 .i64 (n:Int) (n:Int) (by omega) (by omega) (by rw [hz2];omega) (by omega)
 simp only [Int.toNat_natCast] at hr
 rw [hz1] at hr
 exact hr
theorem BRow.made (q:Nat→Prop) (W:World) (g n cnt:Nat) (h:W.heap[g]?=some (.cells (madeCells (#[.bool false,.slice none 0 0]:Array Value) (n*2)) 194 (0,0))):BRow q W g n (fun _=>false) cnt :=
 ⟨_,h,size_madeCells _ _,fun i hi=>⟨none,0,0,by rw [made_cell n _ (by omega),if_pos (by omega)],by rw [made_cell n _ (by omega),if_neg (by omega)],fun h=>(by cases h)⟩⟩
theorem ChSt.init {ks:List Int} {fs:List Lfc.Fact} {p:Spot} {q:Nat→Prop} {W:World} (hok:p.Ok q W) (h0:W.heap[p.bb]?=some (.cells #[.slice (some ⟨p.g0,0,none⟩) p.n p.n,.slice (some ⟨p.g1,0,none⟩) p.n p.n,.slice (some ⟨p.g2,0,none⟩) p.n p.n] 191 (0,0)))
  (h1:W.heap[p.g1]?=some (.cells (madeCells (#[.bool false,.slice none 0 0]:Array Value) (p.n*2)) 194 (0,0))) (h2:W.heap[p.g2]?=some (.cells (madeCells (#[.bool false,.slice none 0 0]:Array Value) (p.n*2)) 194 (0,0)))
  (h3:W.heap[p.bq]?=some (.cells #[.slice none 0 0] 192 (0,0))) (hC:Cache ks fs p.Mb (p.Q q (.slice none 0 0)) W):ChSt ks fs p q W (fun _ _=>false) [] (2*p.n) (.slice none 0 0) W :=
 ⟨h0,BRow.made _ _ _ _ _ h1,BRow.made _ _ _ _ _ h2,h3,.inl ⟨rfl,rfl⟩,hC,Kpt.refl _ _,Lfc.unr_le _ _,zN _⟩
theorem ChSt.pop {ks:List Int} {fs:List Lfc.Fact} {p:Spot} {q:Nat→Prop} {wS:World} {R:Nat→Int→Bool} {z:Nat × Int} {zs:List (Nat × Int)} {U:Nat} {v:Value} {W:World} (h:ChSt ks fs p q wS R (z :: zs) U v W) (hok:p.Ok q wS) :
  ∃g o cap,∃A' W',A'=(if cap=0 then some ⟨g,o,none⟩ else some ⟨g,o+2,none⟩)∧v=.slice (some ⟨g,o,none⟩) (zs.length+1) (cap+1)∧W.cell? ⟨p.bq,0,none⟩=some (.slice (some ⟨g,o,none⟩) (zs.length+1) (cap+1))∧W.frozen? ⟨p.bq,0,none⟩=false∧W.cell? ⟨g,o,none⟩=some (.int .i64 (z.1:Int))∧W.cell? ⟨g,o+1,none⟩=some (.int .i64 z.2) ∧
   (∀V:World,(Instr.sliceAt 192 (.slice (some ⟨g,o,none⟩) (zs.length+1) (cap+1)) (some (.int .i64 1)) none none).run Tryz.prog V=.ok (.slice A' zs.length cap) V)∧W.setCell ⟨p.bq,0,none⟩ (.slice A' zs.length cap)=W'∧Hid (ChSt ks fs p q wS R zs U (.slice A' zs.length cap) W'):=by
 obtain ⟨g,o,cap,rfl,hb,hg,c0,c1,hcap,hrow⟩:=h.row.head
 obtain ⟨l1,l2,l3,l4,l5⟩:=hok.lt
 obtain ⟨n1,n2,n3,n4,n5,n6⟩:=hok.ne
 obtain ⟨m1,m2,m3,m4⟩:=hok.mb
 have hfs:=h.frame.size
 have ho:Oth p.bq W (W.setCell ⟨p.bq,0,none⟩ (.slice (if cap=0 then some ⟨g,o,none⟩ else some ⟨g,o+2,none⟩) zs.length cap)):=Oth.set _ _
 have hown:∀b,(Value.slice (if cap=0 then some ⟨g,o,none⟩ else some ⟨g,o+2,none⟩) zs.length cap).ownBlock=some b↔(Value.slice (some ⟨g,o,none⟩) (zs.length+1) (cap+1)).ownBlock=some b:=fun b=>by
  by_cases e:cap=0 <;> simp [e,Value.ownBlock]
 have hQ:∀b,p.Q q (.slice (some ⟨g,o,none⟩) (zs.length+1) (cap+1)) b→p.Q q (.slice (if cap=0 then some ⟨g,o,none⟩ else some ⟨g,o+2,none⟩) zs.length cap) b:=fun b hb=>⟨hb.1,hb.2.1,fun e=>hb.2.2 ((hown b).1 e)⟩
 have hk:Kpt (p.Q q (.slice (some ⟨g,o,none⟩) (zs.length+1) (cap+1))) W (W.setCell ⟨p.bq,0,none⟩ (.slice (if cap=0 then some ⟨g,o,none⟩ else some ⟨g,o+2,none⟩) zs.length cap)):=Kpt.of_oth ho (fun b hb=>hb.2.1.2.2.2)
 refine ⟨g,o,cap,_,_,rfl,rfl,(zC h.que 0).trans rfl,zF h.que 0,c0,c1,fun V=>?_,rfl,zH ⟨(ho.heap h.best n3),h.row1.keep hk (ho.block _ (by omega) (fun e=>n5 (zO e))) (fun b _ hb=>hQ b hb) (fun _ _=>rfl) (zN _),h.row2.keep hk (ho.block _ (by omega) (fun e=>n6 (zO e))) (fun b _ hb=>hQ b hb) (fun _ _=>rfl) (zN _),?_,?_,?_,?_,h.unr,h.le⟩⟩
 ·have hsz:(sizeOf (Tryz.prog.elem 192)).run Tryz.prog V=.ok 2 V:=by kernel_rfl
  rw [run_sliceAt_slice _ _ _ _ _ _ (by kernel_rfl),run_slice_l _ _ _ _ _ (by kernel_rfl) .i64 1 (by omega) (by omega),hsz]
  by_cases e:cap=0
  ·subst e
   simp [Result.andThen,sliced]
  simp [Result.andThen,sliced,Go.WideShapes.add_plain,e]
 ·simp [World.setCell,Array.getElem?_modify,h.que]
 ·refine hrow.keep (fun gg hgg=>ho.block _ ?_ (fun e=>?_))
  ·have:=(hrow.ge hgg).2;omega
  have:=(hrow.ge hgg).1;have e:=zO e;omega
 ·exact h.cache.keep (row:=some p.bq) ho (fun e=>m4 (zO e).symm) (fun b hb _ e=>hb.2.1.2.2.2 (zO e)) (fun b _ hb=>hQ b hb)
 exact h.frame.trans (Kpt.of_oth ho (fun b hb=>hb.2.2.2.2)) (fun _ _ h=>h)
theorem ChSt.pops {ks:List Int} {fs:List Lfc.Fact} {p:Spot} {q:Nat→Prop} {wS:World} {R:Nat→Int→Bool} {z:Nat × Int} {zs:List (Nat × Int)} {U:Nat} {v:Value} {W:World} (h:ChSt ks fs p q wS R (z :: zs) U v W) (hok:p.Ok q wS) :
  ∃g o cap A',v=.slice (some ⟨g,o,none⟩) (zs.length+1) (cap+1)∧(∀V:World,(Instr.sliceAt 192 (.slice (some ⟨g,o,none⟩) (zs.length+1) (cap+1)) (some (.int .i64 1)) none none).run Tryz.prog V=.ok (.slice A' zs.length cap) V) ∧
   ∀V,Below W.heap.size W V→(V.cell? ⟨p.bq,0,none⟩=some (.slice (some ⟨g,o,none⟩) (zs.length+1) (cap+1))∧V.frozen? ⟨p.bq,0,none⟩=false∧V.cell? ⟨g,o,none⟩=some (.int .i64 (z.1:Int))∧V.cell? ⟨g,o+1,none⟩=some (.int .i64 z.2)) ∧
    Hid (ChSt ks fs p q wS R zs U (.slice A' zs.length cap) (V.setCell ⟨p.bq,0,none⟩ (.slice A' zs.length cap))):=by
 obtain ⟨g,o,cap,A',W',hA,hv,_,_,_,_,hsl,_,_⟩:=h.pop hok
 refine ⟨g,o,cap,A',hv,hsl,fun V hV=>?_⟩
 obtain ⟨g2,o2,cap2,A2,W2,hA2,hv2,x1,x2,x3,x4,_,rfl,hS⟩:=(h.below hok hV).pop hok
 rw [hv] at hv2
 injection hv2 with e1 e2 e3
 injection e1 with e1
 injection e1 with e4 e5 _
 subst e4
 subst e5
 obtain rfl:cap=cap2:=by omega
 rw [←hA] at hA2
 subst hA2
 exact ⟨⟨x1,x2,x3,x4⟩,hS⟩
end Go.Proofs.YtadjpadieljjlaaGreat
namespace Go.Proofs.YtadjpadieljjlaaGreat
open Go.RowKit Go.Maps
def StepAns (ks:List Int) (fs:List Lfc.Fact) (Mb:Nat) (q:Nat→Prop) (w:World) (s:Int) (e:Ending) (w':World):Prop:=(∃v,e=.returned v∧EdV q w' s v)∧Cache ks fs Mb q w'∧Oth Mb w w'
theorem step_fin {ks:List Int} {fs:List Lfc.Fact} {Mb n c:Nat} {q:Nat→Prop} {w W:World} {s:Int} {A:Option Addr} {x0 x1:Value} (hR:W.heap[w.heap.size]?=some (.cells #[x0,x1] 183 (0,0))) (ho:Oth Mb w W) (hM:Mb<w.heap.size) (hC:Cache ks fs Mb (fun b=>q b∧b≠w.heap.size) W) (hl:LkO (fun b=>q b∧b≠w.heap.size) W A n c) (hn:n≤1) :
  ∃s1 s2,W.setCell ⟨w.heap.size,0,none⟩ (.int .i64 s)=s1∧s1.setCell ⟨w.heap.size,1,none⟩ (.slice A n c)=s2∧(W.cell? ⟨w.heap.size,0,none⟩=some x0∧s1.cell? ⟨w.heap.size,1,none⟩=some x1)∧(W.frozen? ⟨w.heap.size,0,none⟩=false∧s1.frozen? ⟨w.heap.size,1,none⟩=false) ∧
   Hid (s2.heap[w.heap.size]?=some (.cells #[.int .i64 s,.slice A n c] 183 (0,0)))∧Hid (StepAns ks fs Mb q w s (.returned (.agg #[.int .i64 s,.slice A n c])) s2):=by
 obtain ⟨s1,s2,g1,g2,hy,hf,hq2,hot⟩:=put2 hR (.int .i64 s) (.slice A n c)
 refine ⟨s1,s2,g1,g2,hy,hf,zH hq2,zH ⟨⟨_,rfl,A,n,c,rfl,hn,hl.keep (fun b hb hlt=>hot.block b hlt (fun e=>hb.2 (zO e))) hot.size (fun b _ hb=>hb.1)⟩,hC.keep hot (fun e=>by have:=zO e;omega) (fun b hb _ e=>hb.2 (zO e)) (fun b _ hb=>hb.1),?_⟩⟩
 exact ⟨hot.os.trans ho.os,hot.tape.trans ho.tape,hot.output.trans ho.output,Nat.le_trans ho.size hot.size,fun k hk hn2=>(hot.block k (Nat.lt_of_lt_of_le hk ho.size) (fun e=>by have:=zO e;omega)).trans (ho.block k hk hn2)⟩
theorem fact_link {q:Nat→Prop} {w2 w3:World} (kd a:Int) (hw3:w2.alloc (.cells #[.int .i64 kd,.int .i64 0,S [],.int .i64 0,.slice none 0 0,.slice none 0 0,.int .i64 a] 93)=w3) (hq:∀b,w2.heap.size≤b→q b):LkO q w3 (some ⟨w2.heap.size,0,none⟩) 1 1∧Below w2.heap.size w2 w3:=by
 have b3:Below w2.heap.size w2 w3:=by rw [←hw3];exact (zB _ _).alloc (zN _) _
 have q3:w3.heap[w2.heap.size]?=some (.cells #[.int .i64 kd,.int .i64 0,S [],.int .i64 0,.slice none 0 0,.slice none 0 0,.int .i64 a] 93 (0,0)):=by rw [←hw3];exact zW _ _
 refine ⟨⟨zN _,[⟨kd,.node 0 [] 0 [],[],a⟩],rfl,link_one (x:=⟨kd,.node 0 [] 0 [],[],a⟩) q3 (hq _ (zN _)) rfl (zN _) (fun h=>absurd rfl h) (TreeVP.mk (ts:=[]) (Nat.zero_le _) (zN _) (fun h=>absurd rfl h)),fun x hx=>?_⟩,b3⟩
 simp only [List.mem_singleton] at hx
 subst hx
 simp [Lfc.Raw.size,Lfc.Raw.sizes]
theorem sd_size {fs:List Lfc.Fact} (h:∀f∈fs,f.l.size≤1000000∧f.r.size≤1000000) (i:Nat):(Lfc.sd fs i).size≤1000000:=by
 have hg:∀k,(fs.getD k Lfc.noFact).l.size≤1000000∧(fs.getD k Lfc.noFact).r.size≤1000000:=fun k=>by
  by_cases hk:k<fs.length
  ·rw [List.getD_eq_getElem?_getD,List.getElem?_eq_getElem hk];exact h _ (List.getElem_mem _)
  rw [List.getD_eq_getElem?_getD,List.getElem?_eq_none (by omega)]
  simp [Lfc.noFact,Lfc.Raw.size,Lfc.Raw.sizes]
 unfold Lfc.sd
 split
 ·exact (hg _).1
 exact (hg _).2
theorem oStep_any (q:Nat→Prop) (Bx Mb i j:Nat) (F A0 L R:Option Addr) (f0 c0 cl cr:Nat) (fs:List Lfc.Fact) (ks:List Int) (ts us:List Lfc.Raw) (w:World) (hks:ks.length≤1000000) (hfl:fs.length≤400) (hfz:∀f∈fs,f.l.size≤1000000∧f.r.size≤1000000)
  (hP:PvO w Bx Mb F A0 L R f0 c0 cl cr fs ks ts us) (hC:Cache ks fs Mb q w) (hq:∀b,w.heap.size≤b→q b) (hqM:∀b,q b→b≠Mb) (hi:i<2*fs.length) (hj:j<2*fs.length) (hij:j≠i) :
  Calls Tryz.prog 166 #[.pointer (some ⟨Bx,0,none⟩),.int .i64 (i:Int),.int .i64 (j:Int)] w (StepAns ks fs Mb q w (Lfc.stp ks fs i j)):=by
 obtain ⟨a,ha⟩:∃a,i / 2=a:=⟨_,rfl⟩
 obtain ⟨a',ha'⟩:∃a,j / 2=a:=⟨_,rfl⟩
 have hal:a<fs.length:=by omega
 obtain ⟨b,o,rfl,hlt,hqb,hf⟩:=hP.fs (by intro h;rw [h] at hal;simp at hal)
 obtain ⟨k,n,p,xs,A,c,k',n',p',xs',A',c',e1,e2,⟨c0',c1,c2,c3⟩,c4,⟨c5,c6,c7,c8⟩,v1,v2⟩:=hf a hal
 have hg:fs.getD a Lfc.noFact=fs[a]:=by simp [List.getD,hal]
 obtain ⟨rel,hrel⟩:∃r,fs[a].rel=r:=⟨_,rfl⟩
 rw [hrel] at c4
 have hdiv:(i:Int).tdiv 2=(a:Int):=by rw [Int.tdiv_eq_ediv_of_nonneg (by omega)];omega
 have hdivj:(j:Int).tdiv 2=(a':Int):=by rw [Int.tdiv_eq_ediv_of_nonneg (by omega)];omega
 have hwr:IntKind.i64.wrap (a:Int)=(a:Int):=IntWalk.i64_in _ (by omega)
 have hwr':IntKind.i64.wrap (a':Int)=(a':Int):=IntWalk.i64_in _ (by omega)
 have ha0:(0:Int)≤(a:Int):=by omega
 have ha1:(a:Int)<(fs.length:Int):=by omega
 have HP:=zH hP
 have HQ0:=zH hq
 have hMb:=hC.lt
 have hBx:=hP.lt
 have HST:Hid (Lfc.stp ks fs i j=if a=a' then (if i % 2=0 then (if rel=1 then 2 else if Lfc.upS ks (Lfc.sd fs i) (Lfc.sd fs j)=2 then 2 else 1) else if rel=3 then (if Lfc.upS ks (Lfc.sd fs i) (Lfc.sd fs j)=2 then 2 else 1) else Lfc.upS ks (Lfc.sd fs i) (Lfc.sd fs j)) else Lfc.upS ks (Lfc.sd fs i) (Lfc.sd fs j)):=zH (by
  unfold Lfc.stp
  rw [ha,ha',hg,hrel]
  by_cases h:a=a'
  ·rw [if_pos ⟨h,Ne.symm hij⟩,if_pos h]
  rw [if_neg (fun h'=>h h'.1),if_neg h])
 rw [HST.out]
 obtain ⟨w1,hw1⟩:∃w1,w.alloc (.cells #[.int .i64 0,.slice none 0 0] 183)=w1:=⟨_,rfl⟩
 obtain ⟨w2,hw2⟩:∃w2,w1.alloc (.cells #[.int .i64 k,S n,.int .i64 p,.slice A xs.length c,.int .i64 rel,.int .i64 k',S n',.int .i64 p',.slice A' xs'.length c'] 70)=w2:=⟨_,rfl⟩
 have b1:=zG hw1
 have b2:=zG hw2
 have q1:=zQ hw1
 have q2:=zQ hw2
 have l1:=zL q1
 have l2:=zL q2
 have b02:Below w.heap.size w w2:=b1.trans (b2.mono (by omega))
 have B02:=zH b02
 have s02:w.heap.size≤w2.heap.size:=by omega
 have x1:=(b1.cell (p:=⟨Bx,0,none⟩) hP.lt).trans hP.facts
 have cc:∀j v,w.cell? ⟨b,j,none⟩=some v→w1.cell? ⟨b,j,none⟩=some v:=fun j v hv=>(b1.cell (p:=⟨b,j,none⟩) hlt).trans hv
 have d0:=cc _ _ c0'
 have d1:=cc _ _ c1
 have d2:=cc _ _ c2
 have d3:=cc _ _ c3
 have d4:=cc _ _ c4
 have d5:=cc _ _ c5
 have d6:=cc _ _ c6
 have d7:=cc _ _ c7
 have d8:=cc _ _ c8
 have y4:=zC q2 4
 simp at y4
 have Q1:=zH ((b2.block _ l1).trans q1)
 have R2:Hid (w.heap.size<w2.heap.size):=zH (by omega)
 have HW2:=zH hw2
 have C2:Hid (Cache ks fs Mb (fun b=>q b∧b≠w.heap.size) w2):=zH ((hC.keep (row:=none) (q':=fun b=>q b∧b≠w.heap.size) ⟨b02.os,b02.tape,b02.output,b02.size,fun k hk _=>b02.block k hk⟩ (fun e=>by cases e) (fun _ _ _ e=>by cases e) (fun b hb h=>⟨h,by omega⟩)))
 have P2:=zH (hP.oth (Oth.of_below b02))
 have SI:Hid (∀W,Below w2.heap.size w2 W→Calls Tryz.prog 150 #[.pointer (some ⟨Bx,0,none⟩),.int .i64 (i:Int)] W (SideAns (fun b=>b≠Mb) W (Lfc.sd fs i))):=zH (fun W hW=>oSide_any _ Bx i fs _ f0 W (by omega) hi (P2.out.oth (Oth.of_below hW)).fs (P2.out.oth (Oth.of_below hW)).facts (P2.out.oth (Oth.of_below hW)).lt)
 have SJ:Hid (∀W,Below w2.heap.size w2 W→Calls Tryz.prog 150 #[.pointer (some ⟨Bx,0,none⟩),.int .i64 (j:Int)] W (SideAns (fun b=>b≠Mb) W (Lfc.sd fs j))):=zH (fun W hW=>oSide_any _ Bx j fs _ f0 W (by omega) hj (P2.out.oth (Oth.of_below hW)).fs (P2.out.oth (Oth.of_below hW)).facts (P2.out.oth (Oth.of_below hW)).lt)
 have UP:Hid (∀W vt vu,Below w2.heap.size w2 W→TreeVP (fun b=>b≠Mb) W (Lfc.sd fs i) vt→TreeVP (fun b=>b≠Mb) W (Lfc.sd fs j) vu→Calls Tryz.prog 163 #[.pointer (some ⟨Bx,0,none⟩),vt,vu] W (fun e W'=>∃A n c,e=.returned (.agg #[.int .i64 (Lfc.upS ks (Lfc.sd fs i) (Lfc.sd fs j)),.slice A n c])∧(n≤1∧LkO (fun b=>(q b∧b≠w.heap.size)∧W.heap.size≤b) W' A n c)∧Below W.heap.size W W')):=zH (fun W vt vu hW ht hu=>(oUp_any Bx ks A0 c0 _ _ vt vu W hks (sd_size hfz i) (sd_size hfz j) (P2.out.oth (Oth.of_below hW)).ks.toO ht.toV hu.toV (P2.out.oth (Oth.of_below hW)).kinds (P2.out.oth (Oth.of_below hW)).lt).mono (fun e W' h=>by
  obtain ⟨v,rfl,⟨A,n,c,rfl,hn,hl⟩,hb⟩:=edV_of_up (q:=fun b=>(q b∧b≠w.heap.size)∧W.heap.size≤b) (sd_size hfz j) h (fun b hb=>⟨⟨HQ0.out b (Nat.le_trans (Nat.le_trans s02 hW.size) hb),by have:=hW.size;omega⟩,hb⟩)
  exact ⟨A,n,c,rfl,⟨hn,hl⟩,hb⟩))
 generalize hS0:Lfc.upS ks (Lfc.sd fs i) (Lfc.sd fs j)=S0 at UP ⊢
 have HS0:=zH hS0
 have HQM:=zH hqM
 clear hS0 hqM
 generalize Lfc.sd fs i=ti at SI UP
 generalize Lfc.sd fs j=tj at SJ UP
 have HQ2:Hid (∀b,w2.heap.size≤b→q b∧b≠w.heap.size):=zH (fun b hb=>⟨hq b (by omega),by omega⟩)
 have HIJ:Hid (i<2*fs.length∧j<2*fs.length∧2*fs.length≤1000):=zH ⟨hi,hj,by omega⟩
 clear hw2 q2 cc c0' c1 c2 c3 c4 c5 c6 c7 c8 v1 v2 hf b1 b2 q1 b02 HST hg ha ha' hrel e1 e2 hP hC hi hj hfz hlt hqb
 have hij1:¬ ((i:Int)=(j:Int)):=by omega
 clear hij
 by_cases haa:a=a'
 ·subst haa
  rw [if_pos rfl]
  by_cases hpar:i % 2=0
  ·have hmod:(i:Int).tmod 2=0:=by rw [Int.tmod_eq_emod_of_nonneg (by omega)];omega
   rw [if_pos hpar]
   clear hpar
   by_cases hrl:rel=1
   ·subst hrl
    rw [if_pos rfl]
    obtain ⟨w3,hw3⟩:∃w3,w2.alloc (.cells #[.int .i64 2,.int .i64 0,S [],.int .i64 0,.slice none 0 0,.slice none 0 0,.int .i64 (a:Int)] 93)=w3:=⟨_,rfl⟩
    obtain ⟨hl3,b3⟩:=fact_link 2 (a:Int) hw3 HQ2.out
    obtain ⟨s1,s2,g1,g2,⟨p0,p1⟩,⟨f0',f1'⟩,HQ,HZ⟩:=step_fin (q:=q) (s:=2) (((b3).block _ R2.out).trans Q1.out) (Oth.of_below (B02.out.trans ((b3).mono s02))) hMb (C2.out.below (b3)) (hl3) (by omega)
    clear hl3 SI SJ UP
    go_enter Tryz.func166,Tryz.ntmps166
    go_upto_region 2 with fail
    rw [HW2.out]
    clear hw1 x1 d0 d1 d2 d3 d4 d5 d6 d7 d8
    go_wp2_with fail
    refine bodyPost_ret (results_edge rfl _ _ _ _ _ rfl HQ.out) rfl ?_
    exact HZ.out
   rw [if_neg hrl]
   have hrl1:(rel == 1)=false:=by simpa using hrl
   have hrl2:decide (rel=1)=false:=by simpa using hrl
   clear hrl
   obtain ⟨rs,hrs⟩:∃r,(if S0=2 then (2:Int) else 1)=r:=⟨_,rfl⟩
   rw [hrs]
   have HRS:=zH hrs
   clear hrs
   obtain ⟨w3,hw3⟩:∃w3,w2.alloc (.cells #[.int .i64 2,.int .i64 0,S [],.int .i64 0,.slice none 0 0,.slice none 0 0,.int .i64 (a:Int)] 93)=w3:=⟨_,rfl⟩
   obtain ⟨hl3,b3⟩:=fact_link 2 (a:Int) hw3 HQ2.out
   obtain ⟨w4,hw4⟩:∃w4,w3.alloc (.cells #[.int .i64 1,.slice (some ⟨w2.heap.size,0,none⟩) 1 1] 183)=w4:=⟨_,rfl⟩
   have b4:=zG hw4
   have q4:=zQ hw4
   have HW4:=zH hw4
   have bv:Below w2.heap.size w2 w4:=b3.trans (b4.mono b3.size)
   have Q4:=zH q4
   have L3:=zH (hl3.keep (fun b _ hlt=>b4.block b hlt) b4.size (fun b _ h=>h))
   have l4:=zL q4
   clear hw4 q4 hl3 b3 b4
   go_enter Tryz.func166,Tryz.ntmps166
   go_upto_region 2 with fail
   rw [HW2.out]
   clear hw1 x1 d0 d1 d2 d3 d4 d5 d6 d7 d8
   go_upto_region 7 with fail
   rw [HW4.out]
   clear hw3
   have B4:=zH bv
   have SIv:=zH (SI.out _ bv)
   have BV:=zH bv
   clear bv
   go_wp2_with fail
   refine SIv.out.mono ?_
   rintro e wa ⟨⟨va,rfl,hva⟩,ba⟩
   have ba2:=BV.out.trans (ba.mono BV.out.size)
   have SJv:=zH (SJ.out _ ba2)
   have HVA:=zH hva
   clear hva SIv
   go_wp2_with fail
   refine SJv.out.mono ?_
   rintro e wb ⟨⟨vb,rfl,hvb⟩,bb⟩
   have bb2:=ba2.trans (bb.mono ba2.size)
   have UPv:=zH (UP.out _ _ _ bb2 (HVA.out.oth (Oth.of_below bb)) hvb)
   clear hvb SJv
   go_wp2_with fail
   refine UPv.out.mono ?_
   rintro e wc ⟨Au,nu,cu,rfl,hlu,bc⟩
   have bc2:=bb2.trans (bc.mono bb2.size)
   have bcV:=ba.trans ((bb.trans (bc.mono bb.size)).mono ba.size)
   have HLS:=zH hlu
   have HLU:=zH (And.intro hlu.1 (hlu.2.keep (q':=fun b=>q b∧b≠w.heap.size) (fun _ _ _=>rfl) (zN _) (fun b _ h=>h.1)))
   have hbsz:w4.heap.size≤wb.heap.size:=Nat.le_trans ba.size bb.size
   clear hlu UPv BV ba bb bc ba2 bb2
   obtain ⟨w5,hw5⟩:∃w5,wc.alloc (.cells #[.int .i64 S0,.slice Au nu cu] 183)=w5:=⟨_,rfl⟩
   have b5:=zG hw5
   have q5:=zQ hw5
   have HW5:=zH hw5
   have b25:Below w2.heap.size w2 w5:=bc2.trans (b5.mono bc2.size)
   have B45:=zH (bcV.trans (b5.mono bcV.size))
   have HLU5:=zH (HLU.out.2.keep (fun b _ hlt=>b5.block b hlt) b5.size (fun b _ h=>h))
   have HN:=zH HLU.out.1
   obtain ⟨z0,z1⟩:=cells2e q5
   clear hw5 q5 HLU bc2 bcV
   go_upto_region 8 with fail
   rw [HW5.out]
   by_cases hs:S0=2
   ·obtain rfl:rs=2:=by rw [←HRS.out,if_pos hs]
    subst hs
    obtain ⟨s1,s2,g1,g2,⟨p0,p1⟩,⟨f0',f1'⟩,HQ,HZ⟩:=step_fin (q:=q) (s:=2) (((b25).block _ R2.out).trans Q1.out) (Oth.of_below (B02.out.trans ((b25).mono s02))) hMb (C2.out.below (b25)) (HLU5.out) (HN.out)
    go_wp2_with fail
    refine bodyPost_ret (results_edge rfl _ _ _ _ _ rfl HQ.out) rfl ?_
    exact HZ.out
   obtain rfl:rs=1:=by rw [←HRS.out,if_neg hs]
   have hs1:(S0 == 2)=false:=by simpa using hs
   have hs2:decide (S0=2)=false:=by simpa using hs
   clear hs
   obtain ⟨y0,y1⟩:=cells2e ((B45.out.block _ l4).trans Q4.out)
   obtain ⟨s1,s2,g1,g2,⟨p0,p1⟩,⟨f0',f1'⟩,HQ,HZ⟩:=step_fin (q:=q) (s:=1) (((b25).block _ R2.out).trans Q1.out) (Oth.of_below (B02.out.trans ((b25).mono s02))) hMb (C2.out.below (b25)) (L3.out.keep (fun b _ hlt=>B45.out.block b hlt) B45.out.size (fun b _ h=>h)) (by omega)
   go_wp2_with fail
   refine bodyPost_ret (results_edge rfl _ _ _ _ _ rfl HQ.out) rfl ?_
   exact HZ.out
  have hmod:(i:Int).tmod 2=1:=by rw [Int.tmod_eq_emod_of_nonneg (by omega)];omega
  rw [if_neg hpar]
  clear hpar
  by_cases hrl:rel=3
  ·subst hrl
   rw [if_pos rfl]
   obtain ⟨rs,hrs⟩:∃r,(if S0=2 then (2:Int) else 1)=r:=⟨_,rfl⟩
   rw [hrs]
   have HRS:=zH hrs
   clear hrs
   go_enter Tryz.func166,Tryz.ntmps166
   go_upto_region 2 with fail
   rw [HW2.out]
   clear hw1 x1 d0 d1 d2 d3 d4 d5 d6 d7 d8
   go_upto_region 12 with fail
   have bv:Below w2.heap.size w2 w2:=zB _ _
   have SIv:=zH (SI.out _ bv)
   have BV:=zH bv
   clear bv
   go_wp2_with fail
   refine SIv.out.mono ?_
   rintro e wa ⟨⟨va,rfl,hva⟩,ba⟩
   have ba2:=BV.out.trans (ba.mono BV.out.size)
   have SJv:=zH (SJ.out _ ba2)
   have HVA:=zH hva
   clear hva SIv
   go_wp2_with fail
   refine SJv.out.mono ?_
   rintro e wb ⟨⟨vb,rfl,hvb⟩,bb⟩
   have bb2:=ba2.trans (bb.mono ba2.size)
   have UPv:=zH (UP.out _ _ _ bb2 (HVA.out.oth (Oth.of_below bb)) hvb)
   clear hvb SJv
   go_wp2_with fail
   refine UPv.out.mono ?_
   rintro e wc ⟨Au,nu,cu,rfl,hlu,bc⟩
   have bc2:=bb2.trans (bc.mono bb2.size)
   have bcV:=ba.trans ((bb.trans (bc.mono bb.size)).mono ba.size)
   have HLS:=zH hlu
   have HLU:=zH (And.intro hlu.1 (hlu.2.keep (q':=fun b=>q b∧b≠w.heap.size) (fun _ _ _=>rfl) (zN _) (fun b _ h=>h.1)))
   have hbsz:w2.heap.size≤wb.heap.size:=Nat.le_trans ba.size bb.size
   clear hlu UPv BV ba bb bc ba2 bb2
   obtain ⟨w5,hw5⟩:∃w5,wc.alloc (.cells #[.int .i64 S0,.slice Au nu cu] 183)=w5:=⟨_,rfl⟩
   have b5:=zG hw5
   have q5:=zQ hw5
   have HW5:=zH hw5
   have b25:Below w2.heap.size w2 w5:=bc2.trans (b5.mono bc2.size)
   have B45:=zH (bcV.trans (b5.mono bcV.size))
   have HLU5:=zH (HLU.out.2.keep (fun b _ hlt=>b5.block b hlt) b5.size (fun b _ h=>h))
   have HN:=zH HLU.out.1
   obtain ⟨z0,z1⟩:=cells2e q5
   clear hw5 q5 HLU bc2 bcV
   go_upto_region 13 with fail
   rw [HW5.out]
   by_cases hs:S0=2
   ·obtain rfl:rs=2:=by rw [←HRS.out,if_pos hs]
    subst hs
    obtain ⟨s1,s2,g1,g2,⟨p0,p1⟩,⟨f0',f1'⟩,HQ,HZ⟩:=step_fin (q:=q) (s:=2) (((b25).block _ R2.out).trans Q1.out) (Oth.of_below (B02.out.trans ((b25).mono s02))) hMb (C2.out.below (b25)) (HLU5.out) (HN.out)
    go_wp2_with fail
    refine bodyPost_ret (results_edge rfl _ _ _ _ _ rfl HQ.out) rfl ?_
    exact HZ.out
   obtain rfl:rs=1:=by rw [←HRS.out,if_neg hs]
   have hs1:(S0 == 2)=false:=by simpa using hs
   have hs2:decide (S0=2)=false:=by simpa using hs
   clear hs
   obtain ⟨w6,hw6⟩:∃w6,w5.alloc (.cells #[.int .i64 3,.int .i64 0,S [],.int .i64 0,.slice none 0 0,.slice none 0 0,.int .i64 (a:Int)] 93)=w6:=⟨_,rfl⟩
   obtain ⟨hl6,b6⟩:=fact_link (q:=fun b=>q b∧b≠w.heap.size) 3 (a:Int) hw6 (fun b hb=>HQ2.out b (Nat.le_trans b25.size hb))
   have b26:Below w2.heap.size w2 w6:=b25.trans (b6.mono b25.size)
   obtain ⟨s1,s2,g1,g2,⟨p0,p1⟩,⟨f0',f1'⟩,HQ,HZ⟩:=step_fin (q:=q) (s:=1) (((b26).block _ R2.out).trans Q1.out) (Oth.of_below (B02.out.trans ((b26).mono s02))) hMb (C2.out.below (b26)) (hl6) (by omega)
   go_wp2_with fail
   refine bodyPost_ret (results_edge rfl _ _ _ _ _ rfl HQ.out) rfl ?_
   exact HZ.out
  rw [if_neg hrl]
  have hrl1:(rel == 3)=false:=by simpa using hrl
  have hrl2:decide (rel=3)=false:=by simpa using hrl
  clear hrl
  obtain ⟨w3,hw3⟩:∃w3,w2.alloc (.cells #[.int .i64 (i:Int),.int .i64 (j:Int)] 180)=w3:=⟨_,rfl⟩
  have b3:=zG hw3
  have q3:=zQ hw3
  have HW3:=zH hw3
  have l3:=zL q3
  have Q3:=zH q3
  have C3:=zH (C2.out.below b3)
  have P3:=zH (P2.out.oth (Oth.of_below b3))
  have B3:=zH b3
  obtain ⟨vl,bl,hlk,hvl⟩:=EMap.looks C3.out HIJ.out.1 HIJ.out.2.1 (Nat.le_trans HIJ.out.2.2 (by omega))
  have HLK:=zH hlk
  have HVL:=zH hvl
  have lk1:=hlk w3.drew (zB _ _).drew
  have lk2:=hlk (w3.alloc (.cells #[.int .i64 0,.slice none 0 0] 183)).drew ((zB _ _).alloc (zN _) _).drew
  obtain ⟨y0,y1⟩:=cells2e q3
  have x4:=P3.out.cache
  have hBx3:=P3.out.lt
  have r1:(w3.alloc (.cells #[.int .i64 0,.slice none 0 0] 183)).cell? ⟨Bx,4,none⟩=some (.map (some Mb)):=(World.cell?_of_block (zA w3 _ _ hBx3)).trans x4
  have r2:(w3.alloc (.cells #[.int .i64 0,.slice none 0 0] 183)).cell? ⟨w2.heap.size,0,none⟩=some (.int .i64 (i:Int)):=(World.cell?_of_block (zA w3 _ _ (by simp only;omega))).trans y0
  have r3:(w3.alloc (.cells #[.int .i64 0,.slice none 0 0] 183)).cell? ⟨w2.heap.size,1,none⟩=some (.int .i64 (j:Int)):=(World.cell?_of_block (zA w3 _ _ (by simp only;omega))).trans y1
  clear hw3 b3 q3 hlk
  rcases hvl with ⟨rfl,rfl⟩ | ⟨rfl,Av,nv,cv,rfl,hnv,hlv⟩
  ·clear HVL
   rw [eZero] at lk1 lk2 HLK
   go_enter Tryz.func166,Tryz.ntmps166
   go_upto_region 2 with fail
   rw [HW2.out]
   clear hw1 x1 d0 d1 d2 d3 d4 d5 d6 d7 d8
   go_upto_region 17 with fail
   rw [HW3.out]
   go_region_held3 (fun W=>W.cell? ⟨Bx,4,none⟩=some (.map (some Mb))∧W.cell? ⟨w2.heap.size,0,none⟩=some (.int .i64 (i:Int))∧W.cell? ⟨w2.heap.size,1,none⟩=some (.int .i64 (j:Int)))
    (first | exact ⟨x4,y0,y1⟩ | exact ⟨r1,r2,r3⟩ | go_keep)
    (fail)
   all_goals
    obtain ⟨w5,hw5⟩:∃w5,(w3.alloc (.cells #[.int .i64 0,.slice none 0 0] 183)).drew=w5:=⟨_,rfl⟩
    have b5:Below w3.heap.size w3 w5:=by rw [←hw5];exact ((zB _ _).alloc (zN _) _).drew
    have q5:w5.heap[w3.heap.size]?=some (.cells #[.int .i64 0,.slice none 0 0] 183 (0,0)):=by rw [←hw5];exact zW _ _
    have bv:Below w2.heap.size w2 w5:=B3.out.trans (b5.mono B3.out.size)
    have l5:=zL q5
    have Q5:=zH q5
    have B5:=zH b5
    rw [hw5]
    clear hw5 b5 q5 lk1 lk2 r1 r2 r3 x4 y0 y1
    have SIv:=zH (SI.out _ bv)
    have BV:=zH bv
    clear bv
    go_wp2_with fail
    refine SIv.out.mono ?_
    rintro e wa ⟨⟨va,rfl,hva⟩,ba⟩
    have ba2:=BV.out.trans (ba.mono BV.out.size)
    have SJv:=zH (SJ.out _ ba2)
    have HVA:=zH hva
    clear hva SIv
    go_wp2_with fail
    refine SJv.out.mono ?_
    rintro e wb ⟨⟨vb,rfl,hvb⟩,bb⟩
    have bb2:=ba2.trans (bb.mono ba2.size)
    have UPv:=zH (UP.out _ _ _ bb2 (HVA.out.oth (Oth.of_below bb)) hvb)
    clear hvb SJv
    go_wp2_with fail
    refine UPv.out.mono ?_
    rintro e wc ⟨Au,nu,cu,rfl,hlu,bc⟩
    have bc2:=bb2.trans (bc.mono bb2.size)
    have bcV:=ba.trans ((bb.trans (bc.mono bb.size)).mono ba.size)
    have HLS:=zH hlu
    have HLU:=zH (And.intro hlu.1 (hlu.2.keep (q':=fun b=>q b∧b≠w.heap.size) (fun _ _ _=>rfl) (zN _) (fun b _ h=>h.1)))
    have hbsz:w5.heap.size≤wb.heap.size:=Nat.le_trans ba.size bb.size
    clear hlu UPv BV ba bb bc ba2 bb2
    obtain ⟨s1,s2,g1,g2,⟨p0,p1⟩,⟨f0',f1'⟩,hq2,hot⟩:=put2 ((bcV.block _ l5).trans Q5.out) (.int .i64 S0) (.slice Au nu cu)
    have b3s:Below w3.heap.size w3 s2:=Oth.below (B5.out.trans (bcV.mono B5.out.size)) hot (zN _) (Nat.le_trans B5.out.size bcV.size)
    have b2s:Below w2.heap.size w2 s2:=B3.out.trans (b3s.mono B3.out.size)
    have CS:Cache ks fs Mb (fun b=>(q b∧b≠w.heap.size)∧b≠w3.heap.size) s2:=C3.out.keep (row:=none) ⟨b3s.os,b3s.tape,b3s.output,b3s.size,fun k hk _=>b3s.block k hk⟩ (fun e=>by cases e) (fun _ _ _ e=>by cases e) (fun b hb h=>⟨h,by omega⟩)
    have LS:LkO (fun b=>(q b∧b≠w.heap.size)∧b≠w3.heap.size) s2 Au nu cu:=HLS.out.2.keep (fun b hb hlt=>hot.block b hlt (fun e=>by have e:=zO e;have h2:=hb.2;omega)) hot.size (fun b _ hb=>⟨hb.1,by have h2:=hb.2;omega⟩)
    have LSd:LkO (fun b=>(q b∧b≠w.heap.size)∧b≠w3.heap.size) s2.drew Au nu cu:=LkO.keep (w:=s2) (fun _ _ _=>rfl) (zN _) (fun _ _ h=>h) LS
    obtain ⟨w9,hput,C9,o9⟩:=Cache.put (w:=s2.drew) (v:=.agg #[.int .i64 S0,.slice Au nu cu]) (CS.below (zB _ _).drew) (fun b hb=>HQM.out b hb.1.1) HIJ.out.1 HIJ.out.2.1 HIJ.out.2.2 (by rw [HS0.out];exact ⟨Au,nu,cu,rfl,HLS.out.1,LSd⟩) ⟨_,HLK.out _ b3s.drew⟩
    have o29:Oth Mb s2 w9:=⟨o9.os,o9.tape,o9.output,o9.size,o9.block⟩
    have hMw2:Mb<w2.heap.size:=by omega
    obtain ⟨z0,z1⟩:=cells2e (o29.heap hq2 (by omega))
    obtain ⟨t0,t1⟩:=cells2e hq2
    obtain ⟨k0,k1⟩:=cells2e ((b3s.block _ l3).trans Q3.out)
    have x4:=(P2.out.oth (Oth.of_below b2s)).cache
    have x49:=((P2.out.oth (Oth.of_below b2s)).oth o29).cache
    obtain ⟨k09,k19⟩:=cells2e (o29.heap ((b3s.block _ l3).trans Q3.out) (by omega))
    obtain ⟨u1,u2,h1,h2,⟨p2,p3⟩,⟨f2',f3'⟩,HQ,HZ⟩:=step_fin (q:=q) (s:=S0) (n:=nu) (A:=Au) (c:=cu) (o29.heap ((b2s.block _ R2.out).trans Q1.out) (by omega)) ((Oth.of_below (B02.out.trans (b2s.mono s02))).trans o29) hMb (C9.keep (row:=none) ⟨rfl,rfl,rfl,zN _,fun _ _ _=>rfl⟩ (fun e=>by cases e) (fun _ _ _ e=>by cases e) (fun b _ h=>h.1)) (LS.keep (fun b hb hlt=>o29.block b hlt (fun e=>HQM.out b hb.1.1 (zO e))) o29.size (fun b _ h=>h.1)) HLS.out.1
    clear hq2 hot b3s b2s CS LS LSd C9 o9 o29 bc2 bcV HLU HLS
    go_upto_region 20 with fail
    go_region_held3 (fun W=>W.cell? ⟨Bx,4,none⟩=some (.map (some Mb))∧(W.cell? ⟨w2.heap.size,0,none⟩=some (.int .i64 (i:Int))∧W.cell? ⟨w2.heap.size,1,none⟩=some (.int .i64 (j:Int)))∧(W.cell? ⟨w3.heap.size,0,none⟩=some (.int .i64 S0)∧W.cell? ⟨w3.heap.size,1,none⟩=some (.slice Au nu cu)))
     (first | exact ⟨x4,⟨k0,k1⟩,⟨t0,t1⟩⟩ | exact ⟨x49,⟨k09,k19⟩,⟨z0,z1⟩⟩ | go_keep)
     (fail)
    all_goals
     clear x4 k0 k1 x49 k09 k19 t0 t1 p0 p1 f0' f1' g1 g2 hput
     go_wp2_with fail
     refine bodyPost_ret (results_edge rfl _ _ _ _ _ rfl HQ.out) rfl ?_
     exact HZ.out
  have HLV:=zH hlv
  have HNV:=zH hnv
  clear hlv hnv HVL
  rw [HS0.out] at lk1 lk2
  go_enter Tryz.func166,Tryz.ntmps166
  go_upto_region 2 with fail
  rw [HW2.out]
  clear hw1 x1 d0 d1 d2 d3 d4 d5 d6 d7 d8
  go_upto_region 17 with fail
  rw [HW3.out]
  go_region_held3 (fun W=>W.cell? ⟨Bx,4,none⟩=some (.map (some Mb))∧W.cell? ⟨w2.heap.size,0,none⟩=some (.int .i64 (i:Int))∧W.cell? ⟨w2.heap.size,1,none⟩=some (.int .i64 (j:Int)))
   (first | exact ⟨x4,y0,y1⟩ | exact ⟨r1,r2,r3⟩ | go_keep)
   (fail)
  all_goals
   obtain ⟨w5,hw5⟩:∃w5,(w3.alloc (.cells #[.int .i64 S0,.slice Av nv cv] 183)).drew=w5:=⟨_,rfl⟩
   have b5:Below w3.heap.size w3 w5:=by rw [←hw5];exact ((zB _ _).alloc (zN _) _).drew
   have q5:w5.heap[w3.heap.size]?=some (.cells #[.int .i64 S0,.slice Av nv cv] 183 (0,0)):=by rw [←hw5];exact zW _ _
   have b25:Below w2.heap.size w2 w5:=B3.out.trans (b5.mono B3.out.size)
   have L5:=HLV.out.keep (fun b _ hlt=>b5.block b hlt) b5.size (fun b _ h=>h)
   obtain ⟨z0,z1⟩:=cells2e q5
   rw [hw5]
   clear hw5 lk1 lk2 r1 r2 r3 x4 y0 y1
   obtain ⟨s1,s2,g1,g2,⟨p0,p1⟩,⟨f0',f1'⟩,HQ,HZ⟩:=step_fin (q:=q) (s:=S0) (((b25).block _ R2.out).trans Q1.out) (Oth.of_below (B02.out.trans ((b25).mono s02))) hMb (C2.out.below (b25)) (L5) (HNV.out)
   clear b5 b25 q5 L5
   go_wp2_with fail
   refine bodyPost_ret (results_edge rfl _ _ _ _ _ rfl HQ.out) rfl ?_
   exact HZ.out
 rw [if_neg haa]
 have haa1:((a:Int) == (a':Int))=false:=by simp;omega
 have haa2:decide ((a:Int)=(a':Int))=false:=by simp;omega
 clear haa
 obtain ⟨w3,hw3⟩:∃w3,w2.alloc (.cells #[.int .i64 (i:Int),.int .i64 (j:Int)] 180)=w3:=⟨_,rfl⟩
 have b3:=zG hw3
 have q3:=zQ hw3
 have HW3:=zH hw3
 have l3:=zL q3
 have Q3:=zH q3
 have C3:=zH (C2.out.below b3)
 have P3:=zH (P2.out.oth (Oth.of_below b3))
 have B3:=zH b3
 obtain ⟨vl,bl,hlk,hvl⟩:=EMap.looks C3.out HIJ.out.1 HIJ.out.2.1 (Nat.le_trans HIJ.out.2.2 (by omega))
 have HLK:=zH hlk
 have HVL:=zH hvl
 have lk1:=hlk w3.drew (zB _ _).drew
 have lk2:=hlk (w3.alloc (.cells #[.int .i64 0,.slice none 0 0] 183)).drew ((zB _ _).alloc (zN _) _).drew
 obtain ⟨y0,y1⟩:=cells2e q3
 have x4:=P3.out.cache
 have hBx3:=P3.out.lt
 have r1:(w3.alloc (.cells #[.int .i64 0,.slice none 0 0] 183)).cell? ⟨Bx,4,none⟩=some (.map (some Mb)):=(World.cell?_of_block (zA w3 _ _ hBx3)).trans x4
 have r2:(w3.alloc (.cells #[.int .i64 0,.slice none 0 0] 183)).cell? ⟨w2.heap.size,0,none⟩=some (.int .i64 (i:Int)):=(World.cell?_of_block (zA w3 _ _ (by simp only;omega))).trans y0
 have r3:(w3.alloc (.cells #[.int .i64 0,.slice none 0 0] 183)).cell? ⟨w2.heap.size,1,none⟩=some (.int .i64 (j:Int)):=(World.cell?_of_block (zA w3 _ _ (by simp only;omega))).trans y1
 clear hw3 b3 q3 hlk
 rcases hvl with ⟨rfl,rfl⟩ | ⟨rfl,Av,nv,cv,rfl,hnv,hlv⟩
 ·clear HVL
  rw [eZero] at lk1 lk2 HLK
  go_enter Tryz.func166,Tryz.ntmps166
  go_upto_region 2 with fail
  rw [HW2.out]
  clear hw1 x1 d0 d1 d2 d3 d4 d5 d6 d7 d8
  go_upto_region 17 with fail
  rw [HW3.out]
  go_region_held3 (fun W=>W.cell? ⟨Bx,4,none⟩=some (.map (some Mb))∧W.cell? ⟨w2.heap.size,0,none⟩=some (.int .i64 (i:Int))∧W.cell? ⟨w2.heap.size,1,none⟩=some (.int .i64 (j:Int)))
   (first | exact ⟨x4,y0,y1⟩ | exact ⟨r1,r2,r3⟩ | go_keep)
   (fail)
  all_goals
   obtain ⟨w5,hw5⟩:∃w5,(w3.alloc (.cells #[.int .i64 0,.slice none 0 0] 183)).drew=w5:=⟨_,rfl⟩
   have b5:Below w3.heap.size w3 w5:=by rw [←hw5];exact ((zB _ _).alloc (zN _) _).drew
   have q5:w5.heap[w3.heap.size]?=some (.cells #[.int .i64 0,.slice none 0 0] 183 (0,0)):=by rw [←hw5];exact zW _ _
   have bv:Below w2.heap.size w2 w5:=B3.out.trans (b5.mono B3.out.size)
   have l5:=zL q5
   have Q5:=zH q5
   have B5:=zH b5
   rw [hw5]
   clear hw5 b5 q5 lk1 lk2 r1 r2 r3 x4 y0 y1
   have SIv:=zH (SI.out _ bv)
   have BV:=zH bv
   clear bv
   go_wp2_with fail
   refine SIv.out.mono ?_
   rintro e wa ⟨⟨va,rfl,hva⟩,ba⟩
   have ba2:=BV.out.trans (ba.mono BV.out.size)
   have SJv:=zH (SJ.out _ ba2)
   have HVA:=zH hva
   clear hva SIv
   go_wp2_with fail
   refine SJv.out.mono ?_
   rintro e wb ⟨⟨vb,rfl,hvb⟩,bb⟩
   have bb2:=ba2.trans (bb.mono ba2.size)
   have UPv:=zH (UP.out _ _ _ bb2 (HVA.out.oth (Oth.of_below bb)) hvb)
   clear hvb SJv
   go_wp2_with fail
   refine UPv.out.mono ?_
   rintro e wc ⟨Au,nu,cu,rfl,hlu,bc⟩
   have bc2:=bb2.trans (bc.mono bb2.size)
   have bcV:=ba.trans ((bb.trans (bc.mono bb.size)).mono ba.size)
   have HLS:=zH hlu
   have HLU:=zH (And.intro hlu.1 (hlu.2.keep (q':=fun b=>q b∧b≠w.heap.size) (fun _ _ _=>rfl) (zN _) (fun b _ h=>h.1)))
   have hbsz:w5.heap.size≤wb.heap.size:=Nat.le_trans ba.size bb.size
   clear hlu UPv BV ba bb bc ba2 bb2
   obtain ⟨s1,s2,g1,g2,⟨p0,p1⟩,⟨f0',f1'⟩,hq2,hot⟩:=put2 ((bcV.block _ l5).trans Q5.out) (.int .i64 S0) (.slice Au nu cu)
   have b3s:Below w3.heap.size w3 s2:=Oth.below (B5.out.trans (bcV.mono B5.out.size)) hot (zN _) (Nat.le_trans B5.out.size bcV.size)
   have b2s:Below w2.heap.size w2 s2:=B3.out.trans (b3s.mono B3.out.size)
   have CS:Cache ks fs Mb (fun b=>(q b∧b≠w.heap.size)∧b≠w3.heap.size) s2:=C3.out.keep (row:=none) ⟨b3s.os,b3s.tape,b3s.output,b3s.size,fun k hk _=>b3s.block k hk⟩ (fun e=>by cases e) (fun _ _ _ e=>by cases e) (fun b hb h=>⟨h,by omega⟩)
   have LS:LkO (fun b=>(q b∧b≠w.heap.size)∧b≠w3.heap.size) s2 Au nu cu:=HLS.out.2.keep (fun b hb hlt=>hot.block b hlt (fun e=>by have e:=zO e;have h2:=hb.2;omega)) hot.size (fun b _ hb=>⟨hb.1,by have h2:=hb.2;omega⟩)
   have LSd:LkO (fun b=>(q b∧b≠w.heap.size)∧b≠w3.heap.size) s2.drew Au nu cu:=LkO.keep (w:=s2) (fun _ _ _=>rfl) (zN _) (fun _ _ h=>h) LS
   obtain ⟨w9,hput,C9,o9⟩:=Cache.put (w:=s2.drew) (v:=.agg #[.int .i64 S0,.slice Au nu cu]) (CS.below (zB _ _).drew) (fun b hb=>HQM.out b hb.1.1) HIJ.out.1 HIJ.out.2.1 HIJ.out.2.2 (by rw [HS0.out];exact ⟨Au,nu,cu,rfl,HLS.out.1,LSd⟩) ⟨_,HLK.out _ b3s.drew⟩
   have o29:Oth Mb s2 w9:=⟨o9.os,o9.tape,o9.output,o9.size,o9.block⟩
   have hMw2:Mb<w2.heap.size:=by omega
   obtain ⟨z0,z1⟩:=cells2e (o29.heap hq2 (by omega))
   obtain ⟨t0,t1⟩:=cells2e hq2
   obtain ⟨k0,k1⟩:=cells2e ((b3s.block _ l3).trans Q3.out)
   have x4:=(P2.out.oth (Oth.of_below b2s)).cache
   have x49:=((P2.out.oth (Oth.of_below b2s)).oth o29).cache
   obtain ⟨k09,k19⟩:=cells2e (o29.heap ((b3s.block _ l3).trans Q3.out) (by omega))
   obtain ⟨u1,u2,h1,h2,⟨p2,p3⟩,⟨f2',f3'⟩,HQ,HZ⟩:=step_fin (q:=q) (s:=S0) (n:=nu) (A:=Au) (c:=cu) (o29.heap ((b2s.block _ R2.out).trans Q1.out) (by omega)) ((Oth.of_below (B02.out.trans (b2s.mono s02))).trans o29) hMb (C9.keep (row:=none) ⟨rfl,rfl,rfl,zN _,fun _ _ _=>rfl⟩ (fun e=>by cases e) (fun _ _ _ e=>by cases e) (fun b _ h=>h.1)) (LS.keep (fun b hb hlt=>o29.block b hlt (fun e=>HQM.out b hb.1.1 (zO e))) o29.size (fun b _ h=>h.1)) HLS.out.1
   clear hq2 hot b3s b2s CS LS LSd C9 o9 o29 bc2 bcV HLU HLS
   go_upto_region 20 with fail
   go_region_held3 (fun W=>W.cell? ⟨Bx,4,none⟩=some (.map (some Mb))∧(W.cell? ⟨w2.heap.size,0,none⟩=some (.int .i64 (i:Int))∧W.cell? ⟨w2.heap.size,1,none⟩=some (.int .i64 (j:Int)))∧(W.cell? ⟨w3.heap.size,0,none⟩=some (.int .i64 S0)∧W.cell? ⟨w3.heap.size,1,none⟩=some (.slice Au nu cu)))
    (first | exact ⟨x4,⟨k0,k1⟩,⟨t0,t1⟩⟩ | exact ⟨x49,⟨k09,k19⟩,⟨z0,z1⟩⟩ | go_keep)
    (fail)
   all_goals
    clear x4 k0 k1 x49 k09 k19 t0 t1 p0 p1 f0' f1' g1 g2 hput
    go_wp2_with fail
    refine bodyPost_ret (results_edge rfl _ _ _ _ _ rfl HQ.out) rfl ?_
    exact HZ.out
 have HLV:=zH hlv
 have HNV:=zH hnv
 clear hlv hnv HVL
 rw [HS0.out] at lk1 lk2
 go_enter Tryz.func166,Tryz.ntmps166
 go_upto_region 2 with fail
 rw [HW2.out]
 clear hw1 x1 d0 d1 d2 d3 d4 d5 d6 d7 d8
 go_upto_region 17 with fail
 rw [HW3.out]
 go_region_held3 (fun W=>W.cell? ⟨Bx,4,none⟩=some (.map (some Mb))∧W.cell? ⟨w2.heap.size,0,none⟩=some (.int .i64 (i:Int))∧W.cell? ⟨w2.heap.size,1,none⟩=some (.int .i64 (j:Int)))
  (first | exact ⟨x4,y0,y1⟩ | exact ⟨r1,r2,r3⟩ | go_keep)
  (fail)
 all_goals
  obtain ⟨w5,hw5⟩:∃w5,(w3.alloc (.cells #[.int .i64 S0,.slice Av nv cv] 183)).drew=w5:=⟨_,rfl⟩
  have b5:Below w3.heap.size w3 w5:=by rw [←hw5];exact ((zB _ _).alloc (zN _) _).drew
  have q5:w5.heap[w3.heap.size]?=some (.cells #[.int .i64 S0,.slice Av nv cv] 183 (0,0)):=by rw [←hw5];exact zW _ _
  have b25:Below w2.heap.size w2 w5:=B3.out.trans (b5.mono B3.out.size)
  have L5:=HLV.out.keep (fun b _ hlt=>b5.block b hlt) b5.size (fun b _ h=>h)
  obtain ⟨z0,z1⟩:=cells2e q5
  rw [hw5]
  clear hw5 lk1 lk2 r1 r2 r3 x4 y0 y1
  obtain ⟨s1,s2,g1,g2,⟨p0,p1⟩,⟨f0',f1'⟩,HQ,HZ⟩:=step_fin (q:=q) (s:=S0) (((b25).block _ R2.out).trans Q1.out) (Oth.of_below (B02.out.trans ((b25).mono s02))) hMb (C2.out.below (b25)) (L5) (HNV.out)
  clear b5 b25 q5 L5
  go_wp2_with fail
  refine bodyPost_ret (results_edge rfl _ _ _ _ _ rfl HQ.out) rfl ?_
  exact HZ.out
end Go.Proofs.YtadjpadieljjlaaGreat
namespace Go.Proofs.YtadjpadieljjlaaGreat
open Go.RowKit
theorem tk {P:Program} {ops:Array Oper} {Q:Exit→Act→World→Prop} {md:Region.Mode} {S:World→Prop} (i:Nat) {oi:Oper} {v:Value} {fuel:Nat} {listed:Array Bool} {a:Act} {w:World} {T':Prop} (h:T')
  (hi:ops[i]?=some oi:=by rfl) (hs:Region.noSelect ops=true:=by kernel_rfl) (hf:Region.free md ops listed i=true:=by kernel_rfl) (hr:(Region.ready md ops listed).contains i=true:=by kernel_rfl)
  (hy:YieldsIf P ops S oi v a:=by exact Or.inl ⟨by rfl,by intro w hSw;(try dsimp only at hSw);go_simp;try with_reducible rfl⟩)
  (hQ:∀c a w,Q (.panic c) (a.put oi.dst v) w→Q (.panic c) a w:=by exact fun _ _ _ h=>h) (hS:S w:=by assumption)
  (e:wpAnyH P md ops Q S fuel (listed.setIfInBounds i true) (a.put oi.dst v) w=T':=by (try simp only [Act.put,List.getElem_toArray,List.getElem_cons_zero,List.getElem_cons_succ,List.setIfInBounds_toArray,List.set_cons_zero,List.set_cons_succ]) <;> exact rfl) :
  wpAnyH P md ops Q S (fuel+1) listed a w:=wpAnyH_take hi hs hf hr hQ hy hS (e.mpr h)
theorem nrm {T T':Prop} (h:T') (e:T=T':=by (try simp only [Act.put,List.getElem_toArray,List.getElem_cons_zero,List.getElem_cons_succ,List.setIfInBounds_toArray,List.set_cons_zero,List.set_cons_succ]) <;> exact rfl):T:=e.mpr h
theorem wpAnyH_mono {P:Program} {ops:Array Oper} {Q:Exit→Act→World→Prop} {md:Region.Mode} {S S':World→Prop} (hS:∀w,S' w→S w):∀ (fuel:Nat) (listed:Array Bool) (a:Act) (w:World),wpAnyH P md ops Q S' fuel listed a w→wpAnyH P md ops Q S fuel listed a w
 | 0,_,_,_,h=>h
 | fuel+1,_,_,_,h=>⟨h.1,fun i hi=>wpOp_mono (fun a' w' h'=>⟨hS _ h'.1,wpAnyH_mono hS fuel _ a' w' h'.2⟩) (h.2 i hi)⟩
theorem shareA (H T:Option Addr→Option Addr→Nat→Nat→Nat→Nat→World→Prop) {G:Prop} (main:(∀A A' c c' g g' W,H A A' c c' g g' W→T A A' c c' g g' W)→G) (last:∀A A' c c' g g' W,H A A' c c' g g' W→T A A' c c' g g' W):G:=main last
theorem shareB (H T:Nat→Nat→Nat→Int→Int→List UInt8→List Lfc.Raw→Option Addr→Nat→Nat→Nat→World→Prop) {G:Prop} (main:(∀i r j k p n ts A c g g' W,H i r j k p n ts A c g g' W→T i r j k p n ts A c g g' W)→G) (last:∀i r j k p n ts A c g g' W,H i r j k p n ts A c g g' W→T i r j k p n ts A c g g' W):G:=main last
theorem pick {α:Type} (x0:α) {k:Nat} {P:Nat→α→Prop} (h:∀i,i<k→∃x,P i x):∃f:Nat→α,∀i,i<k→P i (f i) :=
 ⟨fun i=>if hi:i<k then Classical.choose (h i hi) else x0,fun i hi=>by
  have e:(if hi:i<k then Classical.choose (h i hi) else x0)=Classical.choose (h i hi):=dif_pos hi
  show P i (if hi:i<k then Classical.choose (h i hi) else x0)
  rw [e]
  exact Classical.choose_spec (h i hi)⟩
theorem pickL {k:Nat} {A:Option Addr} {R:Nat→Nat→Nat→Int→List UInt8→Int→List Lfc.Raw→Option Addr→Nat→Prop} (hk:0<k) (h:∀i,i<k→∃b o kk nn pp ls B c,A=some ⟨b,o,none⟩∧R i b o kk nn pp ls B c) :
  ∃ (b o:Nat) (fk:Nat→Int) (fn:Nat→List UInt8) (fp:Nat→Int) (fl:Nat→List Lfc.Raw) (fB:Nat→Option Addr) (fc:Nat→Nat),A=some ⟨b,o,none⟩∧∀i,i<k→R i b o (fk i) (fn i) (fp i) (fl i) (fB i) (fc i):=by
 obtain ⟨b,o,_,_,_,_,_,_,hA,_⟩:=h 0 hk
 have h':∀i,i<k→∃x:Int × List UInt8 × Int × List Lfc.Raw × Option Addr × Nat,R i b o x.1 x.2.1 x.2.2.1 x.2.2.2.1 x.2.2.2.2.1 x.2.2.2.2.2:=fun i hi=>by
  obtain ⟨b',o',kk,nn,pp,ls,B,c,hA',hR⟩:=h i hi
  rw [hA] at hA'
  injection hA' with e
  injection e with e1 e2 _
  subst e1
  subst e2
  exact ⟨(kk,nn,pp,ls,B,c),hR⟩
 obtain ⟨f,hf⟩:=pick (0,[],0,[],none,0) h'
 exact ⟨b,o,fun i=>(f i).1,fun i=>(f i).2.1,fun i=>(f i).2.2.1,fun i=>(f i).2.2.2.1,fun i=>(f i).2.2.2.2.1,fun i=>(f i).2.2.2.2.2,hA,hf⟩
end Go.Proofs.YtadjpadieljjlaaGreat
