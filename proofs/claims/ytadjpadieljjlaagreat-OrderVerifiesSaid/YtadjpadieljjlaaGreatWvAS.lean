/- Parts of the proof that no input makes the law false: OvSpA, OvSpB. -/
import Derived.Test.YtadjpadieljjlaaGreatWvAR
set_option linter.unusedVariables false
set_option linter.unusedSimpArgs false
set_option maxRecDepth 100000
set_option maxHeartbeats 32000000
namespace Lfc
theorem Prf.sizes_set:∀(ps:List Prf)(k:Nat)(h:k<ps.length)(y:Prf),y.size≤ps[k].size→Prf.sizes (ps.set k y)≤Prf.sizes ps
 |a :: r,0,_,y,hy=>by
  simp only[List.set_cons_zero,Prf.sizes,List.getElem_cons_zero] at hy ⊢;omega
 |a :: r,k+1,h,y,hy=>by
  simp only[List.set_cons_succ,Prf.sizes,List.getElem_cons_succ] at hy ⊢;have:=Prf.sizes_set r k (by simpa using h) y hy;omega
theorem Prf.oks_set{N B:Nat}{ps:List Prf}{k:Nat}{y:Prf}(h:Prf.oks N B ps)(hy:y.ok N B):Prf.oks N B (ps.set k y):=by
 rw[Prf.oks_iff] at h ⊢;intro p hp;rcases List.mem_or_eq_of_mem_set hp with hp | rfl
 ·exact h p hp
 exact hy
def lkb(B:Nat)(l:List Link):Prop:=∀x∈l,x.term.size≤B∧x.path.length≤B
theorem lkb_set{B:Nat}{l:List Link}{k:Nat}{y:Link}(h:lkb B l)(hy:y.term.size≤B∧y.path.length≤B):lkb B (l.set k y):=by
 intro p hp;rcases List.mem_or_eq_of_mem_set hp with hp | rfl
 ·exact h p hp
 exact hy
theorem lkb_mono{B B':Nat}{l:List Link}(h:lkb B l)(hb:B≤B'):lkb B' l:=fun x hx=>by have:=h x hx;omega
end Lfc
namespace Go.Proofs.YtadjpadieljjlaaGreat
section
open Go.RowKit Go.Maps _root_.Lfc
attribute [local go_sem ↓] Go.wp_at_zero Go.wp_at_succ
theorem step_copy{P:Program}(w:World){ops:Array Oper}{o:Oper}{a:Act}{K:Act→World→Prop}{Q:Exit→Act→World→Prop}{E:Prop}(hgd:o.guard=none)(s x:Operand)(t:TypeId)
  (ho:o.op=.call { callee:=.builtin .append,args:=#[s,x],argTypes:=#[t,t] })
  (e:TypeId) (i:TypeInfo) (z:Value) (size bytes:Nat) (ht:P.underlying t=some (.slice e)) (hi:P.info? e=some i) (hz:i.zero=some z)
  (hsize:i.size=size) (hby:i.bytes=bytes) (hzs:z.cells.size=size) (hsz:0<size) (hs:a.eval s=.slice none 0 0)
  (A:Option Addr) (m c:Nat) (news:List Value) (hx:a.eval x=.slice A m c) (hl:news.length=m*size) (hA:A=none→m=0) (hnews:∀ad,A=some ad→∀j u,news[j]?=some u→w.cell? (ad.add j)=some u) (h1:∀u∈news,u.oneCell'=true)
  (h63:m≤maxLen) (hbytes:m*bytes≤140737488355328)
  (h:∀A' c' w',w'.ownsRow w.heap.size e size (.slice A' m c') m news→Below w.heap.size w w'→K (a.put o.dst (.slice A' m c')) w') :
  if Region.wanted o (yielded ops a.tmps)=true then Oper.wp P o a w K Q else E:=by
 cases A with
 |some ad =>
  refine step_append_own_at w hgd s x t ho w.heap.size e i z size bytes ht hi hz hsize hby hzs hsz (.slice none 0 0) 0 [] hs (World.ownsRow_nil w _ e size) ad m c news hx hl (hnews ad rfl) h1 (by omega) (by rw[Nat.zero_add];exact hbytes) (zN _) ?_;intro v' w' h2 h3 h4;rw[Nat.zero_add,List.nil_append] at h2;obtain⟨A',c',rfl⟩:=oform h2;exact h A' c' w' h2 (Below.grown (zB _ _) h3 (zN _) (fun b e=>by simp[Value.ownBlock] at e))
 |none =>
  obtain rfl:=hA rfl;have hn:news=[]:=Zz (by omega);subst hn;have hw:Region.wanted o (yielded ops a.tmps)=true:=by simp[Region.wanted,hgd]
  rw[if_pos hw];have hr:=run_append_none_c (P:=P) (w:=w) w.heap.size t o.type e i size ht hi (.slice none 0 0) 0 c [] (World.ownsRow_nil w _ e size);unfold Oper.wp execOp;simp only[ho,resolve,invoke,builtin,Sem.run_bind,Sem.run_pure,Result.andThen_ok,List.map_toArray,List.map_cons,List.map_nil,hs,hx,hr];exact h none 0 w (World.ownsRow_nil w _ e size) (zB _ _)
theorem copyP{ops:Array Oper}{o:Oper}{a:Act}{w:World}{K:Act→World→Prop}{Q:Exit→Act→World→Prop}{E:Prop}{s x:Operand}(A:Option Addr)(m c:Nat)(news:List Value)
  (hl:news.length=m*4) (hA:A=none→m=0) (hnews:∀ad,A=some ad→∀j u,news[j]?=some u→w.cell? (ad.add j)=some u) (h1:∀u∈news,u.oneCell'=true) (hm:m≤1000000)
  (h:∀A' c' w',w'.ownsRow w.heap.size 39 4 (.slice A' m c') m news→Below w.heap.size w w'→K (a.put o.dst (.slice A' m c')) w')
  (hgd:o.guard=none:=by rfl) (ho:o.op=.call { callee:=.builtin .append,args:=#[s,x],argTypes:=#[36,36] }:=by rfl) (hs:a.eval s=.slice none 0 0:=by rfl) (hx:a.eval x=.slice A m c:=by rfl) :
  if Region.wanted o (yielded ops a.tmps)=true then Oper.wp Tryz.prog o a w K Q else E:=by
 obtain⟨i0,hi,hz0,hz1,hz2⟩:=info_parts proofInfo;exact step_copy w hgd s x 36 ho 39 i0 _ 4 80 Tryz.underlying36 hi hz0 hz1 hz2 rfl (by decide) hs A m c news hx hl hA hnews h1 (by unfold maxLen;omega) (by omega) h
theorem copyL{ops:Array Oper}{o:Oper}{a:Act}{w:World}{K:Act→World→Prop}{Q:Exit→Act→World→Prop}{E:Prop}{s x:Operand}(A:Option Addr)(m c:Nat)(news:List Value)
  (hl:news.length=m*7) (hA:A=none→m=0) (hnews:∀ad,A=some ad→∀j u,news[j]?=some u→w.cell? (ad.add j)=some u) (h1:∀u∈news,u.oneCell'=true) (hm:m≤1000000)
  (h:∀A' c' w',w'.ownsRow w.heap.size 93 7 (.slice A' m c') m news→Below w.heap.size w w'→K (a.put o.dst (.slice A' m c')) w')
  (hgd:o.guard=none:=by rfl) (ho:o.op=.call { callee:=.builtin .append,args:=#[s,x],argTypes:=#[37,37] }:=by rfl) (hs:a.eval s=.slice none 0 0:=by rfl) (hx:a.eval x=.slice A m c:=by rfl) :
  if Region.wanted o (yielded ops a.tmps)=true then Oper.wp Tryz.prog o a w K Q else E:=by
 obtain⟨i0,hi,hz0,hz1,hz2⟩:=info_parts linkInfo;exact step_copy w hgd s x 37 ho 93 i0 _ 7 96 Tryz.underlying37 hi hz0 hz1 hz2 rfl (by decide) hs A m c news hx hl hA hnews h1 (by unfold maxLen;omega) (by omega) h
theorem LinkP.move{q:Nat→Prop}{w w':World}{b o:Nat}{x:Link}(hc:∀j,j<7→w'.cell? ⟨b,o+j,none⟩=w.cell? ⟨b,o+j,none⟩)(hk:∀b,q b→b<w.heap.size→w'.heap[b]?=w.heap[b]?)(hs:w.heap.size≤w'.heap.size)(h:LinkP q w b o x):LinkP q w' b o x:=by
 obtain⟨k,n,p,ts,At,ct,A,c,e,h0,h1,h2,h3,h4,h5,h6,hcc,hi,ht⟩:=h;exact⟨k,n,p,ts,At,ct,A,c,e,(hc 0 (by omega)).trans h0,(hc 1 (by omega)).trans h1,(hc 2 (by omega)).trans h2,(hc 3 (by omega)).trans h3,(hc 4 (by omega)).trans h4,(hc 5 (by omega)).trans h5,(hc 6 (by omega)).trans h6,hcc,hi.keep hk hs (fun _ _ h=>h),ht.keep hk hs (fun _ _ h=>h)⟩
theorem LinkP.wide{q q':Nat→Prop}{w:World}{b o:Nat}{x:Link}(hq:∀b,b<w.heap.size→q b→q' b)(h:LinkP q w b o x):LinkP q' w b o x:=by
 obtain⟨k,n,p,ts,At,ct,A,c,e,h0,h1,h2,h3,h4,h5,h6,hcc,hi,ht⟩:=h;exact⟨k,n,p,ts,At,ct,A,c,e,h0,h1,h2,h3,h4,h5,h6,hcc,hi.keep (fun _ _ _=>rfl) (zN _) hq,ht.keep (fun _ _ _=>rfl) (zN _) hq⟩
def LkAt(q:Nat→Prop)(w:World)(g:Nat)(l:List Link):Prop:=∀i(h:i<l.length),LinkP q w g (i*7) l[i]
theorem LkAt.keep{q:Nat→Prop}{w w':World}{g:Nat}{l:List Link}(h:LkAt q w g l)(hg:w'.heap[g]?=w.heap[g]?)(hk:∀b,q b→b<w.heap.size→w'.heap[b]?=w.heap[b]?)(hs:w.heap.size≤w'.heap.size):LkAt q w' g l:=fun i hi =>
 (h i hi).move (fun j _=>World.cell?_of_block (a:=⟨g,i*7+j,none⟩) hg) hk hs
theorem LkAt.take{q:Nat→Prop}{w:World}{g:Nat}{l:List Link}(h:LkAt q w g l)(n:Nat):LkAt q w g (l.take n):=fun i hi=>by
 rw[List.getElem_take];exact h i (by rw[List.length_take] at hi;omega)
theorem LkAt.set{q:Nat→Prop}{w w':World}{g k:Nat}{l:List Link}{y:Link}(h:LkAt q w g l)(hc:∀j,(j<k*7∨k*7+7≤j)→w'.cell? ⟨g,j,none⟩=w.cell? ⟨g,j,none⟩)(hk:∀b,q b→b<w.heap.size→w'.heap[b]?=w.heap[b]?)(hs:w.heap.size≤w'.heap.size)(hy:LinkP q w' g (k*7) y):LkAt q w' g (l.set k y):=fun i hi=>by
 rw[List.length_set] at hi;by_cases e:i=k
 ·subst e;rw[List.getElem_set_self];exact hy
 rw[List.getElem_set_ne (Ne.symm e)];exact(h i hi).move (fun j hj=>hc _ (by omega)) hk hs
theorem PrfsP.mv{q:Nat→Prop}{w w':World}{g:Nat}(hk:∀b,q b→b<w.heap.size→w'.heap[b]?=w.heap[b]?)(hs:w.heap.size≤w'.heap.size):∀(ps:List Prf)(o:Nat),(∀j,o≤j→w'.cell? ⟨g,j,none⟩=w.cell? ⟨g,j,none⟩)→PrfsP q w g ps o→PrfsP q w' g ps o
 |[],o,_,_=>by rw[PrfsP];trivial
 |p :: r,o,hc,h=>by
  rw[PrfsP] at h;obtain⟨⟨u0,u1,u2,u3,d0,d1,d2,d3,hp⟩,hr⟩:=h;rw[PrfsP];exact⟨⟨u0,u1,u2,u3,(hc _ (by omega)).trans d0,(hc _ (by omega)).trans d1,(hc _ (by omega)).trans d2,(hc _ (by omega)).trans d3,PrfP.keep hk hs (fun _ _ h=>h) p _ _ _ _ hp⟩,PrfsP.mv hk hs r (o+4) (fun j hj=>hc j (by omega)) hr⟩
theorem PrfsP.set{q:Nat→Prop}{w w':World}{g:Nat}(hk:∀b,q b→b<w.heap.size→w'.heap[b]?=w.heap[b]?)(hs:w.heap.size≤w'.heap.size):∀(ps:List Prf)(o k:Nat)(y:Prf)(v0 v1 v2 v3:Value),PrfsP q w g ps o→(∀j,(j<o+k*4∨o+k*4+4≤j)→w'.cell? ⟨g,j,none⟩=w.cell? ⟨g,j,none⟩) →
  w'.cell? ⟨g,o+k*4,none⟩=some v0→w'.cell? ⟨g,o+k*4+1,none⟩=some v1→w'.cell? ⟨g,o+k*4+2,none⟩=some v2→w'.cell? ⟨g,o+k*4+3,none⟩=some v3→PrfP q w' y v0 v1 v2 v3→PrfsP q w' g (ps.set k y) o
 |[],o,k,y,v0,v1,v2,v3,_,_,_,_,_,_,_=>by rw[List.set_nil,PrfsP];trivial
 |p :: r,o,0,y,v0,v1,v2,v3,h,hc,c0,c1,c2,c3,hy=>by
  rw[PrfsP] at h;rw[List.set_cons_zero,PrfsP];refine⟨⟨v0,v1,v2,v3,by simpa using c0,by simpa using c1,by simpa using c2,by simpa using c3,hy⟩,?_⟩;exact PrfsP.mv hk hs r (o+4) (fun j hj=>hc j (by omega)) h.2
 |p :: r,o,k+1,y,v0,v1,v2,v3,h,hc,c0,c1,c2,c3,hy=>by
  rw[PrfsP] at h;obtain⟨⟨u0,u1,u2,u3,d0,d1,d2,d3,hp⟩,hr⟩:=h;rw[List.set_cons_succ,PrfsP];have e:o+(k+1)*4=o+4+k*4:=by omega
  rw[e] at c0 c1 c2 c3 hc;exact⟨⟨u0,u1,u2,u3,(hc _ (by omega)).trans d0,(hc _ (by omega)).trans d1,(hc _ (by omega)).trans d2,(hc _ (by omega)).trans d3,PrfP.keep hk hs (fun _ _ h=>h) p _ _ _ _ hp⟩,PrfsP.set hk hs r (o+4) k y v0 v1 v2 v3 hr hc c0 c1 c2 c3 hy⟩
theorem PrfsP.keepB{q:Nat→Prop}{w w':World}{g:Nat}{ps:List Prf}{o:Nat}(h:PrfsP q w g ps o)(hg:w'.heap[g]?=w.heap[g]?)(hk:∀b,q b→b<w.heap.size→w'.heap[b]?=w.heap[b]?)(hs:w.heap.size≤w'.heap.size):PrfsP q w' g ps o :=
 PrfsP.mv hk hs ps o (fun j _=>World.cell?_of_block (a:=⟨g,j,none⟩) hg) h
theorem PrfsP.wide{q q':Nat→Prop}{w:World}(hq:∀b,b<w.heap.size→q b→q' b):∀(ps:List Prf)(b o:Nat),PrfsP q w b ps o→PrfsP q' w b ps o
 |[],b,o,_=>by rw[PrfsP];trivial
 |p :: r,b,o,h=>by
  rw[PrfsP] at h ⊢;obtain⟨⟨u0,u1,u2,u3,d0,d1,d2,d3,hp⟩,hr⟩:=h;exact⟨⟨u0,u1,u2,u3,d0,d1,d2,d3,PrfP.keep (fun _ _ _=>rfl) (zN _) hq p _ _ _ _ hp⟩,PrfsP.wide hq r b (o+4) hr⟩
structure SpK(w:World)(q0:Nat→Prop)(T N O:Nat)(ix:Int)(ps:List Prf)(ch bk:List Link)(AP AC AB:Option Addr)(cP cC cB gP gC gB:Nat)(W:World):Prop where
 oth:Oth T w W
 tape:TapeI T W
 tlt:T<w.heap.size
 q0T:¬q0 T
 nle:w.heap.size+2≤N
 ox:w.heap.size+2≤O∧O<N
 box:W.heap[O]?=some (.cells #[.int .i64 ix,.slice AP ps.length cP,.slice AC ch.length cC,.slice AB bk.length cB] 39 (0,0))
 res:W.heap[w.heap.size+1]?=some (.cells #[.int .i64 0,.slice none 0 0,.slice none 0 0,.slice none 0 0] 39 (0,0))
 lP:ps.length≤cP
 lC:ch.length≤cC
 lB:bk.length≤cB
 P:ps≠[]→AP=some ⟨gP,0,none⟩∧(w.heap.size+2≤gP∧gP<N∧gP≠O)∧(∃cur,W.heap[gP]?=some (.cells cur 39 (0,0)))∧PrfsP (fun b=>(b<w.heap.size∧q0 b)∨N≤b) W gP ps 0
 C:ch≠[]→AC=some ⟨gC,0,none⟩∧(w.heap.size+2≤gC∧gC<N∧gC≠O)∧(∃cur,W.heap[gC]?=some (.cells cur 93 (0,0)))∧LkAt (fun b=>(b<w.heap.size∧q0 b)∨N≤b) W gC ch
 B:bk≠[]→AB=some ⟨gB,0,none⟩∧(w.heap.size+2≤gB∧gB<N∧gB≠O)∧(∃cur,W.heap[gB]?=some (.cells cur 93 (0,0)))∧LkAt (fun b=>(b<w.heap.size∧q0 b)∨N≤b) W gB bk
 dPC:ps≠[]→ch≠[]→gP≠gC
 dPB:ps≠[]→bk≠[]→gP≠gB
 dCB:ch≠[]→bk≠[]→gC≠gB
section
variable {w W W':World} {q0:Nat→Prop} {T N O:Nat} {ix:Int} {ps:List Prf} {ch bk:List Link} {AP AC AB:Option Addr} {cP cC cB gP gC gB:Nat}
theorem SpK.other(h:SpK w q0 T N O ix ps ch bk AP AC AB cP cC cB gP gC gB W)(ho:Oth T W W')(ht:TapeI T W'):SpK w q0 T N O ix ps ch bk AP AC AB cP cC cB gP gC gB W':=by
 have hT:=h.tlt;have hn:=h.nle;have hx:=h.ox;have hk:∀b,b≠T→b<W.heap.size→W'.heap[b]?=W.heap[b]?:=fun b hb hl=>ho.block b hl (fun e=>hb (zO e));have hq:∀b,((b<w.heap.size∧q0 b)∨N≤b)→b<W.heap.size→W'.heap[b]?=W.heap[b]?:=fun b hb hl=>hk b (by
  rintro rfl;rcases hb with hb | hb
  ·exact h.q0T hb.2
  omega) hl
 refine⟨h.oth.trans ho,ht,hT,h.q0T,hn,hx,ho.heap h.box (by omega),ho.heap h.res (by omega),h.lP,h.lC,h.lB,fun hne=>?_,fun hne=>?_,fun hne=>?_,h.dPC,h.dPB,h.dCB⟩
 ·obtain⟨e,r,⟨cur,hc⟩,hp⟩:=h.P hne;exact⟨e,r,⟨cur,ho.heap hc (by omega)⟩,hp.keepB (hk _ (by omega) (zL hc)) hq ho.size⟩
 ·obtain⟨e,r,⟨cur,hc⟩,hp⟩:=h.C hne;exact⟨e,r,⟨cur,ho.heap hc (by omega)⟩,hp.keep (hk _ (by omega) (zL hc)) hq ho.size⟩
 obtain⟨e,r,⟨cur,hc⟩,hp⟩:=h.B hne;exact⟨e,r,⟨cur,ho.heap hc (by omega)⟩,hp.keep (hk _ (by omega) (zL hc)) hq ho.size⟩
theorem SpK.below(h:SpK w q0 T N O ix ps ch bk AP AC AB cP cC cB gP gC gB W)(hb:Below W.heap.size W W'):SpK w q0 T N O ix ps ch bk AP AC AB cP cC cB gP gC gB W':=h.other (zE hb) (h.tape.below hb)
theorem SpK.keepG(h:SpK w q0 T N O ix ps ch bk AP AC AB cP cC cB gP gC gB W){G:Nat}(hG:w.heap.size+2≤G∧G<N)(ho:Oth G W W'):Oth T w W'∧TapeI T W'∧(w.heap.size+2≤N)∧W'.heap[w.heap.size+1]?=some (.cells #[.int .i64 0,.slice none 0 0,.slice none 0 0,.slice none 0 0] 39 (0,0)) ∧
  (∀b,((b<w.heap.size∧q0 b)∨N≤b)→b<W.heap.size→W'.heap[b]?=W.heap[b]?)∧(∀b,b≠G→b<W.heap.size→W'.heap[b]?=W.heap[b]?):=by
 have hT:=h.tlt;have hk:∀b,b≠G→b<W.heap.size→W'.heap[b]?=W.heap[b]?:=fun b hb hl=>ho.block b hl (fun e=>hb (zO e));refine⟨?_,h.tape.oth (by omega) ho,h.nle,ho.heap h.res (by omega),fun b hb hl=>hk b (by omega) hl,hk⟩;exact⟨ho.os.trans h.oth.os,ho.tape.trans h.oth.tape,ho.output.trans h.oth.output,zR h.oth.size ho.size,fun k hk' hn=>(hk k (by omega) (Zl hk' h.oth.size)).trans (h.oth.block k hk' hn)⟩
theorem SpK.setBox(h:SpK w q0 T N O ix ps ch bk AP AC AB cP cC cB gP gC gB W)(ho:Oth O W W'){ix':Int}{ch' bk':List Link}{AC' AB':Option Addr}{cC' cB' gC' gB':Nat}(hbox:W'.heap[O]?=some (.cells #[.int .i64 ix',.slice AP ps.length cP,.slice AC' ch'.length cC',.slice AB' bk'.length cB'] 39 (0,0)))
  (hs:(ch'=ch∧bk'=bk∧AC'=AC∧AB'=AB∧cC'=cC∧cB'=cB∧gC'=gC∧gB'=gB)∨(ch'=bk∧bk'=ch∧AC'=AB∧AB'=AC∧cC'=cB∧cB'=cC∧gC'=gB∧gB'=gC)∨(∃n,ch'=ch.take n∧bk'=bk∧AC'=AC∧AB'=AB∧cC'=cC∧cB'=cB∧gC'=gC∧gB'=gB)):SpK w q0 T N O ix' ps ch' bk' AP AC' AB' cP cC' cB' gP gC' gB' W':=by
 obtain⟨k1,k2,k3,k4,k5,k6⟩:=h.keepG h.ox ho;have hP:ps≠[]→AP=some ⟨gP,0,none⟩∧(w.heap.size+2≤gP∧gP<N∧gP≠O)∧(∃cur,W'.heap[gP]?=some (.cells cur 39 (0,0)))∧PrfsP (fun b=>(b<w.heap.size∧q0 b)∨N≤b) W' gP ps 0:=fun hne=>by
  obtain⟨e,r,⟨cur,hc⟩,hp⟩:=h.P hne;exact⟨e,r,⟨cur,ho.heap hc r.2.2⟩,hp.keepB (k6 _ r.2.2 (zL hc)) k5 ho.size⟩
 have hC:ch≠[]→AC=some ⟨gC,0,none⟩∧(w.heap.size+2≤gC∧gC<N∧gC≠O)∧(∃cur,W'.heap[gC]?=some (.cells cur 93 (0,0)))∧LkAt (fun b=>(b<w.heap.size∧q0 b)∨N≤b) W' gC ch:=fun hne=>by
  obtain⟨e,r,⟨cur,hc⟩,hp⟩:=h.C hne;exact⟨e,r,⟨cur,ho.heap hc r.2.2⟩,hp.keep (k6 _ r.2.2 (zL hc)) k5 ho.size⟩
 have hB:bk≠[]→AB=some ⟨gB,0,none⟩∧(w.heap.size+2≤gB∧gB<N∧gB≠O)∧(∃cur,W'.heap[gB]?=some (.cells cur 93 (0,0)))∧LkAt (fun b=>(b<w.heap.size∧q0 b)∨N≤b) W' gB bk:=fun hne=>by
  obtain⟨e,r,⟨cur,hc⟩,hp⟩:=h.B hne;exact⟨e,r,⟨cur,ho.heap hc r.2.2⟩,hp.keep (k6 _ r.2.2 (zL hc)) k5 ho.size⟩
 rcases hs with⟨rfl,rfl,rfl,rfl,rfl,rfl,rfl,rfl⟩ | ⟨rfl,rfl,rfl,rfl,rfl,rfl,rfl,rfl⟩ | ⟨n,rfl,rfl,rfl,rfl,rfl,rfl,rfl,rfl⟩
 ·exact⟨k1,k2,h.tlt,h.q0T,k3,h.ox,hbox,k4,h.lP,h.lC,h.lB,hP,hC,hB,h.dPC,h.dPB,h.dCB⟩
 ·exact⟨k1,k2,h.tlt,h.q0T,k3,h.ox,hbox,k4,h.lP,h.lB,h.lC,hP,hB,hC,h.dPB,h.dPC,fun a b=>Ne.symm (h.dCB b a)⟩
 have hne:ch.take n≠[]→ch≠[]:=by rintro h1 rfl;exact h1 (by simp)
 refine⟨k1,k2,h.tlt,h.q0T,k3,h.ox,hbox,k4,h.lP,by have:=h.lC;rw[List.length_take];omega,h.lB,hP,fun h1=>?_,hB,fun a b=>h.dPC a (hne b),h.dPB,fun a b=>h.dCB (hne a) b⟩;obtain⟨e,r,hc,hp⟩:=hC (hne h1);exact⟨e,r,hc,hp.take n⟩
theorem SpK.setC(h:SpK w q0 T N O ix ps ch bk AP AC AB cP cC cB gP gC gB W)(hne:ch≠[])(ho:Oth gC W W')(hcur:∃cur,W'.heap[gC]?=some (.cells cur 93 (0,0))){k:Nat}{y:Link}(hc:∀j,(j<k*7∨k*7+7≤j)→W'.cell? ⟨gC,j,none⟩=W.cell? ⟨gC,j,none⟩)(hy:LinkP (fun b=>(b<w.heap.size∧q0 b)∨N≤b) W' gC (k*7) y):SpK w q0 T N O ix ps (ch.set k y) bk AP AC AB cP cC cB gP gC gB W':=by
 obtain⟨e,r,hcu,hp⟩:=h.C hne;obtain⟨k1,k2,k3,k4,k5,k6⟩:=h.keepG ⟨r.1,r.2.1⟩ ho;refine⟨k1,k2,h.tlt,h.q0T,k3,h.ox,by rw[List.length_set];exact ho.heap h.box (Ne.symm r.2.2),k4,h.lP,by rw[List.length_set];exact h.lC,h.lB,fun h1=>?_,fun _=>⟨e,r,hcur,hp.set hc k5 ho.size hy⟩,fun h1=>?_,fun a _=>h.dPC a hne,h.dPB,fun _ b=>h.dCB hne b⟩
 ·obtain⟨e',r',⟨cur,hc'⟩,hp'⟩:=h.P h1;exact⟨e',r',⟨cur,ho.heap hc' (h.dPC h1 hne)⟩,hp'.keepB (k6 _ (h.dPC h1 hne) (zL hc')) k5 ho.size⟩
 obtain⟨e',r',⟨cur,hc'⟩,hp'⟩:=h.B h1;exact⟨e',r',⟨cur,ho.heap hc' (Ne.symm (h.dCB hne h1))⟩,hp'.keep (k6 _ (Ne.symm (h.dCB hne h1)) (zL hc')) k5 ho.size⟩
theorem SpK.setP(h:SpK w q0 T N O ix ps ch bk AP AC AB cP cC cB gP gC gB W)(hne:ps≠[])(ho:Oth gP W W')(hcur:∃cur,W'.heap[gP]?=some (.cells cur 39 (0,0))){k:Nat}{y:Prf}{v0 v1 v2 v3:Value}(hc:∀j,(j<k*4∨k*4+4≤j)→W'.cell? ⟨gP,j,none⟩=W.cell? ⟨gP,j,none⟩)
  (c0:W'.cell? ⟨gP,k*4,none⟩=some v0) (c1:W'.cell? ⟨gP,k*4+1,none⟩=some v1) (c2:W'.cell? ⟨gP,k*4+2,none⟩=some v2) (c3:W'.cell? ⟨gP,k*4+3,none⟩=some v3) (hy:PrfP (fun b=>(b<w.heap.size∧q0 b)∨N≤b) W' y v0 v1 v2 v3):SpK w q0 T N O ix (ps.set k y) ch bk AP AC AB cP cC cB gP gC gB W':=by
 obtain⟨e,r,hcu,hp⟩:=h.P hne;obtain⟨k1,k2,k3,k4,k5,k6⟩:=h.keepG ⟨r.1,r.2.1⟩ ho;refine⟨k1,k2,h.tlt,h.q0T,k3,h.ox,by rw[List.length_set];exact ho.heap h.box (Ne.symm r.2.2),k4,by rw[List.length_set];exact h.lP,h.lC,h.lB,fun _=>⟨e,r,hcur,?_⟩,fun h1=>?_,fun h1=>?_,fun _ b=>h.dPC hne b,fun _ b=>h.dPB hne b,h.dCB⟩
 ·refine PrfsP.set k5 ho.size ps 0 k y v0 v1 v2 v3 hp (fun j hj=>hc j (by omega)) ?_ ?_ ?_ ?_ hy
  ·rw[Nat.zero_add];exact c0
  ·rw[Nat.zero_add];exact c1
  ·rw[Nat.zero_add];exact c2
  rw[Nat.zero_add];exact c3
 ·obtain⟨e',r',⟨cur,hc'⟩,hp'⟩:=h.C h1;exact⟨e',r',⟨cur,ho.heap hc' (Ne.symm (h.dPC hne h1))⟩,hp'.keep (k6 _ (Ne.symm (h.dPC hne h1)) (zL hc')) k5 ho.size⟩
 obtain⟨e',r',⟨cur,hc'⟩,hp'⟩:=h.B h1;exact⟨e',r',⟨cur,ho.heap hc' (Ne.symm (h.dPB hne h1))⟩,hp'.keep (k6 _ (Ne.symm (h.dPB hne h1)) (zL hc')) k5 ho.size⟩
theorem SpK.lower{N':Nat}(h:SpK w q0 T N' O ix ps ch bk AP AC AB cP cC cB gP gC gB W)(hN:N≤N')(h0:SpK w q0 T N O ix ps ch bk AP AC AB cP cC cB gP gC gB W'):SpK w q0 T N O ix ps ch bk AP AC AB cP cC cB gP gC gB W:=by
 have hq:∀b,b<W.heap.size→((b<w.heap.size∧q0 b)∨N'≤b)→((b<w.heap.size∧q0 b)∨N≤b):=fun b _ hb=>hb.imp id (fun h=>by omega);refine⟨h.oth,h.tape,h.tlt,h.q0T,h0.nle,h0.ox,h.box,h.res,h.lP,h.lC,h.lB,fun hne=>?_,fun hne=>?_,fun hne=>?_,h.dPC,h.dPB,h.dCB⟩
 ·obtain⟨e,r,hc,hp⟩:=h.P hne;exact⟨e,(h0.P hne).2.1,hc,hp.wide hq ps gP 0⟩
 ·obtain⟨e,r,hc,hp⟩:=h.C hne;exact⟨e,(h0.C hne).2.1,hc,fun i hi=>(hp i hi).wide hq⟩
 obtain⟨e,r,hc,hp⟩:=h.B hne;exact⟨e,(h0.B hne).2.1,hc,fun i hi=>(hp i hi).wide hq⟩
theorem SpK.grown{N':Nat}(h:SpK w q0 T N' O ix ps ch bk AP AC AB cP cC cB gP gC gB W)(h0:SpK w q0 T N O ix ps ch bk AP AC AB cP cC cB gP gC gB W)(hN:N≤N'){row:Option Nat}(hg:W.grownBy W' row)(hr:∀b,row=some b→N≤b∧b<N'):SpK w q0 T N' O ix ps ch bk AP AC AB cP cC cB gP gC gB W':=by
 have hT:=h.tlt;have hn:=h0.nle;have hx:=h0.ox;have hk:∀b,b<N→b<W.heap.size→W'.heap[b]?=W.heap[b]?:=fun b hb hl=>hg.block b hl (fun e=>by have:=hr b e.symm;omega);have hq:∀b,((b<w.heap.size∧q0 b)∨N'≤b)→b<W.heap.size→W'.heap[b]?=W.heap[b]?:=fun b hb hl=>hg.block b hl (fun e=>by have:=hr b e.symm;omega);have hh:∀{b:Nat}{o:Obj},b<N→W.heap[b]?=some o→W'.heap[b]?=some o:=fun hb ho=>(hk _ hb (zL ho)).trans ho;have hwT:=h.tape.lt;have hws:=h.oth.size;refine⟨⟨hg.os.trans h.oth.os,hg.tape.trans h.oth.tape,hg.output.trans h.oth.output,zR hws hg.size,fun k hk' hne=>(hk k (by omega) (by omega)).trans (h.oth.block k hk' hne)⟩,h.tape.like (fun b hb=>hk b (by omega) (by omega)),hT,h.q0T,h.nle,h.ox,hh (by omega) h.box,hh (by omega) h.res,h.lP,h.lC,h.lB,fun hne=>?_,fun hne=>?_,fun hne=>?_,h.dPC,h.dPB,h.dCB⟩
 ·obtain⟨e,r,⟨cur,hc⟩,hp⟩:=h.P hne;have r0:=(h0.P hne).2.1;exact⟨e,r,⟨cur,hh r0.2.1 hc⟩,hp.keepB (hk _ r0.2.1 (zL hc)) hq hg.size⟩
 ·obtain⟨e,r,⟨cur,hc⟩,hp⟩:=h.C hne;have r0:=(h0.C hne).2.1;exact⟨e,r,⟨cur,hh r0.2.1 hc⟩,hp.keep (hk _ r0.2.1 (zL hc)) hq hg.size⟩
 obtain⟨e,r,⟨cur,hc⟩,hp⟩:=h.B hne;have r0:=(h0.B hne).2.1;exact⟨e,r,⟨cur,hh r0.2.1 hc⟩,hp.keep (hk _ r0.2.1 (zL hc)) hq hg.size⟩
def SpAns(w:World)(q0:Nat→Prop)(T NN B:Nat)(x:Prf)(e:Ending)(w':World):Prop:=(∃x' v0 v1 v2 v3,e=.returned (.agg #[v0,v1,v2,v3])∧PrfP (fun b=>q0 b∨w.heap.size≤b) w' x' v0 v1 v2 v3∧x'.size≤x.size∧x'.ok NN (B+1))∧TapeI T w'∧Oth T w w'
theorem SpK.fin(h:SpK w q0 T N O ix ps ch bk AP AC AB cP cC cB gP gC gB W)(ho:Oth (w.heap.size+1) W W'){NN B:Nat}{x:Prf}(hx:(Prf.node ix ps ch bk).size≤x.size)(hok:(Prf.node ix ps ch bk).ok NN (B+1)):SpAns w q0 T NN B x (.returned (.agg #[.int .i64 ix,.slice AP ps.length cP,.slice AC ch.length cC,.slice AB bk.length cB])) W':=by
 have hT:=h.tlt;have hn:=h.nle;have hq:∀b,b<W'.heap.size→((b<w.heap.size∧q0 b)∨w.heap.size+2≤b)→(q0 b∨w.heap.size≤b):=fun b _ hb=>by
  rcases hb with hb | hb
  ·exact .inl hb.2
  right;omega
 have hk:∀b,b≠w.heap.size+1→b<W.heap.size→W'.heap[b]?=W.heap[b]?:=fun b hb hl=>ho.block b hl (fun e=>hb (zO e));refine⟨⟨_,_,_,_,_,rfl,?_,hx,hok⟩,h.tape.oth (by omega) ho,⟨ho.os.trans h.oth.os,ho.tape.trans h.oth.tape,ho.output.trans h.oth.output,zR h.oth.size ho.size,fun k hk' hne=>(hk k (by omega) (Zl hk' h.oth.size)).trans (h.oth.block k hk' hne)⟩⟩;refine PrfP.keep (q:=fun b=>(b<w.heap.size∧q0 b)∨w.heap.size+2≤b) (w:=W) (fun b hb hl=>hk b (by omega) hl) ho.size (fun b hl hb=>hq b (Zl hl ho.size) hb) _ _ _ _ _ ?_;have hw:∀b,b<W.heap.size→((b<w.heap.size∧q0 b)∨N≤b)→((b<w.heap.size∧q0 b)∨w.heap.size+2≤b):=fun b _ hb=>hb.imp id (fun h=>by omega);refine PrfP.mk h.lP h.lC h.lB (fun hne=>?_) (fun hne=>?_) (fun hne=>?_)
 ·obtain⟨e,r,⟨cur,hc⟩,hp⟩:=h.P hne;exact⟨gP,0,e,zL hc,.inr (by omega),hp.wide hw ps gP 0⟩
 ·obtain⟨e,r,⟨cur,hc⟩,hp⟩:=h.C hne;refine⟨gC,0,e,zL hc,.inr (by omega),fun i hi=>?_⟩;rw[Nat.zero_add];exact(hp i hi).wide hw
 obtain⟨e,r,⟨cur,hc⟩,hp⟩:=h.B hne;refine⟨gB,0,e,zL hc,.inr (by omega),fun i hi=>?_⟩;rw[Nat.zero_add];exact(hp i hi).wide hw
end
theorem own_at{W:World}{base:Nat}{e:TypeId}{size n c:Nat}{A:Option Addr}{xs:List Value}(h:W.ownsRow base e size (.slice A n c) n xs):n≤c∧(n≠0→∃g cur,A=some ⟨g,0,none⟩∧base≤g∧W.heap[g]?=some (.cells cur e (0,0))∧CellsAt W g 0 xs):=by
 rcases h.2 with⟨h1,h2⟩ | ⟨g,cap,cur,hv,hbg,hg,hnc,_,_,_⟩
 ·exact⟨by omega,fun hn=>absurd h2 hn⟩
 injection hv with e1 _ e3;subst e1 e3;exact⟨hnc,fun _=>⟨g,cur,rfl,hbg,hg,own_cells h⟩⟩
theorem sp_leaf{w Wl s4:World}{q0:Nat→Prop}{T O:Nat}{ix:Int}{ps:List Prf}{ch bk:List Link}{AP AC AB:Option Addr}{cP cC cB p0 p1 d0 d1 e0 e1:Nat}{xP xC xB:List Value}(hq0:¬q0 T)(ht:TapeI T w)(hb:Below w.heap.size w Wl)
  (hr:Wl.heap[w.heap.size+1]?=some (.cells #[.int .i64 0,.slice none 0 0,.slice none 0 0,.slice none 0 0] 39 (0,0)))
  (hP:Wl.ownsRow p0 39 4 (.slice AP ps.length cP) ps.length xP) (hP1:∀g,(Value.slice AP ps.length cP).ownBlock=some g→g<p1) (rP:PrRow q0 w ps xP)
  (hC:Wl.ownsRow d0 93 7 (.slice AC ch.length cC) ch.length xC) (hC1:∀g,(Value.slice AC ch.length cC).ownBlock=some g→g<d1) (rC:LinkRow q0 w ch xC)
  (hB:Wl.ownsRow e0 93 7 (.slice AB bk.length cB) bk.length xB) (hB1:∀g,(Value.slice AB bk.length cB).ownBlock=some g→g<e1) (rB:LinkRow q0 w bk xB)
  (hO:O<Wl.heap.size) (ho:Oth O Wl s4) (hbox:s4.heap[O]?=some (.cells #[.int .i64 ix,.slice AP ps.length cP,.slice AC ch.length cC,.slice AB bk.length cB] 39 (0,0)))
  (n0:w.heap.size+2≤O∧w.heap.size+2≤p0∧w.heap.size+2≤d0∧w.heap.size+2≤e0) (nO:(O<p0∨p1≤O)∧(O<d0∨d1≤O)∧(O<e0∨e1≤O)) (nP:(p1≤d0∨d1≤p0)∧(p1≤e0∨e1≤p0)∧(d1≤e0∨e1≤d0)) :
  ∃gP gC gB,∀N,Wl.heap.size≤N→SpK w q0 T N O ix ps ch bk AP AC AB cP cC cB gP gC gB s4:=by
 have hT:=ht.lt;obtain⟨l1,r1⟩:=own_at hP;obtain⟨l2,r2⟩:=own_at hC;obtain⟨l3,r3⟩:=own_at hB;have ow:∀g,g<w.heap.size→q0 g→s4.heap[g]?=w.heap[g]?:=fun g hg _=>(ho.block g (by have:=hb.size;omega) (fun e=>by have:=zO e;omega)).trans (hb.block g hg);have hs4:w.heap.size≤s4.heap.size:=zR hb.size ho.size;have hq:∀N,∀b,b<w.heap.size→q0 b→((b<w.heap.size∧q0 b)∨N≤b):=fun N b h1 h2=>.inl ⟨h1,h2⟩;have hother:Oth T w s4:=⟨ho.os.trans hb.os,ho.tape.trans hb.tape,ho.output.trans hb.output,hs4,fun k hk _=>(ho.block k (by have:=hb.size;omega) (fun e=>by have:=zO e;omega)).trans (hb.block k hk)⟩;have hres:=ho.heap hr (by omega);have htape:TapeI T s4:=(ht.below hb).oth (by omega) ho;have gp:∃gP,ps≠[]→AP=some ⟨gP,0,none⟩∧(p0≤gP∧gP<p1∧gP<Wl.heap.size)∧(∃cur,s4.heap[gP]?=some (.cells cur 39 (0,0)))∧∀N,PrfsP (fun b=>(b<w.heap.size∧q0 b)∨N≤b) s4 gP ps 0:=by
  by_cases hne:ps=[]
  ·exact⟨0,fun h=>absurd hne h⟩
  obtain⟨g,cur,e,hg0,hg,hcell⟩:=r1 (by intro h;exact hne (Zz h));subst e;have hg1:=hP1 g rfl;have hgl:=zL hg;have hgO:g≠O:=by rintro rfl;omega
  refine⟨g,fun _=>⟨rfl,⟨hg0,hg1,hgl⟩,⟨cur,ho.heap hg hgO⟩,fun N=>?_⟩⟩;have h1:PrRow (fun b=>(b<w.heap.size∧q0 b)∨N≤b) s4 ps xP:=rP.keep (fun b h1 h2=>ow b h2 h1) hs4 (hq N);exact h1.lie (fun j u hj=>(World.cell?_of_block (a:=⟨g,0+j,none⟩) (ho.block g hgl (fun e=>hgO (zO e)))).trans (hcell j u hj))
 have gc:∃gC,ch≠[]→AC=some ⟨gC,0,none⟩∧(d0≤gC∧gC<d1∧gC<Wl.heap.size)∧(∃cur,s4.heap[gC]?=some (.cells cur 93 (0,0)))∧∀N,LkAt (fun b=>(b<w.heap.size∧q0 b)∨N≤b) s4 gC ch:=by
  by_cases hne:ch=[]
  ·exact⟨0,fun h=>absurd hne h⟩
  obtain⟨g,cur,e,hg0,hg,hcell⟩:=r2 (by intro h;exact hne (Zz h));subst e;have hg1:=hC1 g rfl;have hgl:=zL hg;have hgO:g≠O:=by rintro rfl;omega
  refine⟨g,fun _=>⟨rfl,⟨hg0,hg1,hgl⟩,⟨cur,ho.heap hg hgO⟩,fun N i hi=>?_⟩⟩;have h1:LinkRow (fun b=>(b<w.heap.size∧q0 b)∨N≤b) s4 ch xC:=rC.keep (fun b h1 h2=>ow b h2 h1) hs4 (hq N);have:=h1.lie (b:=g) (o:=0) (fun j u hj=>(World.cell?_of_block (a:=⟨g,0+j,none⟩) (ho.block g hgl (fun e=>hgO (zO e)))).trans (hcell j u hj)) i hi;rwa[Nat.zero_add] at this
 have gb:∃gB,bk≠[]→AB=some ⟨gB,0,none⟩∧(e0≤gB∧gB<e1∧gB<Wl.heap.size)∧(∃cur,s4.heap[gB]?=some (.cells cur 93 (0,0)))∧∀N,LkAt (fun b=>(b<w.heap.size∧q0 b)∨N≤b) s4 gB bk:=by
  by_cases hne:bk=[]
  ·exact⟨0,fun h=>absurd hne h⟩
  obtain⟨g,cur,e,hg0,hg,hcell⟩:=r3 (by intro h;exact hne (Zz h));subst e;have hg1:=hB1 g rfl;have hgl:=zL hg;have hgO:g≠O:=by rintro rfl;omega
  refine⟨g,fun _=>⟨rfl,⟨hg0,hg1,hgl⟩,⟨cur,ho.heap hg hgO⟩,fun N i hi=>?_⟩⟩;have h1:LinkRow (fun b=>(b<w.heap.size∧q0 b)∨N≤b) s4 bk xB:=rB.keep (fun b h1 h2=>ow b h2 h1) hs4 (hq N);have:=h1.lie (b:=g) (o:=0) (fun j u hj=>(World.cell?_of_block (a:=⟨g,0+j,none⟩) (ho.block g hgl (fun e=>hgO (zO e)))).trans (hcell j u hj)) i hi;rwa[Nat.zero_add] at this
 obtain⟨gP,hgP⟩:=gp;obtain⟨gC,hgC⟩:=gc;obtain⟨gB,hgB⟩:=gb;refine⟨gP,gC,gB,fun N hN=>⟨hother,htape,hT,hq0,by omega,⟨n0.1,by omega⟩,hbox,hres,l1,l2,l3,fun h=>?_,fun h=>?_,fun h=>?_,fun a b=>?_,fun a b=>?_,fun a b=>?_⟩⟩
 ·have hr:=(hgP h).2.1;refine⟨(hgP h).1,?_,(hgP h).2.2.1,(hgP h).2.2.2 N⟩;clear hgP hgC hgB r1 r2 r3;exact⟨by omega,by omega,by omega⟩
 ·have hr:=(hgC h).2.1;refine⟨(hgC h).1,?_,(hgC h).2.2.1,(hgC h).2.2.2 N⟩;clear hgP hgC hgB r1 r2 r3;exact⟨by omega,by omega,by omega⟩
 ·have hr:=(hgB h).2.1;refine⟨(hgB h).1,?_,(hgB h).2.2.1,(hgB h).2.2.2 N⟩;clear hgP hgC hgB r1 r2 r3;exact⟨by omega,by omega,by omega⟩
 ·have h1:=(hgP a).2.1;have h2:=(hgC b).2.1;clear hgP hgC hgB r1 r2 r3;omega
 ·have h1:=(hgP a).2.1;have h2:=(hgB b).2.1;clear hgP hgC hgB r1 r2 r3;omega
 have h1:=(hgC a).2.1;have h2:=(hgB b).2.1;clear hgP hgC hgB r1 r2 r3;omega
end
section
open Go.RowKit Go.Maps _root_.Lfc
attribute [local go_sem ↓] Go.wp_at_zero Go.wp_at_succ
theorem tapeI_nextB(T n:Nat)(w:World)(h0:0<n)(h1:n<=1000000)(h:TapeI T w) :
  Calls Tryz.prog 12 #[.pointer (some ⟨T,0,none⟩),zI (n:Int)] w fun e w'=>(∃r:Nat,r<n/\e=.returned (zI (r:Int)))/\TapeI T w'/\Oth T w w':=by
 obtain⟨A,l,c,i,ht,hi,hl,hc⟩:=h.t;have hT:=h.lt;have H:=zH h;have HT:=zH ht;have ht0:=zC ht 0;have ht1:=zC ht 1;simp at ht0 ht1;have hf1:=zF ht 1;have hl':l<=9223372036854775807:=by unfold maxLen at hl;omega
 clear h ht hl;by_cases hil:i<l
 ·obtain⟨b,o,rfl,hbT,hx⟩:=hc (by omega);obtain⟨x,hx⟩:=hx i hil;clear hc;have hd:decide ((i:Int)≥(l:Int))=false:=by simp;omega
  obtain⟨w1,hw1⟩:∃w1,w.setCell ⟨T,1,none⟩ (zI ((i:Int)+1))=w1:=⟨_,rfl⟩;have o1:Oth T w w1:=zV hw1;have q1:w1.heap[T]?=some (.cells #[.slice (some ⟨b,o,none⟩) l c,zI ((i:Int)+1)] 33 (0,0)):=by
   rw[<-hw1];simp[World.setCell,zM,HT.o]
  have y0:=zC q1 0;have y1:=zC q1 1;simp at y0 y1;have hx1:=(o1.cell (p:=⟨b,o+i,none⟩) (by simp only;omega) (by simp only;omega)).trans hx;go_enter Tryz.func12,Tryz.ntmps12;go_upto_region 1 with fail;refine Zs 9 ?_;simp only[Zc,List.take_zero,List.drop_succ_cons,List.drop_zero];change wpStill Tryz.prog _ w.drew _ _ _;repeat still_step
  try refine wpStill_nil ?_
  change wpList _ _ _ _ _ w.drew;go_upto_region 4 with fail;have hq:=cutO_lt x n h0;clear hw1;have hi2:IntKind.i64.wrap (i:Int)=(i:Int):=Zi _ ⟨by omega,by omega⟩;refine Zs 13 ?_;simp only[Zc,List.take_zero,List.drop_succ_cons,List.drop_zero];change wpStill Tryz.prog _ w1.drew.drew _ _ _;repeat still_step
  still_call (cutO_any x n _ h0 (by omega))
  repeat still_step
  try refine wpStill_nil ?_
  change wpList _ _ _ _ _ w1.drew.drew;go_wp2_with fail;go_ret;exact⟨⟨_,hq,rfl⟩,(H.o.moved o1 HT.o (i':=i+1) (by simpa using q1) (by omega)).below (zB _ _).drew.drew,o1.drew.drew⟩
 have hd:decide ((i:Int)≥(l:Int))=true:=by simp;omega
 go_enter Tryz.func12,Tryz.ntmps12;go_upto_region 1 with fail;refine Zs 9 ?_;simp only[Zc,List.take_zero,List.drop_succ_cons,List.drop_zero];change wpStill Tryz.prog _ w.drew _ _ _;repeat still_step
 try refine wpStill_nil ?_
 change wpList _ _ _ _ _ w.drew;go_wp2_with fail;go_ret;exact⟨⟨0,h0,rfl⟩,H.o.below (zB _ _).drew,(Oth.refl _ _).drew⟩
theorem pset1{W:World}{g j:Nat}{cur:Array Value}{t:TypeId}{a:Value}(h:W.heap[g]?=some (.cells cur t (0,0)))(c:W.cell? ⟨g,j,none⟩=some a)(v:Value):∃s,W.setCell ⟨g,j,none⟩ v=s∧W.frozen? ⟨g,j,none⟩=false∧(∃cur',s.heap[g]?=some (.cells cur' t (0,0)))∧s.cell? ⟨g,j,none⟩=some v∧(∀j',j'≠j→s.cell? ⟨g,j',none⟩=W.cell? ⟨g,j',none⟩)∧Oth g W s :=
 ⟨_,rfl,zF h _,⟨cur.set! j v,by simp[World.setCell,zM,h]⟩,World.cell?_setCell_same _ _ _ c,fun j' hj=>World.cell?_setCell_other _ _ _ _ (by intro e;injection e with _ e _;exact hj e.symm),Oth.set W v⟩
theorem pset4{W:World}{g j j1 j2 j3:Nat}{cur:Array Value}{t:TypeId}{a0 a1 a2 a3:Value}(h:W.heap[g]?=some (.cells cur t (0,0)))(h1:j1=j+1)(h2:j2=j+2)(h3:j3=j+3)(c0:W.cell? ⟨g,j,none⟩=some a0)(c1:W.cell? ⟨g,j1,none⟩=some a1)(c2:W.cell? ⟨g,j2,none⟩=some a2)(c3:W.cell? ⟨g,j3,none⟩=some a3)(v0 v1 v2 v3:Value) :
  ∃s1 s2 s3 s4,W.setCell ⟨g,j,none⟩ v0=s1∧s1.setCell ⟨g,j1,none⟩ v1=s2∧s2.setCell ⟨g,j2,none⟩ v2=s3∧s3.setCell ⟨g,j3,none⟩ v3=s4 ∧
  (s1.cell? ⟨g,j1,none⟩=some a1∧s2.cell? ⟨g,j2,none⟩=some a2∧s3.cell? ⟨g,j3,none⟩=some a3) ∧
  (W.frozen? ⟨g,j,none⟩=false∧s1.frozen? ⟨g,j1,none⟩=false∧s2.frozen? ⟨g,j2,none⟩=false∧s3.frozen? ⟨g,j3,none⟩=false) ∧
  (∃cur',s4.heap[g]?=some (.cells cur' t (0,0)))∧(s4.cell? ⟨g,j,none⟩=some v0∧s4.cell? ⟨g,j1,none⟩=some v1∧s4.cell? ⟨g,j2,none⟩=some v2∧s4.cell? ⟨g,j3,none⟩=some v3)∧(∀j',(j'<j∨j+4≤j')→s4.cell? ⟨g,j',none⟩=W.cell? ⟨g,j',none⟩)∧Oth g W s4:=by
 obtain⟨s1,e1,f1,⟨u1,k1⟩,n1,o1,t1⟩:=pset1 h c0 v0;obtain⟨s2,e2,f2,⟨u2,k2⟩,n2,o2,t2⟩:=pset1 k1 ((o1 j1 (by omega)).trans c1) v1;obtain⟨s3,e3,f3,⟨u3,k3⟩,n3,o3,t3⟩:=pset1 k2 ((o2 j2 (by omega)).trans ((o1 j2 (by omega)).trans c2)) v2;obtain⟨s4,e4,f4,⟨u4,k4⟩,n4,o4,t4⟩:=pset1 k3 ((o3 j3 (by omega)).trans ((o2 j3 (by omega)).trans ((o1 j3 (by omega)).trans c3))) v3;refine⟨s1,s2,s3,s4,e1,e2,e3,e4,⟨(o1 j1 (by omega)).trans c1,(o2 j2 (by omega)).trans ((o1 j2 (by omega)).trans c2),(o3 j3 (by omega)).trans ((o2 j3 (by omega)).trans ((o1 j3 (by omega)).trans c3))⟩,⟨f1,f2,f3,f4⟩,⟨u4,k4⟩,⟨?_,?_,?_,n4⟩,fun j' hj=>?_,((t1.trans t2).trans t3).trans t4⟩
 ·exact(o4 j (by omega)).trans ((o3 j (by omega)).trans ((o2 j (by omega)).trans n1))
 ·exact(o4 j1 (by omega)).trans ((o3 j1 (by omega)).trans n2)
 ·exact(o4 j2 (by omega)).trans n3
 exact(o4 j' (by omega)).trans ((o3 j' (by omega)).trans ((o2 j' (by omega)).trans (o1 j' (by omega))))
theorem prf_part{q:Nat→Prop}{w:World}{ps:List Prf}{A:Option Addr}(hp:ps≠[]→∃b o,A=some ⟨b,o,none⟩∧b<w.heap.size∧q b∧PrfsP q w b ps o):∃xs,PrRow q w ps xs∧xs.length=ps.length*4∧(A=none→ps.length=0)∧(∀u∈xs,u.oneCell'=true)∧∀W,Below w.heap.size w W→∀ad,A=some ad→∀j u,xs[j]?=some u→W.cell? (ad.add j)=some u:=by
 by_cases h0:ps=[]
 ·subst h0;exact⟨[],by rw[PrRow],rfl,(fun _=>rfl),(fun u hu=>by cases hu),fun _ _ _ _ j u hj=>by simp at hj⟩
 obtain⟨b,o,rfl,hb,_,hps⟩:=hp h0;obtain⟨xs,h1,h2,h3,h4⟩:=PrRow.of hps;refine⟨xs,h1,h2,(fun h=>by cases h),h4,fun W hW ad ha j u hj=>?_⟩;cases ha;rw[addr_add0];exact(hW.cell (p:=⟨b,o+j,none⟩) hb).trans (h3 j u hj)
theorem link_part{q:Nat→Prop}{w:World}{l:List Link}{A:Option Addr}(hl:LinksP q w A l):∃xs,LinkRow q w l xs∧xs.length=l.length*7∧(A=none→l.length=0)∧(∀u∈xs,u.oneCell'=true)∧∀W,Below w.heap.size w W→∀ad,A=some ad→∀j u,xs[j]?=some u→W.cell? (ad.add j)=some u:=by
 by_cases h0:l=[]
 ·subst h0;exact⟨[],by rw[LinkRow],rfl,(fun _=>rfl),(fun u hu=>by cases hu),fun _ _ _ _ j u hj=>by simp at hj⟩
 obtain⟨b,o,rfl,hb,_,hps⟩:=hl h0;obtain⟨xs,h1,h3⟩:=LinkRow.of l o hps;refine⟨xs,h1,h1.len,(fun h=>by cases h),h1.cell1,fun W hW ad ha j u hj=>?_⟩;cases ha;rw[addr_add0];exact(hW.cell (p:=⟨b,o+j,none⟩) hb).trans (h3 j u hj)
section
variable {w W:World} {q0:Nat→Prop} {T N O:Nat} {ix:Int} {ps:List Prf} {ch bk:List Link} {AP AC AB:Option Addr} {cP cC cB gP gC gB:Nat}
theorem SpK.setIx(h:SpK w q0 T N O ix ps ch bk AP AC AB cP cC cB gP gC gB W)(z:Int):SpK w q0 T N O z ps ch bk AP AC AB cP cC cB gP gC gB (W.setCell ⟨O,0,none⟩ (.int .i64 z)) :=
 h.setBox (Oth.set W _) (by simp[World.setCell,zM,h.box]) (.inl ⟨rfl,rfl,rfl,rfl,rfl,rfl,rfl,rfl⟩)
theorem SpK.swap(h:SpK w q0 T N O ix ps ch bk AP AC AB cP cC cB gP gC gB W):SpK w q0 T N O ix ps bk ch AP AB AC cP cB cC gP gB gC ((W.setCell ⟨O,2,none⟩ (.slice AB bk.length cB)).setCell ⟨O,3,none⟩ (.slice AC ch.length cC)) :=
 h.setBox ((Oth.set W _).trans (Oth.set _ _)) (by simp[World.setCell,zM,h.box]) (.inr (.inl ⟨rfl,rfl,rfl,rfl,rfl,rfl,rfl,rfl⟩))
theorem SpK.cut(h:SpK w q0 T N O ix ps ch bk AP AC AB cP cC cB gP gC gB W)(n:Nat)(hn:n≤ch.length):SpK w q0 T N O ix ps (ch.take n) bk AP AC AB cP cC cB gP gC gB (W.setCell ⟨O,2,none⟩ (.slice AC n cC)) :=
 h.setBox (Oth.set W _) (by rw[List.length_take,Nat.min_eq_left hn];simp[World.setCell,zM,h.box]) (.inr (.inr ⟨n,rfl,rfl,rfl,rfl,rfl,rfl,rfl,rfl⟩))
theorem SpK.setFact(h:SpK w q0 T N O ix ps ch bk AP AC AB cP cC cB gP gC gB W)(k:Nat)(hk:k<ch.length)(z:Int):SpK w q0 T N O ix ps (ch.set k ⟨ch[k].kind,ch[k].term,ch[k].path,z⟩) bk AP AC AB cP cC cB gP gC gB (W.setCell ⟨gC,k*7+6,none⟩ (.int .i64 z)):=by
 have hne:ch≠[]:=by rintro rfl;cases hk
 obtain⟨e,r,⟨cur,hc⟩,hp⟩:=h.C hne;obtain⟨kk,n,p,ts,At,ct,A,c,e0,h0,h1,h2,h3,h4,h5,h6,hcc,hi,ht⟩:=hp k hk;obtain⟨s,es,fs,⟨u,ku⟩,n1,o1,t1⟩:=pset1 hc h6 (.int .i64 z);rw[es];obtain⟨_,_,_,_,k5,_⟩:=h.keepG ⟨r.1,r.2.1⟩ t1;refine h.setC hne t1 ⟨u,ku⟩ (fun j hj=>o1 j (by omega)) ⟨kk,n,p,ts,At,ct,A,c,e0,(o1 _ (by omega)).trans h0,(o1 _ (by omega)).trans h1,(o1 _ (by omega)).trans h2,(o1 _ (by omega)).trans h3,(o1 _ (by omega)).trans h4,(o1 _ (by omega)).trans h5,n1,hcc,hi.keep k5 t1.size (fun _ _ h=>h),ht.keep k5 t1.size (fun _ _ h=>h)⟩
theorem SpK.setKind(h:SpK w q0 T N O ix ps ch bk AP AC AB cP cC cB gP gC gB W)(k:Nat)(hk:k<ch.length)(z:Int):SpK w q0 T N O ix ps (ch.set k ⟨z,ch[k].term,ch[k].path,ch[k].fact⟩) bk AP AC AB cP cC cB gP gC gB (W.setCell ⟨gC,k*7,none⟩ (.int .i64 z)):=by
 have hne:ch≠[]:=by rintro rfl;cases hk
 obtain⟨e,r,⟨cur,hc⟩,hp⟩:=h.C hne;obtain⟨kk,n,p,ts,At,ct,A,c,e0,h0,h1,h2,h3,h4,h5,h6,hcc,hi,ht⟩:=hp k hk;obtain⟨s,es,fs,⟨u,ku⟩,n1,o1,t1⟩:=pset1 hc h0 (.int .i64 z);rw[es];obtain⟨_,_,_,_,k5,_⟩:=h.keepG ⟨r.1,r.2.1⟩ t1;refine h.setC hne t1 ⟨u,ku⟩ (fun j hj=>o1 j (by omega)) ⟨kk,n,p,ts,At,ct,A,c,e0,n1,(o1 _ (by omega)).trans h1,(o1 _ (by omega)).trans h2,(o1 _ (by omega)).trans h3,(o1 _ (by omega)).trans h4,(o1 _ (by omega)).trans h5,(o1 _ (by omega)).trans h6,hcc,hi.keep k5 t1.size (fun _ _ h=>h),ht.keep k5 t1.size (fun _ _ h=>h)⟩
theorem SpK.setPath(h:SpK w q0 T N O ix ps ch bk AP AC AB cP cC cB gP gC gB W)(k:Nat)(hk:k<ch.length){base c2:Nat}{A2:Option Addr}{zs:List Int}(hb:N≤base)(hown:W.ownsRow base 3 1 (.slice A2 zs.length c2) zs.length (ints zs)):SpK w q0 T N O ix ps (ch.set k ⟨ch[k].kind,ch[k].term,zs,ch[k].fact⟩) bk AP AC AB cP cC cB gP gC gB (W.setCell ⟨gC,k*7+5,none⟩ (.slice A2 zs.length c2)):=by
 have hne:ch≠[]:=by rintro rfl;cases hk
 obtain⟨e,r,⟨cur,hc⟩,hp⟩:=h.C hne;obtain⟨kk,n,p,ts,At,ct,A,c,e0,h0,h1,h2,h3,h4,h5,h6,hcc,hi,ht⟩:=hp k hk;obtain⟨s,es,fs,⟨u,ku⟩,n1,o1,t1⟩:=pset1 hc h5 (.slice A2 zs.length c2);rw[es];obtain⟨_,_,_,_,k5,_⟩:=h.keepG ⟨r.1,r.2.1⟩ t1;obtain⟨l2,r2⟩:=own_at hown;have hi2:IntsP (fun b=>(b<w.heap.size∧q0 b)∨N≤b) W A2 zs:=fun hz=>by
  obtain⟨g,cur2,e2,hg0,hg,hcell⟩:=r2 (by intro h;exact hz (Zz h));refine⟨g,0,e2,zL hg,.inr (by omega),fun j hj=>hcell j _ ?_⟩;simp[ints,List.getD_eq_getElem?_getD,Zg hj]
 refine h.setC hne t1 ⟨u,ku⟩ (fun j hj=>o1 j (by omega)) ⟨kk,n,p,ts,At,ct,A2,c2,e0,(o1 _ (by omega)).trans h0,(o1 _ (by omega)).trans h1,(o1 _ (by omega)).trans h2,(o1 _ (by omega)).trans h3,(o1 _ (by omega)).trans h4,n1,(o1 _ (by omega)).trans h6,l2,hi2.keep k5 t1.size (fun _ _ h=>h),ht.keep k5 t1.size (fun _ _ h=>h)⟩
end
end
end Go.Proofs.YtadjpadieljjlaaGreat
