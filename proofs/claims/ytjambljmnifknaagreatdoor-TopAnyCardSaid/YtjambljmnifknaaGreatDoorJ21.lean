/- Part 21 of the proof of TopAny: A range over a function that writes what it has caught · scan: groups · scan: All · dir: put, alone, May, Clone · dir: find, Get · slices.Clone, of pairs, changes, groups. -/
import Derived.Test.YtjambljmnifknaaGreatDoorJ20
set_option maxRecDepth 100000
set_option maxHeartbeats 80000000
set_option linter.all false
open Go.Proofs.Tryz
namespace Go.Proofs.YtjambljmnifknaaGreatDoor.Vc
open Go Go.RowKit Tp
def Abd(Ob:Nat→Prop){α:Type}(J:List α→World→Prop):Prop:=∀s A B,J s A→Amb A B→Frm Ob A.heap B.heap→J s B
def GenSeq{α:Type}(P:Program)(gf:Nat)(lb:Array Value)(encs:α→Array Value)(Ob:Nat→Prop)(Fact:List α→α→Heap→Prop)(S:List α→Prop)(w:World):Prop:=
 ∀(l:Nat) (J Jx:List α→World→Prop) (W:World),Below w.heap.size w W→Abd Ob J→Abd Ob Jx→
  (∀pre x W1,J pre W1→Fact pre x W1.heap→YieldAt Fence.wide 0 P l (encs x) W1 λe W'=>(e=.returned (.bool true)∧J (pre++[x]) W'∧∀k,Ob k→W'.heap[k]? =W1.heap[k]?)∨(e=.returned (.bool false)∧Jx (pre++[x]) W'))→
  J [] W→CallsIn Fence.wide 1 P gf (#[.func (.yield l) #[] #[]]++lb) W λe W'=>(∃v,e=.returned v)∧((∃xs,S xs∧J xs W')∨∃pre,Jx pre W')
def ObN(Ob:Nat→Prop)(B:Nat)(H:Heap):Nat→Prop:=λk=>Ob k∨NC B H k
structure GenVC(c:Ctx)(rs:List ResultVar)(bid:Nat)(g:Operand)(ps:Array Tmp)(assign body post:Code)(env:Env)(H:Heap)(R:KK):Prop where
 out:∃(α:Type) (gf:Nat) (lb:Array Value) (encs:α→Array Value) (Ob:Nat→Prop) (Fact:List α→α→Heap→Prop) (S:List α→Prop) (I Ix:List α→Heap→Prop) (A:List α→α→Env→Heap→Prop),
  (ev env g=.func (.func gf) #[] lb∧(∀args w,(callFunc gf args).run c.P w=.ok (.enter gf args) w)∧(∀x,(encs x).size=ps.size)∧(∀k,Ob k→k<H.size∧(c.S k∨c.H0.size≤k)))∧
  (∀w:World,w.heap=H→GenSeq c.P gf lb encs Ob Fact S w)∧
  ((∀pre H1 H2,I pre H1→Frm (ObN Ob H.size H1) H1 H2→I pre H2)∧(∀pre H1 H2,Ix pre H1→Frm (ObN Ob H.size H1) H1 H2→Ix pre H2)∧(∀pre x e H1 H2,A pre x e H1→Frm (NC H.size H1) H1 H2→A pre x e H2)∧I [] H)∧
  ((∀x pre H1,I pre H1→Fact pre x H1→H.size≤H1.size→∃B:KX,vcCode ⟨c.P,H1,nob⟩ assign (psE (ps.toList.zip (encs x).toList) env) H1 B∧∀e env' H2,B e env' H2→e=.normal∧A pre x env' H2)∧
   ∀x env' pre H',A pre x env' H'→H.size≤H'.size→∃T,(∀k,T k→∃cs t fz,H'[k]? =some (.cells cs t fz))∧(∀k,T k→¬Ob k)∧(∀k,T k→c.S k∨c.H0.size≤k)∧
    vcCode ⟨c.P,H',T⟩ body env' H' (λe _ H''=>match e with
     | .normal=>I (pre++[x]) H''
     | .exit id=>id=bid∧Ix (pre++[x]) H''
     |_=>False))∧
  (∀xs H',S xs→I xs H'→Frm c.S c.H0 H'→vcCode ⟨c.P,H',nob⟩ post env H' (finK c.P rs λv H2=>∀H3,Frm (NC H.size H2) H2 H3→R v H3))∧
  (∀pre H',Ix pre H'→Frm c.S c.H0 H'→vcCode ⟨c.P,H',nob⟩ post env H' (finK c.P rs λv H2=>∀H3,Frm (NC H.size H2) H2 H3→R v H3))
theorem frm_putN{B:Nat}{W:World}{k:Nat}{o o':Obj}(hk:B≤k)(h:W.heap[k]? =some o)(hc:o.isCells=false):Frm (NC B W.heap) W.heap (W.putObj k o').heap:=
 ⟨by simp,λj _ hn=>World.putObj_heap_other λe=>hn ⟨by omega,o,by rw[e];exact h,hc⟩⟩
theorem gen_wp{c:Ctx}{fn:Func}{bid n n1:Nat}{g:Operand}{ps:Array Nat}{assign body post:Code}{env:Env}{H:Heap}{R:KK}{a:Act}{w w0:World}
  (hm:c.P.follows .mixedOrders=true) (hto:tmpsOnly fn.results.toList=true) (hnd:(ndOk assign&&ndOk body&&dstOk n assign&&dstOk n body&&dstOk n post&&ps.toList.all λp=>decide (p<n))=true) (hn1:n1=2)
  (h:GenVC c fn.results.toList bid g ps assign body post env H R) (hr:RelE [] n a env) (hw:w.heap=H) (hF:Frm c.S c.H0 H) (hA:Amb w0 w):
  (Code.block bid (.rangeFunc g ps assign body)).wpIn Fence.wide n1 c.P (Exit.then (post.wpIn Fence.wide n1 c.P (bodyPostM Fence.wide n1 c.P fn (outR c.S c.H0 w0 R))) (bodyPostM Fence.wide n1 c.P fn (outR c.S c.H0 w0 R))) a w:=by
 subst hn1
 simp only[QA,Q7,QD] at hnd
 obtain⟨⟨⟨⟨⟨hn1,hn2⟩,hd1⟩,hd2⟩,hd3⟩,hps2⟩:=hnd
 obtain⟨α,gf,lb,encs,Ob,Fact,S,I,Ix,A,⟨hg,eg,hps,hOb⟩,hseq,⟨hI,hIx,hAA,h0⟩,⟨hasg,hbd⟩,hdone,hstop⟩:=h.out
 subst hw
 have hev:a.eval g=.func (.func gf) #[] lb:=by rw[hr.eval];exact hg
 have hH0:c.H0.size≤w.heap.size:=hF.1
 obtain⟨D,hD⟩:∃D,w.heap.size=D:=⟨_,rfl⟩
 let G:World→Prop:=λW=>Frm c.S c.H0 W.heap∧Amb w0 W∧D≤W.heap.size
 have hG:∀{T:Nat→Prop} {A B:World},G A→Amb A B→Frm T A.heap B.heap→(∀k,T k→c.S k∨c.H0.size≤k)→G B:=λhg h1 h2 hT=>⟨Frm.then hg.1 h2 hT,hg.2.1.trans h1,Qb hg.2.2 h2.1⟩
 have hNCT:∀{X:Heap},∀k,NC D X k→c.S k∨c.H0.size≤k:=λk hk=>.inr (by have:=hk.1;omega)
 have hpost:∀(W:World),G W→W.heap[D]? =some (.deferred (some []))→vcCode ⟨c.P,W.heap,nob⟩ post env W.heap (finK c.P fn.results.toList λv H2=>∀H3,Frm (NC w.heap.size H2) H2 H3→R v H3)→
   post.wpIn Fence.wide 2 c.P (bodyPostM Fence.wide 2 c.P fn (outR c.S c.H0 w0 R)) {a with defers:={target:=.collected D,args:=#[]}::a.defers} W:=λW hgW hDW hv=>by
  refine wpIn_wide.2 (wp_mono (vcCode_sound (c:=⟨c.P,W.heap,nob⟩) (ds:=[{target:=.collected D,args:=#[]}]) (n:=n) (w0:=W) (draw_ok hm) post hv ⟨by show _::a.defers=_;rw[hr.defers],hr.size,hr.get⟩ rfl (Frm.refl _ _) (Amb.refl W) hd3) λe a' w' hq=>?_)
  exact leaves_of hto hgW.2.1 hgW.1 rfl (by omega) (by omega) hDW hq
 refine wpIn_block (wpIn_rangeFunc λfn' hfn'=>?_)
 obtain⟨rec,hrec⟩:∃rec:LoopState→Option Code→Loop,rec=λst pe=>{state:=st,pending:=pe,fn:=fn',tmps:=a.tmps,params:=ps,assign,body,defers:=w.heap.size}:=⟨_,rfl⟩
 obtain⟨W1,hW1⟩:∃W1,(w.alloc (.deferred (some []))).alloc (.loop (rec .ready none))=W1:=⟨_,rfl⟩
 have hL1:W1.heap[D+1]? =some (.loop (rec .ready none)):=by
  rw[←hW1,←hD];have:=World.alloc_heap_new (w.alloc (.deferred (some []))) (.loop (rec .ready none));rwa[World.size_alloc] at this
 have hK1:W1.heap[D]? =some (.deferred (some [])):=by
  rw[←hW1,←hD];exact(Below.heap_alloc _ _ _ (by simp)).trans (World.alloc_heap_new w _)
 have hF1:Frm nob w.heap W1.heap:=by
  rw[←hW1]
  exact(Fresh.e (⟨rfl,rfl⟩:Fresh w.heap (w.alloc (.deferred (some []))).heap _ _)).trans (Fresh.e (⟨rfl,rfl⟩:Fresh _ ((w.alloc (.deferred (some []))).alloc _).heap _ _))
 have hA1:Amb w W1:=by rw[←hW1];exact⟨rfl,rfl,rfl⟩
 have hI1:I [] W1.heap:=hI _ _ _ h0 (hF1.mono λ_ _ e=>e.elim)
 have hG1:G W1:=hG (⟨hF,hA,by omega⟩:G w) hA1 hF1 (λ_ e=>e.elim)
 have hb1:Below w.heap.size w W1:=by
  rw[←hW1];exact(((Below.refl _ w).alloc (Qd _) _).alloc (by simp) _)
 refine⟨w.heap.size+1,[{target:=.collected w.heap.size,args:=#[]}],W1,{target:=.fn (.func gf) lb,args:=#[.func (.yield (w.heap.size+1)) #[] #[]]},W1,gf,
  #[.func (.yield (w.heap.size+1)) #[] #[]]++lb,W1,?_,?_,λ_ _=>trivial,?_,λ_=>by decide,?_⟩
 ·rw[←hW1,hrec];exact run_enterLoop_outer _ _ _ _ _
 ·simp only[resolve,hev]
  simp[go_sem]
 ·simp[invoke,go_sem,eg]
 rw[hD]
 have hOD:∀k,Ob k→k<D:=λk hk=>by have:=(hOb k hk).1;omega
 refine(hseq w rfl (D+1) (λpre W=>I pre W.heap∧G W∧W.heap[D+1]? =some (.loop (rec .ready none))∧W.heap[D]? =some (.deferred (some [])))
  (λpre W=>Ix pre W.heap∧G W∧W.heap[D+1]? =some (.loop (rec .done (some (.exit bid))))∧W.heap[D]? =some (.deferred (some []))) W1 hb1
  (λs X Y ⟨h1,h2,h3,h4⟩ ha hf=>⟨hI _ _ _ h1 (hf.mono λ_ _ e=>.inl e),hG h2 ha hf (λk hk=>(hOb k hk).2),hf.blkT h3 (λe=>by have:=hOD _ e;omega),hf.blkT h4 (λe=>by have:=hOD _ e;omega)⟩)
  (λs X Y ⟨h1,h2,h3,h4⟩ ha hf=>⟨hIx _ _ _ h1 (hf.mono λ_ _ e=>.inl e),hG h2 ha hf (λk hk=>(hOb k hk).2),hf.blkT h3 (λe=>by have:=hOD _ e;omega),hf.blkT h4 (λe=>by have:=hOD _ e;omega)⟩)
  ?_ ⟨hI1,hG1,hL1,hK1⟩).mono ?_
 ·rintro pre x W ⟨hi,hgW,hl,hk⟩ hfact
  have hlt:D+1<W.heap.size:=(Qa.1 hl).1
  have hy:=run_yield (P:=c.P) (args:=encs x) hl (by rw[hrec];exact hps x)
  rw[hrec] at hy
  have hrel:RelE [] n {tmps:=(ps.zip (encs x)).foldl (λt (p,v)=>t.setIfInBounds p v) a.tmps,defers:=[]} (psE (ps.toList.zip (encs x).toList) env):=by
   have:=rel_fold (n:=n) (ps.toList.zip (encs x).toList) (t:=a.tmps) (env:=env) (λp hp=>hps2 _ (List.of_mem_zip hp).1) ⟨rfl,hr.size,hr.get⟩
   rw[←Array.toList_zip] at this⊢
   rw[Array.foldl_toList] at this
   exact this
  obtain⟨B,hB1,hB2⟩:=hasg x pre W.heap hi hfact (by rw[hD];exact hgW.2.2)
  refine⟨fn',_,assign,body,hy,roundIn_of_wpIn trivial (wpIn_mono (vcCode_soundR (c:=⟨c.P,W.heap,nob⟩) (w0:=W) hm assign hn1 hB1 hrel rfl (Frm.refl _ _) (Amb.refl W) hd1) ?_)⟩
  rintro e a1 w1 ⟨env1,k1,k2,k3,_,k5⟩
  obtain⟨rfl,hA1'⟩:=hB2 _ _ _ k5
  have hl1:=Frm.blk k3 hl
  have hk1:=Frm.blk k3 hk
  have hg1:=hG hgW k2 k3 (λ_ e=>e.elim)
  refine⟨_,run_beginRound hl1 (by rw[hrec]),?_⟩
  obtain⟨W2,hW2⟩:∃X,w1.putObj (D+1) (.loop {rec .ready none with state:=.busy})=X:=⟨_,rfl⟩
  rw[hW2]
  have hf2:=frm_putN (B:=D) (o':=.loop {rec .ready none with state:=.busy}) (by omega) hl1 rfl
  rw[hW2] at hf2
  have ha2:Amb w1 W2:=by rw[←hW2];exact⟨rfl,rfl,rfl⟩
  have hg2:=hG hg1 ha2 hf2 hNCT
  have hl2:W2.heap[D+1]? =some (.loop {rec .ready none with state:=.busy}):=by rw[←hW2];exact World.putObj_heap_same (Qa.1 hl1).1
  have hk2:W2.heap[D]? =some (.deferred (some [])):=by rw[←hW2];exact(World.putObj_heap_other (by omega)).trans hk1
  obtain⟨T,hTc,hTO,hTS,hv⟩:=hbd x env1 pre W2.heap (hAA _ _ _ _ _ hA1' (by rw[hD];exact hf2)) (by rw[hD];exact hg2.2.2)
  refine wpIn_mono (vcCode_soundR (c:=⟨c.P,W2.heap,T⟩) (w0:=W2) hm body hn2 hv k1 rfl (Frm.refl _ _) (Amb.refl W2) hd2) ?_
  rintro e a2 w3 ⟨env2,_,j2,j3,_,j5⟩
  have hTn:∀{k:Nat} {o:Obj},W2.heap[k]? =some o→o.isCells=false→¬T k:=λho hc ht=>by
   obtain⟨cs,t,fz,hcc⟩:=hTc _ ht
   rw[ho] at hcc
   cases hcc
   cases hc
  have hl3:=Frm.blkT j3 hl2 (hTn hl2 rfl)
  have hk3:=Frm.blkT j3 hk2 (hTn hk2 rfl)
  have hg3:=hG hg2 j2 j3 hTS
  have hob3:∀k,Ob k→w3.heap[k]? =W.heap[k]? :=λk hk=>by
   have hkD:=hOD k hk
   have s1:=k3.2 k (by show k<W.heap.size;have:=hgW.2.2;omega) id
   have s2:W2.heap[k]? =w1.heap[k]? :=by rw[←hW2];exact World.putObj_heap_other (by omega)
   have s3:=j3.2 k (by show k<W2.heap.size;have:=hg2.2.2;omega) (λht=>hTO k ht hk)
   exact(s3.trans s2).trans s1
  have fin:∀(jump:Option Code),∃W4,(Instr.endRound (D+1) jump).run c.P w3=.ok (.bool jump.isNone) W4∧Amb w3 W4∧Frm (NC D w3.heap) w3.heap W4.heap∧W4.heap[D+1]? =some (.loop (rec (if jump.isNone then .ready else .done) jump))∧W4.heap[D]? =some (.deferred (some []))∧∀k,Ob k→W4.heap[k]? =W.heap[k]? :=λjump=>by
   have hrun:=run_endRound (P:=c.P) jump hl3
   refine⟨_,hrun,⟨rfl,rfl,rfl⟩,frm_putN (by omega) hl3 rfl,?_,(World.putObj_heap_other (by omega)).trans hk3,λk hk=>(World.putObj_heap_other (by have:=hOD k hk;omega)).trans (hob3 k hk)⟩
   rw[World.putObj_heap_same (Qa.1 hl3).1,hrec]
  cases e with
  |normal=>
   obtain⟨W4,f1,f2,f3,f4,f5,f6⟩:=fin none
   exact⟨_,W4,f1,.inl ⟨rfl,⟨hI _ _ _ j5 (by rw[hD];exact f3.mono λ_ _ e=>.inr e),hG hg3 f2 f3 hNCT,f4,f5⟩,f6⟩⟩
  |exit id=>
   obtain⟨rfl,j5⟩:=j5
   obtain⟨W4,f1,f2,f3,f4,f5,f6⟩:=fin (some (.exit id))
   exact⟨_,W4,f1,.inr ⟨rfl,hIx _ _ _ j5 (by rw[hD];exact f3.mono λ_ _ e=>.inr e),hG hg3 f2 f3 hNCT,f4,f5⟩⟩
  |_=>exact(show False from j5).elim
 ·rintro e W2 ⟨⟨v,rfl⟩,(⟨xs,hS,hi,hgW,hl,hk⟩|⟨pre,hi,hgW,hl,hk⟩)⟩
  ·have hf:=frm_putN (B:=D) (o':=.loop {rec .ready none with state:=.exhausted}) (by omega) hl rfl
   have hrun:(Instr.endLoop (D+1)).run c.P W2=.ok none (W2.putObj (D+1) (.loop {rec .ready none with state:=.exhausted})):=by
    have:=run_endLoop (P:=c.P) hl (by rw[hrec];simp)
    rw[hrec] at this⊢;exact this
   have hg4:G (W2.putObj (D+1) (.loop {rec .ready none with state:=.exhausted})):=hG hgW ⟨rfl,rfl,rfl⟩ hf hNCT
   refine⟨none,_,hrun,?_⟩
   exact hpost _ hg4 ((World.putObj_heap_other (by omega)).trans hk) (hdone xs _ hS (hI _ _ _ hi (by rw[hD];exact hf.mono λ_ _ e=>.inr e)) hg4.1)
  ·have hf:=frm_putN (B:=D) (o':=.loop {rec .done (some (.exit bid)) with state:=.exhausted}) (by omega) hl rfl
   have hrun:(Instr.endLoop (D+1)).run c.P W2=.ok (some (.exit bid)) (W2.putObj (D+1) (.loop {rec .done (some (.exit bid)) with state:=.exhausted})):=by
    have:=run_endLoop (P:=c.P) hl (by rw[hrec];simp)
    rw[hrec] at this⊢;exact this
   have hg4:G (W2.putObj (D+1) (.loop {rec .done (some (.exit bid)) with state:=.exhausted})):=hG hgW ⟨rfl,rfl,rfl⟩ hf hNCT
   refine⟨some (.exit bid),_,hrun,?_⟩
   refine wpIn_exit ?_
   unfold Exit.inBlock
   dsimp only
   rw[if_pos rfl]
   exact hpost _ hg4 ((World.putObj_heap_other (by omega)).trans hk) (hstop pre _ (hIx _ _ _ hi (by rw[hD];exact hf.mono λ_ _ e=>.inr e)) hg4.1)
end Go.Proofs.YtjambljmnifknaaGreatDoor.Vc
namespace Go.Proofs.YtjambljmnifknaaGreatDoor.Vc
open Go Go.RowKit Tp Go.Shelf
attribute [local go_sem] Oper.semAt_some
abbrev Yl:=Grp×By×(Option Addr×Nat)
def ylE(x:Yl):Array Value:=#[.agg #[.int .i64 x.1.1,.slice x.2.2.1 x.1.2.length x.2.2.2],.string (S x.2.1)]
def restO(s:By)(pre:List Yl):By:=match pre.getLast? with
 |none=>s
 |some x=>x.2.1
def ylF(s:By)(B:Nat)(pre:List Yl)(x:Yl)(H:Heap):Prop:=freadV (restO s pre)=(x.1,x.2.1,0)∧Own H B 158 3 (.slice x.2.2.1 x.1.2.length x.2.2.2) x.1.2.length (cgsV x.1.2)∧x.1.2.length≤1000000000∧∀c∈x.1.2,chOk c
def curL(H:Heap)(b:Nat):Nat:=match H[b]? with
 |some (.cells cs _ _)=>(match cs.toList with|[.string x]=>x.size|_=>0)
 |_=>0
theorem freadV_rest(s:By):(freadV s).2.2=0→(freadV s).2.1.length<s.length:=by
 unfold freadV
 dsimp only
 have h1:(Lib.trimPrefix s [71]).length≤s.length:=by unfold Lib.trimPrefix;split<;>simp
 have h2:=cutR_len (Lib.trimPrefix s [71]) 4
 have h3:=cutE_ok (s:=cutR (Lib.trimPrefix s [71]) 4) (n:=4)
 generalize hr1:cutR (Lib.trimPrefix s [71]) 4=r1 at*
 have h4:=cutR_len ((cutR r1 4).drop (cutV r1 4).toNat) 4
 unfold freadW
 (repeat' split)<;>intro h<;>first|cases h|skip
 rename_i g1 _ _ _ _ _
 have h5:=h3 (Classical.not_not.1 (by assumption))
 show(cutR ((cutR r1 4).drop (cutV r1 4).toNat) 4).length<_
 rw[h5.2] at h4⊢
 simp only[QV] at h4
 omega
theorem fread_in(t:By)(ht:t.length≤1000000000)(j:Nat)(W:World):CallsIn Fence.wide j prog 134 #[.string (S t)] W λe W'=>∃ad cap,e=.returned (.tuple #[.agg #[.int .i64 (freadV t).1.1,.slice ad (freadV t).1.2.length cap],.string (S (freadV t).2.1),.int .i64 (freadV t).2.2])∧
  Amb W W'∧Frm nob W.heap W'.heap∧Own W'.heap W.heap.size 158 3 (.slice ad (freadV t).1.2.length cap) (freadV t).1.2.length (cgsV (freadV t).1.2)∧(freadV t).1.2.length≤1000000000∧∀c∈(freadV t).1.2,chOk c:=
 callsIn_wide.2 (((s_fread t ht W.heap).out W rfl).mono λe W' ⟨v,h1,h2,h3,v',h4,h5,h6⟩=>by
  obtain⟨ad,cap,rfl⟩:=h5.form
  exact⟨ad,cap,by rw[h1,h4],h2,h3,h5,h6⟩)
theorem groups_in(s:By)(hs:s.length≤1000000000)(bs B:Nat)(w:World)(hB:B≤bs+1)(hb:w.heap[bs]? =some (.cells #[.string (S s)] 9 (0,0))):
  GenSeq prog 133 #[ptr bs 0] ylE (λk=>k=bs) (ylF s B) (λxs=>(freadV (restO s xs)).2.2≠0) w:=by
 intro l J Jx W hW hJ hJx hY h0
 have hbW:W.heap[bs]? =some (.cells #[.string (S s)] 9 (0,0)):=by
  rw[hW.block bs (Qa.1 hb).1];exact hb
 refine callsIn_of_wp func133 rfl trivial ?_ rfl
 simp only[ntmps133,Q8,Qo,Q0,Nat.reduceAdd,Nat.reduceSub,Q2,Q1,Zd,Q5,QI,QR]
 gi_wp2
 gi_loopw [] (λwr=>∃(pre:List Yl) (t:By),J pre wr∧restO s pre=t∧wr.heap[bs]? =some (.cells #[.string (S t)] 9 (0,0))∧t.length≤s.length) (λwr=>curL wr.heap bs)
 case atStart=>exact⟨[],s,h0,rfl,hbW,Qd _⟩
 case round=>
  obtain⟨pre,t,hJp,hrt,hbt,htl⟩:=hrel
  have hBw:B≤wr.heap.size:=by have:=(Qa.1 hbt).1;omega
  have hc:=cel_of hbt (o:=0) (v:=.string (S t)) rfl
  have hcw:wr.cell? ⟨bs,0,none⟩=some (.string (S t)):=by simp[World.cell?,hbt]
  have HR:=fread_in t (by omega)
  have hrl:=freadV_rest t
  obtain⟨fr,hfr⟩:∃fr,freadV t=fr:=⟨_,rfl⟩
  rw[hfr] at HR hrl
  obtain⟨⟨sq,cl⟩,rest,e0⟩:=fr
  dsimp only at HR hrl
  by_cases he:e0=0
  ·subst he
   have HR:=Qg (λj=>HR j wr)
   unfold ptr
   gi_wp2
   refine⟨trivial,(HR.out _).mono ?_⟩
   rintro e w1 ⟨ad,cap,rfl,hA1,hF1,hov,hln,hco⟩
   have hbsl:=(Qa.1 hbt).1
   have hb1:=hF1.blk hbt
   obtain⟨w2,hw2⟩:∃w2,w1.alloc (Obj.cells #[.int .i64 sq,.slice ad cl.length cap] 106)=w2:=⟨_,rfl⟩
   have hF2:Frm nob w1.heap w2.heap:=by rw[←hw2];exact Fresh.e (⟨rfl,rfl⟩:Fresh w1.heap (w1.alloc _).heap _ _)
   have hA2:Amb w1 w2:=by rw[←hw2];exact⟨rfl,rfl,rfl⟩
   have hJ2:J pre w2:=hJ _ _ _ hJp (hA1.trans hA2) ((hF1.trans hF2).mono λ_ _ e=>e.elim)
   have hb2:=hF2.blk hb1
   obtain⟨fn,tmps,assign,body,hy,hR⟩:=hY pre ((sq,cl),rest,ad,cap) w2 hJ2 ⟨by rw[hrt,hfr],(hov.q hF2).low hBw,hln,hco⟩
   unfold ylE at hy
   dsimp only at hy
   have hgc:w2.heap[w1.heap.size]? =some (.cells #[.int .i64 sq,.slice ad cl.length cap] 106 (0,0)):=by rw[←hw2];exact World.alloc_heap_new w1 _
   have hg0:w2.cell? ⟨w1.heap.size,0,none⟩=some (.int .i64 sq):=by simp only[World.cell?,hgc];rfl
   have hg1:w2.cell? ⟨w1.heap.size,1,none⟩=some (.slice ad cl.length cap):=by simp only[World.cell?,hgc];rfl
   clear hgc
   gi_wp2
   refine hR.mono ?_
   rintro e W3 (⟨rfl,hJ3,hk3⟩|⟨rfl,hJx3⟩)
   ·have hb3:W3.heap[bs]? =some (.cells #[.string (S t)] 9 (0,0)):=(hk3 bs rfl).trans hb2
    have hc3:W3.cell? ⟨bs,0,none⟩=some (.string (S t)):=by simp[World.cell?,hb3]
    have hs3:W3.shape? bs=some (9,1):=by simp[World.shape?,hb3]
    have hz3:W3.frozen? ⟨bs,0,none⟩=false:=by simp[World.frozen?,hb3]
    gi_wp2
    have hset:(W3.setCell ⟨bs,0,none⟩ (.string (S rest))).heap=W3.heap.setIfInBounds bs (.cells #[.string (S rest)] 9 (0,0)):=by
     have hlt:=(Qa.1 hb3).1
     simp only[World.setCell]
     refine YL λk=>?_
     rw[ZM,YA]
     split
     ·rename_i e;subst e;rw[hb3];rfl
     ·rfl
    have hlt3:=(Qa.1 hb3).1
    have hb4:(W3.setCell ⟨bs,0,none⟩ (.string (S rest))).heap[bs]? =some (.cells #[.string (S rest)] 9 (0,0)):=by rw[hset];simp[hlt3]
    refine⟨⟨pre++[((sq,cl),rest,ad,cap)],rest,hJ _ _ _ hJ3 ⟨rfl,rfl,rfl⟩ ?_,by simp[restO],hb4,by have:=hrl trivial;omega⟩,?_⟩
    ·rw[hset]
     exact⟨by simp,λk _ hk=>by rw[Zs (λe=>hk e.symm)]⟩
    ·unfold curL
     rw[hb4,hbt]
     show(S rest).size<(S t).size
     rw[S_size,S_size]
     exact hrl trivial
   ·gi_wp2
    refine bodyPost_ret (results_none rfl _ _ _) rfl ?_
    exact⟨⟨_,rfl⟩,.inr ⟨_,hJx3⟩⟩
  ·have HR:=Qg (λj=>HR j wr)
   have hbe:(e0 !=0)=true:=by simpa using he
   unfold ptr
   gi_wp2
   refine⟨trivial,(HR.out _).mono ?_⟩
   rintro e w1 ⟨ad,cap,rfl,hA1,hF1,hov,hln,hco⟩
   gi_wp2
   refine⟨λ_ _=>trivial,?_⟩
   gi_wp2
   refine bodyPost_ret (results_none rfl _ _ _) rfl ?_
   refine⟨⟨_,rfl⟩,.inl ⟨pre,by rw[hrt,hfr];exact he,hJ _ _ _ hJp (hA1.trans ⟨rfl,rfl,rfl⟩) ?_⟩⟩
   exact(hF1.trans (Fresh.e (⟨rfl,rfl⟩:Fresh w1.heap (w1.alloc _).heap _ _))).mono λ_ _ e=>e.elim
end Go.Proofs.YtjambljmnifknaaGreatDoor.Vc
namespace Go.Proofs.YtjambljmnifknaaGreatDoor.Vc
open Go Go.RowKit Tp
theorem CutVC.lastG{c:Ctx}{fn:Func}{n bid:Nat}{x:Code}{g:Operand}{ps:Array Nat}{assign body post:Code}{env:Env}{H:Heap}{R:KK}(hm:c.P.follows .mixedOrders=true)(hto:tmpsOnly fn.results.toList=true)
  (hnd:(ndOk assign&&ndOk body&&dstOk n assign&&dstOk n body&&dstOk n post&&ps.toList.all λp=>decide (p<n))=true) (hd:dstOk n x=true)
  (h:vcCode c x env H λe env' H'=>match e with
   | .normal=>GenVC c fn.results.toList bid g ps assign body post env' H' R
   |_=>False):
  CutVC c fn n ((x.seq (Code.block bid (.rangeFunc g ps assign body))).seq post) env H R:=⟨λw0 w a hr hw hF hA=>by
 refine wpIn_seq (wpIn_seq (wpIn_wide.2 (wp_mono (vcCode_sound (ds:=[]) (n:=n) (w0:=w0) (draw_ok hm) x h hr hw hF hA hd) ?_)))
 rintro e a' w' ⟨env',h1,h2,h3,_,h5⟩
 cases e with
 |normal=>exact gen_wp hm hto hnd rfl h5 h1 rfl h3 h2
 |_=>exact(show False from h5).elim⟩
theorem s_groups(s:By)(H:Heap):Spec prog 79 #[.string (S s)] H nob λu H'=>∃bs,u=.func (.func 133) #[] #[ptr bs 0]∧H.size≤bs∧H'[bs]? =some (.cells #[.string (S s)] 9 (0,0)):=by
 refine spx func79 ?_
 conv=>whnf
 intro H1 b f1 _
 have hz:=f1.size
 exact⟨b,rfl,by omega,f1.at⟩
def badQ(acc:List Grp)(q:Int):Bool:=match acc.getLast? with
 |none=>false
 |some g=>decide (q≠g.1+1)
def scanF(n:Nat):Nat→By→List Grp→Nat→List Grp×Nat
 |0,_,acc,fin=>(acc,fin)
 |q+1,t,acc,fin=>if(freadV t).2.2≠0 then(acc,fin) else if badQ acc (freadV t).1.1=true then(acc,fin) else scanF n q (freadV t).2.1 (acc++[(freadV t).1]) (n-(freadV t).2.1.length)
def scanV(s:By):List Grp×Nat:=scanF s.length (s.length+1) s [] 0
def ylL(x:Yl):List Value:=[.int .i64 x.1.1,.slice x.2.2.1 x.1.2.length x.2.2.2]
def ylsV(l:List Yl):List Value:=(l.map ylL).flatten
theorem freadV_seq(s:By):0≤(freadV s).1.1∧(freadV s).1.1≤72057594037927935:=by
 unfold freadV freadW
 dsimp only
 (repeat' split)<;>first|exact⟨cutV_nn _ _,cutV_le _ _ (by decide)⟩|exact⟨by decide,by decide⟩
structure ScH(s:By)(B sb lb eb:Nat)(pre:List Yl)(n:Nat)(H:Heap):Prop where
 row:∃v,H[lb]? =some (.cells #[v] 99 (0,0))∧Own H B 106 2 v pre.length (ylsV pre)
 fin:H[eb]? =some (.cells #[.int .i64 (n:Int)] 3 (0,0))
 src:H[sb]? =some (.cells #[.string (S s)] 9 (0,0))
 gr:∀x∈pre,Own H B 158 3 (.slice x.2.2.1 x.1.2.length x.2.2.2) x.1.2.length (cgsV x.1.2)
theorem ScH.frm{s:By}{B sb lb eb:Nat}{pre:List Yl}{n:Nat}{H H':Heap}{T:Nat→Prop}(h:ScH s B sb lb eb pre n H)(hF:Frm T H H')(h1:¬T lb)(h2:¬T eb)(h3:¬T sb)(hT:∀k o,T k→B≤k→H[k]? =some o→o.isCells=false):ScH s B sb lb eb pre n H':=by
 have ho:∀{e sz m:Nat} {v:Value} {xs:List Value},Own H B e sz v m xs→∀k,v.ownBlock=some k→¬T k:=λhw k hk ht=>by
  rcases hw.2 with ⟨rfl,_⟩|⟨g,cap,cur,rfl,hb,hg,_⟩
  ·cases hk
  ·cases hk
   have:=hT _ _ ht hb hg
   cases this
 obtain⟨v,hl,hw⟩:=h.row
 exact⟨⟨v,hF.blkT hl h1,hw.frm hF (ho hw)⟩,hF.blkT h.fin h2,hF.blkT h.src h3,λx hx=>(h.gr x hx).frm hF (ho (h.gr x hx))⟩
theorem ScH.ob{s:By}{sb lb eb bs D:Nat}{pre:List Yl}{n:Nat}{H H':Heap}(h:ScH s (bs+1) sb lb eb pre n H)(hF:Frm (ObN (λk=>k=bs) D H) H H')(h1:lb<bs)(h2:eb<bs)(h3:sb<bs):ScH s (bs+1) sb lb eb pre n H':=by
 obtain⟨v,hl,_⟩:=h.row
 have hc:∀{k:Nat} {cs:Array Value} {t:TypeId},H[k]? =some (.cells cs t (0,0))→k<bs→¬ObN (λk=>k=bs) D H k:=λhk hlt e=>e.elim (λe=>by omega) λ⟨_,o,ho,hc⟩=>by rw[hk] at ho;cases ho;cases hc
 exact h.frm hF (hc hl h1) (hc h.fin h2) (hc h.src h3) λk o ht hb ho=>ht.elim (λe=>by omega) λ⟨_,o',ho',hc'⟩=>by rw[ho] at ho';cases ho';exact hc'
theorem s_scan(s:By)(hs:s.length≤1000000000)(H:Heap):Spec prog 46 #[.string (S s)] H nob λu H'=>∃xs:List Yl,xs.map (·.1)=(scanV s).1∧∃v,u=.tuple #[v,.int .i64 ((scanV s).2:Int)]∧Own H' H.size 106 2 v xs.length (ylsV xs)∧
  xs.length≤s.length∧∀x∈xs,Own H' H.size 158 3 (.slice x.2.2.1 x.1.2.length x.2.2.2) x.1.2.length (cgsV x.1.2)∧∀c∈x.1.2,chOk c:=by
 obtain⟨tot,htot⟩:∃t,scanV s=t:=⟨_,rfl⟩
 rw[htot]
 unfold scanV at htot
 refine Spec.cut func46 rfl (by kernel_rfl) ?_
 refine CutVC.step mixed (by kernel_rfl) ?_
 conv=>whnf
 intro H1 sb f1 _
 have z1:=f1.size
 refine CutVC.step mixed (by kernel_rfl) ?_
 conv=>whnf
 intro H2 lb f2 _
 have z2:=f2.size
 refine CutVC.step mixed (by kernel_rfl) ?_
 conv=>whnf
 intro H3 eb f3 _
 have z3:=f3.size
 conv=>whnf
 refine .k ([.int .i64 0]) (f3.at) (.inr (by show H.size≤eb;omega)) rfl rfl ?_
 intro H4 u4 _
 have hs4:H4[sb]? =some (.cells #[.string (S s)] 9 (0,0)):=u4.e.blkT (f3.e.blk (f2.e.blk f1.at)) (λe=>by omega)
 have hl4:H4[lb]? =some (.cells #[.slice none 0 0] 99 (0,0)):=u4.e.blkT (f3.e.blk f2.at) (λe=>by omega)
 have he4:H4[eb]? =some (.cells #[.int .i64 0] 3 (0,0)):=u4.1
 have h4s:=u4.2.1
 refine CutVC.lastG mixed (by kernel_rfl) (by kernel_rfl) (by kernel_rfl) ?_
 conv=>whnf
 refine⟨_,cel_of hs4 rfl,?_⟩
 conv=>whnf
 refine .q (s_groups s H4) ?_
 rintro _ H5 ⟨bs,rfl,hbs,hb5⟩ e5 _
 have hb5':=(Qa.1 hb5).1
 conv=>whnf
 refine⟨⟨Yl,133,_,ylE,(λk=>k=bs),ylF s (bs+1),(λxs=>(freadV (restO s xs)).2.2≠0),
  (λpre H'=>∃n:Nat,(∃q,(restO s pre).length<q∧scanF s.length q (restO s pre) (pre.map (·.1)) n=tot)∧pre.length+(restO s pre).length≤s.length∧(∀x∈pre,0≤x.1.1∧x.1.1≤72057594037927935∧∀c∈x.1.2,chOk c)∧ScH s (bs+1) sb lb eb pre n H'),
  (λ_ H'=>∃(pre:List Yl) (n:Nat),(pre.map (·.1),n)=tot∧pre.length≤s.length∧(∀x∈pre,∀c∈x.1.2,chOk c)∧ScH s (bs+1) sb lb eb pre n H'),
  (λpre x env' H'=>∃g,EnvHas env' [(1,ptr sb 0),(4,ptr lb 0),(5,ptr eb 0),(6,ptr g 0),(7,.string (S x.2.1))]∧(bs<g∧∀v,H'[lb]? =some (.cells #[v] 99 (0,0))→v.ownBlock≠some g)∧H'[g]? =some (.cells (ylL x).toArray 106 (0,0))∧freadV (restO s pre)=(x.1,x.2.1,0)∧(∀c∈x.1.2,chOk c)∧Own H' (bs+1) 158 3 (.slice x.2.2.1 x.1.2.length x.2.2.2) x.1.2.length (cgsV x.1.2)∧
   ∃n:Nat,(∃q,(restO s pre).length<q∧scanF s.length q (restO s pre) (pre.map (·.1)) n=tot)∧pre.length+(restO s pre).length≤s.length∧(∀x∈pre,0≤x.1.1∧x.1.1≤72057594037927935∧∀c∈x.1.2,chOk c)∧ScH s (bs+1) sb lb eb pre n H'),
  ⟨rfl,enters_of func133 (by kernel_rfl) rfl,λ_=>rfl,λk (hk:k=bs)=>⟨by omega,.inr (by show H.size≤k;omega)⟩⟩,
  λw hw=>groups_in s hs bs (bs+1) w (Qd _) (by rw[hw];exact hb5),⟨?_,?_,?_,?_⟩,⟨?_,?_⟩,?_,?_⟩⟩
 ·rintro pre HA HB ⟨n,h1,h2,h3,h4⟩ hN
  exact⟨n,h1,h2,h3,h4.ob hN (by omega) (by omega) (by omega)⟩
 ·rintro _ HA HB ⟨pre,n,h1,h2,h3,h4⟩ hN
  exact⟨pre,n,h1,h2,h3,h4.ob hN (by omega) (by omega) (by omega)⟩
 ·rintro pre x e HA HB ⟨g,k1,⟨k2,k3⟩,k4,k5,k6,k7,n,h1,h2,h3,h4⟩ hN
  obtain⟨v0,hl0,_⟩:=h4.row
  exact⟨g,k1,⟨k2,λv hv=>by have e:=blk_nc hN hl0;rw[hv] at e;cases e;exact k3 _ hl0⟩,blk_nc hN k4,k5,k6,k7.nc hN,n,h1,h2,h3,h4.ob (hN.mono λ_ _=>.inr) (by omega) (by omega) (by omega)⟩
 ·exact⟨0,⟨s.length+1,by simp[restO],htot⟩,by simp[restO],by simp,⟨⟨_,e5.blk hl4,Own.nil _ _ _ _⟩,e5.blk he4,e5.blk hs4,by simp⟩⟩
 ·rintro x pre HA ⟨n,h1,h2,h3,h4⟩ ⟨g1,g2,_,g4⟩ hHs
  refine⟨λe env' H2=>e=.normal∧∃g,EnvHas env' [(1,ptr sb 0),(4,ptr lb 0),(5,ptr eb 0),(6,ptr g 0),(7,.string (S x.2.1))]∧(bs<g∧∀v,H2[lb]? =some (.cells #[v] 99 (0,0))→v.ownBlock≠some g)∧H2[g]? =some (.cells (ylL x).toArray 106 (0,0))∧freadV (restO s pre)=(x.1,x.2.1,0)∧(∀c∈x.1.2,chOk c)∧Own H2 (bs+1) 158 3 (.slice x.2.2.1 x.1.2.length x.2.2.2) x.1.2.length (cgsV x.1.2)∧
   ∃n:Nat,(∃q,(restO s pre).length<q∧scanF s.length q (restO s pre) (pre.map (·.1)) n=tot)∧pre.length+(restO s pre).length≤s.length∧(∀x∈pre,0≤x.1.1∧x.1.1≤72057594037927935∧∀c∈x.1.2,chOk c)∧ScH s (bs+1) sb lb eb pre n H2,?_,λ_ _ _ h=>h⟩
  conv=>whnf
  intro HB g fB _
  have hgs:=fB.size
  conv=>whnf
  refine .k (ylL x) (fB.at) (.inr (by show HA.size≤g;omega)) rfl rfl ?_
  intro HC uC _
  have hFC:Frm nob HA HC:=fB.e.upd uC (by omega)
  exact⟨rfl,g,⟨rfl,rfl,rfl,rfl,rfl,trivial⟩,⟨by omega,λv hv e=>by
   obtain⟨v0,hl0,ho0⟩:=h4.row
   have e1:=hFC.blk hl0
   rw[hv] at e1
   cases e1
   have:=(ho0.ge g e).2
   omega⟩,uC.1,g1,g4,g2.q hFC,n,h1,h2,h3,h4.ob (hFC.mono λ_ _ e=>e.elim) (D:=0) (by omega) (by omega) (by omega)⟩
 ·rintro x env' pre H' ⟨g,henv,⟨hbg,hgv⟩,hg,hfr,hco,hox,n,⟨q,hq,hto⟩,hpl,hsq,hsc⟩ hHs
  rw[←over_self (ws:=[]) henv λ_ _=>rfl]
  clear henv
  obtain⟨v,hlv,how⟩:=hsc.row
  obtain⟨va,vc,rfl⟩:=how.form
  have hgv:=hgv _ hlv
  have hvl:=how.ne hlv (by decide)
  have hve:=how.ne hsc.fin (by decide)
  have hvs:=how.ne hsc.src (by decide)
  have hfs:=freadV_seq (restO s pre)
  have hfl:=freadV_rest (restO s pre)
  rw[hfr] at hfs hfl
  have hfl:=hfl rfl
  dsimp only at hfs hfl
  cases q with
  |zero=>omega
  |succ q=>
  rw[scanF,hfr,if_neg (by simp)] at hto
  dsimp only at hto
  have hgeb:g≠eb:=by omega
  have fin:∀{H9 H10 H11 H12:Heap} {r:Nat} {v10:Value},scanF s.length q x.2.1 (pre.map (·.1)++[x.1]) (s.length-x.2.1.length)=tot→Fresh H' H9 r (.cells (ylL x).toArray 106 (0,0))→Own H10 (bs+1) 106 2 v10 (pre.length+1) (ylsV pre++ylL x)→Frm (λk=>(Value.slice va pre.length vc).ownBlock=some k) H9 H10→Upd H10 H11 lb (.cells #[v10] 99 (0,0))→Upd H11 H12 eb (.cells #[.int .i64 ((s.length-x.2.1.length:Nat):Int)] 3 (0,0))→
    ∃n:Nat,(∃q,(restO s (pre++[x])).length<q∧scanF s.length q (restO s (pre++[x])) ((pre++[x]).map (·.1)) n=tot)∧(pre++[x]).length+(restO s (pre++[x])).length≤s.length∧(∀y∈pre++[x],0≤y.1.1∧y.1.1≤72057594037927935∧∀c∈y.1.2,chOk c)∧ScH s (bs+1) sb lb eb (pre++[x]) n H12:=λ{_ _ _ _} {_} {v10} hto f9 ho10 e10 u11 u12=>by
   have hr:restO s (pre++[x])=x.2.1:=by simp[restO]
   rw[hr]
   have hap:∀{v:Value} {m:Nat} {xs:List Value},Own H' (bs+1) 158 3 v m xs→Own _ (bs+1) 158 3 v m xs:=λhw=>((((hw.q f9.e).frm e10 (λk hk e=>hw.apart how (by decide) k hk e)).frm u11.e (λk hk (e:k=lb)=>by have:=(hw.ge k hk).1;omega)).frm u12.e (λk hk (e:k=eb)=>by have:=(hw.ge k hk).1;omega))
   refine⟨_,⟨q,by omega,by rw[Qy];exact hto⟩,by rw[Qi];simp;omega,λy hy=>?_,⟨⟨v10,u12.e.blkT u11.1 (λe=>by omega),?_⟩,u12.1,u12.e.blkT (u11.e.blkT (e10.blkT (f9.e.blk hsc.src) hvs) (λe=>by omega)) (λe=>by omega),λy hy=>?_⟩⟩
   ·rcases Qz.1 hy with hy|hy
    ·exact hsq y hy
    ·rw[Q4.1 hy];exact⟨hfs.1,hfs.2,hco⟩
   ·have:=((ho10.frm u11.e (λk hk (e:k=lb)=>by have:=(ho10.ge k hk).1;omega)).frm u12.e (λk hk (e:k=eb)=>by have:=(ho10.ge k hk).1;omega))
    simpa [ylsV] using this
   ·rcases Qz.1 hy with hy|hy
    ·exact hap (hsc.gr y hy)
    ·rw[Q4.1 hy];exact hap hox
  refine⟨λk=>(k=lb∨k=eb)∨(Value.slice va pre.length vc).ownBlock=some k,?_,?_,?_,?_⟩
  ·rintro k ((rfl|rfl)|hk)
   ·exact⟨_,_,_,hlv⟩
   ·exact⟨_,_,_,hsc.fin⟩
   ·rcases how.blk with ⟨e,_⟩|⟨gg,cap',cs,e,_,hgg,_⟩
    ·injection e with e1;subst e1;cases hk
    ·injection e with e1;subst e1;cases hk
     exact⟨_,_,_,hgg⟩
  ·rintro k ((rfl|rfl)|hk) e
   ·omega
   ·omega
   ·have:=(how.ge k hk).1;omega
  ·rintro k ((rfl|rfl)|hk)
   ·exact .inr (by show H.size≤k;omega)
   ·exact .inr (by show H.size≤k;omega)
   ·exact .inr (by show H.size≤k;have:=(how.ge k hk).1;omega)
  ·cases hl:pre.getLast? with
   |none=>
    have hp0:pre=[]:=List.getLast?_eq_none_iff.1 hl
    have hbq:badQ (pre.map (·.1)) x.1.1=false:=by unfold badQ;rw[List.getLast?_map,hl];rfl
    rw[hbq,if_neg (by simp)] at hto
    conv=>whnf
    refine .p nob (.take 0 (.take 1 (.take 2 (.take 3 (.take 4 (.take 5 (.take 6 (.take 7 (.take 8 (.take 9 (.take 10 (.take 11 (.take 12 (.take 13 (.take 14 (.take 15 .done)))))))))))))))) (λ_ h=>h.elim) (by kernel_rfl) ?_
    conv=>whnf
    refine⟨id,_,cel_of hlv rfl,?_⟩
    conv=>whnf
    refine⟨rfl,λh=>absurd h (by rw[hp0];decide),λ_=>?_⟩
    conv=>whnf
    refine .p2 (λk=>(Value.slice va pre.length vc).ownBlock=some k) (λk=>(k=lb∨k=eb)∨(Value.slice va pre.length vc).ownBlock=some k) (λi=>Nat.beq i 9||Nat.beq i 10) (.take 0 (.take 1 (.ptake 4 (.take 5 (.take 6 (.take 7 (.take 8 (.one 2 (.one 3 (.sw (.one 9 (.one 10 .done)))))))))))) (λ_ h=>.inr h) (λ_ h=>.inl h) (by kernel_rfl) ?_
    conv=>whnf
    refine⟨hvl,_,cel_of hlv rfl,?_⟩
    conv=>whnf
    refine⟨hgv,ylL x,rfl,Zw 1,CellsAt.at hg,?_⟩
    conv=>whnf
    refine⟨λe=>e.elim (λe=>by omega) hvs,_,cel_of hsc.src rfl,?_⟩
    conv=>whnf
    refine⟨rfl,((s.length-x.2.1.length:Nat):Int),by rw[S_size,S_size,wr64 (by omega) (by omega)];omega,?_⟩
    conv=>whnf
    refine⟨rfl,?_⟩
    intro H9 r f9 _
    have how9:=how.q f9.e
    have hs9:=f9.e.1
    conv=>whnf
    refine .el2 (ylL x) (by kernel_rfl) how9 (CellsAt.new (cs:=ylL x) f9) rfl (by simp[ylL,oneCell]) (by omega) (by omega) (λk hk=>.inl hk) ?_
    intro v10 H10 ho10 e10 _ _
    conv=>whnf
    refine .var (by kernel_rfl) (e10.blkT (f9.e.blk hlv) hvl) (.inl (.inl (.inl rfl))) ho10.slc ?_
    intro H11 u11 _
    conv=>whnf
    refine .var (by kernel_rfl) (u11.e.blkT (e10.blkT (f9.e.blk hsc.fin) hve) (λe=>by omega)) (.inl (.inl (.inr rfl))) ⟨rfl,rfl⟩ ?_
    intro H12 u12 _
    exact fin hto f9 ho10 e10 u11 u12
   |some z=>
    have hbq:badQ (pre.map (·.1)) x.1.1=decide (x.1.1≠z.1.1+1):=by unfold badQ;rw[List.getLast?_map,hl];rfl
    rw[hbq] at hto
    have hpp:0<pre.length:=by cases hpe:pre with|nil=>rw[hpe] at hl;cases hl|cons=>simp
    have hlz:pre[pre.length-1]? =some z:=by rw[←List.getLast?_eq_getElem?];exact hl
    have hzq:=hsq z (Qj hlz)
    obtain⟨ba,rfl,hcz⟩:∃ba,va=some ⟨ba,0,none⟩∧CellsAt H' ba (0+(pre.length-1)*2) (ylL z):=by
     rcases how.blk with ⟨_,e0⟩|⟨gg,cap',cs,e,_⟩
     ·omega
     ·injection e with e1;subst e1
      obtain⟨ad,cap2,e2,_,h2⟩:=(how.rw (ls:=pre.map ylL) rfl (by simp)).at (f:=ylL) (sz:=2) (λ_=>rfl)
      injection e2 with e3
      obtain⟨b2,o2,e4,h4⟩:=h2 _ z hlz
      rw[←e3] at e4
      cases e4
      exact⟨gg,rfl,h4⟩
    have hw1:IntKind.i64.wrap ((pre.length:Int)-1)=((pre.length-1:Nat):Int):=by rw[wr64 (by omega) (by omega)];omega
    conv=>whnf
    refine .p nob (.take 0 (.take 1 (.take 2 (.take 3 (.take 4 (.take 5 (.take 6 (.take 7 (.take 8 (.take 9 (.take 10 (.take 11 (.take 12 (.take 13 (.take 14 (.take 15 .done)))))))))))))))) (λ_ h=>h.elim) (by kernel_rfl) ?_
    conv=>whnf
    refine⟨id,_,cel_of hlv rfl,?_⟩
    conv=>whnf
    refine⟨rfl,λ_=>?_,λh=>absurd (QK.2 hpp) h⟩
    conv=>whnf
    refine⟨id,_,cel_of hg rfl,?_⟩
    conv=>whnf
    refine⟨id,_,cel_of hlv rfl,?_⟩
    conv=>whnf
    refine⟨id,_,cel_of hlv rfl,?_⟩
    conv=>whnf
    refine⟨rfl,_,hw1,?_⟩
    conv=>whnf
    refine⟨pre.length-1,rfl,by omega,?_⟩
    conv=>whnf
    refine⟨id,_,hcz.1,?_⟩
    conv=>whnf
    refine⟨rfl,_,wr64 (by omega) (by omega),?_⟩
    conv=>whnf
    refine⟨rfl,λh=>?_,λh=>?_⟩
    ·rw[if_pos (by simpa using h)] at hto
     exact⟨rfl,pre,n,hto,by omega,λy hy=>(hsq y hy).2.2,hsc⟩
    ·rw[if_neg (by simpa using h)] at hto
     conv=>whnf
     refine .p2 (λk=>(Value.slice (some ⟨ba,0,none⟩) pre.length vc).ownBlock=some k) (λk=>(k=lb∨k=eb)∨(Value.slice (some ⟨ba,0,none⟩) pre.length vc).ownBlock=some k) (λi=>Nat.beq i 9||Nat.beq i 10) (.take 0 (.take 1 (.ptake 4 (.take 5 (.take 6 (.take 7 (.take 8 (.one 2 (.one 3 (.sw (.one 9 (.one 10 .done)))))))))))) (λ_ h=>.inr h) (λ_ h=>.inl h) (by kernel_rfl) ?_
     conv=>whnf
     refine⟨hvl,_,cel_of hlv rfl,?_⟩
     conv=>whnf
     refine⟨hgv,ylL x,rfl,Zw 1,CellsAt.at hg,?_⟩
     conv=>whnf
     refine⟨λe=>e.elim (λe=>by omega) hvs,_,cel_of hsc.src rfl,?_⟩
     conv=>whnf
     refine⟨rfl,((s.length-x.2.1.length:Nat):Int),by rw[S_size,S_size,wr64 (by omega) (by omega)];omega,?_⟩
     conv=>whnf
     refine⟨rfl,?_⟩
     intro H9 r f9 _
     have how9:=how.q f9.e
     have hs9:=f9.e.1
     conv=>whnf
     refine .el2 (ylL x) (by kernel_rfl) how9 (CellsAt.new (cs:=ylL x) f9) rfl (by simp[ylL,oneCell]) (by omega) (by omega) (λk hk=>.inl hk) ?_
     intro v10 H10 ho10 e10 _ _
     conv=>whnf
     refine .var (by kernel_rfl) (e10.blkT (f9.e.blk hlv) hvl) (.inl (.inl (.inl rfl))) ho10.slc ?_
     intro H11 u11 _
     conv=>whnf
     refine .var (by kernel_rfl) (u11.e.blkT (e10.blkT (f9.e.blk hsc.fin) hve) (λe=>by omega)) (.inl (.inl (.inr rfl))) ⟨rfl,rfl⟩ ?_
     intro H12 u12 _
     exact fin hto f9 ho10 e10 u11 u12
 ·rintro xs H' hS ⟨n,⟨q,hq,hto⟩,hpl,hsq,hsc⟩ hF
  cases q with
  |zero=>omega
  |succ q=>
  rw[scanF,if_pos hS] at hto
  have hxl:xs.length≤s.length:=by omega
  have hxc:∀x∈xs,∀c∈x.1.2,chOk c:=λx hx=>(hsq x hx).2.2
  obtain⟨v,hlv,how⟩:=hsc.row
  obtain⟨va,vc,rfl⟩:=how.form
  subst hto
  conv=>whnf
  refine .p nob (.take 0 (.take 1 (.take 2 (.take 3 .done)))) (λ_ h=>h.elim) (by kernel_rfl) ?_
  conv=>whnf
  refine⟨id,_,cel_of hlv rfl,?_⟩
  conv=>whnf
  refine⟨id,_,cel_of hsc.fin rfl,?_⟩
  refine⟨λH3 hN=>⟨xs,rfl,_,rfl,(how.low (by omega)).nc hN,hxl,λx hx=>⟨((hsc.gr x hx).low (by omega)).nc hN,hxc x hx⟩⟩⟩
 ·rintro _ H' ⟨pre,n,hto,hxl,hxc,hsc⟩ hF
  obtain⟨v,hlv,how⟩:=hsc.row
  obtain⟨va,vc,rfl⟩:=how.form
  subst hto
  conv=>whnf
  refine .p nob (.take 0 (.take 1 (.take 2 (.take 3 .done)))) (λ_ h=>h.elim) (by kernel_rfl) ?_
  conv=>whnf
  refine⟨id,_,cel_of hlv rfl,?_⟩
  conv=>whnf
  refine⟨id,_,cel_of hsc.fin rfl,?_⟩
  refine⟨λH3 hN=>⟨pre,rfl,_,rfl,(how.low (by omega)).nc hN,hxl,λx hx=>⟨((hsc.gr x hx).low (by omega)).nc hN,hxc x hx⟩⟩⟩
attribute [irreducible] scanV scanF
abbrev Pr:=By×By
def prL(p:Pr):List Value:=[.string (S p.1),.string (S p.2)]
def prOk(p:Pr):Prop:=p.1.length≤65535∧p.2.length≤65535
def pcg(p:Pr):Chg:=⟨p.1,p.2,false⟩
theorem s_dput(p:Pr)(H:Heap):Spec prog 135 #[.agg (prL p).toArray] H nob λu _=>u=.agg (cgL (pcg p)).toArray:=by
 refine spx func135 ?_
 conv=>whnf
 intro H1 a f1 _
 have ha1:H1[a]? =some (.cells (prL p).toArray 156 (0,0)):=f1.at
 have h1:=f1.size
 intro H2 b f2 _
 have ha2:=f2.e.blk ha1
 refine go ?_
 conv=>whnf
 refine⟨rfl,?_⟩
 conv=>whnf
 refine .k (cgL (pcg p)) (f2.at) (.inr (by have:=f2.size;show H.size≤b;omega)) rfl rfl ?_
 intro H3 u3 _
 refine⟨?_⟩
 conv=>whnf
 refine⟨cgL (pcg p),rfl,CellsAt.at u3.1,?_⟩
 exact rfl
def aloneV(c:Chg):Bool:=decide (fchkV [c]=0)
theorem s_alone{c:Chg}(hc:chOk c)(H:Heap):Spec prog 84 #[.agg (cgL c).toArray] H nob λu _=>u=.bool (aloneV c):=by
 unfold aloneV
 refine spx func84 ?_
 conv=>whnf
 intro H1 a f1 _
 have ha1:H1[a]? =some (.cells (cgL c).toArray 158 (0,0)):=f1.at
 conv=>whnf
 refine⟨cgL c,rfl,CellsAt.at ha1,?_⟩
 conv=>whnf
 refine⟨rfl,?_⟩
 intro H2 b f2 _
 have hrw:Rw H2 (.slice (some ⟨b,0,none⟩) 1 1) ([c].map cgL):=.inr ⟨b,0,1,rfl,Qd _,CellsAt.new (cs:=cgL c) f2⟩
 have hck:=s_fcheck hrw (by simpa using hc) (Nat.le_of_ble_eq_true rfl)
 refine Qh (⟨_,rfl⟩:∃x,fchkV [c]=x) λx hx=>?_
 rw[hx] at hck
 conv=>whnf
 refine .q (hck) ?_
 rintro _ H3 rfl e3 _
 conv=>whnf
 refine⟨rfl,λh=>?_,λh=>?_⟩
 ·exact⟨by show Value.bool true=_;rw[hx,h];rfl⟩
 ·exact⟨by show Value.bool false=_;rw[hx];simp[h]⟩
def mayF:Option By→List Pr→Bool
 |_,[]=>true
 |pv,p::r=>if(match pv with|none=>false|some k=>!Op.bytesLess k p.1)=true then false else if aloneV (pcg p)=false then false else mayF (some p.1) r
def mayV(l:List Pr):Bool:=mayF none l
attribute [irreducible] aloneV
theorem S_toList(s:By):(S s).toList=s:=by rw[ByteArray.toList_eq];rfl
theorem s_dmay{H:Heap}{v:Value}{l:List Pr}(hv:Rw H v (l.map prL))(ho:∀p∈l,prOk p)(hl:l.length≤1000000000):Spec prog 82 #[v] H nob λu _=>u=.bool (mayV l):=by
 obtain⟨tot,htot⟩:∃t,mayV l=t:=⟨_,rfl⟩
 rw[htot]
 unfold mayV at htot
 obtain⟨ad,cap,rfl,_,hw⟩:=hv.at (f:=prL) (sz:=2) (λ_=>rfl)
 refine spx func82 ?_
 conv=>whnf
 refine⟨Nat×List Pr,λx=>[(7,.int .i64 (x.1:Int))],λx H'=>x.1+x.2.length=l.length∧l.drop x.1=x.2∧mayF (match x.1 with|0=>none|i+1=>(l[i]?).map (·.1)) x.2=tot∧Frm nob H H',λx=>x.2.length,
  ⟨(0,l),⟨rfl,trivial⟩,by simp,rfl,htot,Frm.refl _ _⟩,?_⟩
 rintro⟨i,r⟩ H2 junk ⟨hi,hd,ht,hF⟩ F
 dsimp only at hi hd ht
 have F':H.size≤H2.size:=F.1
 cases r with
 |nil=>
  have ht':true=tot:=by rw[←ht];unfold mayF;rfl
  conv=>whnf
  refine⟨rfl,λh5=>absurd h5 (by show ¬(i:Int)<(l.length:Int);simp at hi;omega),λh5=>?_⟩
  exact⟨by show Value.bool true=_;rw[ht']⟩
 |cons p r=>
  obtain⟨hy,hd'⟩:=drop_cons hd
  obtain⟨b,o,rfl,hc⟩:=hw i p hy
  have h':i<l.length:=(Qe.1 hy).1
  have hco:=ho p (Qj hy)
  have hal:=λX=>(s_alone (c:=pcg p) hco X).imp (R':=λu H'=>u=.bool (aloneV (pcg p))∧True) λ_ _ h=>⟨h,trivial⟩
  have hnx:(match i+1 with|0=>none|j+1=>(l[j]?).map (·.1))=some p.1:=by show(l[i]?).map (·.1)=_;rw[hy];rfl
  unfold mayF at ht
  generalize aloneV (pcg p)=al at hal ht
  cases i with
  |zero=>
   rw[if_neg (by simp)] at ht
   conv=>whnf
   refine⟨rfl,λh5=>?_,λh5=>absurd (QK.2 h') h5⟩
   conv=>whnf
   refine⟨0,rfl,h',?_⟩
   conv=>whnf
   refine⟨prL p,rfl,cells_keep hF id hc,?_⟩
   conv=>whnf
   intro H3 g f3 _
   have hgs:=f3.size
   conv=>whnf
   refine .k (prL p) (f3.at) (.inr (by show H.size≤g;omega)) rfl rfl ?_
   intro H4 u4 _
   have hg4:H4[g]? =some (.cells (prL p).toArray 156 (0,0)):=u4.1
   have hF4:Frm nob H2 H4:=f3.e.upd u4 (by omega)
   conv=>whnf
   refine .p nob (.take 0 (.take 1 (.take 2 (.take 3 (.take 4 (.take 5 (.take 6 (.take 7 (.take 8 (.take 9 (.take 10 (.take 11 (.take 12 (.take 13 (.take 14 (.one 15 (.one 16 (.take 17 (.take 18 .done))))))))))))))))))) (λ_ h=>h.elim) (by kernel_rfl) ?_
   conv=>whnf
   refine⟨rfl,λh=>absurd h (by show ¬(0:Int)<((0:Nat):Int);decide),λ_=>?_⟩
   conv=>whnf
   refine⟨id,prL p,rfl,Zw 1,CellsAt.at hg4,?_⟩
   conv=>whnf
   refine .q (s_dput p H4) ?_
   rintro _ H5 rfl e5 _
   conv=>whnf
   refine .tb (hal H5) (λ_ h=>h.elim) (λhb=>?_) (λhb=>?_)
   ·rw[hb,if_neg (by simp)] at ht
    rintro H6 _ e6 _
    refine go ?_
    exact⟨(0+1,r),⟨rfl,trivial⟩,⟨by simp at hi⊢;omega,hd',by rw[hnx];exact ht,((hF.trans hF4).trans e5).trans e6⟩,by show r.length<r.length+1;omega⟩
   ·rw[if_pos hb] at ht
    rintro H6 _ e6 _
    exact⟨by show Value.bool false=_;rw[ht]⟩
  |succ k=>
   obtain⟨z,hz⟩:∃z,l[k]? =some z:=⟨l[k]'(by omega),Qc _⟩
   have hcz:=hw k z hz
   obtain⟨b2,o2,e2,hcz⟩:=hcz
   cases e2
   have ht:(if(!Op.bytesLess z.1 p.1)=true then false else if al=false then false else mayF (some p.1) r)=tot:=by
    rw[←ht];show _=(if(match(l[k]?).map (·.1) with|none=>false|some k=>!Op.bytesLess k p.1)=true then _ else _);rw[hz];rfl
   have hw1:IntKind.i64.wrap (((k+1:Nat):Int)-1)=(k:Int):=by rw[wr64 (by omega) (by omega)];omega
   conv=>whnf
   refine⟨rfl,λh5=>?_,λh5=>absurd (QK.2 h') h5⟩
   conv=>whnf
   refine⟨(k+1),rfl,h',?_⟩
   conv=>whnf
   refine⟨prL p,rfl,cells_keep hF id hc,?_⟩
   conv=>whnf
   intro H3 g f3 _
   have hgs:=f3.size
   conv=>whnf
   refine .k (prL p) (f3.at) (.inr (by show H.size≤g;omega)) rfl rfl ?_
   intro H4 u4 _
   have hg4:H4[g]? =some (.cells (prL p).toArray 156 (0,0)):=u4.1
   have hF4:Frm nob H2 H4:=f3.e.upd u4 (by omega)
   conv=>whnf
   refine .p nob (.take 0 (.take 1 (.take 2 (.take 3 (.take 4 (.take 5 (.take 6 (.take 7 (.take 8 (.take 9 (.take 10 (.take 11 (.take 12 (.take 13 (.take 14 (.one 15 (.one 16 (.take 17 (.take 18 .done))))))))))))))))))) (λ_ h=>h.elim) (by kernel_rfl) ?_
   conv=>whnf
   refine⟨rfl,λ_=>?_,λh=>absurd (show(0:Int)<((k+1:Nat):Int) by omega) h⟩
   conv=>whnf
   refine⟨rfl,_,hw1,?_⟩
   conv=>whnf
   refine⟨k,rfl,by omega,?_⟩
   conv=>whnf
   refine⟨id,_,(hF.trans hF4).cel hcz.1,?_⟩
   conv=>whnf
   refine⟨id,_,cel_of hg4 rfl,?_⟩
   conv=>whnf
   refine⟨λh6=>?_,λh6=>?_⟩
   ·rw[S_toList,S_toList] at h6
    rw[if_pos (by rw[h6];rfl)] at ht
    exact⟨by show Value.bool false=_;rw[ht]⟩
   ·rw[S_toList,S_toList] at h6
    rw[if_neg (by rw[h6];simp)] at ht
    conv=>whnf
    refine⟨id,prL p,rfl,Zw 1,CellsAt.at hg4,?_⟩
    conv=>whnf
    refine .q (s_dput p H4) ?_
    rintro _ H5 rfl e5 _
    conv=>whnf
    refine .tb (hal H5) (λ_ h=>h.elim) (λhb=>?_) (λhb=>?_)
    ·rw[hb,if_neg (by simp)] at ht
     rintro H6 _ e6 _
     refine go ?_
     exact⟨((k+1)+1,r),⟨rfl,trivial⟩,⟨by simp at hi⊢;omega,hd',by rw[hnx];exact ht,((hF.trans hF4).trans e5).trans e6⟩,by show r.length<r.length+1;omega⟩
    ·rw[if_pos hb] at ht
     rintro H6 _ e6 _
     exact⟨by show Value.bool false=_;rw[ht]⟩
attribute [irreducible] mayV
theorem s_find1(p:Pr)(k:By)(H:Heap):Spec prog 138 #[.agg (prL p).toArray,.string (S k)] H nob λu _=>u=.int .i64 (Lib.compareBytes p.1 k):=by
 refine spx func138 ?_
 conv=>whnf
 intro H1 a f1 _
 have ha1:H1[a]? =some (.cells (prL p).toArray 156 (0,0)):=f1.at
 refine go ?_
 conv=>whnf
 refine .q (s_scmp (S p.1) (S k) H1) ?_
 rintro _ _ ⟨rfl,rfl⟩ _ _
 exact⟨rfl⟩
theorem s_get1(p:Pr)(k:By){b:Nat}{H:Heap}(hb:H[b]? =some (.cells #[.string (S k)] 9 (0,0))):Spec prog 264 #[.agg (prL p).toArray,ptr b 0] H nob λu _=>u=.bool (decide (p.1=k)):=by
 refine spx func264 ?_
 conv=>whnf
 intro H1 a f1 _
 have ha1:H1[a]? =some (.cells (prL p).toArray 156 (0,0)):=f1.at
 have hb1:=f1.e.blk hb
 refine go ?_
 conv=>whnf
 refine⟨λh=>?_,λh=>?_⟩
 ·exact⟨by show Value.bool true=_;rw[QO (S_inj h)]⟩
 ·exact⟨by show Value.bool false=_;rw[QM (λe=>h (by rw[e]))]⟩
def bsF(l:List Pr)(k:By):Nat→Nat→Nat→Nat
 |0,i,_=>i
 |q+1,i,j=>if i<j then if Lib.compareBytes (l.getD ((i+j)/2) ([],[])).1 k<0 then bsF l k q ((i+j)/2+1) j else bsF l k q i ((i+j)/2) else i
def findV(l:List Pr)(k:By):Nat×Bool:=(bsF l k l.length 0 l.length,decide (bsF l k l.length 0 l.length<l.length∧Lib.compareBytes (l.getD (bsF l k l.length 0 l.length) ([],[])).1 k=0))
theorem bsF_le(l:List Pr)(k:By):∀(q i j:Nat),i≤j→i≤bsF l k q i j∧bsF l k q i j≤j
 |0,i,j,h=>⟨Qd _,h⟩
 |q+1,i,j,h=>by
  unfold bsF
  split
  ·split
   ·have:=bsF_le l k q ((i+j)/2+1) j (by omega);omega
   ·have:=bsF_le l k q i ((i+j)/2) (by omega);omega
  ·omega
theorem findV_le(l:List Pr)(k:By):(findV l k).1≤l.length∧((findV l k).2=true→(findV l k).1<l.length):=by
 unfold findV
 have:=bsF_le l k l.length 0 l.length (Qk _)
 exact⟨this.2,λh=>(Zl h).1⟩
theorem s_bsearch{H:Heap}{v:Value}{l:List Pr}(hv:Rw H v (l.map prL))(hl:l.length≤1000000000)(k:By):Spec prog 137 #[v,.string (S k),.func (.func 138) #[] #[]] H nob λu _=>u=.tuple #[.int .i64 ((findV l k).1:Int),.bool (findV l k).2]:=by
 obtain⟨tot,htot⟩:∃t,findV l k=t:=⟨_,rfl⟩
 rw[htot]
 unfold findV at htot
 obtain⟨z,hz⟩:∃t,bsF l k l.length 0 l.length=t:=⟨_,rfl⟩
 have hzl:=(bsF_le l k l.length 0 l.length (Qk _)).2
 rw[hz] at htot hzl
 obtain⟨ad,cap,rfl,_,hw⟩:=hv.at (f:=prL) (sz:=2) (λ_=>rfl)
 have hat:∀i,i<l.length→l[i]? =some (l.getD i ([],[])):=λi hi=>by rw[Ql,Qc hi];rfl
 refine spx func137 ?_
 conv=>whnf
 refine⟨Nat×Nat×Nat,λx=>[(9,.int .i64 (x.2.1:Int)),(10,.int .i64 (x.2.2:Int))],λx H'=>x.2.1≤x.2.2∧x.2.2≤l.length∧x.2.2≤x.2.1+x.1∧bsF l k x.1 x.2.1 x.2.2=z∧Frm nob H H',λx=>x.2.2-x.2.1,
  ⟨(l.length,0,l.length),⟨rfl,rfl,trivial⟩,Qk _,Qd _,by simp,hz,Frm.refl _ _⟩,?_⟩
 rintro⟨q,i,j⟩ H2 junk ⟨hij,hjl,hq,hb,hF⟩ F
 dsimp only at hij hjl hq hb
 by_cases hlt:i<j
 ·obtain⟨m,hm⟩:∃m,(i+j)/2=m:=⟨_,rfl⟩
  have hy:=hat m (by omega)
  obtain⟨b,o,rfl,hc⟩:=hw m _ hy
  cases q with
  |zero=>omega
  |succ q=>
  rw[bsF,if_pos hlt,hm] at hb
  have hs0:IntKind.i64.wrap ((i:Int)+(j:Int))=(i:Int)+(j:Int):=wr64 (by omega) (by omega)
  have hs1:IntKind.u64.wrap ((i:Int)+(j:Int))=((i+j:Nat):Int):=by rw[IntKind.wrap_u64];omega
  have hs2:((i+j:Nat):Int).fdiv (2^min (Int.toNat 1) IntKind.u64.bits)=(m:Int):=by
   rw[show(2:Int)^min (Int.toNat 1) IntKind.u64.bits=2 by decide,Int.fdiv_eq_ediv_of_nonneg _ (by decide)];omega
  have hs3:IntKind.i64.wrap (m:Int)=(m:Int):=wr64 (by omega) (by omega)
  have hcm:=λX=>s_find1 (l.getD m ([],[])) k X
  generalize Lib.compareBytes (l.getD m ([],[])).1 k=cm at hb hcm
  conv=>whnf
  refine⟨rfl,λ_=>?_,λh=>absurd (QK.2 hlt) h⟩
  conv=>whnf
  refine⟨rfl,_,hs0,?_⟩
  conv=>whnf
  refine⟨_,hs1,?_⟩
  conv=>whnf
  refine⟨by decide,_,hs2,?_⟩
  conv=>whnf
  refine⟨_,hs3,?_⟩
  conv=>whnf
  refine⟨m,rfl,by omega,?_⟩
  conv=>whnf
  refine⟨prL (l.getD m ([],[])),rfl,cells_keep hF id hc,?_⟩
  conv=>whnf
  refine .q (hcm H2) ?_
  rintro _ H3 rfl e3 _
  conv=>whnf
  refine⟨rfl,λh6=>?_,λh6=>?_⟩
  ·rw[if_pos h6] at hb
   refine go ?_
   exact⟨(q,m+1,j),⟨rfl,rfl,trivial⟩,⟨by show m+1≤j;omega,hjl,by show j≤m+1+q;omega,hb,hF.trans e3⟩,by show j-(m+1)<j-i;omega⟩
  ·rw[if_neg h6] at hb
   conv=>whnf
   exact⟨(q,i,m),⟨rfl,rfl,trivial⟩,⟨by show i≤m;omega,by show m≤l.length;omega,by show m≤i+q;omega,hb,hF.trans e3⟩,by show m-i<j-i;omega⟩
 ·have hb':i=z:=by
   cases q with
   |zero=>exact hb
   |succ q=>rw[bsF,if_neg hlt] at hb;exact hb
  subst hb'
  conv=>whnf
  refine⟨rfl,λh=>absurd (QK.1 h) hlt,λ_=>?_⟩
  by_cases hn:i<l.length
  ·have hy:=hat i hn
   obtain⟨b,o,rfl,hc⟩:=hw i _ hy
   have hcm:=λX=>s_find1 (l.getD i ([],[])) k X
   generalize Lib.compareBytes (l.getD i ([],[])).1 k=cm at htot hcm
   conv=>whnf
   refine⟨rfl,λ_=>?_,λh=>absurd (QK.2 hn) h⟩
   conv=>whnf
   refine⟨i,rfl,hn,?_⟩
   conv=>whnf
   refine⟨prL (l.getD i ([],[])),rfl,cells_keep hF id hc,?_⟩
   conv=>whnf
   refine .q (hcm H2) ?_
   rintro _ H3 rfl e3 _
   conv=>whnf
   refine⟨rfl,λh6=>?_,λh6=>?_⟩
   ·subst htot
    exact⟨by show Value.tuple _=Value.tuple _;rw[QO ⟨hn,h6⟩];rfl⟩
   ·subst htot
    exact⟨by show Value.tuple _=Value.tuple _;rw[QM (λe=>h6 e.2)];rfl⟩
  ·conv=>whnf
   refine⟨rfl,λh=>absurd (QK.1 h) hn,λ_=>?_⟩
   subst htot
   exact⟨by show Value.tuple _=Value.tuple _;rw[QM (λe=>hn e.1)];rfl⟩
theorem s_dfind{H:Heap}{v:Value}{l:List Pr}(hv:Rw H v (l.map prL))(hl:l.length≤1000000000)(k:By):Spec prog 85 #[v,.string (S k)] H nob λu _=>u=.tuple #[.int .i64 ((findV l k).1:Int),.bool (findV l k).2]:=by
 have hb:=s_bsearch hv hl k
 generalize findV l k=f at hb⊢
 refine spx func85 ?_
 conv=>whnf
 refine .q (hb) ?_
 rintro _ _ rfl _ _
 exact⟨rfl⟩
attribute [irreducible] findV
def dgetF(k:By):List Pr→Option By
 |[]=>none
 |p::r=>if p.1=k then some p.2 else dgetF k r
def dixF(k:By):List Pr→Nat→Int
 |[],_=> -1
 |p::r,i=>if p.1=k then(i:Int) else dixF k r (i+1)
theorem s_gidx{H:Heap}{v:Value}{l:List Pr}(hv:Rw H v (l.map prL))(hl:l.length≤1000000000)(k:By){b:Nat}(hb:H[b]? =some (.cells #[.string (S k)] 9 (0,0))):Spec prog 263 #[v,.func (.func 264) #[] #[ptr b 0]] H nob λu _=>u=.int .i64 (dixF k l 0):=by
 obtain⟨tot,htot⟩:∃t,dixF k l 0=t:=⟨_,rfl⟩
 rw[htot]
 obtain⟨ad,cap,rfl,_,hw⟩:=hv.at (f:=prL) (sz:=2) (λ_=>rfl)
 refine spx func263 ?_
 conv=>whnf
 refine⟨Nat×List Pr,λx=>[(8,.int .i64 (x.1:Int))],λx H'=>x.1+x.2.length=l.length∧l.drop x.1=x.2∧dixF k x.2 x.1=tot∧Frm nob H H',λx=>x.2.length,
  ⟨(0,l),⟨rfl,trivial⟩,by simp,rfl,htot,Frm.refl _ _⟩,?_⟩
 rintro⟨i,r⟩ H2 junk ⟨hi,hd,ht,hF⟩ F
 dsimp only at hi hd ht
 cases r with
 |nil=>
  conv=>whnf
  refine⟨rfl,λh5=>absurd h5 (by show ¬(i:Int)<(l.length:Int);simp at hi;omega),λh5=>?_⟩
  subst ht
  exact⟨rfl⟩
 |cons p r=>
  obtain⟨hy,hd'⟩:=drop_cons hd
  obtain⟨ba,o,rfl,hc⟩:=hw i p hy
  have h':i<l.length:=(Qe.1 hy).1
  have hg:=(s_get1 p k (hF.blk hb)).imp (R':=λu H'=>u=.bool (decide (p.1=k))∧True) λ_ _ h=>⟨h,trivial⟩
  unfold dixF at ht
  conv=>whnf
  refine⟨rfl,λh5=>?_,λh5=>absurd (QK.2 h') h5⟩
  conv=>whnf
  refine⟨i,rfl,h',?_⟩
  conv=>whnf
  refine⟨prL p,rfl,cells_keep hF id hc,?_⟩
  conv=>whnf
  refine .tb hg (λ_ h=>h.elim) (λhb=>?_) (λhb=>?_)
  ·rw[if_pos (Zl hb)] at ht
   rintro H3 _ e3 _
   subst ht
   exact⟨rfl⟩
  ·rw[if_neg (of_decide_eq_false hb)] at ht
   rintro H3 _ e3 _
   refine go ?_
   exact⟨(i+1,r),⟨rfl,trivial⟩,⟨by simp at hi⊢;omega,hd',ht,hF.trans e3⟩,by show r.length<r.length+1;omega⟩
theorem dixF_get(k:By):∀(l:List Pr) (i:Nat),(dixF k l i= -1∧dgetF k l=none)∨∃j p,l[j]? =some p∧dixF k l i=((i+j:Nat):Int)∧dgetF k l=some p.2
 |[],_=>.inl ⟨rfl,rfl⟩
 |p::r,i=>by
  unfold dixF dgetF
  split
  ·exact .inr ⟨0,p,rfl,rfl,rfl⟩
  ·rcases dixF_get k r (i+1) with h|⟨j,q,h1,h2,h3⟩
   ·exact .inl h
   ·exact .inr ⟨j+1,q,by simpa using h1,by rw[h2];omega,h3⟩
theorem s_dget{H:Heap}{v:Value}{l:List Pr}(hv:Rw H v (l.map prL))(hl:l.length≤1000000000)(k:By):Spec prog 216 #[v,.string (S k)] H nob λu _=>u=match dgetF k l with|none=>.tuple #[.string (S []),.bool false]|some x=>.tuple #[.string (S x),.bool true]:=by
 have hix:=dixF_get k l 0
 have hgx:=λ{X:Heap} (e:Frm nob H X) {b:Nat} (hb:X[b]? =some (.cells #[.string (S k)] 9 (0,0)))=>s_gidx (hv.q e) hl k hb
 generalize dixF k l 0=ix at hix hgx
 generalize dgetF k l=dg at hix⊢
 obtain⟨ad,cap,rfl,_,hw⟩:=hv.at (f:=prL) (sz:=2) (λ_=>rfl)
 rcases hix with ⟨rfl,rfl⟩|⟨j,p,hj,rfl,rfl⟩
 ·refine spx func216 ?_
  conv=>whnf
  intro H1 b f1 _
  conv=>whnf
  refine .q (hgx f1.e f1.at) ?_
  rintro _ H2 rfl e2 _
  conv=>whnf
  refine⟨rfl,λ_=>?_,λh=>absurd (by decide) h⟩
  exact⟨rfl⟩
 ·obtain⟨ba,o,rfl,hc⟩:=hw j p hj
  rw[Qr] at hgx
  refine spx func216 ?_
  conv=>whnf
  intro H1 b f1 _
  conv=>whnf
  refine .q (hgx f1.e f1.at) ?_
  rintro _ H2 rfl e2 _
  conv=>whnf
  refine⟨rfl,λh=>absurd h (by show ¬(j:Int)<0;omega),λ_=>?_⟩
  conv=>whnf
  refine⟨j,rfl,(Qe.1 hj).1,?_⟩
  conv=>whnf
  refine⟨_,(f1.e.trans e2).cel hc.2.1,?_⟩
  exact⟨rfl⟩
theorem one_cell'{y:Value}(h:oneCell y=true):y.oneCell'=true:=by cases y<;>first|rfl|cases h
def clB(P:Program)(e:TypeId)(sz:Nat):Bool:=match P.info? e with
 |some i=>match i.zero with
  |some z=>Nat.beq i.size sz&&Nat.ble i.bytes 128&&Nat.beq z.cells.size sz&&Nat.blt 0 sz
  |none=>false
 |none=>false
theorem s_clone{ρ:Go.Shelf.Ren}(L:Go.Proofs.SlLaysE0.n41 prog ρ){f e sz:Nat}(hf:ρ.f 41=f)(he:ρ.t 23=e)(hcl:clB prog e sz=true)
  (hsz:∀w,(Go.sizeOf e).run prog w=.ok sz w) (hg:callB prog f=true) {H:Heap} {v:Value} {ls:List (List Value)} (hv:Rw H v ls) (hl:∀l∈ls,l.length=sz∧∀y∈l,oneCell y=true) (hn:ls.length≤1000000000):
  Spec prog f #[v] H nob λu H'=>Own H' H.size e sz u ls.length ls.flatten:=by
 subst hf he
 unfold clB at hcl
 cases hi:prog.info? (ρ.t 23) with
 |none=>rw[hi] at hcl;cases hcl
 |some i0=>
 cases hz:i0.zero with
 |none=>rw[hi] at hcl;dsimp only at hcl;rw[hz] at hcl;cases hcl
 |some z=>
 rw[hi] at hcl
 dsimp only at hcl
 rw[hz] at hcl
 simp only[QA,Nat.blt_eq,Nat.ble_eq] at hcl
 obtain⟨⟨⟨hs,hb⟩,hzs⟩,h0⟩:=hcl
 replace hs:=QF hs
 replace hzs:=QF hzs
 rcases hv with ⟨rfl,rfl⟩|⟨b,o,cap,rfl,hc,h⟩
 ·exact⟨hg,λw hw=>(AnyE.slices_Clone_nil L 0 0 w).mono λe w' ⟨h1,h2⟩=>by subst h2;exact⟨_,h1,Amb.refl _,by rw[hw];exact Frm.refl _ _,Own.nil _ _ _ _⟩⟩
 ·have hfl:ls.flatten.length=ls.length*sz:=by
   clear h hn hc
   induction ls with
   |nil=>simp
   |cons l r ih=>rw[Ze,Qi,ih λx hx=>hl x (Qu _ hx),(hl l (Qs ..)).1,Qo,Q6,YF]
  refine⟨hg,λw hw=>(AnyE.slices_Clone L i0 z sz i0.bytes hi hz hs rfl hzs h0 hsz b o ls.length cap ls.flatten w hfl (by unfold maxLen;omega) (Qb (YB _ hb) (by omega)) (λj u hj=>by rw[cel_w,hw];exact h.get hj) λu hu=>?_).mono λe w' ⟨v',h1,h2,_,h3⟩=>⟨v',h1,amb_below h3,⟨by rw[←hw];exact h3.size,λk hk _=>by rw[←hw] at hk⊢;exact h3.block k hk⟩,by rw[←hw];exact h2⟩⟩
  obtain⟨l,hlm,hul⟩:=List.mem_flatten.1 hu
  exact one_cell' ((hl l hlm).2 u hul)
def ren83:Go.Shelf.Ren:=⟨λ|41=>83|n=>n,λ|22=>94|23=>156|4=>4|n=>n,λ|n=>n⟩
theorem lay83:Go.Proofs.SlLaysE0.n41 prog ren83:={
 mixed:=by kernel_rfl
 f41:=⟨Tryz.f83.name,by decide,func83.trans (Qf some (by kernel_rfl))⟩
 t4:=underlying4
 a4:=isAgg4
 z4:=sizeOf4
 v4:=zeroValue4
 t22:=underlying94
 a22:=isAgg94
 z22:=sizeOf94
 v22:=zeroValue94}
def ren212:Go.Shelf.Ren:=⟨λ|41=>212|n=>n,λ|22=>93|23=>104|4=>4|n=>n,λ|n=>n⟩
theorem lay212:Go.Proofs.SlLaysE0.n41 prog ren212:={
 mixed:=by kernel_rfl
 f41:=⟨Tryz.f212.name,by decide,func212.trans (Qf some (by kernel_rfl))⟩
 t4:=underlying4
 a4:=isAgg4
 z4:=sizeOf4
 v4:=zeroValue4
 t22:=underlying93
 a22:=isAgg93
 z22:=sizeOf93
 v22:=zeroValue93}
def ren213:Go.Shelf.Ren:=⟨λ|41=>213|n=>n,λ|22=>104|23=>158|4=>4|n=>n,λ|n=>n⟩
theorem lay213:Go.Proofs.SlLaysE0.n41 prog ren213:={
 mixed:=by kernel_rfl
 f41:=⟨Tryz.f213.name,by decide,func213.trans (Qf some (by kernel_rfl))⟩
 t4:=underlying4
 a4:=isAgg4
 z4:=sizeOf4
 v4:=zeroValue4
 t22:=underlying104
 a22:=isAgg104
 z22:=sizeOf104
 v22:=zeroValue104}
theorem s_clonep{H:Heap}{v:Value}{l:List Pr}(hv:Rw H v (l.map prL))(hl:l.length≤1000000000):Spec prog 83 #[v] H nob λu H'=>Own H' H.size 156 2 u l.length (l.map prL).flatten:=by
 have:=s_clone (f:=83) (e:=156) lay83 rfl rfl (sz:=2) (by kernel_rfl) sizeOf156 (by kernel_rfl) hv
  (λx hx=>by obtain⟨p,_,rfl⟩:=Qw.1 hx;exact⟨rfl,by simp[prL,oneCell]⟩) (by simpa using hl)
 simpa using this
theorem s_clonec{H:Heap}{v:Value}{l:List Chg}(hv:Rw H v (l.map cgL))(hl:l.length≤1000000000):Spec prog 213 #[v] H nob λu H'=>Own H' H.size 158 3 u l.length (cgsV l):=by
 have:=s_clone (f:=213) (e:=158) lay213 rfl rfl (sz:=3) (by kernel_rfl) sizeOf158 (by kernel_rfl) hv
  (λx hx=>by obtain⟨p,_,rfl⟩:=Qw.1 hx;exact⟨rfl,oneCg p⟩) (by simpa using hl)
 rw[Qv] at this
 exact this
theorem s_cloneg{H:Heap}{v:Value}{l:List Value}(hv:Rw H v (l.map λx=>[x]))(h1:∀x∈l,oneCell x=true)(hl:l.length≤1000000000):Spec prog 212 #[v] H nob λu H'=>Own H' H.size 104 1 u l.length l:=by
 have:=s_clone (f:=212) (e:=104) lay212 rfl rfl (sz:=1) (by kernel_rfl) sizeOf104 (by kernel_rfl) hv
  (λx hx=>by obtain⟨p,hp,rfl⟩:=Qw.1 hx;exact⟨rfl,by simpa using h1 p hp⟩) (by simpa using hl)
 have hf:∀l:List Value,(l.map λx=>[x]).flatten=l:=λl=>by induction l with|nil=>rfl|cons a r ih=>rw[QX,Ze,ih];rfl
 rw[hf l,Qv] at this
 exact this
end Go.Proofs.YtjambljmnifknaaGreatDoor.Vc
