/- Part 14 of the proof of TopAny: Iterators: slices.Chunk · maps.Values of a map of intents: its iterator · stripe.Split · slices.Collect over maps.Values · The array's elder contracts, said of heaps; a volume and its array as one thing. -/
import Derived.Test.YtjambljmnifknaaGreatDoorJ03
import Derived.Test.YtjambljmnifknaaGreatDoorJ13
import Derived.Sort.MapsRangeIn
import Derived.Lib.AppendZerosOnto
import Derived.Laws.IdiomCopy
set_option maxRecDepth 100000
set_option maxHeartbeats 80000000
set_option linter.all false
open Go.Proofs.Tryz
namespace Go.Proofs.YtjambljmnifknaaGreatDoor.Vc
open Go Go.RowKit Tp Go.Shelf
attribute [local go_sem] Oper.semAt_some
def chLen(n q k:Nat):Nat:=min q (n-k*q)
def chAt(b o q sz k:Nat)(n:Nat):Value:=.slice (some ⟨b,o+k*q*sz,none⟩) (chLen n q k) (chLen n q k)
def chN(n q:Nat):Nat:=(n+(q-1))/q
theorem KpH.cell{KS:Nat→Prop}{A B:World}(h:KpH KS A B){p:Addr}{v:Value}(hc:A.cell? p=some v)(hn:KS p.block):B.cell? p=some v:=
 (World.cell?_of_block (h p.block hn)).trans hc
theorem chunkb_in(F:Fence)(n:Nat)(h8:F.fn 191)(hro:F.round=none)(hn:1≤n)(l Bs Bq b o len cap q:Nat)(hq:1≤q)(hlen:len≤4611686018427387904)(hq2:q≤4611686018427387904)(hcap:len≤cap)(KS:Nat→Prop)(h1:KS Bs)(h2:KS Bq)(J Jx:List Nat→World→Prop)(hJ:∀s A m,J s A→J s (A.drewN m))
  (hY:∀pre x W,J pre W→pre.length<chN len q→YieldAt F (n-1) prog l #[chAt b o q 1 x len] W λe W'=>
   (e=.returned (.bool true)∧J (pre++[x]) W'∧KpH KS W W')∨(e=.returned (.bool false)∧Jx (pre++[x]) W'))
  (W:World) (hBs:W.cell? ⟨Bs,0,none⟩=some (.slice (some ⟨b,o,none⟩) len cap)) (hBq:W.cell? ⟨Bq,0,none⟩=some (.int .i64 (q:Int))) (h0:J [] W):
  CallsIn F n prog 191 #[.func (.yield l) #[] #[],.pointer (some ⟨Bs,0,none⟩),.pointer (some ⟨Bq,0,none⟩)] W λe W'=>(∃v,e=.returned v)∧
   ((∃xs,xs=List.range (chN len q)∧J xs W')∨(∃pre,True∧Jx pre W')):=by
 refine callsIn_of_wp func191 rfl h8 ?_ hro
 simp only[ntmps191,Q8,Qo,Q0,Nat.reduceAdd,Nat.reduceSub,Q2,Q1,Zd,Q5,QI,QR]
 gi_wp2
 gi_loopw [4] (λi wr=>∃k:Nat,k≤chN len q∧i=.int .i64 ((k*q:Nat):Int)∧J (List.range k) wr∧KpH KS W wr)
  (λi _=>(((len+q:Nat):Int)-intOf i).toNat)
 case atStart=>exact⟨0,Qk _,by simp,h0,λ_ _=>rfl⟩
 case round=>
  obtain⟨k,hk,rfl,hJs,hnx⟩:=hrel
  have hbx:=hnx.cell hBs h1
  have hqx:=hnx.cell hBq h2
  by_cases hlt:k*q<len
  ·have hji:((k*q:Nat):Int)<(len:Int):=by omega
   have hmin:min (q:Int) ((len-k*q:Nat):Int)=((chLen len q k:Nat):Int):=by unfold chLen;omega
   have hch:chLen len q k≤q∧k*q+chLen len q k≤len∧1≤chLen len q k:=by unfold chLen;omega
   have HM:=Qg hmin
   have hkn:k<chN len q:=by
    unfold chN
    rw[Y5 (by omega)]
    omega
   obtain⟨m,hm⟩:∃m,chLen len q k=m:=⟨_,rfl⟩
   obtain⟨i,hi⟩:∃i,k*q=i:=⟨_,rfl⟩
   have HV:=Qg (show chAt b o q 1 k len=.slice (some ⟨b,o+i,none⟩) m m by unfold chAt;rw[hm,hi,ZI])
   rw[hi,hm] at HM hch
   rw[hi] at hlt hji
   rw[hi]
   gi_wp2
   refine wpIn_region_quiet_lit hro (by kernel_rfl) (by kernel_rfl) ?_
   repeat (gi_big_quiet_step (fail))
   refine wpQuietIn_nil ?_
   rintro _ ⟨nq,rfl⟩
   rw[HM.out]
   obtain⟨fn,tmps,assign,body,hy,hR⟩:=hY _ k (wr.drewN nq) (hJ _ _ _ hJs) (by simpa using hkn)
   rw[HV.out] at hy
   have hbx':(wr.drewN nq).cell? ⟨Bs,0,none⟩=some (.slice (some ⟨b,o,none⟩) len cap):=hbx
   have hqx':(wr.drewN nq).cell? ⟨Bq,0,none⟩=some (.int .i64 (q:Int)):=hqx
   clear hbx hqx
   gi_wp2
   refine hR.mono ?_
   rintro e W3 (⟨rfl,hJ3,hk3⟩|⟨rfl,hJx3⟩)
   ·have hqx3:=hk3.cell hqx' h2
    gi_wp2
    go_roundw
    case rel=>exact⟨k+1,hkn,by rw[←hi,Q6];simp,by rw[ZC];exact hJ3,λj hj=>(hk3 j hj).trans (hnx j hj)⟩
    case measure=>simp[intOf];omega
   ·gi_wp2
    refine bodyPost_ret (results_none rfl _ _ _) rfl ?_
    exact⟨⟨_,rfl⟩,.inr ⟨_,trivial,hJx3⟩⟩
  ·have hkn:k=chN len q:=by
    refine Nat.le_antisymm hk ?_
    unfold chN
    rw[Y6 (by omega)]
    omega
   have hji:¬((k*q:Nat):Int)<(len:Int):=by omega
   obtain⟨i,hi⟩:∃i,k*q=i:=⟨_,rfl⟩
   rw[hi] at hji hlt⊢
   gi_wp2
   go_end0
   exact⟨⟨_,rfl⟩,.inl (by rw[←hkn];exact hJs)⟩
theorem chunkp_in(F:Fence)(n:Nat)(h8:F.fn 302)(hro:F.round=none)(hn:1≤n)(l Bs Bq b o len cap q:Nat)(hq:1≤q)(hlen:len≤4611686018427387904)(hq2:q≤4611686018427387904)(hcap:len≤cap)(KS:Nat→Prop)(h1:KS Bs)(h2:KS Bq)(J Jx:List Nat→World→Prop)(hJ:∀s A m,J s A→J s (A.drewN m))
  (hY:∀pre x W,J pre W→pre.length<chN len q→YieldAt F (n-1) prog l #[chAt b o q 2 x len] W λe W'=>
   (e=.returned (.bool true)∧J (pre++[x]) W'∧KpH KS W W')∨(e=.returned (.bool false)∧Jx (pre++[x]) W'))
  (W:World) (hBs:W.cell? ⟨Bs,0,none⟩=some (.slice (some ⟨b,o,none⟩) len cap)) (hBq:W.cell? ⟨Bq,0,none⟩=some (.int .i64 (q:Int))) (h0:J [] W):
  CallsIn F n prog 302 #[.func (.yield l) #[] #[],.pointer (some ⟨Bs,0,none⟩),.pointer (some ⟨Bq,0,none⟩)] W λe W'=>(∃v,e=.returned v)∧
   ((∃xs,xs=List.range (chN len q)∧J xs W')∨(∃pre,True∧Jx pre W')):=by
 refine callsIn_of_wp func302 rfl h8 ?_ hro
 simp only[ntmps302,Q8,Qo,Q0,Nat.reduceAdd,Nat.reduceSub,Q2,Q1,Zd,Q5,QI,QR]
 gi_wp2
 gi_loopw [4] (λi wr=>∃k:Nat,k≤chN len q∧i=.int .i64 ((k*q:Nat):Int)∧J (List.range k) wr∧KpH KS W wr)
  (λi _=>(((len+q:Nat):Int)-intOf i).toNat)
 case atStart=>exact⟨0,Qk _,by simp,h0,λ_ _=>rfl⟩
 case round=>
  obtain⟨k,hk,rfl,hJs,hnx⟩:=hrel
  have hbx:=hnx.cell hBs h1
  have hqx:=hnx.cell hBq h2
  by_cases hlt:k*q<len
  ·have hji:((k*q:Nat):Int)<(len:Int):=by omega
   have hmin:min (q:Int) ((len-k*q:Nat):Int)=((chLen len q k:Nat):Int):=by unfold chLen;omega
   have hch:chLen len q k≤q∧k*q+chLen len q k≤len∧1≤chLen len q k:=by unfold chLen;omega
   have HM:=Qg hmin
   have hkn:k<chN len q:=by
    unfold chN
    rw[Y5 (by omega)]
    omega
   obtain⟨m,hm⟩:∃m,chLen len q k=m:=⟨_,rfl⟩
   obtain⟨i,hi⟩:∃i,k*q=i:=⟨_,rfl⟩
   have HV:=Qg (show chAt b o q 2 k len=.slice (some ⟨b,o+i*2,none⟩) m m by unfold chAt;rw[hm,hi])
   rw[hi,hm] at HM hch
   rw[hi] at hlt hji
   rw[hi]
   gi_wp2
   refine wpIn_region_quiet_lit hro (by kernel_rfl) (by kernel_rfl) ?_
   repeat (gi_big_quiet_step (fail))
   refine wpQuietIn_nil ?_
   rintro _ ⟨nq,rfl⟩
   rw[HM.out]
   obtain⟨fn,tmps,assign,body,hy,hR⟩:=hY _ k (wr.drewN nq) (hJ _ _ _ hJs) (by simpa using hkn)
   rw[HV.out] at hy
   have hbx':(wr.drewN nq).cell? ⟨Bs,0,none⟩=some (.slice (some ⟨b,o,none⟩) len cap):=hbx
   have hqx':(wr.drewN nq).cell? ⟨Bq,0,none⟩=some (.int .i64 (q:Int)):=hqx
   clear hbx hqx
   gi_wp2
   refine hR.mono ?_
   rintro e W3 (⟨rfl,hJ3,hk3⟩|⟨rfl,hJx3⟩)
   ·have hqx3:=hk3.cell hqx' h2
    gi_wp2
    go_roundw
    case rel=>exact⟨k+1,hkn,by rw[←hi,Q6];simp,by rw[ZC];exact hJ3,λj hj=>(hk3 j hj).trans (hnx j hj)⟩
    case measure=>simp[intOf];omega
   ·gi_wp2
    refine bodyPost_ret (results_none rfl _ _ _) rfl ?_
    exact⟨⟨_,rfl⟩,.inr ⟨_,trivial,hJx3⟩⟩
  ·have hkn:k=chN len q:=by
    refine Nat.le_antisymm hk ?_
    unfold chN
    rw[Y6 (by omega)]
    omega
   have hji:¬((k*q:Nat):Int)<(len:Int):=by omega
   obtain⟨i,hi⟩:∃i,k*q=i:=⟨_,rfl⟩
   rw[hi] at hji hlt⊢
   gi_wp2
   go_end0
   exact⟨⟨_,rfl⟩,.inl (by rw[←hkn];exact hJs)⟩
theorem jdrew{J:List Nat→World→Prop}{B:Nat}(h:AbidesFrom B J):∀s A m,J s A→J s (A.drewN m):=λs A m hs=>h s A _ none hs ⟨rfl,rfl,rfl,Qd _,λ_ _ _=>rfl⟩ (λ_ e=>by cases e)
theorem chunkb_stops(Bs Bq b o len cap q:Nat)(hq:1≤q)(hlen:len≤4611686018427387904)(hq2:q≤4611686018427387904)(hcap:len≤cap)(KS:Nat→Prop)(h1:KS Bs)(h2:KS Bq)(w:World)
  (hBs:w.cell? ⟨Bs,0,none⟩=some (.slice (some ⟨b,o,none⟩) len cap)) (hBq:w.cell? ⟨Bq,0,none⟩=some (.int .i64 (q:Int))):
  SeqStopsK Fence.wide 1 prog 191 #[.pointer (some ⟨Bs,0,none⟩),.pointer (some ⟨Bq,0,none⟩)] (λx=>#[chAt b o q 1 x len]) (KpH KS) (λxs=>xs=List.range (chN len q)) (λ_=>True) (chN len q) w:=λl J Jx W hW hJ _ hY h0=>
 chunkb_in Fence.wide 1 trivial rfl (by decide) l Bs Bq b o len cap q hq hlen hq2 hcap KS h1 h2 J Jx (jdrew hJ) hY W ((hW.cell (p:=⟨Bs,0,none⟩) (World.block_lt_of_cell? w _ hBs)).trans hBs) ((hW.cell (p:=⟨Bq,0,none⟩) (World.block_lt_of_cell? w _ hBq)).trans hBq) h0
theorem chunkp_stops(Bs Bq b o len cap q:Nat)(hq:1≤q)(hlen:len≤4611686018427387904)(hq2:q≤4611686018427387904)(hcap:len≤cap)(KS:Nat→Prop)(h1:KS Bs)(h2:KS Bq)(w:World)
  (hBs:w.cell? ⟨Bs,0,none⟩=some (.slice (some ⟨b,o,none⟩) len cap)) (hBq:w.cell? ⟨Bq,0,none⟩=some (.int .i64 (q:Int))):
  SeqStopsK Fence.wide 1 prog 302 #[.pointer (some ⟨Bs,0,none⟩),.pointer (some ⟨Bq,0,none⟩)] (λx=>#[chAt b o q 2 x len]) (KpH KS) (λxs=>xs=List.range (chN len q)) (λ_=>True) (chN len q) w:=λl J Jx W hW hJ _ hY h0=>
 chunkp_in Fence.wide 1 trivial rfl (by decide) l Bs Bq b o len cap q hq hlen hq2 hcap KS h1 h2 J Jx (jdrew hJ) hY W ((hW.cell (p:=⟨Bs,0,none⟩) (World.block_lt_of_cell? w _ hBs)).trans hBs) ((hW.cell (p:=⟨Bq,0,none⟩) (World.block_lt_of_cell? w _ hBq)).trans hBq) h0
theorem s_chunkb(v:Value)(q:Int)(hq:1≤q)(H:Heap):Spec prog 124 #[v,.int .i64 q] H nob λu H'=>∃a b,u=.func (.func 191) #[] #[.pointer (some ⟨a,0,none⟩),.pointer (some ⟨b,0,none⟩)]∧H.size≤a∧H.size≤b∧H'[a]? =some (.cells v.cells 192 (0,0))∧H'[b]? =some (.cells #[.int .i64 q] 3 (0,0)):=by
 refine spx func124 ?_
 conv=>whnf
 intro H1 a f1 _
 conv=>whnf
 intro H2 b f2 _
 conv=>whnf
 refine⟨_,f2.cel rfl,?_⟩
 conv=>whnf
 refine⟨rfl,λh=>absurd h (by show ¬q<1;omega),λ_=>?_⟩
 exact⟨a,b,rfl,by have:=f1.size;omega,by have:=f2.size;have:=f1.size;omega,f2.e.blk f1.at,f2.at⟩
theorem s_chunkp(v:Value)(q:Int)(hq:1≤q)(H:Heap):Spec prog 265 #[v,.int .i64 q] H nob λu H'=>∃a b,u=.func (.func 302) #[] #[.pointer (some ⟨a,0,none⟩),.pointer (some ⟨b,0,none⟩)]∧H.size≤a∧H.size≤b∧H'[a]? =some (.cells v.cells 94 (0,0))∧H'[b]? =some (.cells #[.int .i64 q] 3 (0,0)):=by
 refine spx func265 ?_
 conv=>whnf
 intro H1 a f1 _
 conv=>whnf
 intro H2 b f2 _
 conv=>whnf
 refine⟨_,f2.cel rfl,?_⟩
 conv=>whnf
 refine⟨rfl,λh=>absurd h (by show ¬q<1;omega),λ_=>?_⟩
 exact⟨a,b,rfl,by have:=f1.size;omega,by have:=f2.size;have:=f1.size;omega,f2.e.blk f1.at,f2.at⟩
end Go.Proofs.YtjambljmnifknaaGreatDoor.Vc
namespace Go.Proofs.YtjambljmnifknaaGreatDoor.Vc
open Go Go.RowKit Tp Go.Shelf
open Go.ChangeMaps (setBlock)
attribute [local go_sem] Oper.semAt_some
section
variable {F:Fence}{n:Nat}{P:Program}(w:World){ops:Array Oper}{rest:List Oper}{o:Oper}{a:Act}{Q:Exit→Act→World→Prop}
theorem wpListIn_range_it(hg:o.guard=none)(m:Operand)(t:TypeId)(hop:o.op=Op.range t m)(k e:TypeId)(ht:P.underlying t=some (.map k e))(b:Nat)(l:List It)
  (hm:a.eval m=.map (some b)) (hb:w.heap[b]? =some (mapO l))
  (hK:wpListIn F n P ops Q rest (a.put o.dst (.pointer (some ⟨w.heap.size,0,none⟩))) (w.alloc (.mapIter (some b) l.length #[] l.length))):
  wpListIn F n P ops Q (o::rest) a w:=by
 refine wpListIn_plain hg λK' hK'=>?_
 have hrun:(Instr.range t (.map (some b))).run P w=.ok (.pointer (some ⟨w.heap.size,0,none⟩)) (w.alloc (.mapIter (some b) l.length #[] l.length)):=by
  unfold mapO at hb
  unfold Instr.range
  simp only[Sem.run_bind,run_underlying ht w,Result.andThen,getObj,Sem.run,hb]
  rfl
 unfold Oper.wpIn
 refine⟨?_,?_⟩
 ·simp[Oper.about,hop]
 ·rw[Oper.semAt_plain F _ _ (by rw[hop];intro c hc';cases hc')]
  simp[execOp,hop,hm,hrun,Result.andThen]
  exact hK' _ _ hK
theorem mem_left(l:List It)(js:List Nat)(e:MapEntry):e∈(leftOf (entL 0 l).toArray js.toArray).toList↔∃j x,l[j]? =some x∧j∉js∧e=entO j x:=by
 unfold leftOf
 constructor
 ·intro h
  simp only[Array.toList_filter,Yz] at h
  obtain⟨h1,h2⟩:=h
  obtain⟨j,hj⟩:=Ys.1 h1
  rw[entL_get] at hj
  cases hx:l[j]? with
  |none=>rw[hx] at hj;cases hj
  |some x=>
   rw[hx] at hj
   simp at hj
   subst hj
   exact⟨j,x,hx,by simpa [entO] using h2,rfl⟩
 ·rintro⟨j,x,hx,hj,rfl⟩
  simp only[Array.toList_filter,Yz]
  refine⟨Ys.2 ⟨j,by rw[entL_get,hx];simp⟩,by simpa [entO] using hj⟩
theorem wpListIn_next_it(hg:o.guard=none)(it:Operand)(hop:o.op=Op.next it false)(r b:Nat)(l:List It)(js:List Nat)
  (hit:a.eval it=.pointer (some ⟨r,0,none⟩)) (hr:w.heap[r]? =some (.mapIter (some b) l.length js.toArray l.length)) (hb:w.heap[b]? =some (mapO l))
  (hDone:(∀j,j<l.length→j∈js)→wpListIn F n P ops Q rest (a.put o.dst (.tuple #[.bool false])) w)
  (hMore:∀j x w1,j∉js→l[j]? =some x→(w1=w∨w1=w.drew)→(Instr.entry (.pointer (some ⟨r,0,none⟩))).run P (setBlock w1 r (.mapIter (some b) l.length (js++[j]).toArray l.length))=.ok (.tuple #[.int .i64 x.stripe,itV x]) (setBlock w1 r (.mapIter (some b) l.length (js++[j]).toArray l.length))→
   wpListIn F n P ops Q rest (a.put o.dst (.tuple #[.bool true,.int .i64 x.stripe,itV x])) (setBlock w1 r (.mapIter (some b) l.length (js++[j]).toArray l.length))):
  wpListIn F n P ops Q (o::rest) a w:=by
 have hbr:b≠r:=λe=>by subst e;rw[hb] at hr;cases hr
 refine wpListIn_plain hg λK' hK'=>?_
 unfold Oper.wpIn
 refine⟨by simp[Oper.about,hop],?_⟩
 rw[Oper.semAt_plain F _ _ (by rw[hop];intro c hc';cases hc')]
 have hborn:∀x∈(entL 0 l).toArray.toList,x.born<l.length:=λx hx=>by
  obtain⟨j,hj⟩:=Ys.1 hx
  have hj':(entL 0 l)[j]? =some x:=hj
  rw[entL_get] at hj'
  cases hx2:l[j]? with
  |none=>rw[hx2] at hj';cases hj'
  |some y=>
   rw[hx2] at hj'
   simp at hj'
   subst hj'
   have:=(Qe.1 hx2).1
   simpa [entO] using this
 rcases run_next_at (P:=P) w o.type r b l.length l.length js.toArray (entL 0 l).toArray l.length hr hb hborn (Qd _) with ⟨h0,hrun⟩|⟨e,he,w1,hw1,hrun⟩
 ·simp[execOp,hop,hit,hrun,Result.andThen]
  refine hK' _ _ (hDone λj hj=>Zm λhn=>?_)
  have:=(mem_left l js (entO j l[j])).2 ⟨j,l[j],Qc hj,hn,rfl⟩
  rw[Array.eq_empty_of_size_eq_zero h0] at this
  cases this
 ·obtain⟨j,x,hx,hj,rfl⟩:=(mem_left l js e).1 he
  have hpush:js.toArray.push (entO j x).born=(js++[j]).toArray:=by simp[entO]
  rw[hpush] at hrun
  have hrun':(Instr.next (.pointer (some ⟨r,0,none⟩)) false o.type).run P w=.ok (.tuple #[.bool true,.int .i64 x.stripe,itV x]) (setBlock w1 r (.mapIter (some b) l.length (js++[j]).toArray l.length)):=hrun
  simp[execOp,hop,hit,hrun',Result.andThen]
  refine hK' _ _ (hMore j x w1 hj hx hw1 ?_)
  have hrl:=(Qa.1 hr).1
  have hb1:w1.heap=w.heap:=by rcases hw1 with rfl|rfl<;>rfl
  have hE:=run_entry_at (P:=P) (setBlock w1 r (.mapIter (some b) l.length (js++[j]).toArray l.length)) r b l.length js.toArray (entL 0 l).toArray l.length (entO j x)
   (by show(w1.heap.setIfInBounds r _)[r]? =_;rw[hb1,hpush];simp[hrl]) (by show(w1.heap.setIfInBounds r _)[b]? =_;rw[hb1,Zs (λe=>hbr e.symm)];exact hb)
   (by show entO j x∈entL 0 l;exact Ys.2 ⟨j,by rw[entL_get,hx];simp⟩) ?_
  ·exact hE
  ·show((entL 0 l).map (·.born)).Nodup
   have:(entL 0 l).map (·.born)=List.range l.length:=by
    refine QQ λi=>?_
    rw[Qp,entL_get]
    by_cases hi:i<l.length
    ·rw[Qc hi,ZR hi];simp[entO]
    ·rw[Qx (by omega),Qx (by simp;omega)];rfl
   rw[this]
   exact List.nodup_range
end
def seenN(w:World)(r:Nat):Nat:=match w.heap[r]? with
 |some (.mapIter _ _ s _)=>s.size
 |_=>0
def pickL(l:List It)(js:List Nat):List It:=js.filterMap (l[·]?)
theorem nodup_le{n:Nat}{js:List Nat}(h:js.Nodup)(hl:∀j∈js,j<n):js.length≤n:=by
 have:=h.length_le_of_subset (l₂:=List.range n) λj hj=>Zt.2 (hl j hj)
 simpa using this
theorem pick_len{l:List It}:∀{js:List Nat},(∀j∈js,j<l.length)→(pickL l js).length=js.length
 |[],_=>rfl
 |j::js,h=>by
  have h1:=h j (Qs ..)
  unfold pickL
  rw[List.filterMap_cons,Qc h1]
  simp only[Qo]
  rw[←pick_len (l:=l) (js:=js) λi hi=>h i (Qu _ hi)]
  rfl
theorem pick_lt{l:List It}{js:List Nat}{j:Nat}{x:It}(hnd:js.Nodup)(hjl:∀j∈js,j<l.length)(hx:l[j]? =some x)(hj:j∉js):(pickL l js).length<l.length:=by
 rw[pick_len hjl]
 have h2:(j::js).length≤l.length:=nodup_le (List.nodup_cons.2 ⟨hj,hnd⟩) λi hi=>(QB.1 hi).elim (λe=>by subst e;exact(Qe.1 hx).1) (hjl i)
 simp at h2
 omega
theorem pick_all{l:List It}{js:List Nat}(hnd:js.Nodup)(hjl:∀j∈js,j<l.length)(hall:∀j,j<l.length→j∈js):(pickL l js).Perm l:=by
 have hp:js.Perm (List.range l.length):=(List.perm_ext_iff_of_nodup hnd List.nodup_range).2 λa=>⟨λh=>Zt.2 (hjl a h),λh=>hall a (Zt.1 h)⟩
 have h2:=hp.filterMap (l[·]?)
 have h3:(List.range l.length).filterMap (l[·]?)=l:=by
  have:∀(l:List It) (i:Nat) (m:List It),(∀j,(m[i+j]?)=l[j]?)→(List.range' i l.length).filterMap (m[·]?)=l:=by
   intro l
   induction l with
   |nil=>intro i m _;rfl
   |cons x l ih=>
    intro i m h
    rw[Qo,ZH,List.filterMap_cons,show m[i]? =some x by simpa using h 0]
    dsimp only
    rw[ih (i+1) m λj=>by rw[show i+1+j=i+(j+1) by omega,h (j+1)];simp]
  rw[Yv]
  exact this l 0 l λj=>by rw[Qr]
 rw[h3] at h2
 exact h2
theorem mval_in(F:Fence)(n:Nat)(h8:F.fn 190)(hro:F.round=none)(hn:1≤n)(lp Bm b:Nat)(l:List It)(J Jx:List It→World→Prop)
  (hY:∀pre x W,J pre W→pre.length<l.length→YieldAt F (n-1) prog lp #[itV x] W λe W'=>
   (e=.returned (.bool true)∧J (pre++[x]) W'∧KeepsWalks W W')∨(e=.returned (.bool false)∧Jx (pre++[x]) W'))
  (W:World) (hJ:AbidesFrom W.heap.size J) (hm:W.cell? ⟨Bm,0,none⟩=some (.map (some b))) (hb:W.heap[b]? =some (mapO l)) (h0:J [] W):
  CallsIn F n prog 190 #[.func (.yield lp) #[] #[],.pointer (some ⟨Bm,0,none⟩)] W λe W'=>(∃v,e=.returned v)∧
   ((∃xs,xs.Perm l∧J xs W')∨(∃pre,True∧Jx pre W')):=by
 refine callsIn_of_wp func190 rfl h8 ?_ hro
 simp only[ntmps190,Q8,Qo,Q0,Nat.reduceAdd,Nat.reduceSub,Q2,Q1,Zd,Q5,QI,QR]
 gi_wp2_with (first
  |(gi_at_range;refine wpListIn_range_it _ rfl _ 186 rfl 3 82 underlying186 b l rfl hb ?_)
  |gi_in)
 go_frame
 gi_loopw [4] (λ_ wr=>∃js:List Nat,js.Nodup∧(∀j∈js,j<l.length)∧wr.heap[W.heap.size]? =some (.mapIter (some b) l.length js.toArray l.length)∧wr.heap[b]? =some (mapO l)∧J (pickL l js) wr)
  (λ_ wr=>l.length-seenN wr W.heap.size)
 case atStart=>
  have hlt:b<W.heap.size:=(Qa.1 hb).1
  exact⟨[],List.nodup_nil,by simp,World.alloc_heap_new W _,(Below.heap_alloc W _ b hlt).trans hb,hJ [] W _ none h0 (World.grownBy_alloc W _ none) (λr e=>by cases e)⟩
 case round=>
  obtain⟨js,hnd,hjl,hr,hbr,hJs⟩:=hrel
  gi_wp2_with (first
   |(gi_at_next;refine wpListIn_next_it _ rfl _ rfl W.heap.size b l js rfl hr hbr ?_ ?_)
   |gi_in)
  ·intro hall
   gi_wp2
   go_end0
   exact⟨⟨_,rfl⟩,.inl ⟨pickL l js,pick_all hnd hjl hall,hJs⟩⟩
  ·intro j x w1 hj hx hw1 hen
   have hv:itV x=.agg #[.int .i64 x.seq,.int .i64 x.stripe,.string (S x.text)]:=rfl
   have hw1h:w1.heap=wr.heap:=by rcases hw1 with rfl|rfl<;>rfl
   have hrl:W.heap.size<wr.heap.size:=(Qa.1 hr).1
   have hJ2:J (pickL l js) (setBlock w1 W.heap.size (.mapIter (some b) l.length (js++[j]).toArray l.length)):=hJ _ wr _ (some W.heap.size) hJs ⟨by rcases hw1 with rfl|rfl<;>rfl,by rcases hw1 with rfl|rfl<;>rfl,by rcases hw1 with rfl|rfl<;>rfl,by show _≤(w1.heap.setIfInBounds _ _).size;rw[hw1h];simp,λk hk hne=>by
    show(w1.heap.setIfInBounds _ _)[k]? =_
    rw[hw1h,Zs (λe=>hne (by rw[e]))]⟩ (λr e=>by cases e;exact⟨Qd _,_,hr,rfl⟩)
   have hlt:=pick_lt hnd hjl hx hj
   have hnd2:(js++[j]).Nodup:=List.nodup_append.2 ⟨hnd,by simp,λa ha c hc e=>by simp at hc;subst hc;exact hj (e▸ha)⟩
   have hjl2:∀i∈js++[j],i<l.length:=λi hi=>(Qz.1 hi).elim (hjl i) λe=>by simp at e;subst e;exact(Qe.1 hx).1
   have hpk:pickL l (js++[j])=pickL l js++[x]:=by unfold pickL;rw[List.filterMap_append];simp[hx]
   have hr2:(setBlock w1 W.heap.size (.mapIter (some b) l.length (js++[j]).toArray l.length)).heap[W.heap.size]? =some (.mapIter (some b) l.length (js++[j]).toArray l.length):=by
    show(w1.heap.setIfInBounds _ _)[_]? =_
    rw[hw1h];simp[hrl]
   have hb2:(setBlock w1 W.heap.size (.mapIter (some b) l.length (js++[j]).toArray l.length)).heap[b]? =some (mapO l):=by
    show(w1.heap.setIfInBounds _ _)[_]? =_
    rw[hw1h,Zs (λe=>by rw[←e,hr] at hbr;cases hbr)];exact hbr
   generalize setBlock w1 W.heap.size (.mapIter (some b) l.length (js++[j]).toArray l.length)=w2 at hen hJ2 hr2 hb2⊢
   have hJ3:=hJ _ w2 (w2.alloc (.cells #[.int .i64 x.seq,.int .i64 x.stripe,.string (S x.text)] 82)) none hJ2 (World.grownBy_alloc _ _ none) (λr e=>by cases e)
   obtain⟨fn,tmps,assign,body,hy,hR⟩:=hY _ x _ hJ3 hlt
   rw[hv] at hen hy⊢
   rw[hpk.symm] at hR
   have hr3:=(Below.heap_alloc w2 (.cells #[.int .i64 x.seq,.int .i64 x.stripe,.string (S x.text)] 82) _ (Qa.1 hr2).1).trans hr2
   have hb3:=(Below.heap_alloc w2 (.cells #[.int .i64 x.seq,.int .i64 x.stripe,.string (S x.text)] 82) _ (Qa.1 hb2).1).trans hb2
   clear hJ3 hJ2 hr2 hb2
   gi_wp2
   refine hR.mono ?_
   rintro e W3 (⟨rfl,hJ4,hk4⟩|⟨rfl,hJx4⟩)
   ·have hr4:=hk4.same _ _ hr3 rfl
    have hb4:=hk4.same _ _ hb3 rfl
    gi_wp2
    go_roundw
    case rel=>exact⟨js++[j],hnd2,hjl2,hr4,hb4,hJ4⟩
    case measure=>
     have h1:seenN W3 W.heap.size=js.length+1:=by unfold seenN;rw[hr4];simp
     have h2:seenN wr W.heap.size=js.length:=by unfold seenN;rw[hr];simp
     have h3:=nodup_le hnd2 hjl2
     simp at h3
     omega
   ·gi_wp2
    refine bodyPost_ret (results_none rfl _ _ _) rfl ?_
    exact⟨⟨_,rfl⟩,.inr ⟨_,trivial,hJx4⟩⟩
end Go.Proofs.YtjambljmnifknaaGreatDoor.Vc
namespace Go.Proofs.YtjambljmnifknaaGreatDoor.Vc
open Go Go.RowKit Tp
theorem run_append_fit_zeros{P:Program}(w w':World)(t tn ty e:TypeId)(i:TypeInfo)(z:Value)(kn:IntKind)(ht:P.underlying t=some (.slice e))(htn:P.underlying tn=some (.int kn))(hi:P.info? e=some i)(hz:i.zero=some z)
  (a:Addr) (sLen sCap k:Nat) (hs:i.size=1) (hg:sLen+k≤sCap) (hk:k≤1000000000) (hby:i.bytes=1) (hst:(storeCells (a.add sLen) (Builtin.zeroCells z.cells k).toList).run P w=.ok () w'):
  (Builtin.append_ #[t,tn] ty #[.slice (some a) sLen sCap,.int .i64 (k:Int)]).run P w=.ok (.slice (some a) (sLen+k) sCap) w':=by
 have hw:IntKind.i64.wrap (k:Int)=k:=by rw[IntKind.wrap_i64];omega
 have h48i:¬(281474976710656<(k:Int)):=by omega
 have hneg:¬((k:Int)<0):=by omega
 by_cases h0:k=0
 ·subst h0
  simp[Builtin.zeroCells,storeCells] at hst
  simp[Builtin.append_,run_underlying ht,run_underlying htn,sizeOf,typeInfo,hi,hs,hby,asInt,asIntOf,storeCells,show IntKind.i64.wrap 0=0 from hw]
  rw[if_pos (by omega)]
  simp[hst]
 ·simp[Builtin.append_,run_underlying ht,run_underlying htn,sizeOf,typeInfo,zeroValue,hi,hz,hs,hby,asInt,asIntOf,hw,hneg,h48i,h0,hg,hst]
theorem addr0(b n:Nat):(⟨b,0,none⟩:Addr).add n=⟨b,n,none⟩:=by unfold Addr.add;split<;>simp_all
theorem setCells_frm(b:Nat):∀(vs:List Value) (o:Nat) (w:World),Frm (λi=>i=b) w.heap (w.setCells b o vs).heap
 |[],_,w=>Frm.refl _ _
 |v::r,o,w=>by
  rw[World.setCells]
  have h1:Frm (λi=>i=b) w.heap (w.setCell ⟨b,o,none⟩ v).heap:=⟨by simp,λk _ hn=>heap_setCell_other w _ k _ (by simpa using hn)⟩
  exact h1.trans (setCells_frm b r (o+1) _)
theorem setCells_amb(b:Nat):∀(vs:List Value) (o:Nat) (w:World),Amb w (w.setCells b o vs)
 |[],_,w=>Amb.refl _
 |v::r,o,w=>by
  rw[World.setCells]
  exact(show Amb w (w.setCell ⟨b,o,none⟩ v) from⟨rfl,rfl,rfl⟩).trans (setCells_amb b r (o+1) _)
theorem bytesC_pre(str:ByteArray)(cap k:Nat)(h:str.size+k≤cap):∃tl,bytesC str cap=bytesV (L str++List.replicate k 0)++tl:=by
 refine⟨List.replicate (cap-str.size-k) (.int .u8 0),?_⟩
 unfold bytesC bytesV
 rw[Qy,Qt]
 congr 1
 rw[show List.map byteV (List.replicate k 0)=List.replicate k (Value.int .u8 0) by simp[byteV],List.replicate_append_replicate]
 congr 1
 omega
theorem raw_zeros{c:Ctx}{ρ:Operand→Value}{o:Oper}{H:Heap}{K:KK}{cl:Call}{str:ByteArray}{cap b k:Nat}(hP:c.P=prog)(ho:o.op=.call cl)(hc:cl.callee=.builtin .append)
  (ha:cl.args.toList.map ρ=[.slice (some ⟨b,0,none⟩) str.size cap,.int .i64 (k:Int)]) (ht:cl.argTypes.toList=[192,3]) (hb:H[b]? =some (.cells (bytesC str cap).toArray 5 (cap,cap+1))) (hcap:str.size≤cap) (hs:str.size+k≤1000000000)
  (hS:c.S b∨c.H0.size≤b) (hF:Frm c.S c.H0 H)
  (k':∀b' cap' H',str.size+k≤cap'→CellsAt H' b' 0 (bytesV (L str++List.replicate k 0))→Frm (λi=>i=b) H H'→Frm c.S c.H0 H'→K (.slice (some ⟨b',0,none⟩) (str.size+k) cap') H'):RawVC c ρ o H K:=by
 refine⟨λw hw=>?_⟩
 have hat:cl.argTypes=#[192,3]:=by apply Zq;rw[ht]
 obtain⟨i,hi,hz⟩:∃i,prog.info? 5=some i∧i.zero=some (.int .u8 0)∧i.bytes=1∧i.size=1:=⟨_,rfl,rfl,rfl,rfl⟩
 have hlen:(bytesC str cap).length=cap:=by simp[bytesC];omega
 have hgo:∀v w',(Builtin.append_ cl.argTypes o.type (cl.args.toList.map ρ).toArray).run c.P w=.ok v w'→(execOp ρ o).run c.P w=.ok (.value v) w':=λv w' h=>builtin_run ho hc w λcs=>by
  simp only[builtin]
  exact val_run h
 have hargs:(cl.args.toList.map ρ).toArray=#[.slice (some ⟨b,0,none⟩) str.size cap,.int .i64 (k:Int)]:=by rw[ha]
 have hbw:w.heap[b]? =some (.cells (bytesC str cap).toArray 5 (cap,cap+1)):=by rw[hw];exact hb
 by_cases hg:str.size+k≤cap
 ·
  obtain⟨tl,htl⟩:=bytesC_pre str cap k hg
  have hcell:∀j,j<cap→w.cell? ⟨b,j,none⟩=(bytesC str cap)[j]? :=λj hj=>by
   rw[cell_of_row w b j _ _ _ hbw,Qq]
  have hzc:(Builtin.zeroCells (Value.int .u8 0).cells k).toList=List.replicate k (Value.int .u8 0):=zeroCells_u8 k
  have hst:=run_storeCells_cells (P:=prog) b str.size (List.replicate k (Value.int .u8 0)) 0 w (λj hj=>by
    have hj':j<k:=by simpa using hj
    rw[hcell _ (by omega)]
    simp[hlen];omega) (λj hj=>by
    have hj':j<k:=by simpa using hj
    unfold World.frozen?
    rw[hbw]
    simp;omega) (by simp[Value.oneCell'])
  have hr:=run_append_fit_zeros (P:=prog) w _ 192 3 o.type 5 i (.int .u8 0) .i64 underlying192 underlying3 hi hz.1 ⟨b,0,none⟩ str.size cap k hz.2.2 hg (by omega) hz.2.1 (by rw[hzc,addr0];simpa using hst)
  have hfr:Frm (λi=>i=b) H (w.setCells b str.size (List.replicate k (Value.int .u8 0))).heap:=by
   rw[←hw]
   exact setCells_frm b _ _ _
  have hF':=Frm.then hF hfr (λk hk=>by subst hk;exact hS)
  refine⟨_,_,.inl (hgo _ _ (by rw[hat,hargs,hP];exact hr)),setCells_amb b _ _ _,hF',k' b cap _ hg (CellsAt.of λj v hj=>?_) hfr hF'⟩
  have hjl:j<str.size+k:=by
   have:=(Qe.1 hj).1
   simpa [bytesV] using this
  have hv:(bytesC str cap)[j]? =some v:=by rw[htl,QG (by simpa [bytesV] using hjl)];exact hj
  show(mkw _).cell? _=_
  rw[Qr]
  show(w.setCells b str.size (List.replicate k (Value.int .u8 0))).cell? ⟨b,j,none⟩=some v
  by_cases hjs:j<str.size
  ·rw[World.cell?_setCells_out b _ _ _ _ (λ_ _=>.inl hjs),hcell j (by omega),hv]
  ·have h2:=World.cell?_setCells_in b (List.replicate k (Value.int .u8 0)) str.size w (λi hi=>by
    have hi':i<k:=by simpa using hi
    rw[hcell _ (by omega)]
    simp[hlen];omega) (j-str.size) (by simp;omega)
   rw[show str.size+(j-str.size)=j by omega] at h2
   rw[h2]
   have:j-str.size<k:=by omega
   rw[show(bytesV (L str++List.replicate k 0))[j]? =some (Value.int .u8 0) by
    unfold bytesV
    rw[Qy,Zu (by simp;omega)]
    simp[this,byteV]] at hj
   cases hj
   simp
 ·have hold:(Builtin.firstCells i.size str.size (.slice (some ⟨b,0,none⟩) str.size cap)).run prog w.drew=.ok ((bytesC str cap).take str.size).toArray w.drew:=by
   have hl:((bytesC str cap).take str.size).length=str.size:=by rw[QC,hlen];omega
   have:=run_loadCells_list (P:=prog) (w:=w.drew) ⟨b,0,none⟩ ((bytesC str cap).take str.size) (λj v hj=>by
    have hjl:=(Qe.1 hj).1
    rw[hl] at hjl
    rw[addr0]
    show w.cell? ⟨b,j,none⟩=some v
    rw[cell_of_row w b j _ _ _ hbw,Qq,←hj,QZ,if_pos hjl])
   rw[hl] at this
   unfold Builtin.firstCells
   rw[hz.2.2,ZI]
   exact this
  have hr:=Lib.run_append_grow_zeros (P:=prog) w 192 3 o.type 5 i (.int .u8 0) .i64 .i64 underlying192 underlying3 hi hz.1 (some ⟨b,0,none⟩) str.size cap _ hold k (by omega) (by rw[hz.2.2];omega) (by omega) (by omega) (by rw[hz.2.1];omega) (growslice_fits (by omega) (by rw[hz.2.1];omega))
  have hpre:(bytesC str cap).take str.size=bytesV (L str):=by
   unfold bytesC bytesV
   rw[Zv (by simp)]
   rfl
  obtain⟨N,hN⟩:∃N,grownCap w (str.size+k) cap 5=N:=⟨_,rfl⟩
  have hge:str.size+k≤N:=by rw[←hN];exact grownCap_ge w _ _ _
  have hobj:((bytesC str cap).take str.size).toArray++Builtin.zeroCells (Value.int .u8 0).cells k++Builtin.zeroCells (Value.int .u8 0).cells (N-(str.size+k))=(bytesV (L str++List.replicate k 0)++List.replicate (N-(str.size+k)) (Value.int .u8 0)).toArray:=by
   apply Zq
   rw[ZS,ZS]
   rw[show(Builtin.zeroCells (Value.int .u8 0).cells k).toList=List.replicate k (Value.int .u8 0) from zeroCells_u8 k,show(Builtin.zeroCells (Value.int .u8 0).cells (N-(str.size+k))).toList=List.replicate (N-(str.size+k)) (Value.int .u8 0) from zeroCells_u8 _]
   rw[hpre]
   simp[bytesV,byteV]
  rw[hN,hobj] at hr
  have hfr:Fresh H (w.drew.alloc (.cells (bytesV (L str++List.replicate k 0)++List.replicate (N-(str.size+k)) (Value.int .u8 0)).toArray 5)).heap w.heap.size (.cells (bytesV (L str++List.replicate k 0)++List.replicate (N-(str.size+k)) (Value.int .u8 0)).toArray 5 (0,0)):=⟨by rw[hw],by rw[←hw];rfl⟩
  have hA:Amb w (w.drew.alloc (.cells (bytesV (L str++List.replicate k 0)++List.replicate (N-(str.size+k)) (Value.int .u8 0)).toArray 5)):=⟨rfl,rfl,rfl⟩
  generalize w.drew.alloc (.cells (bytesV (L str++List.replicate k 0)++List.replicate (N-(str.size+k)) (Value.int .u8 0)).toArray 5)=W at hr hfr hA
  have hF':=hF.trans (hfr.frm _)
  exact⟨_,W,.inl (hgo _ _ (by rw[hat,hargs,hP];exact hr)),hA,hF',k' _ N _ hge (CellsAt.app.1 (CellsAt.new hfr)).1 (hfr.frm _) hF'⟩
def chunksL(q:Nat)(l:By)(k:Nat):By:=(l.drop (k*q)).take q
theorem chunksL_len(q:Nat)(l:By)(k:Nat):(chunksL q l k).length=chLen l.length q k:=by
 unfold chunksL chLen
 rw[QC,QV]
def splitD(c:Cf)(data:By):By:=Tp.putL 4 data.length++data++List.replicate (c.k*c.sh-(4+data.length)).toNat 0
def splitV(c:Cf)(data:By):List By×Int:=
 if ¬cfOk c then([],1) else if cfCap c<data.length then([],12) else encV ((List.range (chN (splitD c data).length c.sh.toNat)).map (chunksL c.sh.toNat (splitD c data))) c.m
theorem blk_nc{B k:Nat}{H H':Heap}(hF:Frm (NC B H) H H'){cs:Array Value}{t:TypeId}{fz:Nat×Nat}(h:H[k]? =some (.cells cs t fz)):H'[k]? =some (.cells cs t fz):=
 hF.blkT h λ⟨_,o,ho,hc⟩=>by rw[h] at ho;cases ho;cases hc
theorem Own.nc{B:Nat}{H H':Heap}{base n sz:Nat}{e:TypeId}{v:Value}{xs:List Value}(h:Own H base e sz v n xs)(hF:Frm (NC B H) H H'):Own H' base e sz v n xs:=h.frm hF λk hk ⟨_,o,ho,hc⟩=>by
 rcases h.2 with ⟨rfl,_⟩|⟨g,cap,cur,rfl,_,hg,_⟩
 ·cases hk
 ·cases hk
  have hg':H[g]? =some (.cells cur e (0,0)):=hg
  rw[hg'] at ho;cases ho;cases hc
theorem CellsAt.nc{B b:Nat}{H H':Heap}(hF:Frm (NC B H) H H'):∀{xs:List Value} {o:Nat},CellsAt H b o xs→CellsAt H' b o xs
 |[],_,_=>trivial
 |x::r,o,h=>by
  have hb:¬NC B H b:=λ⟨_,ob,ho,hc⟩=>by
   have h1:=h.1
   unfold cel World.cell? mkw at h1
   dsimp only at h1
   rw[ho] at h1
   cases ob<;>first|(cases hc;done)|(simp at h1)
  exact cells_keep hF hb h
theorem Own.slc{H:Heap}{base n sz:Nat}{e:TypeId}{v:Value}{xs:List Value}(h:Own H base e sz v n xs):v.cells.toList=[v]∧oneCell v=true:=by
 rcases h.2 with ⟨rfl,_⟩|⟨_,_,_,rfl,_⟩<;>exact⟨rfl,rfl⟩
theorem CellsAt.cut{H:Heap}{b:Nat}{xs:List Value}{o:Nat}(i n:Nat)(h:CellsAt H b o xs):CellsAt H b (o+i) ((xs.drop i).take n):=
 CellsAt.of λj v hj=>by
  rw[QZ] at hj
  split at hj
  ·rw[List.getElem?_drop] at hj
   have:=h.get hj
   rwa[show o+i+j=o+(i+j) by omega]
  ·cases hj
theorem StoreVC.var{c:Ctx}{H:Heap}{t:TypeId}{b:Nat}{E:TypeId}{v v':Value}{K:KK}(hi:(match c.P.info? t with|some i=>Nat.beq i.size 1|none=>false)=true)(hb:H[b]? =some (.cells #[v] E (0,0)))(hS:c.S b∨c.H0.size≤b)(hv:v'.cells.toList=[v']∧oneCell v'=true)
  (k:∀H',Upd H H' b (.cells #[v'] E (0,0))→Frm c.S c.H0 H'→K undef H'):StoreVC c H t b 0 v' K:=
 .k (cs:=[v]) [v'] hb hS (stoB_one hi hv.1 hv.2 (Yt 0)) (by rw[hv.1];rfl) k
attribute [local irreducible] encV
theorem s_split(c:Cf)(data:By)(hd:data.length≤1000000)(H:Heap):
  Spec prog 72 #[cfV c,.string (S data)] H nob λu H'=>∃w,u=.tuple #[w,.int .i64 (splitV c data).2]∧Own H' H.size 9 1 w (splitV c data).1.length (strV (splitV c data).1):=by
 have hrd:splitV c data=if ¬cfOk c then([],1) else if cfCap c<data.length then([],12) else encV ((List.range (chN (splitD c data).length c.sh.toNat)).map (chunksL c.sh.toNat (splitD c data))) c.m:=rfl
 generalize splitV c data=rd at hrd⊢
 have hput:=λH=>s_put (data.length:Int) 4 (by decide) (by decide) (by omega) H
 have hpv:cfCap c≥data.length→cfOk c→putV (data.length:Int) 4=S (Tp.putL 4 data.length):=λh ho=>by
  have:=ho.b
  unfold putV
  rw[if_neg (by unfold cfCap at h;rw[if_pos ho] at h;simp;omega),Qn,putB_L]
 generalize putV (data.length:Int) 4=pv at hput hpv
 generalize putE (data.length:Int) 4=pe at hput
 have hSd:=S_size data
 refine Spec.cut (fn:=Tryz.f72) rfl rfl (by kernel_rfl) ?_
 refine CutVC.step mixed (by kernel_rfl) ?_
 conv=>whnf
 intro H1 g f1 _
 have hg1:H1[g]? =some (.cells (cfL c).toArray 23 (0,0)):=f1.at
 refine CutVC.step mixed (by kernel_rfl) ?_
 conv=>whnf
 refine⟨cfL c,rfl,CellsAt.new f1,?_⟩
 conv=>whnf
 refine .q (s_check c _) ?_
 rintro _ H2 rfl e2 _
 have hg2:=e2.blk hg1
 conv=>whnf
 refine⟨rfl,λh=>?_,λh=>?_⟩
 ·have h':¬cfOk c:=λe=>h (cfE0.2 e)
  rw[if_pos h'] at hrd
  subst hrd
  exact⟨_,Qf (λx=>Value.tuple #[_,.int .i64 x]) (cfE1 h'),Own.nil _ _ _ _⟩
 have hok:=cfE0.1 h
 have hb:=hok.b
 rw[if_neg (λe=>e hok)] at hrd
 conv=>whnf
 refine⟨cfL c,rfl,CellsAt.at hg2,?_⟩
 conv=>whnf
 refine .q (s_capa c _) ?_
 rintro _ H3 rfl e3 _
 have hg3:=e3.blk hg2
 conv=>whnf
 refine⟨rfl,λh1=>?_,λh1=>?_⟩
 ·rw[if_pos (by have h1':cfCap c<((S data).size:Int):=h1;omega)] at hrd
  subst hrd
  exact⟨_,rfl,Own.nil _ _ _ _⟩
 have hcap:(data.length:Int)≤cfCap c:=by have h1':¬cfCap c<((S data).size:Int):=h1;omega
 rw[if_neg (by omega)] at hrd
 obtain rfl:=hpv hcap hok
 refine CutVC.step mixed (by kernel_rfl) ?_
 conv=>whnf
 refine .q (hput _) ?_
 rintro _ H4 rfl e4 _
 have hF4:=(((f1.e.trans e2).trans e3).trans e4)
 have hg4:=e4.blk hg3
 have hsz:(S (Tp.putL 4 data.length++data)).size=4+data.length:=by rw[S_size];simp[Tp.putL]
 have hap:=append_S (Tp.putL 4 data.length) data
 have hszp:(S (Tp.putL 4 data.length)).size=4:=by rw[S_size];simp[Tp.putL]
 refine CutVC.step mixed (by kernel_rfl) ?_
 conv=>whnf
 refine⟨by omega,_,hap,?_⟩
 conv=>whnf
 intro cap hcp H5 ab f5 _
 have hg5:=f5.e.blk hg4
 have hab:=f5.at
 refine CutVC.step mixed (by kernel_rfl) ?_
 conv=>whnf
 refine⟨_,cel_of hg5 rfl,?_⟩
 conv=>whnf
 refine⟨_,cel_of hg5 rfl,?_⟩
 conv=>whnf
 refine⟨rfl,c.k*c.sh,wr64 (by omega) (by omega),?_⟩
 have hcapc:(data.length:Int)≤c.k*c.sh-4:=by unfold cfCap at hcap;rw[if_pos hok] at hcap;exact hcap
 have hsub:IntKind.i64.wrap (c.k*c.sh-((S (Tp.putL 4 data.length++data)).size:Int))=(((c.k*c.sh-(4+data.length)).toNat:Nat):Int):=by
  rw[show((S (Tp.putL 4 data.length++data)).size:Int)=4+data.length by omega,wr64 (by omega) (by omega)];omega
 conv=>whnf
 refine⟨rfl,_,hsub,?_⟩
 have hD:splitD c data=Tp.putL 4 data.length++data++List.replicate (c.k*c.sh-(4+data.length)).toNat 0:=rfl
 have hDl:(splitD c data).length=4+data.length+(c.k*c.sh-(4+data.length)).toNat:=by rw[hD];simp[Tp.putL];omega
 have hDk:((splitD c data).length:Int)=c.k*c.sh:=by omega
 generalize (c.k*c.sh-(4+data.length)).toNat=kz at*
 conv=>whnf
 refine raw_zeros (k:=kz) rfl rfl rfl rfl rfl hab hcp (by omega) (.inr (by show H.size≤ab;have:=f5.size;have:=hF4.1;omega)) ?_ ?_
 ·assumption
 intro bd cd H6 hcd hcD e6 _
 rw[L_S,←hD] at hcD
 rw[hsz,←hDl] at hcd⊢
 generalize splitD c data=D at*
 obtain⟨q,hq⟩:∃q:Nat,c.sh=(q:Int):=⟨c.sh.toNat,by omega⟩
 rw[hq,Qn] at hrd
 have hF6:Frm nob H H6:=((hF4.trans f5.e)).then e6 (λk hk=>.inr (by subst hk;have:=f5.size;have:=hF4.1;omega))
 have hg6:H6[g]? =some (.cells (cfL c).toArray 23 (0,0)):=e6.blkT hg5 (λe=>by have:=(Qa.1 hg4).1;have:=f5.size;omega)
 refine CutVC.step mixed (by kernel_rfl) ?_
 conv=>whnf
 intro H7 p f7 _
 have hp7:H7[p]? =some (.cells #[.slice none 0 0] 24 (0,0)):=f7.at
 have hg7:=f7.e.blk hg6
 have hcD7:=cells_keep f7.e id hcD
 have hF7:=hF6.trans f7.e
 refine CutVC.last mixed (by kernel_rfl) (by kernel_rfl) (by kernel_rfl) ?_
 conv=>whnf
 refine⟨_,cel_of hg7 rfl,?_⟩
 conv=>whnf
 refine .q (s_chunkb (.slice (some ⟨bd,0,none⟩) D.length cd) c.sh (by omega) _) ?_
 rintro _ H8 ⟨ba,bb,rfl,hba,hbb,hA8,hB8⟩ e8 _
 have hF8:=hF7.trans e8
 have hp8:=e8.blk hp7
 have hg8:=e8.blk hg7
 have hsz7:H.size≤p:=by have:=f7.size;have:=hF6.1;omega
 have hp7l:p<H7.size:=(Qa.1 hp7).1
 have hD1:D.length≤4000:=by omega
 have hchn:chN D.length q≤D.length:=by
  unfold chN
  rw[Y6 (by omega)]
  have:D.length*1≤D.length*q:=YB _ (by omega)
  omega
 conv=>whnf
 refine RangeVC.of (α:=Nat) 191 _ (λx=>#[chAt bd 0 q 1 x D.length]) (λk=>k=ba∨k=bb) (λxs=>xs=List.range (chN D.length q)) (λ_=>True) (chN D.length q)
  (λpre H'=>(∃v,H'[p]? =some (.cells #[v] 24 (0,0))∧Own H' H8.size 9 1 v pre.length (strV (pre.map (chunksL q D))))∧H'[g]? =some (.cells (cfL c).toArray 23 (0,0))∧CellsAt H' bd 0 (bytesV D)∧H'[ba]? =some (.cells #[.slice (some ⟨bd,0,none⟩) D.length cd] 192 (0,0))∧H'[bb]? =some (.cells #[.int .i64 c.sh] 3 (0,0)))
  (λ_ _=>False) rfl (enters_of func191 (by kernel_rfl) rfl) (λ_=>rfl) ?_ (λw hw=>?_) ?_ (λ_ _ _ h _=>h) ?_ ?_ ?_ (λ_ _ _ h=>h.elim)
 ·rintro k (rfl|rfl)
  ·exact(Qa.1 hA8).1
  ·exact(Qa.1 hB8).1
 ·refine chunkb_stops ba bb bd 0 D.length cd q (by omega) (by omega) (by omega) hcd _ (.inl rfl) (.inr rfl) w ?_ ?_
  ·rw[cel_w,hw];exact cel_of hA8 rfl
  ·rw[cel_w,hw,←hq];exact cel_of hB8 rfl
 ·rintro pre H1 H2 ⟨⟨v,h1,h2⟩,h3,h4,h5,h6⟩ hN
  exact⟨⟨v,blk_nc hN h1,h2.nc hN⟩,blk_nc hN h3,h4.nc hN,blk_nc hN h5,blk_nc hN h6⟩
 ·exact⟨⟨_,hp8,Own.nil _ _ _ _⟩,hg8,cells_keep e8 id hcD7,hA8,hB8⟩
 ·intro x HA
  conv=>whnf
  refine⟨rfl,rfl,?_⟩
  rintro pre H' ⟨⟨v,h1,h2⟩,h3,h4,h5,h6⟩ hHs hpl
  have hbp:v.ownBlock≠some p:=h2.ne h1 (by decide)
  have hm:chLen D.length q x≤1000000:=by unfold chLen;omega
  have hcl:CellsAt H' bd (0+x*q*1) (bytesV (chunksL q D x)):=by
   rw[ZI]
   unfold chunksL bytesV
   rw[List.map_take,List.map_drop]
   exact CellsAt.cut _ _ h4
  have hlen:(bytesV (chunksL q D x)).length=chLen D.length q x:=by rw[←chunksL_len];simp[bytesV]
  refine⟨λk=>k=p∨v.ownBlock=some k,?_,?_,?_,?_⟩
  ·rintro k (rfl|hk)
   ·exact⟨_,_,_,h1⟩
   ·rcases h2.2 with ⟨rfl,_⟩|⟨gg,cap',cur,rfl,_,hgg,_⟩
    ·cases hk
    ·cases hk
     exact⟨_,_,_,hgg⟩
  ·rintro k (rfl|hk) (rfl|rfl)
   ·rw[h5] at h1;simp at h1
   ·rw[h6] at h1;simp at h1
   ·exact h2.ne h5 (by decide) hk
   ·exact h2.ne h6 (by decide) hk
  ·rintro k (rfl|hk)
   ·exact .inr hsz7
   ·exact .inr (Qb hF8.1 (h2.ge k hk).1)
  ·conv=>whnf
   refine⟨v,cel_of h1 rfl,?_⟩
   conv=>whnf
   refine⟨chunksL q D x,by rw[←hlen];simp[bytesV],hcl,?_⟩
   conv=>whnf
   refine⟨rfl,?_⟩
   intro H9 r f9 _
   have h29:=h2.q f9.e
   conv=>whnf
   refine .el [.string (S (chunksL q D x))] (by kernel_rfl) h29 (CellsAt.new (cs:=[.string _]) f9) rfl (by simp[oneCell]) (by omega) (by have:=f9.e.1;omega) (λk hk=>.inl (.inr hk)) ?_
   intro v10 H10 ho10 e10 _
   have hp10:H10[p]? =some (.cells #[v] 24 (0,0)):=e10.blkT (f9.e.blk h1) (λe=>hbp e)
   conv=>whnf
   refine .var (by kernel_rfl) hp10 (.inl (.inl rfl)) ho10.slc ?_
   intro H11 u11 _
   have hgp:g≠p:=λe=>by rw[e,h1] at h3;simp at h3
   have hgv:v.ownBlock≠some g:=h2.ne h3 (by decide)
   have hbap:ba≠p:=λe=>by rw[e,h1] at h5;simp at h5
   have hbbp:bb≠p:=λe=>by rw[e,h1] at h6;simp at h6
   have hv10p:v10.ownBlock≠some p:=ho10.ne hp10 (by decide)
   have hbl:bd<H6.size:=by
    cases D with
    |nil=>simp at hDl;omega
    |cons x r=>exact cel_lt hcD.1
   have h68:H6.size≤p∧H6.size≤H8.size:=by have:=f7.size;have:=e8.1;omega
   have hcd11:CellsAt H11 bd 0 (bytesV D):=cells_keep u11.e (by show bd≠p;omega) (cells_keep e10 (λe=>by have:=(h2.ge bd e).1;omega) (cells_keep f9.e id h4))
   refine⟨⟨v10,u11.1,?_⟩,(u11.2.2 g hgp).trans (e10.blkT (f9.e.blk h3) hgv),hcd11,(u11.2.2 ba hbap).trans (e10.blkT (f9.e.blk h5) (h2.ne h5 (by decide))),(u11.2.2 bb hbbp).trans (e10.blkT (f9.e.blk h6) (h2.ne h6 (by decide)))⟩
   have ho11:=ho10.frm u11.e (λk hk e=>hv10p (by rw[hk,show k=p from e]))
   rw[Qi,Qy,QX,YG,strV_snoc]
   exact ho11
 ·rintro xs H' rfl ⟨⟨v,h1,h2⟩,h3,h4,h5,h6⟩ hF'
  obtain⟨kn,hkn⟩:∃kn:Nat,c.k=(kn:Int):=⟨c.k.toNat,by omega⟩
  have hch:chN D.length q=kn:=by
   have hDn:D.length=kn*q:=by rw[hkn,hq] at hDk;exact ZZ.1 (by rw[hDk];simp)
   rw[hDn]
   unfold chN
   rw[Ym,Y3 (by omega),ZT (by omega),ZK]
  rw[hch] at h2 hrd
  have henc:=s_encode ((List.range kn).map (chunksL q D)) c.m (h2.rd.1) (by simp;omega) (λr hr=>by
   obtain⟨x,_,rfl⟩:=Qw.1 hr
   rw[chunksL_len];unfold chLen;omega)
  rw[←hrd] at henc
  conv=>whnf
  refine⟨v,cel_of h1 rfl,?_⟩
  conv=>whnf
  refine⟨_,cel_of h3 rfl,?_⟩
  conv=>whnf
  refine .q (henc) ?_
  rintro _ H10 ⟨w,rfl,ho⟩ e10 _
  refine⟨λH11 hN=>⟨w,rfl,(ho.low hF'.1).nc hN⟩⟩
attribute [irreducible] splitV
end Go.Proofs.YtjambljmnifknaaGreatDoor.Vc
namespace Go.Proofs.YtjambljmnifknaaGreatDoor.Vc
open Go Go.RowKit Tp
theorem mval_stops(Bm b:Nat)(l:List It)(KS:Nat→Prop)(w:World)(hBm:w.cell? ⟨Bm,0,none⟩=some (.map (some b)))(hb:w.heap[b]? =some (mapO l)):
  SeqStopsK Fence.wide 1 prog 190 #[.pointer (some ⟨Bm,0,none⟩)] (λx=>#[itV x]) (KpW KS) (λxs=>xs.Perm l) (λ_=>True) l.length w:=λlp J Jx W hW hJ _ hY h0=>
 mval_in Fence.wide 1 trivial rfl (by decide) lp Bm b l J Jx (λpre x W1 h1 h2=>by
  obtain⟨fn,tmps,assign,body,hy,hR⟩:=hY pre x W1 h1 h2
  exact⟨fn,tmps,assign,body,hy,hR.mono λe W' hh=>hh.imp (λ⟨p,q,r⟩=>⟨p,q,r.2⟩) id⟩) W hJ ((hW.cell (p:=⟨Bm,0,none⟩) (World.block_lt_of_cell? w _ hBm)).trans hBm) ((hW.block b (Qa.1 hb).1).trans hb) h0
theorem s_mvalues(b:Nat)(H:Heap):Spec prog 119 #[.map (some b)] H nob λu H'=>∃Bm,u=.func (.func 190) #[] #[ptr Bm 0]∧H.size≤Bm∧H'[Bm]? =some (.cells #[.map (some b)] 186 (0,0)):=by
 refine spx func119 ?_
 conv=>whnf
 intro H1 p f1 _
 exact⟨p,rfl,by have:=f1.size;show H.size≤p;omega,f1.at⟩
theorem s_appseq(Bm b:Nat)(l:List It)(hl:l.length≤1000000){H:Heap}(hBm:H[Bm]? =some (.cells #[.map (some b)] 186 (0,0)))(hb:H[b]? =some (mapO l)):
  Spec prog 241 #[.slice none 0 0,.func (.func 190) #[] #[ptr Bm 0]] H nob λu H'=>∃xs:List It,xs.Perm l∧Own H' H.size 82 3 u xs.length (itsV xs):=by
 refine Spec.cut func241 rfl (by kernel_rfl) ?_
 refine CutVC.step mixed (by kernel_rfl) ?_
 conv=>whnf
 intro H1 p f1 _
 have hp1:H1[p]? =some (.cells #[.slice none 0 0] 74 (0,0)):=f1.at
 have hsz:=f1.size
 have hB1:=f1.e.blk hBm
 have hb1:=f1.e.blk hb
 refine CutVC.last mixed (by kernel_rfl) (by kernel_rfl) (by kernel_rfl) ?_
 conv=>whnf
 refine RangeVC.ofA (α:=It) 190 _ (λx=>#[itV x]) (λ_=>False) (λxs=>xs.Perm l) (λ_=>True) l.length
  (λpre H'=>∃v,H'[p]? =some (.cells #[v] 74 (0,0))∧Own H' H1.size 82 3 v pre.length (itsV pre)) (λ_ _=>False)
  (λx env' H'=>∃q,EnvHas env' [(2,ptr p 0),(5,ptr q 0)]∧q≠p∧H'[q]? =some (.cells (itL x).toArray 82 (0,0)))
  rfl (enters_of func190 (by kernel_rfl) rfl) (λ_=>rfl) (λ_ h=>h.elim) (λw hw=>?_) ?_ (λ_ _ _ h _=>h) ?_ ?_ ?_ ?_ ?_ (λ_ _ _ h=>h.elim)
 ·refine mval_stops Bm b l _ w ?_ ?_
  ·rw[cel_w,hw];exact cel_of hB1 rfl
  ·rw[hw];exact hb1
 ·rintro pre HA HB ⟨v,h1,h2⟩ hN
  exact⟨v,blk_nc hN h1,h2.nc hN⟩
 ·rintro x e HA HB ⟨q,h1,h2,h3⟩ hN
  exact⟨q,h1,h2,blk_nc hN h3⟩
 ·exact⟨_,hp1,Own.nil _ _ _ _⟩
 ·rintro x pre HA ⟨v,h1,h2⟩ hHs
  conv=>whnf
  intro HB q fB _
  have hqs:=fB.size
  conv=>whnf
  refine .k ((itL x)) (fB.at) (.inr (by show HA.size≤q;omega)) rfl rfl ?_
  intro HC uC _
  refine⟨rfl,q,⟨rfl,rfl,trivial⟩,λe=>by have:=(Qa.1 h1).1;omega,uC.1⟩
 ·rintro x env' pre H' ⟨q,henv,hqp,hq⟩ ⟨v,h1,h2⟩ hHs hpl
  rw[←over_self (ws:=[]) henv λ_ _=>rfl]
  clear henv
  have hbp:v.ownBlock≠some p:=h2.ne h1 (by decide)
  refine⟨λk=>k=p∨v.ownBlock=some k,?_,?_,?_,?_⟩
  ·rintro k (rfl|hk)
   ·exact⟨_,_,_,h1⟩
   ·rcases h2.2 with ⟨rfl,_⟩|⟨gg,cap',cur,rfl,_,hgg,_⟩
    ·cases hk
    ·cases hk
     exact⟨_,_,_,hgg⟩
  ·exact λ_ _ h=>h
  ·rintro k (rfl|hk)
   ·exact .inr (by show H.size≤k;omega)
   ·exact .inr (by show H.size≤k;have:=(h2.ge k hk).1;omega)
  ·conv=>whnf
   refine⟨v,cel_of h1 rfl,?_⟩
   conv=>whnf
   refine⟨itL x,rfl,CellsAt.at hq,?_⟩
   conv=>whnf
   refine⟨rfl,?_⟩
   intro H9 r f9 _
   have h29:=h2.q f9.e
   conv=>whnf
   refine .el (itL x) (by kernel_rfl) h29 (CellsAt.new f9) rfl (by simp[itL,oneCell]) (by omega) (by have:=f9.e.1;omega) (λk hk=>.inl (.inr hk)) ?_
   intro v10 H10 ho10 e10 _
   have hp10:H10[p]? =some (.cells #[v] 74 (0,0)):=e10.blkT (f9.e.blk h1) (λe=>hbp e)
   conv=>whnf
   refine .var (by kernel_rfl) hp10 (.inl (.inl rfl)) ho10.slc ?_
   intro H11 u11 _
   have hv10p:v10.ownBlock≠some p:=ho10.ne hp10 (by decide)
   refine⟨v10,u11.1,?_⟩
   have ho11:=ho10.frm u11.e (λk hk e=>hv10p (by rw[hk,show k=p from e]))
   rw[Qi,itsV_snoc]
   exact ho11
 ·rintro xs H' hS ⟨v,h1,h2⟩ hF'
  conv=>whnf
  refine⟨v,cel_of h1 rfl,?_⟩
  refine⟨λH3 hN=>⟨xs,hS,(h2.low (by have:=f1.e.1;omega)).nc hN⟩⟩
theorem s_collect(Bm b:Nat)(l:List It)(hl:l.length≤1000000){H:Heap}(hBm:H[Bm]? =some (.cells #[.map (some b)] 186 (0,0)))(hb:H[b]? =some (mapO l)):
  Spec prog 188 #[.func (.func 190) #[] #[ptr Bm 0]] H nob λu H'=>∃xs:List It,xs.Perm l∧Own H' H.size 82 3 u xs.length (itsV xs):=by
 have hap:=s_appseq Bm b l hl hBm hb
 refine spx func188 ?_
 conv=>whnf
 refine .q (hap) ?_
 rintro _ H1 ⟨xs,hp,ho⟩ e1 _
 exact⟨xs,hp,ho⟩
end Go.Proofs.YtjambljmnifknaaGreatDoor.Vc
namespace Go.Proofs.YtjambljmnifknaaGreatDoor.Vc
open Go Go.RowKit Tp
open Dk (Arr Dsk Thing)
theorem isDisk_mk{w:World}{g s:Nat}{wv:Value}{m:Dsk}:Dk.IsDisk w g s wv m↔Dk.IsDisk (mkw w.heap) g s wv m:=⟨λh=>⟨h.blk,h.wait,h.ok,h.pos,h.most,h.fits⟩,λh=>⟨h.blk,h.wait,h.ok,h.pos,h.most,h.fits⟩⟩
theorem at_mk{w:World}{g:Nat}{S:Nat→Prop}{m:Dsk}:Dk.At w g S m↔Dk.At (mkw w.heap) g S m:=
 ⟨λ⟨s,wv,h,e⟩=>⟨s,wv,isDisk_mk.1 h,e⟩,λ⟨s,wv,h,e⟩=>⟨s,wv,isDisk_mk.2 h,e⟩⟩
theorem all_mk{w:World}:∀{gs:List Nat} {ds:List Dsk} {S:Nat→Prop},Dk.All (List.zipWith Dk.D gs ds) w S↔Dk.All (List.zipWith Dk.D gs ds) (mkw w.heap) S
 |[],_,_=>Iff.rfl
 |_::_,[],_=>Iff.rfl
 |_::gs,_::ds,_=>⟨λ⟨S,T,h1,h2,h3⟩=>⟨S,T,at_mk.1 h1,(all_mk (gs:=gs) (ds:=ds)).1 h2,h3⟩,λ⟨S,T,h1,h2,h3⟩=>⟨S,T,at_mk.2 h1,(all_mk (gs:=gs) (ds:=ds)).2 h2,h3⟩⟩
structure Pl where
 ga:Nat
 sv:Value
 gs:List Nat
def PaH(p:Pl)(a:Arr)(H:Heap)(S:Nat→Prop):Prop:=Dk.Pa p.ga p.sv p.gs a (mkw H) S
theorem pa_mk{p:Pl}{a:Arr}{w:World}{S:Nat→Prop}:Dk.Pa p.ga p.sv p.gs a w S↔PaH p a w.heap S:=
 ⟨λ⟨h0,S,T,h1,h2,h3⟩=>⟨h0,S,T,h1,all_mk.1 h2,h3⟩,λ⟨h0,S,T,h1,h2,h3⟩=>⟨h0,S,T,h1,all_mk.2 h2,h3⟩⟩
theorem PaH.lt{p:Pl}{a:Arr}{H:Heap}{S:Nat→Prop}(h:PaH p a H S):∀k,S k→k<H.size:=(Dk.Pa.res p.ga p.sv p.gs a).lt h
theorem PaH.frm{p:Pl}{a:Arr}{H H':Heap}{S T:Nat→Prop}(h:PaH p a H S)(hF:Frm T H H')(hT:∀k,S k→¬T k):PaH p a H' S:=
 (Dk.Pa.res p.ga p.sv p.gs a).frame (w':=mkw H') h (T:=T) ⟨rfl,rfl,rfl,hF.1,hF.2⟩ hT
theorem PaH.q{p:Pl}{a:Arr}{H H':Heap}{S:Nat→Prop}(h:PaH p a H S)(hF:Frm nob H H'):PaH p a H' S:=h.frm hF λ_ _=>id
def Sub(S' S:Nat→Prop)(H:Heap):Prop:=∀k,S' k→S k∨H.size≤k
theorem Sub.refl(S:Nat→Prop)(H:Heap):Sub S S H:=λ_ h=>.inl h
theorem Sub.trans{A B C:Nat→Prop}{H H':Heap}(h:Sub B A H)(k:Sub C B H')(hs:H.size≤H'.size):Sub C A H:=λi hi=>(k i hi).elim (h i) λe=>.inr (Qb hs e)
theorem spec_arr{f:FuncId}{args:Array Value}{H:Heap}{S:Nat→Prop}{v:Value}{p:Pl}{a':Arr}(hg:callB prog f=true)(h:∀w:World,w.heap=H→Calls prog f args w λe w'=>e=.returned v∧Dk.Step w w' S (Dk.Pa p.ga p.sv p.gs a' w')):
  Spec prog f args H S λu H'=>u=v∧∃S',PaH p a' H' S'∧Sub S' S H:=
 ⟨hg,λw hw=>(h w hw).mono λe w' ⟨he,S',hA,hf,hs⟩=>⟨v,he,⟨hf.os,hf.tape,hf.output⟩,⟨by rw[←hw];exact hf.size,λk hk hn=>by rw[←hw] at hk⊢;exact hf.same k hk hn⟩,rfl,S',pa_mk.1 hA,λk hk=>by rw[←hw];exact hs k hk⟩⟩
structure DkB(B:Nat)(m:Dsk):Prop where
 wait:m.wait.length≤B
 size:m.size≤4096
 sec:∀s∈m.sec,s.size≤4096
 txt:∀x∈m.wait,x.2.size≤4096
structure Sm(B:Nat)(a:Arr):Prop where
 all:∀m∈a.ds,DkB B m
 left:a.left≤9223372036854775807
theorem DkB.mono{B C:Nat}{m:Dsk}(h:DkB B m)(hbc:B≤C):DkB C m:=⟨Qb h.wait hbc,h.size,h.sec,h.txt⟩
theorem Sm.mono{B C:Nat}{a:Arr}(h:Sm B a)(hbc:B≤C):Sm C a:=⟨λm hm=>(h.all m hm).mono hbc,h.left⟩
theorem Sm.dk{B:Nat}{a:Arr}(h:Sm B a)(d:Int):DkB B (Dk.dk a d):=by
 unfold Dk.dk
 rw[Ql]
 cases hx:a.ds[d.toNat]? with
 |none=>exact⟨Qk _,Qk _,by simp,by simp⟩
 |some m=>exact h.all m (Qj hx)
theorem Sm.withDk{B:Nat}{a:Arr}(h:Sm B a)(d:Int){m:Dsk}(hm:DkB B m):Sm B (Dk.withDk a d m):=⟨λx hx=>by
 rcases Zy hx with h1|rfl
 ·exact h.all x h1
 ·exact hm,h.left⟩
theorem size_getD{l:List ByteArray}{B:Nat}(h:∀s∈l,s.size≤B)(n:Nat):(l.getD n ByteArray.empty).size≤B:=by
 rw[Ql]
 cases hx:l[n]? with
 |none=>exact Qk _
 |some s=>exact h s (Qj hx)
theorem DkB.read{B:Nat}{m:Dsk}(h:DkB B m)(n:Int):(Dk.readV m n).size≤4096:=by
 unfold Dk.readV
 split
 ·unfold Dk.latest
  split
  ·rename_i x hx
   exact h.txt x (by have:=List.mem_of_find?_eq_some hx;simpa using this)
  ·exact size_getD h.sec _
 ·exact Qk _
theorem DkB.wrote{B:Nat}{m:Dsk}(h:DkB B m)(n:Int)(x:ByteArray):DkB (B+1) (Dk.wrote m n x):=by
 unfold Dk.wrote
 split
 ·rename_i hc
  have hz:=(Dk.checkE_zero hc).2.2.2
  refine⟨by have:=h.wait;simp;omega,h.size,h.sec,λy hy=>?_⟩
  rcases Qz.1 hy with hy|hy
  ·exact h.txt y hy
  ·simp at hy
   subst hy
   have:=h.size
   show x.size≤4096
   omega
 ·exact h.mono (by omega)
theorem Sm.wrote{B:Nat}{a:Arr}(h:Sm B a)(d n:Int)(s:ByteArray):Sm (B+1) (Dk.awrote a d n s):=by
 unfold Dk.awrote
 repeat' split
 all_goals try exact h.mono (by omega)
 ·exact⟨(h.mono (by omega)).all,h.left⟩
 ·have h1:=(h.mono (show B≤B+1 by omega)).withDk d ((h.dk d).wrote n s)
  exact⟨h1.all,by show a.left-1≤_;have:=h.left;omega⟩
 ·have h1:=(h.mono (show B≤B+1 by omega)).withDk d ((h.dk d).wrote n s)
  exact⟨h1.all,h.left⟩
theorem kept_len:∀(l:List (Nat×ByteArray)) (s:List ByteArray) (bs:List Bool),(∀x∈l,x.2.size≤4096)→(∀x∈s,x.size≤4096)→∀x∈Dk.kept s l bs,x.size≤4096
 |[],s,bs,_,hs=>by cases bs<;>exact hs
 |y::r,s,[],_,hs=>hs
 |y::r,s,b::bs,hl,hs=>by
  unfold Dk.kept
  refine kept_len r _ bs (λx hx=>hl x (by simp[hx])) ?_
  split
  ·intro x hx
   rcases Zy hx with h1|rfl
   ·exact hs x h1
   ·exact hl y (by simp)
  ·exact hs
theorem DkB.crashed{B:Nat}{m:Dsk}(h:DkB B m)(bs:List Bool):DkB B (Dk.crashed m bs):=by
 unfold Dk.crashed
 split
 ·exact h
 ·exact⟨Qk _,h.size,kept_len _ _ _ h.txt h.sec,by simp⟩
theorem DkB.flushed{B:Nat}{m:Dsk}(h:DkB B m):DkB B (Dk.flushed m):=h.crashed _
theorem DkB.corrupted{B:Nat}{m:Dsk}(h:DkB B m)(n:Int)(x:ByteArray):DkB B (Dk.corrupted m n x):=by
 unfold Dk.corrupted
 split
 ·rename_i hc
  have hz:=(Dk.checkE_zero hc).2.2.2
  have hsz:=h.size
  refine⟨Qb (List.length_filter_le _ _) h.wait,h.size,λs hs=>?_,λy hy=>h.txt y ((Yz.1 hy).1)⟩
  rcases Zy hs with h1|rfl
  ·exact h.sec s h1
  ·omega
 ·exact h
theorem Sm.failed{B:Nat}{a:Arr}(h:Sm B a)(d:Int):Sm B (Dk.afaild a d):=by
 unfold Dk.afaild
 split
 ·exact h
 ·exact h.withDk d ⟨Qk _,(h.dk d).size,(h.dk d).sec,by simp⟩
theorem Sm.replaced{B:Nat}{a:Arr}(h:Sm B a)(d:Int):Sm B (Dk.areplaced a d):=by
 unfold Dk.areplaced
 split
 ·exact h
 ·exact h.withDk d ⟨Qk _,(h.dk d).size,λs hs=>by rw[(Yi.1 hs).2];exact Qk _,by simp⟩
theorem Sm.corrupted{B:Nat}{a:Arr}(h:Sm B a)(d n:Int)(s:ByteArray):Sm B (Dk.acorrupted a d n s):=by
 unfold Dk.acorrupted
 split
 ·exact h
 ·exact h.withDk d ((h.dk d).corrupted n s)
theorem Sm.fused{B:Nat}{a:Arr}(h:Sm B a)(n:Int)(hn:n≤9223372036854775807):Sm B (Dk.fused a n):=by
 unfold Dk.fused
 split
 ·exact h
 ·exact⟨h.all,hn⟩
theorem Sm.crashed{B:Nat}{a:Arr}(h:Sm B a)(bs:List Bool):Sm B (Dk.acrashed a bs):=⟨λm hm=>by
 unfold Dk.acrashed Dk.crashAll at hm
 obtain⟨i,hi,rfl⟩:=List.mem_mapIdx.1 hm
 exact(h.all _ (ZU _)).crashed _,by show(-1:Int)≤_;omega⟩
theorem Sm.blanks(d n z:Nat)(hz:z≤4096):Sm 0 (Dk.blanks d n z):=⟨λm hm=>by
 unfold Dk.blanks at hm
 rw[(Yi.1 hm).2]
 exact⟨Qd _,hz,λs hs=>by rw[(Yi.1 hs).2];exact Qk _,by simp[Dk.blank]⟩,by show(-1:Int)≤_;omega⟩
theorem Sm.flushed{B:Nat}{a:Arr}(h:Sm B a):Sm B (Dk.aflushed a):=by
 unfold Dk.aflushed
 split
 ·exact h
 ·exact⟨λm hm=>by
   obtain⟨x,hx,rfl⟩:=Qw.1 hm
   exact(h.all x hx).flushed,h.left⟩
theorem aread_len{B:Nat}{a:Arr}(h:Sm B a)(d n:Int):(L (Dk.areadV a d n)).length≤4096:=by
 rw[L_length]
 unfold Dk.areadV
 repeat' split
 ·exact Qk _
 ·exact Qk _
 ·exact(h.dk d).read n
def aR(a:Arr)(d n:Int):By:=L (Dk.areadV a d n)
section
variable {p:Pl}{a:Arr}{H:Heap}{S:Nat→Prop}
theorem s_aread(d n:Int)(h:PaH p a H S):Spec prog 65 #[ptr p.ga 0,.int .i64 d,.int .i64 n] H S λu H'=>u=.tuple #[.string (Tp.S (aR a d n)),.int .i64 (Dk.areadE a d n)]∧∃S',PaH p a H' S'∧Sub S' S H:=
 spec_arr (by kernel_rfl) λw hw=>Dk.aread_at d n S (pa_mk.2 (by rw[hw];exact h))
theorem s_aalive(d:Int)(h:PaH p a H S):Spec prog 64 #[ptr p.ga 0,.int .i64 d] H S λu H'=>u=.bool (Dk.aalive a d)∧∃S',PaH p a H' S'∧Sub S' S H:=
 spec_arr (by kernel_rfl) λw hw=>Dk.aalive_at d S (pa_mk.2 (by rw[hw];exact h))
theorem s_adown(h:PaH p a H S):Spec prog 31 #[ptr p.ga 0] H S λu H'=>u=.bool a.down∧∃S',PaH p a H' S'∧Sub S' S H:=
 spec_arr (by kernel_rfl) λw hw=>Dk.down_at S (pa_mk.2 (by rw[hw];exact h))
theorem s_adisks(h:PaH p a H S):Spec prog 34 #[ptr p.ga 0] H S λu H'=>u=.int .i64 (a.ds.length:Int)∧∃S',PaH p a H' S'∧Sub S' S H:=
 spec_arr (by kernel_rfl) λw hw=>Dk.disks_at S (pa_mk.2 (by rw[hw];exact h))
theorem s_afuse(n:Int)(h:PaH p a H S):Spec prog 163 #[ptr p.ga 0,.int .i64 n] H S λu H'=>u=.int .i64 (if n<0 then 1 else 0)∧∃S',PaH p (Dk.fused a n) H' S'∧Sub S' S H:=
 spec_arr (by kernel_rfl) λw hw=>Dk.fuse_at n S (pa_mk.2 (by rw[hw];exact h))
theorem s_afail(d:Int)(h:PaH p a H S):Spec prog 161 #[ptr p.ga 0,.int .i64 d] H S λu H'=>u=.int .i64 (if Dk.noDisk a d then 1 else 0)∧∃S',PaH p (Dk.afaild a d) H' S'∧Sub S' S H:=
 spec_arr (by kernel_rfl) λw hw=>Dk.afail_at d S (pa_mk.2 (by rw[hw];exact h))
theorem s_areplace(d:Int)(h:PaH p a H S):Spec prog 162 #[ptr p.ga 0,.int .i64 d] H S λu H'=>u=.int .i64 (if Dk.noDisk a d then 1 else 0)∧∃S',PaH p (Dk.areplaced a d) H' S'∧Sub S' S H:=
 spec_arr (by kernel_rfl) λw hw=>Dk.areplace_at d S (pa_mk.2 (by rw[hw];exact h))
theorem s_acorrupt(d n:Int)(s:By)(hB:Sm 1000000 a)(h:PaH p a H S):Spec prog 10 #[ptr p.ga 0,.int .i64 d,.int .i64 n,.string (Tp.S s)] H S λu H'=>u=.int .i64 (Dk.acorruptE a d n s.length)∧∃S',PaH p (Dk.acorrupted a d n (Tp.S s)) H' S'∧Sub S' S H:=by
 have:=λw (hw:w.heap=H)=>Dk.acorrupt_at (w:=w) d n (Tp.S s) (hB.dk d).wait S (pa_mk.2 (by rw[hw];exact h))
 rw[S_size] at this
 exact spec_arr (by kernel_rfl) this
theorem s_awrite(d n:Int)(s:By)(hB:Sm 1000000 a)(h:PaH p a H S):Spec prog 127 #[ptr p.ga 0,.int .i64 d,.int .i64 n,.string (Tp.S s)] H S λu H'=>u=.int .i64 (Dk.awriteE a d n s.length)∧∃S',PaH p (Dk.awrote a d n (Tp.S s)) H' S'∧Sub S' S H:=by
 have:=λw (hw:w.heap=H)=>Dk.awrite_at (w:=w) d n (Tp.S s) (hB.dk d).wait hB.left S (pa_mk.2 (by rw[hw];exact h))
 rw[S_size] at this
 exact spec_arr (by kernel_rfl) this
theorem s_aflush(hB:Sm 1000000 a)(h:PaH p a H S):Spec prog 41 #[ptr p.ga 0] H S λu H'=>u=.int .i64 (Dk.powerE a)∧∃S',PaH p (Dk.aflushed a) H' S'∧Sub S' S H:=
 spec_arr (by kernel_rfl) λw hw=>Dk.aflush_at (λm hm=>(hB.all m hm).wait) S (pa_mk.2 (by rw[hw];exact h))
end
structure Vol where
 conf:Cf
 id:Int
 seq:Int
def volL(ga:Nat)(v:Vol):List Value:=ptr ga 0::(cfL v.conf++[.int .i64 v.id,.int .i64 v.seq])
structure AV(p:Pl)(gv:Nat)(v:Vol)(a:Arr)(H:Heap)(S:Nat→Prop):Prop where
 vol:H[gv]? =some (.cells (volL p.ga v).toArray 70 (0,0))
 arr:PaH p a H S
 out:¬S gv
section
variable {p:Pl}{gv:Nat}{v:Vol}{a:Arr}{H H':Heap}{S:Nat→Prop}
theorem AV.lt(h:AV p gv v a H S):gv<H.size:=(Qa.1 h.vol).1
theorem AV.frm{T:Nat→Prop}(h:AV p gv v a H S)(hF:Frm T H H')(hT:∀k,S k→¬T k)(hg:¬T gv):AV p gv v a H' S:=⟨hF.blkT h.vol hg,h.arr.frm hF hT,h.out⟩
theorem AV.q(h:AV p gv v a H S)(hF:Frm nob H H'):AV p gv v a H' S:=h.frm hF (λ_ _=>id) id
theorem AV.step{S':Nat→Prop}{a':Arr}(h:AV p gv v a H S)(hF:Frm S H H')(ha:PaH p a' H' S')(hs:Sub S' S H):AV p gv v a' H' S':=
 ⟨hF.blkT h.vol h.out,ha,λe=>(hs _ e).elim h.out λk=>by have:=h.lt;omega⟩
end
end Go.Proofs.YtjambljmnifknaaGreatDoor.Vc
