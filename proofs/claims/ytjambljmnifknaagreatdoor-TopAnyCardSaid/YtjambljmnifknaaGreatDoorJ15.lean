/- Part 15 of the proof of TopAny: volume: put, get, alive, power · volume: shards · volume: state.of, state.epoch · volume: state. -/
import Derived.Test.YtjambljmnifknaaGreatDoorJ14
set_option maxRecDepth 100000
set_option maxHeartbeats 80000000
set_option linter.all false
open Go.Proofs.Tryz
namespace Go.Proofs.YtjambljmnifknaaGreatDoor.Vc
open Go Go.RowKit Tp
open Dk (Arr Dsk)
def vputB(v:Vol)(d pl ep:Int)(t:By):Blk:=⟨v.id,d,pl,ep,t⟩
def vputE(a:Arr)(v:Vol)(d pl ep:Int)(t:By):Int:=if sealE (vputB v d pl ep t)≠0 then sealE (vputB v d pl ep t) else Dk.awriteE a d pl (sealV (vputB v d pl ep t)).length
def vputA(a:Arr)(v:Vol)(d pl ep:Int)(t:By):Arr:=if sealE (vputB v d pl ep t)≠0 then a else Dk.awrote a d pl (S (sealV (vputB v d pl ep t)))
theorem vputA_sm{B:Nat}{a:Arr}(h:Sm B a)(v:Vol)(d pl ep:Int)(t:By):Sm (B+1) (vputA a v d pl ep t):=by
 unfold vputA
 split
 ·exact h.mono (by omega)
 ·exact h.wrote _ _ _
section
variable {p:Pl}{gv:Nat}{v:Vol}{a:Arr}{H:Heap}{U:Nat→Prop}
theorem s_vput(h:AV p gv v a H U)(hB:Sm 1000000 a)(d pl ep:Int)(t:By)(hb:blkB (vputB v d pl ep t)):
  Spec prog 73 #[ptr gv 0,.int .i64 d,.int .i64 pl,.int .i64 ep,.string (S t)] H U λu H'=>u=.int .i64 (vputE a v d pl ep t)∧∃S',PaH p (vputA a v d pl ep t) H' S'∧Sub S' U H:=by
 have hE:vputE a v d pl ep t=if sealE (vputB v d pl ep t)≠0 then sealE (vputB v d pl ep t) else Dk.awriteE a d pl (sealV (vputB v d pl ep t)).length:=rfl
 have hA:vputA a v d pl ep t=if sealE (vputB v d pl ep t)≠0 then a else Dk.awrote a d pl (S (sealV (vputB v d pl ep t))):=rfl
 generalize vputE a v d pl ep t=e at hE⊢
 generalize vputA a v d pl ep t=a' at hA⊢
 have hsl:=λH=>s_seal (vputB v d pl ep t) hb H
 generalize sealE (vputB v d pl ep t)=se at hE hA hsl
 generalize sealV (vputB v d pl ep t)=sv at hE hA hsl
 refine spx func73 ?_
 conv=>whnf
 refine⟨_,cel_of h.vol rfl,?_⟩
 conv=>whnf
 refine⟨rfl,?_⟩
 conv=>whnf
 refine .q (hsl _) ?_
 rintro _ H1 rfl e1 _
 conv=>whnf
 refine⟨rfl,λh1=>?_,λh1=>?_⟩
 ·rw[if_pos h1] at hE hA
  subst hE hA
  exact⟨rfl,U,h.arr.q e1,Sub.refl _ _⟩
 rw[if_neg (λe=>e h1)] at hE hA
 subst hE hA
 have h':=h.q e1
 conv=>whnf
 refine⟨_,cel_of h'.vol rfl,?_⟩
 conv=>whnf
 refine .t (s_awrite d pl sv hB h'.arr) (λk h=>.inl h) ?_
 rintro _ H2 ⟨rfl,S',ha,hs⟩ e2 _
 exact⟨rfl,S',ha,λk hk=>(hs k hk).imp id λhk=>Qb e1.1 hk⟩
def vgetV(a:Arr)(v:Vol)(d pl:Int):Blk×Bool:=if Dk.areadE a d pl≠0 then(blk0,false) else((blkOwn (aR a d pl) v.id d pl).1,decide ((blkOwn (aR a d pl) v.id d pl).2=0))
theorem s_vget(h:AV p gv v a H U){B:Nat}(hB:Sm B a)(d pl:Int):
  Spec prog 62 #[ptr gv 0,.int .i64 d,.int .i64 pl] H U λu H'=>u=.tuple #[blkV (vgetV a v d pl).1,.bool (vgetV a v d pl).2]∧∃S',PaH p a H' S'∧Sub S' U H:=by
 have hE:vgetV a v d pl=if Dk.areadE a d pl≠0 then(blk0,false) else((blkOwn (aR a d pl) v.id d pl).1,decide ((blkOwn (aR a d pl) v.id d pl).2=0)):=rfl
 generalize vgetV a v d pl=r at hE⊢
 have hlen:(aR a d pl).length≤4096:=aread_len hB d pl
 have hown:=λH=>s_ownB (aR a d pl) (by omega) v.id d pl H
 have hrd:=λ{X:Heap} {V:Nat→Prop} (h:PaH p a X V)=>s_aread d pl h
 generalize blkOwn (aR a d pl) v.id d pl=bo at hE hown
 generalize aR a d pl=t at hown hrd
 generalize Dk.areadE a d pl=re at hE hrd
 refine spx func62 ?_
 conv=>whnf
 intro H1 g f1 _
 have hg1:H1[g]? =some (.cells (blkL blk0).toArray 130 (0,0)):=f1.at
 have h1:=h.q f1.e
 have hgs:=f1.size
 conv=>whnf
 refine⟨_,cel_of h1.vol rfl,?_⟩
 conv=>whnf
 refine .t (hrd h1.arr) (λk h=>.inl h) ?_
 rintro _ H2 ⟨rfl,S',ha,hs⟩ e2 _
 have h2:=h1.step e2 ha hs
 have hg2:H2[g]? =_:=e2.blkT hg1 (λe=>by have:=h.arr.lt g e;omega)
 have hS':∀k,S' k→U k∨H.size≤k:=λk hk=>(hs k hk).imp id λhk=>by omega
 have hgS:¬S' g:=λe=>(hs g e).elim (λe=>by have:=h.arr.lt g e;omega) (λe=>by omega)
 conv=>whnf
 refine⟨rfl,λh3=>?_,λh3=>?_⟩
 ·rw[if_pos h3] at hE
  subst hE
  conv=>whnf
  refine⟨rfl,?_⟩
  conv=>whnf
  refine .k ((blkL blk0)) (hg2) (.inr (by show H.size≤g;omega)) rfl rfl ?_
  intro H3 u3 _
  refine⟨?_⟩
  conv=>whnf
  refine⟨blkL blk0,rfl,CellsAt.at u3.1,?_⟩
  exact⟨rfl,S',ha.frm u3.e (λk hk (e:k=g)=>hgS (e▸hk)),hS'⟩
 rw[if_neg (λe=>e h3)] at hE
 conv=>whnf
 refine⟨_,cel_of h2.vol rfl,?_⟩
 conv=>whnf
 refine .q (hown _) ?_
 rintro _ H3 rfl e3 _
 conv=>whnf
 intro H4 r f4 _
 have hr4:H4[r]? =some (.cells (blkL blk0).toArray 130 (0,0)):=f4.at
 have hrs:=f4.size
 have h34:=e3.1
 have hgl:g<H2.size:=(Qa.1 hg2).1
 have h24:=e2.1
 conv=>whnf
 refine .k ((blkL bo.1)) (hr4) (.inr (by show H.size≤r;omega)) rfl rfl ?_
 intro H5 u5 _
 have hg5:H5[g]? =some (.cells (blkL blk0).toArray 130 (0,0)):=(u5.2.2 g (by omega)).trans (f4.e.blk (e3.blk hg2))
 have ha4:=(ha.q e3).q f4.e
 have hrS:¬S' r:=λe=>by have:=ha.lt r e;omega
 have ha5:=ha4.frm u5.e (λk hk (e:k=r)=>hrS (e▸hk))
 conv=>whnf
 refine⟨blkL bo.1,rfl,CellsAt.at u5.1,?_⟩
 conv=>whnf
 refine⟨rfl,λh6=>?_,λh6=>?_⟩
 ·rw[QO h6] at hE
  conv=>whnf
  refine .k ((blkL bo.1)) (hg5) (.inr (by show H.size≤g;omega)) rfl rfl ?_
  intro H6 u6 _
  refine⟨?_⟩
  conv=>whnf
  refine⟨blkL bo.1,rfl,CellsAt.at u6.1,?_⟩
  rw[hE]
  exact⟨rfl,S',ha5.frm u6.e (λk hk (e:k=g)=>hgS (e▸hk)),hS'⟩
 ·rw[QM h6] at hE
  conv=>whnf
  refine .k ((blkL bo.1)) (hg5) (.inr (by show H.size≤g;omega)) rfl rfl ?_
  intro H6 u6 _
  refine⟨?_⟩
  conv=>whnf
  refine⟨blkL bo.1,rfl,CellsAt.at u6.1,?_⟩
  rw[hE]
  exact⟨rfl,S',ha5.frm u6.e (λk hk (e:k=g)=>hgS (e▸hk)),hS'⟩
theorem Own.past{H H':Heap}{S S':Nat→Prop}{base n sz:Nat}{e:TypeId}{v:Value}{xs:List Value}(h:Own H base e sz v n xs)(hn:∀k,v.ownBlock=some k→¬S k)(hF:Frm S H H')(hs:Sub S' S H):Own H' base e sz v n xs∧∀k,v.ownBlock=some k→¬S' k:=
 ⟨h.frm hF hn,λk hk e=>(hs k e).elim (hn k hk) λhl=>by have:=(h.ge k hk).2;omega⟩
theorem Own.app{H H':Heap}{v v':Value}{p:Pl}{a:Arr}{S:Nat→Prop}(hF:Frm (λk=>v.ownBlock=some k) H H')(ha:PaH p a H S)(hn:∀k,v.ownBlock=some k→¬S k)(hb:∀k,v'.ownBlock=some k→v.ownBlock=some k∨H.size≤k):
  PaH p a H' S∧∀k,v'.ownBlock=some k→¬S k:=by
 refine⟨ha.frm hF λk hk e=>hn k e hk,λk hk hS=>?_⟩
 rcases hb k hk with hb|hb
 ·exact hn k hb hS
 ·have:=ha.lt k hS;omega
def alF(a:Arr):Nat→Nat→List Int
 |0,_=>[]
 |q+1,d=>(if Dk.aalive a d=true then [(d:Int)] else [])++alF a q (d+1)
def aliveL(a:Arr)(most:Int):List Int:=alF a most.toNat 0
theorem alF_mem(a:Arr):∀(q d:Nat) (x:Int),x∈alF a q d→(d:Int)≤x∧x<d+q∧Dk.aalive a x=true
 |0,_,_,h=>by simp[alF] at h
 |q+1,d,x,h=>by
  unfold alF at h
  rcases Qz.1 h with h|h
  ·split at h
   ·simp at h
    subst h
    exact⟨by omega,by omega,by assumption⟩
   ·simp at h
  ·have:=alF_mem a q (d+1) x h
   exact⟨by omega,by omega,this.2.2⟩
theorem aliveL_mem{a:Arr}{m x:Int}(h:x∈aliveL a m):0≤x∧x<m∧x<a.ds.length:=by
 have h1:=alF_mem a _ _ x h
 refine⟨by omega,by omega,?_⟩
 have:=h1.2.2
 unfold Dk.aalive at this
 split at this
 ·cases this
 ·rename_i hn
  unfold Dk.noDisk at hn
  omega
theorem alF_len(a:Arr):∀(q d:Nat),(alF a q d).length≤q
 |0,_=>Qd _
 |q+1,d=>by
  unfold alF
  have:=alF_len a q (d+1)
  rw[Qi]
  split<;>simp<;>omega
theorem aliveL_len(a:Arr)(m:Int):(aliveL a m).length≤m.toNat:=alF_len a _ _
theorem s_valive(h:AV p gv v a H U)(m:Int)(hm:m≤1000000):
  Spec prog 33 #[ptr gv 0,.int .i64 m] H U λu H'=>Own H' H.size 3 1 u (aliveL a m).length (intV (aliveL a m))∧∃S',PaH p a H' S'∧Sub S' U H∧(∀k,u.ownBlock=some k→¬S' k):=by
 obtain⟨tot,htot⟩:∃t,aliveL a m=t:=⟨_,rfl⟩
 rw[htot]
 refine spx func33 ?_
 conv=>whnf
 refine⟨Nat×List Int×Value,λx=>[(8,.int .i64 (x.1:Int)),(5,x.2.2)],λx H'=>x.1≤m.toNat∧x.2.1++alF a (m.toNat-x.1) x.1=tot∧x.2.1.length≤x.1∧Own H' H.size 3 1 x.2.2 x.2.1.length (intV x.2.1)∧∃S',AV p gv v a H' S'∧Sub S' U H∧(∀k,x.2.2.ownBlock=some k→¬S' k),λx=>m.toNat-x.1,
  ⟨(0,[],.slice none 0 0),⟨rfl,rfl,trivial⟩,Qk _,htot,Qd _,Own.nil _ _ _ _,U,h,Sub.refl _ _,λk hk=>by cases hk⟩,?_⟩
 rintro⟨i,acc,w⟩ H1 junk ⟨hi,hto,hal,how,S1,h1,hs1,hw1⟩ F
 dsimp only at hi hto hal how hw1
 conv=>whnf
 refine⟨rfl,λh2=>?_,λh2=>?_⟩
 ·have h':i<m.toNat:=by have:(i:Int)<m:=h2;omega
  rw[show m.toNat-i=(m.toNat-(i+1))+1 by omega,alF] at hto
  conv=>whnf
  refine⟨_,cel_of h1.vol rfl,?_⟩
  conv=>whnf
  refine .t (s_aalive (i:Int) h1.arr) (hs1) ?_
  rintro _ H2 ⟨rfl,S2,ha2,hs2⟩ e2 _
  have h2':=h1.step e2 ha2 hs2
  obtain⟨how2,hw2⟩:=how.past hw1 e2 hs2
  have hsub:Sub S2 U H:=hs1.trans hs2 F.1
  have hF1:H.size≤H1.size:=F.1
  have h12:=e2.1
  cases hal2:Dk.aalive a i with
  |true=>
   rw[hal2,if_pos rfl,←Qt] at hto
   conv=>whnf
   refine⟨rfl,?_⟩
   intro H3 r f3 _
   have how3:=how2.q f3.e
   conv=>whnf
   refine .el2 [.int .i64 (i:Int)] (by kernel_rfl) how3 (CellsAt.new (cs:=[.int .i64 (i:Int)]) f3) rfl (by simp[oneCell]) (by omega) (by have:=f3.e.1;omega) (λk hk=>.inr (how3.ge k hk).1) ?_
   intro v4 H4 ho4 e4 _ hb4
   have h3:=h2'.q f3.e
   obtain⟨ha4,hn4⟩:=Own.app e4 h3.arr hw2 hb4
   have hg4:H4[gv]? =some (.cells (volL p.ga v).toArray 70 (0,0)):=e4.blkT h3.vol (λhk=>how3.ne h3.vol (by decide) hk)
   conv=>whnf
   refine⟨rfl,((i+1:Nat):Int),wr64 (by omega) (by omega),?_⟩
   refine⟨(i+1,acc++[(i:Int)],v4),⟨rfl,rfl,trivial⟩,⟨h',hto,by simp;omega,?_,S2,⟨hg4,ha4,h3.out⟩,hsub,hn4⟩,by show m.toNat-(i+1)<m.toNat-i;omega⟩
   simpa [intV] using ho4
  |false=>
   rw[hal2,if_neg (by decide),QI] at hto
   conv=>whnf
   refine⟨rfl,((i+1:Nat):Int),wr64 (by omega) (by omega),?_⟩
   exact⟨(i+1,acc,w),⟨rfl,rfl,trivial⟩,⟨h',hto,YQ hal,how2,S2,h2',hsub,hw2⟩,by show m.toNat-(i+1)<m.toNat-i;omega⟩
 ·have hi':m.toNat-i=0:=by have:¬(i:Int)<m:=h2;omega
  rw[hi',alF,QT] at hto
  subst hto
  exact⟨how,S1,h1.arr,hs1,hw1⟩
theorem s_vpower(h:AV p gv v a H U):Spec prog 130 #[ptr gv 0] H U λu H'=>u=.int .i64 (Dk.powerE a)∧∃S',PaH p a H' S'∧Sub S' U H:=by
 have hE:Dk.powerE a=if a.down=true then 9 else 0:=rfl
 generalize Dk.powerE a=e at hE⊢
 have hdn:=λ{X:Heap} {V:Nat→Prop} (h:PaH p a X V)=>s_adown h
 refine spx func130 ?_
 conv=>whnf
 refine⟨_,cel_of h.vol rfl,?_⟩
 cases hd:a.down with
 |true=>
  rw[hd,if_pos rfl] at hE
  subst hE
  rw[hd] at hdn
  conv=>whnf
  refine .t (hdn h.arr) (λk h=>.inl h) ?_
  rintro _ H1 ⟨rfl,S',ha,hs⟩ e1 _
  exact⟨rfl,S',ha,hs⟩
 |false=>
  rw[hd,if_neg (by decide)] at hE
  subst hE
  rw[hd] at hdn
  conv=>whnf
  refine .t (hdn h.arr) (λk h=>.inl h) ?_
  rintro _ H1 ⟨rfl,S',ha,hs⟩ e1 _
  exact⟨rfl,S',ha,hs⟩
end
attribute [irreducible] vputE vputA vgetV aliveL
theorem makeV_len(k m:Int)(h:(makeV k m).2=0):(makeV k m).1.length=k.toNat+m.toNat:=by
 unfold makeV at*
 split at h
 ·rw[if_pos (by assumption)]
  simp[genV,unitL]
 ·cases h
theorem encV_len(data:List By)(m:Int)(h:(encV data m).2=0):(encV data m).1.length=data.length+m.toNat:=by
 unfold encV at*
 by_cases h1:(makeV (data.length:Int) m).2=0
 ·rw[if_neg (λe=>e h1)] at h⊢
  split at h
  ·cases h
  ·rename_i h2
   rw[if_neg h2]
   simp only[spreadV,Qv]
   rw[makeV_len _ _ h1,Qn]
 ·rw[if_pos h1] at h
  cases h
theorem encV_row(data:List By)(m:Int)(n:Nat)(h:∀r∈data,r.length≤n):∀r∈(encV data m).1,r.length≤n:=by
 unfold encV
 repeat' split
 all_goals try (intro r hr;simp at hr;done)
 intro r hr
 simp only[spreadV,Qw] at hr
 obtain⟨x,_,rfl⟩:=hr
 exact gatherV_len _ _ n h
theorem splitD_len{c:Cf}{data:By}(ho:cfOk c)(h:(data.length:Int)≤cfCap c):((splitD c data).length:Int)=c.k*c.sh:=by
 have:=ho.b
 unfold cfCap at h
 rw[if_pos ho] at h
 unfold splitD
 simp[Tp.putL]
 omega
theorem splitV_len(c:Cf)(data:By)(h:(splitV c data).2=0):((splitV c data).1.length:Int)=cfDisks c:=by
 have hrd:splitV c data=if ¬cfOk c then([],1) else if cfCap c<data.length then([],12) else encV ((List.range (chN (splitD c data).length c.sh.toNat)).map (chunksL c.sh.toNat (splitD c data))) c.m:=by unfold splitV;rfl
 rw[hrd] at h⊢
 by_cases ho:cfOk c
 ·rw[if_neg (λe=>e ho)] at h⊢
  by_cases hc:cfCap c<data.length
  ·rw[if_pos hc] at h;cases h
  ·rw[if_neg hc] at h⊢
   rw[encV_len _ _ h]
   have hb:=ho.b
   have hD:=splitD_len (data:=data) ho (by omega)
   obtain⟨kn,hkn⟩:∃kn:Nat,c.k=(kn:Int):=⟨c.k.toNat,by omega⟩
   obtain⟨q,hq⟩:∃q:Nat,c.sh=(q:Int):=⟨c.sh.toNat,by omega⟩
   have hDn:(splitD c data).length=kn*q:=by rw[hkn,hq] at hD;exact ZZ.1 (by rw[hD];simp)
   rw[Qv,Zr,hDn,hq,Qn]
   unfold chN cfDisks
   rw[if_pos ho,Ym,Y3 (by omega),ZT (by omega),ZK]
   omega
 ·rw[if_pos ho] at h;cases h
theorem splitV_row(c:Cf)(data:By):∀r∈(splitV c data).1,r.length≤1024:=by
 have hrd:splitV c data=if ¬cfOk c then([],1) else if cfCap c<data.length then([],12) else encV ((List.range (chN (splitD c data).length c.sh.toNat)).map (chunksL c.sh.toNat (splitD c data))) c.m:=by unfold splitV;rfl
 rw[hrd]
 by_cases ho:cfOk c
 ·rw[if_neg (λe=>e ho)]
  by_cases hc:cfCap c<data.length
  ·rw[if_pos hc];intro r hr;simp at hr
  ·rw[if_neg hc]
   refine encV_row _ _ _ λr hr=>?_
   obtain⟨x,_,rfl⟩:=Qw.1 hr
   rw[chunksL_len]
   have hb:=ho.b
   unfold chLen
   omega
 ·rw[if_pos ho];intro r hr;simp at hr
def putF(v:Vol)(pl ep:Int)(l:List By):List Int→Arr→Int×Arr
 |[],a=>(0,a)
 |d::ds,a=>if vputE a v d pl ep (l.getD d.toNat [])≠0 then(vputE a v d pl ep (l.getD d.toNat []),vputA a v d pl ep (l.getD d.toNat [])) else putF v pl ep l ds (vputA a v d pl ep (l.getD d.toNat []))
def shardsV(a:Arr)(v:Vol)(n ep:Int)(t:By)(ds:List Int):Int×Arr:=if(splitV v.conf t).2≠0 then((splitV v.conf t).2,a) else putF v (cfStripe v.conf n) ep (splitV v.conf t).1 ds a
theorem putF_sm(v:Vol)(pl ep:Int)(l:List By):∀(ds:List Int) {B:Nat} {a:Arr},Sm B a→Sm (B+ds.length) (putF v pl ep l ds a).2
 |[],_,_,h=>h
 |d::ds,B,a,h=>by
  unfold putF
  have h1:=vputA_sm h v d pl ep (l.getD d.toNat [])
  split
  ·exact h1.mono (by simp)
  ·exact(putF_sm v pl ep l ds h1).mono (by simp;omega)
theorem shardsV_sm(v:Vol)(n ep:Int)(t:By)(ds:List Int){B:Nat}{a:Arr}(h:Sm B a):Sm (B+ds.length) (shardsV a v n ep t ds).2:=by
 unfold shardsV
 split
 ·exact h.mono (by omega)
 ·exact putF_sm _ _ _ _ _ h
theorem AV.cf{p:Pl}{gv:Nat}{v:Vol}{a:Arr}{H:Heap}{S:Nat→Prop}(h:AV p gv v a H S):CellsAt H gv 1 (cfL v.conf):=⟨cel_of h.vol rfl,cel_of h.vol rfl,cel_of h.vol rfl,cel_of h.vol rfl,cel_of h.vol rfl,trivial⟩
theorem Own.gint{H:Heap}{base n:Nat}{v:Value}{l:List Int}(h:Own H base 3 1 v n (intV l)):∃ad cap,v=.slice ad l.length cap∧∀i x,l[i]? =some x→∃b o,ad=some ⟨b,o,none⟩∧cel H ⟨b,o+i,none⟩=some (.int .i64 x):=by
 obtain⟨ad,cap,h1,_,h2⟩:=h.rd.1.ints
 exact⟨ad,cap,h1,h2⟩
section
variable {p:Pl}{gv:Nat}{v:Vol}{a:Arr}{H:Heap}{U:Nat→Prop}
theorem s_vshards(h:AV p gv v a H U){B:Nat}(hB:Sm B a)(n ep:Int)(t:By)(ht:t.length≤1000000)(hep:ep≤9223372036854775807)(hid:v.id≤9223372036854775807){dv:Value}{ds:List Int}{base:Nat}(hd:Own H base 3 1 dv ds.length (intV ds))(hda:∀k,dv.ownBlock=some k→¬U k)
  (hds:∀d∈ds,0≤d∧d<cfDisks v.conf) (hBl:B+ds.length≤1000000):
  Spec prog 40 #[ptr gv 0,.int .i64 n,.int .i64 ep,.string (S t),dv] H U λu H'=>u=.int .i64 (shardsV a v n ep t ds).1∧∃S',PaH p (shardsV a v n ep t ds).2 H' S'∧Sub S' U H:=by
 obtain⟨tot,htot⟩:∃t',shardsV a v n ep t ds=t':=⟨_,rfl⟩
 rw[htot]
 unfold shardsV at htot
 have hsp:=λH=>s_split v.conf t ht H
 have hsl:=splitV_len v.conf t
 have hsr:=splitV_row v.conf t
 generalize splitV v.conf t=sp at htot hsp hsl hsr
 have hstr:=λH=>s_stripe v.conf n H
 have hpl:cfStripe v.conf n≤9223372036854775807:=by
  unfold cfStripe
  split
  ·rename_i ho
   have:=ho.b
   split<;>omega
  ·omega
 generalize cfStripe v.conf n=pl at htot hstr hpl
 have hcd:cfDisks v.conf≤255:=by
  unfold cfDisks
  split
  ·rename_i ho
   have:=ho.b
   omega
  ·omega
 generalize cfDisks v.conf=nd at*
 refine spx func40 ?_
 conv=>whnf
 refine⟨cfL v.conf,rfl,h.cf,?_⟩
 conv=>whnf
 refine .q (hsp _) ?_
 rintro _ H1 ⟨w,rfl,how⟩ e1 _
 conv=>whnf
 refine⟨rfl,λh1=>?_,λh1=>?_⟩
 ·rw[if_pos h1] at htot
  subst htot
  exact⟨rfl,U,h.arr.q e1,Sub.refl _ _⟩
 rw[if_neg (λe=>e h1)] at htot
 have hsl':=hsl h1
 obtain⟨ad,cap,rfl,_⟩:=hd.gint
 have hd1:=hd.q e1
 conv=>whnf
 refine⟨Nat×List Int×Arr,λx=>[(30,.int .i64 (x.1:Int))],λx H'=>x.1+x.2.1.length=ds.length∧ds.drop x.1=x.2.1∧putF v pl ep sp.1 x.2.1 x.2.2=tot∧Sm (B+x.1) x.2.2∧Own H' base 3 1 (.slice ad ds.length cap) ds.length (intV ds)∧Own H' H.size 9 1 w sp.1.length (strV sp.1)∧
   ∃S',AV p gv v x.2.2 H' S'∧Sub S' U H∧(∀k,(Value.slice ad ds.length cap).ownBlock=some k→¬S' k)∧(∀k,w.ownBlock=some k→¬S' k),λx=>x.2.1.length,
  ⟨(0,ds,a),⟨rfl,trivial⟩,by simp,rfl,htot,hB,hd1,how,U,h.q e1,Sub.refl _ _,hda,λk hk hU=>by have:=(how.ge k hk).1;have:=h.arr.lt k hU;omega⟩,?_⟩
 rintro⟨i,r,a1⟩ H2 junk ⟨hi,hdr,hto,hB1,hd2,how2,S1,h2,hs1,hda1,hwa1⟩ F
 dsimp only at hi hdr hto hB1
 conv=>whnf
 refine⟨rfl,λh3=>?_,λh3=>?_⟩
 ·have h':i<ds.length:=by have:(i:Int)<(ds.length:Int):=h3;omega
  cases r with
  |nil=>simp at hi;omega
  |cons d r=>
   have hy:ds[i]? =some d:=by
    have:=Qf (·[0]?) hdr
    simpa using this
   have hdr':ds.drop (i+1)=r:=by
    have:=Qf List.tail hdr
    simpa using this
   have hdb:=hds d (Qj hy)
   obtain⟨dn,rfl⟩:=QW hdb.1
   have hdl:dn<sp.1.length:=by omega
   have hrow:sp.1[dn]? =some (sp.1.getD dn []):=gD hdl
   have hrl:=hsr _ (Qj hrow)
   unfold putF at hto
   rw[Qn] at hto
   obtain⟨ad',cap',hvw,hws⟩:=how2.rd.1.strs
   subst hvw
   have hwc:=hws dn _ hrow
   have hwi:=hd2.gint
   generalize sp.1.getD dn []=tx at hto hrl hwc
   refine Qh hwc λwb hwc=>Qh hwc λwo hwc=>?_
   have hwc1:=hwc.1
   subst hwc1
   have hput:=λ{X:Heap} {V:Nat→Prop} (hX:AV p gv v a1 X V)=>s_vput hX (hB1.mono (by omega)) (dn:Int) pl ep tx ⟨hid,by show(dn:Int)≤_;omega,hpl,hep,by show tx.length≤_;omega⟩
   have hsm:=vputA_sm hB1 v (dn:Int) pl ep tx
   generalize vputE a1 v (dn:Int) pl ep tx=pe at hto hput
   generalize vputA a1 v (dn:Int) pl ep tx=a2 at hto hput hsm
   refine Qh hwi λad2 hwi=>Qh hwi λcap2 hwi=>?_
   have hwe:=hwi.1
   cases hwe
   have hic:=hwi.2 i _ hy
   refine Qh hic λib hic=>Qh hic λio hic=>?_
   have hic1:=hic.1
   subst hic1
   conv=>whnf
   refine⟨i,rfl,h',?_⟩
   conv=>whnf
   refine⟨_,hic.2,?_⟩
   conv=>whnf
   refine .p S1 (.take 0 (.take 1 (.take 2 (.take 3 (.take 4 (.take 5 (.take 6 (.take 8 (.take 9 (.take 10 (.take 11 (.take 12 (.one 7 (.one 13 (.take 14 .done))))))))))))))) hs1 (by kernel_rfl) ?_
   conv=>whnf
   refine⟨h2.out,cfL v.conf,rfl,by simp[cfL],h2.cf,?_⟩
   conv=>whnf
   refine⟨dn,rfl,hdl,?_⟩
   conv=>whnf
   refine⟨λe=>hwa1 wb rfl e,_,hwc.2,?_⟩
   conv=>whnf
   refine .q (hstr _) ?_
   rintro _ H3 rfl e3 _
   have h3:=h2.q e3
   conv=>whnf
   refine .t (hput h3) (λk h=>.inl h) ?_
   rintro _ H4 ⟨rfl,S4,ha4,hs4⟩ e4 F4
   have h4:=h3.step e4 ha4 hs4
   obtain⟨hd4,hda4⟩:=(hd2.q e3).past hda1 e4 hs4
   obtain⟨how4,hwa4⟩:=(how2.q e3).past hwa1 e4 hs4
   have hsub:Sub S4 U H:=hs1.trans (λk hk=>(hs4 k hk).imp id (Qb e3.1)) F.1
   conv=>whnf
   refine⟨rfl,λh5=>?_,λh5=>?_⟩
   ·rw[if_pos h5] at hto
    subst hto
    exact⟨rfl,S4,ha4,hsub⟩
   ·rw[if_neg (λe=>e h5)] at hto
    conv=>whnf
    refine⟨rfl,((i+1:Nat):Int),wr64 (by omega) (by omega),?_⟩
    exact⟨(i+1,r,a2),⟨rfl,trivial⟩,⟨by simp at hi⊢;omega,hdr',hto,hsm.mono (by omega),hd4,how4,S4,h4,hsub,hda4,hwa4⟩,by show r.length<r.length+1;omega⟩
 ·have hr0:r=[]:=Qm (by have:¬(i:Int)<(ds.length:Int):=h3;omega)
  rw[hr0] at hto
  unfold putF at hto
  subst hto
  exact⟨rfl,S1,h2.arr,hs1⟩
end
attribute [irreducible] shardsV putF
def ofV(l:List Int)(e:Int):List Bool:=l.map λx=>decide (x=e)
theorem ofV_len(l:List Int)(e:Int):(ofV l e).length=l.length:=by simp[ofV]
def cntB:List Bool→Nat
 |[]=>0
 |b::r=>(if b=true then 1 else 0)+cntB r
theorem cntB_app(a b:List Bool):cntB (a++b)=cntB a+cntB b:=by
 induction a with
 |nil=>simp[cntB]
 |cons x r ih=>simp only[QR,cntB,ih];omega
theorem cntB_le:∀l:List Bool,cntB l≤l.length
 |[]=>Qd _
 |b::r=>by
  have:=cntB_le r
  unfold cntB
  split<;>simp<;>omega
theorem s_sof(u1:Value){u2:Value}{l:List Int}(e:Int){H:Heap}(h:Rd H u2 (intV l))(hn:l.length≤1000000):
  Spec prog 39 #[.agg #[u1,u2],.int .i64 e] H nob λu H'=>∃w,u=.tuple #[w,.int .i64 (cntB (ofV l e):Nat)]∧Own H' H.size 4 1 w l.length (boolV (ofV l e)):=by
 obtain⟨ad,cap,rfl,hlc,hw⟩:=h.ints
 clear h
 refine spx func39 ?_
 conv=>whnf
 intro H1 g f1 _
 have hg1:H1[g]? =some (.cells #[u1,.slice ad l.length cap] 79 (0,0)):=f1.at
 have hgs:=f1.size
 conv=>whnf
 refine⟨_,cel_of hg1 rfl,?_⟩
 conv=>whnf
 refine⟨l.length,l.length,rfl,rfl,Qd _,by omega,by show 1*l.length≤_;omega,rfl,?_⟩
 intro H2 b f2 _
 have hbs:=f2.size
 have hb2:H2[b]? =some (.cells (boolV []++List.replicate l.length (Value.bool false)).toArray 4 (0,0)):=by
  have:=f2.at
  rw[show zerosL l.length (Value.bool false).cells.toList=List.replicate l.length (Value.bool false) from zerosL_one _ _] at this
  exact this
 have hg2:=f2.e.blk hg1
 have hF2:=f1.e.trans f2.e
 conv=>whnf
 refine⟨_,cel_of hg2 rfl,?_⟩
 conv=>whnf
 refine⟨Nat×List Int×List Bool,λx=>[(17,.int .i64 (x.1:Int)),(7,.int .i64 (cntB x.2.2:Nat))],λx H'=>x.1+x.2.1.length=l.length∧l.drop x.1=x.2.1∧x.2.2.length=x.1∧x.2.2++ofV x.2.1 e=ofV l e∧H'[b]? =some (.cells (boolV x.2.2++List.replicate (l.length-x.1) (Value.bool false)).toArray 4 (0,0))∧Frm nob H H',λx=>x.2.1.length,
  ⟨(0,l,[]),⟨rfl,rfl,trivial⟩,by simp,rfl,rfl,rfl,hb2,hF2⟩,?_⟩
 rintro⟨i,r,acc⟩ H3 junk ⟨hi,hd,hal,hto,hb3,hF3⟩ F
 dsimp only at hi hd hal hto hb3
 conv=>whnf
 refine⟨rfl,λh3=>?_,λh3=>?_⟩
 ·have h':i<l.length:=by have:(i:Int)<(l.length:Int):=h3;omega
  cases r with
  |nil=>simp at hi;omega
  |cons y r=>
   have hy:l[i]? =some y:=by
    have:=Qf (·[0]?) hd
    simpa using this
   have hd':l.drop (i+1)=r:=by
    have:=Qf List.tail hd
    simpa using this
   have hc:=hw i y hy
   refine Qh hc λib hc=>Qh hc λio hc=>?_
   have hc1:=hc.1
   subst hc1
   have hbl:H.size≤b:=by omega
   conv=>whnf
   refine⟨i,rfl,h',?_⟩
   conv=>whnf
   refine⟨_,hF3.cel hc.2,?_⟩
   have hto':acc++[decide (y=e)]++ofV r e=ofV l e:=by rw[Qt];exact hto
   have hset:(boolV acc++List.replicate (l.length-i) (Value.bool false)).set i (Value.bool (decide (y=e)))=boolV (acc++[decide (y=e)])++List.replicate (l.length-(i+1)) (Value.bool false):=by
    rw[show l.length-i=(l.length-(i+1))+1 by omega,show i=(boolV acc).length by simp[boolV,hal],fill_set]
    simp[boolV,hal]
   have hget:∀{H4:Heap},H4[b]? =some (.cells (boolV (acc++[decide (y=e)])++List.replicate (l.length-(i+1)) (Value.bool false)).toArray 4 (0,0))→cel H4 ⟨b,0+i,none⟩=some (.bool (decide (y=e))):=λh4=>cel_of h4 (by
    rw[Qr,Qq,QG (by simp[boolV,hal])]
    simp[boolV,hal])
   have hcn:cntB (acc++[decide (y=e)])=cntB acc+cntB [decide (y=e)]:=cntB_app _ _
   have hcl:=cntB_le acc
   conv=>whnf
   refine⟨rfl,λh4=>?_,λh4=>?_⟩
   ·have h4':y=e:=h4
    rw[QO h4'] at hset hget hto' hcn
    conv=>whnf
    refine⟨i,rfl,h',?_⟩
    conv=>whnf
    refine .one (v:=.bool true) i hb3 (.inr hbl) (Qr i) rfl rfl (by simp[boolV,hal];omega) ?_
    intro H4 u4 _
    rw[hset] at u4
    conv=>whnf
    refine⟨i,rfl,h',?_⟩
    conv=>whnf
    refine⟨_,hget u4.1,?_⟩
    conv=>whnf
    refine⟨rfl,((cntB (acc++[true]):Nat):Int),by rw[hcn];exact wr64 (by omega) (by simp[cntB];omega),?_⟩
    conv=>whnf
    refine⟨rfl,((i+1:Nat):Int),wr64 (by omega) (by omega),?_⟩
    exact⟨(i+1,r,acc++[true]),⟨rfl,rfl,trivial⟩,⟨by simp at hi⊢;omega,hd',by simp[hal],hto',u4.1,Frm.then hF3 u4.e (λk hk=>.inr (by subst hk;exact hbl))⟩,by show r.length<r.length+1;omega⟩
   ·have h4':¬y=e:=h4
    rw[QM h4'] at hset hget hto' hcn
    conv=>whnf
    refine⟨i,rfl,h',?_⟩
    conv=>whnf
    refine .one (v:=.bool false) i hb3 (.inr hbl) (Qr i) rfl rfl (by simp[boolV,hal];omega) ?_
    intro H4 u4 _
    rw[hset] at u4
    conv=>whnf
    refine⟨i,rfl,h',?_⟩
    conv=>whnf
    refine⟨_,hget u4.1,?_⟩
    conv=>whnf
    refine⟨rfl,((i+1:Nat):Int),wr64 (by omega) (by omega),?_⟩
    exact⟨(i+1,r,acc++[false]),⟨rfl,by rw[hcn];rfl,trivial⟩,⟨by simp at hi⊢;omega,hd',by simp[hal],hto',u4.1,Frm.then hF3 u4.e (λk hk=>.inr (by subst hk;exact hbl))⟩,by show r.length<r.length+1;omega⟩
 ·have hr0:r=[]:=Qm (by have:¬(i:Int)<(l.length:Int):=h3;omega)
  subst hr0
  have hto':acc=ofV l e:=by simpa [ofV] using hto
  have hi':i=l.length:=by simpa using hi
  subst hi'
  rw[ZA,Jd,QT] at hb3
  refine⟨.slice (some ⟨b,0,none⟩) l.length l.length,?_,?_⟩
  ·rw[←hto'];rfl
  ·rw[←hto']
   exact Own.new hb3 (by simp[boolV,hal]) (by omega) (by omega)
attribute [irreducible] ofV
def epF(l:List Int)(k:Int):List Int→Int→Int
 |[],best=>best
 |e::r,best=>epF l k r (if best<e then(if k≤(cntB (ofV l e):Nat) then e else best) else best)
def epV(l:List Int)(k:Int):Int:=epF l k l (-1)
theorem s_sepoch(u1:Value){u2:Value}{l:List Int}(k:Int){H:Heap}(h:Rd H u2 (intV l))(hn:l.length≤1000000):
  Spec prog 131 #[.agg #[u1,u2],.int .i64 k] H nob λu _=>u=.int .i64 (epV l k):=by
 obtain⟨tot,htot⟩:∃t,epV l k=t:=⟨_,rfl⟩
 rw[htot]
 have hof:=λ{X:Heap} (hX:Frm nob H X) (e:Int)=>s_sof u1 e (h.q hX) hn
 obtain⟨ad,cap,rfl,hlc,hw⟩:=h.ints
 clear h
 refine spx func131 ?_
 conv=>whnf
 intro H1 g f1 _
 have hg1:H1[g]? =some (.cells #[u1,.slice ad l.length cap] 79 (0,0)):=f1.at
 conv=>whnf
 refine⟨_,cel_of hg1 rfl,?_⟩
 conv=>whnf
 refine⟨Nat×List Int×Int,λx=>[(13,.int .i64 (x.1:Int)),(5,.int .i64 x.2.2)],λx H'=>x.1+x.2.1.length=l.length∧l.drop x.1=x.2.1∧epF l k x.2.1 x.2.2=tot∧H'[g]? =some (.cells #[u1,.slice ad l.length cap] 79 (0,0))∧Frm nob H H',λx=>x.2.1.length,
  ⟨(0,l, -1),⟨rfl,rfl,trivial⟩,by simp,rfl,htot,hg1,f1.e⟩,?_⟩
 rintro⟨i,r,best⟩ H3 junk ⟨hi,hd,hto,hg3,hF3⟩ F
 dsimp only at hi hd hto
 conv=>whnf
 refine⟨rfl,λh3=>?_,λh3=>?_⟩
 ·have h':i<l.length:=by have:(i:Int)<(l.length:Int):=h3;omega
  cases r with
  |nil=>simp at hi;omega
  |cons y r=>
   have hy:l[i]? =some y:=by
    have:=Qf (·[0]?) hd
    simpa using this
   have hd':l.drop (i+1)=r:=by
    have:=Qf List.tail hd
    simpa using this
   unfold epF at hto
   have hc:=hw i y hy
   refine Qh hc λib hc=>Qh hc λio hc=>?_
   have hc1:=hc.1
   subst hc1
   conv=>whnf
   refine⟨i,rfl,h',?_⟩
   conv=>whnf
   refine⟨_,hF3.cel hc.2,?_⟩
   conv=>whnf
   refine⟨[u1,.slice (some ⟨ib,io,none⟩) l.length cap],rfl,⟨cel_of hg3 rfl,cel_of hg3 rfl,trivial⟩,?_⟩
   have hofy:=hof hF3 y
   generalize cntB (ofV l y)=cn at hofy hto
   conv=>whnf
   refine .q (hofy) ?_
   rintro _ H4 ⟨w,rfl,how⟩ e4 _
   have hg4:=e4.blk hg3
   conv=>whnf
   refine⟨rfl,λh5=>?_,λh5=>?_⟩
   ·rw[if_pos h5] at hto
    conv=>whnf
    refine⟨rfl,λh6=>?_,λh6=>?_⟩
    ·rw[if_pos h6] at hto
     conv=>whnf
     refine⟨rfl,((i+1:Nat):Int),wr64 (by omega) (by omega),?_⟩
     exact⟨(i+1,r,y),⟨rfl,rfl,trivial⟩,⟨by simp at hi⊢;omega,hd',hto,hg4,hF3.trans e4⟩,by show r.length<r.length+1;omega⟩
    ·rw[if_neg h6] at hto
     conv=>whnf
     refine⟨rfl,((i+1:Nat):Int),wr64 (by omega) (by omega),?_⟩
     exact⟨(i+1,r,best),⟨rfl,rfl,trivial⟩,⟨by simp at hi⊢;omega,hd',hto,hg4,hF3.trans e4⟩,by show r.length<r.length+1;omega⟩
   ·rw[if_neg h5] at hto
    conv=>whnf
    refine⟨rfl,((i+1:Nat):Int),wr64 (by omega) (by omega),?_⟩
    exact⟨(i+1,r,best),⟨rfl,rfl,trivial⟩,⟨by simp at hi⊢;omega,hd',hto,hg4,hF3.trans e4⟩,by show r.length<r.length+1;omega⟩
 ·have hr0:r=[]:=Qm (by have:¬(i:Int)<(l.length:Int):=h3;omega)
  subst hr0
  unfold epF at hto
  exact⟨Qf (Value.int .i64) hto⟩
attribute [irreducible] epV
theorem Own.form{H:Heap}{base n sz:Nat}{e:TypeId}{v:Value}{xs:List Value}(h:Own H base e sz v n xs):∃ad cap,v=.slice ad n cap:=by
 rcases h.2 with ⟨rfl,rfl⟩|⟨_,_,_,rfl,_⟩
 ·exact⟨_,_,rfl⟩
 ·exact⟨_,_,rfl⟩
def blkX:Blk:=⟨0,0,0, -1,[]⟩
def stOne(a:Arr)(v:Vol)(pl:Int)(d:Int):By×Int:=
 if(vgetV a v d pl).2=true then(if((vgetV a v d pl).1.text.length:Int)≠v.conf.sh then([], -1) else((vgetV a v d pl).1.text,(vgetV a v d pl).1.epoch)) else([], -1)
def stF(a:Arr)(v:Vol)(pl:Int):Nat→Nat→List (By×Int)
 |0,_=>[]
 |q+1,d=>stOne a v pl d::stF a v pl q (d+1)
def vstate(a:Arr)(v:Vol)(n:Int):List (By×Int):=stF a v (cfStripe v.conf n) a.ds.length 0
theorem stF_len(a:Arr)(v:Vol)(pl:Int):∀q d,(stF a v pl q d).length=q
 |0,_=>rfl
 |q+1,d=>by unfold stF;rw[Qo,stF_len a v pl q (d+1)]
theorem vstate_len(a:Arr)(v:Vol)(n:Int):(vstate a v n).length=a.ds.length:=stF_len _ _ _ _ _
structure RS(p:Pl)(gv:Nat)(v:Vol)(a:Arr)(S:Nat→Prop)(base gs gr:Nat)(u1 u2 w1:Value)(n1:Nat)(l1:List By)(w2:Value)(n2:Nat)(l2:List Int)(H:Heap):Prop where
 av:AV p gv v a H S
 s:H[gs]? =some (.cells #[u1,u2] 79 (0,0))
 r:H[gr]? =some (.cells #[.slice none 0 0,.slice none 0 0] 79 (0,0))
 o1:Own H base 9 1 w1 n1 (strV l1)
 o2:Own H base 3 1 w2 n2 (intV l2)
 p1:∀k,w1.ownBlock=some k→¬S k
 p2:∀k,w2.ownBlock=some k→¬S k
section
variable {p:Pl}{gv:Nat}{v:Vol}{a:Arr}{S:Nat→Prop}{base gs gr n1 n2:Nat}{u1 u2 w1 w2:Value}{l1:List By}{l2:List Int}{H H':Heap}
theorem RS.q(h:RS p gv v a S base gs gr u1 u2 w1 n1 l1 w2 n2 l2 H)(hF:Frm nob H H'):RS p gv v a S base gs gr u1 u2 w1 n1 l1 w2 n2 l2 H':=
 ⟨h.av.q hF,hF.blk h.s,hF.blk h.r,h.o1.q hF,h.o2.q hF,h.p1,h.p2⟩
theorem RS.st{u1' u2':Value}(h:RS p gv v a S base gs gr u1 u2 w1 n1 l1 w2 n2 l2 H)(u:Upd H H' gs (.cells #[u1',u2'] 79 (0,0)))(hS:¬S gs)(hr:gr≠gs):RS p gv v a S base gs gr u1' u2' w1 n1 l1 w2 n2 l2 H':=
 ⟨h.av.frm u.e (λk hk (e:k=gs)=>hS (e▸hk)) (λ(e:gv=gs)=>by have h1:=h.av.vol;rw[e,h.s] at h1;simp at h1),u.1,(u.2.2 gr hr).trans h.r,
  h.o1.frm u.e (λk hk (e:k=gs)=>h.o1.ne h.s (by decide) (e▸hk)),h.o2.frm u.e (λk hk (e:k=gs)=>h.o2.ne h.s (by decide) (e▸hk)),h.p1,h.p2⟩
theorem RS.a1{w':Value}{x:By}(h:RS p gv v a S base gs gr u1 u2 w1 n1 l1 w2 n2 l2 H)(ho:Own H' base 9 1 w' (n1+1) (strV l1++[.string (Tp.S x)]))(hF:Frm (λk=>w1.ownBlock=some k) H H')(hb:∀k,w'.ownBlock=some k→w1.ownBlock=some k∨H.size≤k):
  RS p gv v a S base gs gr u1 u2 w' (n1+1) (l1++[x]) w2 n2 l2 H':=by
 obtain⟨ha,hp⟩:=Own.app hF h.av.arr h.p1 hb
 exact⟨⟨hF.blkT h.av.vol (λhk=>h.o1.ne h.av.vol (by decide) hk),ha,h.av.out⟩,hF.blkT h.s (λhk=>h.o1.ne h.s (by decide) hk),hF.blkT h.r (λhk=>h.o1.ne h.r (by decide) hk),by rw[strV_snoc];exact ho,
  h.o2.frm hF (λk hk e=>h.o1.apart h.o2 (by decide) k e hk),hp,h.p2⟩
theorem RS.a2{w':Value}{x:Int}(h:RS p gv v a S base gs gr u1 u2 w1 n1 l1 w2 n2 l2 H)(ho:Own H' base 3 1 w' (n2+1) (intV l2++[.int .i64 x]))(hF:Frm (λk=>w2.ownBlock=some k) H H')(hb:∀k,w'.ownBlock=some k→w2.ownBlock=some k∨H.size≤k):
  RS p gv v a S base gs gr u1 u2 w1 n1 l1 w' (n2+1) (l2++[x]) H':=by
 obtain⟨ha,hp⟩:=Own.app hF h.av.arr h.p2 hb
 exact⟨⟨hF.blkT h.av.vol (λhk=>h.o2.ne h.av.vol (by decide) hk),ha,h.av.out⟩,hF.blkT h.s (λhk=>h.o2.ne h.s (by decide) hk),hF.blkT h.r (λhk=>h.o2.ne h.r (by decide) hk),
  h.o1.frm hF (λk hk e=>h.o1.apart h.o2 (by decide) k hk e),by simpa [intV] using ho,h.p1,hp⟩
end
section
variable {p:Pl}{gv:Nat}{v:Vol}{a:Arr}{H:Heap}{U:Nat→Prop}
theorem s_vstate(h:AV p gv v a H U){B:Nat}(hB:Sm B a)(n:Int)(hnd:a.ds.length≤1000000):
  Spec prog 38 #[ptr gv 0,.int .i64 n] H U λu H'=>∃u1 u2,u=.agg #[u1,u2]∧Own H' H.size 9 1 u1 (vstate a v n).length (strV ((vstate a v n).map (·.1)))∧Own H' H.size 3 1 u2 (vstate a v n).length (intV ((vstate a v n).map (·.2)))∧
   ∃S',PaH p a H' S'∧Sub S' U H∧(∀k,u1.ownBlock=some k→¬S' k)∧(∀k,u2.ownBlock=some k→¬S' k):=by
 obtain⟨tot,htot⟩:∃t,vstate a v n=t:=⟨_,rfl⟩
 rw[htot]
 unfold vstate at htot
 have hstr:=λH=>s_stripe v.conf n H
 generalize cfStripe v.conf n=pl at htot hstr
 refine spx func38 ?_
 conv=>whnf
 intro H1 gr f1 _
 have hr1:H1[gr]? =some (.cells #[.slice none 0 0,.slice none 0 0] 79 (0,0)):=f1.at
 have hrs:=f1.size
 conv=>whnf
 intro H2 gs f2 _
 have hs2:H2[gs]? =some (.cells #[.slice none 0 0,.slice none 0 0] 79 (0,0)):=f2.at
 have hss:=f2.size
 have h2:=(h.q f1.e).q f2.e
 conv=>whnf
 refine⟨_,cel_of h2.vol rfl,?_⟩
 conv=>whnf
 refine .t (s_adisks h2.arr) (λk h=>.inl h) ?_
 rintro _ H3 ⟨rfl,S3,ha3,hsub3⟩ e3 _
 have h3:=h2.step e3 ha3 hsub3
 have hnU:∀k,H.size≤k→¬U k:=λk hk hU=>by have:=h.arr.lt k hU;omega
 have hs3:=e3.blkT hs2 (hnU gs (by omega))
 have hr3:=e3.blkT (f2.e.blk hr1) (hnU gr (by omega))
 have hsb3:Sub S3 U H:=λk hk=>(hsub3 k hk).imp id λh=>by omega
 have hgS:∀{S':Nat→Prop},Sub S' U H2→¬S' gs∧¬S' gr:=λhs=>⟨λe=>(hs gs e).elim (hnU gs (by omega)) (λe=>by omega),λe=>(hs gr e).elim (hnU gr (by omega)) (λe=>by omega)⟩
 conv=>whnf
 refine⟨Nat×List (By×Int)×Value×Value,λx=>[(14,.int .i64 (x.1:Int))],λx H'=>x.1≤a.ds.length∧x.2.1.length=x.1∧x.2.1++stF a v pl (a.ds.length-x.1) x.1=tot∧H'[gs]? =some (.cells #[x.2.2.1,x.2.2.2] 79 (0,0))∧H'[gr]? =some (.cells #[.slice none 0 0,.slice none 0 0] 79 (0,0))∧
   Own H' H.size 9 1 x.2.2.1 x.2.1.length (strV (x.2.1.map (·.1)))∧Own H' H.size 3 1 x.2.2.2 x.2.1.length (intV (x.2.1.map (·.2)))∧∃S',AV p gv v a H' S'∧Sub S' U H2∧(∀k,x.2.2.1.ownBlock=some k→¬S' k)∧(∀k,x.2.2.2.ownBlock=some k→¬S' k),λx=>a.ds.length-x.1,
  ⟨(0,[],.slice none 0 0,.slice none 0 0),⟨rfl,trivial⟩,Qk _,rfl,htot,hs3,hr3,Own.nil _ _ _ _,Own.nil _ _ _ _,S3,h3,hsub3,λk hk=>by (cases hk),λk hk=>by cases hk⟩,?_⟩
 rintro⟨i,acc,u1,u2⟩ H4 junk ⟨hi,hal,hto,hs4,hr4,ho1,ho2,S4,h4,hsb4,hu1,hu2⟩ F
 dsimp only at hi hal hto hs4 ho1 ho2 hu1 hu2
 conv=>whnf
 refine⟨rfl,λh5=>?_,λh5=>?_⟩
 ·have h':i<a.ds.length:=by have:(i:Int)<(a.ds.length:Int):=h5;omega
  rw[show a.ds.length-i=(a.ds.length-(i+1))+1 by omega,stF] at hto
  have hget:=λ{X:Heap} {V:Nat→Prop} (hX:AV p gv v a X V)=>s_vget hX hB (i:Int) pl
  unfold stOne at hto
  generalize vgetV a v i pl=gt at hto hget
  obtain⟨bk,is⟩:=gt
  dsimp only at hto hget
  conv=>whnf
  refine⟨cfL v.conf,rfl,h4.cf,?_⟩
  conv=>whnf
  refine .q (hstr _) ?_
  rintro _ H5 rfl e5 _
  have h5:=h4.q e5
  conv=>whnf
  refine .t (hget h5) (λk hk=>(hsb4 k hk).imp id (λh=>by show H.size≤k;omega)) ?_
  rintro _ H6 ⟨rfl,S6,ha6,hsb6⟩ e6 _
  have h6:=h5.step e6 ha6 hsb6
  obtain⟨ho16,hu16⟩:=(ho1.q e5).past hu1 e6 hsb6
  obtain⟨ho26,hu26⟩:=(ho2.q e5).past hu2 e6 hsb6
  have hs45:H2.size≤H4.size:=by have:=(Qa.1 hs4).1;omega
  have hsb6':Sub S6 U H2:=λk hk=>(hsb6 k hk).elim (hsb4 k) λh=>.inr (by have:=e5.1;omega)
  have hs6:=e6.blkT (e5.blk hs4) (hgS hsb4).1
  have hr6:=e6.blkT (e5.blk hr4) (hgS hsb4).2
  conv=>whnf
  intro H7 gb f7 _
  have hb7:H7[gb]? =some (.cells (blkL blk0).toArray 130 (0,0)):=f7.at
  have hbs:=f7.size
  have h56:=e5.1
  have h66:=e6.1
  have hbH:H.size≤gb:=by omega
  have hbS:¬S6 gb:=λe=>by have:=h6.arr.lt gb e;omega
  have hgbs:gb≠gs:=by have:=(Qa.1 hs6).1;omega
  have hgbr:gb≠gr:=by have:=(Qa.1 hr6).1;omega
  have hgrs:gr≠gs:=by omega
  conv=>whnf
  refine .k ((blkL bk)) (hb7) (.inr hbH) rfl rfl ?_
  intro H8 u8 _
  have h8:AV p gv v a H8 S6:=(h6.q f7.e).frm u8.e (λk hk (e:k=gb)=>hbS (e▸hk)) (λ(e:gv=gb)=>by have:=h6.lt;omega)
  have hs8:=(u8.2.2 gs hgbs.symm).trans (f7.e.blk hs6)
  have hr8:=(u8.2.2 gr hgbr.symm).trans (f7.e.blk hr6)
  have ho18:=(ho16.q f7.e).frm u8.e (λk hk (e:k=gb)=>by have:=(ho16.ge k hk).2;omega)
  have ho28:=(ho26.q f7.e).frm u8.e (λk hk (e:k=gb)=>by have:=(ho26.ge k hk).2;omega)
  have hb8:=u8.1
  have R8:RS p gv v a S6 H.size gs gr u1 u2 u1 acc.length (acc.map (·.1)) u2 acc.length (acc.map (·.2)) H8:=⟨h8,hs8,hr8,ho18,ho28,hu16,hu26⟩
  clear ho18 ho28 hs8 hr8 h8
  obtain⟨ad1,cap1,rfl⟩:=R8.o1.form
  obtain⟨ad2,cap2,rfl⟩:=R8.o2.form
  have hround:∀{x:By×Int} {w1 w2:Value} {H9:Heap},x=(bk.text,bk.epoch)→True:=λ_=>trivial
  clear hround
  have hgS6:=hgS hsb6'
  have hbad:∀{H9:Heap} (u9:Upd H8 H9 gb (.cells (blkL blkX).toArray 130 (0,0))),RS p gv v a S6 H.size gs gr (.slice ad1 acc.length cap1) (.slice ad2 acc.length cap2) (.slice ad1 acc.length cap1) acc.length (acc.map (·.1)) (.slice ad2 acc.length cap2) acc.length (acc.map (·.2)) H9:=λu9=>
   ⟨R8.av.frm u9.e (λk hk (e:k=gb)=>hbS (e▸hk)) (λ(e:gv=gb)=>by have:=h6.lt;omega),(u9.2.2 gs hgbs.symm).trans R8.s,(u9.2.2 gr hgbr.symm).trans R8.r,
    R8.o1.frm u9.e (λk hk (e:k=gb)=>R8.o1.ne hb8 (by decide) (e▸hk)),R8.o2.frm u9.e (λk hk (e:k=gb)=>R8.o2.ne hb8 (by decide) (e▸hk)),R8.p1,R8.p2⟩
  cases is with
  |false=>
   rw[if_neg (by decide)] at hto
   conv=>whnf
   refine .q (by kernel_rfl) ?_
   conv=>whnf
   refine⟨rfl,?_⟩
   conv=>whnf
   refine .k ((blkL blkX)) (hb8) (.inr hbH) rfl rfl ?_
   intro H9 u9 _
   have R9:=hbad u9
   have hb9:=u9.1
   conv=>whnf
   refine .p2 (λk=>(Value.slice ad1 acc.length cap1).ownBlock=some k∨(Value.slice ad2 acc.length cap2).ownBlock=some k) (λk=>((Value.slice ad1 acc.length cap1).ownBlock=some k∨(Value.slice ad2 acc.length cap2).ownBlock=some k)∨k=gs) (λi=>Nat.beq i 13||Nat.beq i 15) (.take 0 (.take 1 (.take 2 (.ptake 3 (.take 6 (.take 7 (.take 8 (.ptake 9 (.two 4 (.two 5 (.take 12 (.one 10 (.one 11 (.sw (.one 13 (.take 14 (.one 15 .done))))))) 10 (.one 5 (.take 12 (.one 11 (.sw (.one 13 (.take 14 (.one 15 .done)))))))) 10 (.one 4 (.one 5 (.take 12 (.one 11 (.sw (.one 13 (.take 14 (.one 15 .done))))))))))))))))) (λk=>.inl) (λk hk=>.inr (hk.elim (λhk=>hk.elim (λe=>(R9.o1.ge k e).1) (λe=>(R9.o2.ge k e).1)) (λe=>by subst e;show H.size≤k;omega))) (by kernel_rfl) ?_
   conv=>whnf
   refine⟨λe=>e.elim (R9.o1.ne R9.s (by decide)) (R9.o2.ne R9.s (by decide)),_,cel_of R9.s rfl,?_⟩
   conv=>whnf
   refine⟨λe=>e.elim (λe=>e.elim (R9.o1.ne hb9 (by decide)) (R9.o2.ne hb9 (by decide))) hgbs,_,cel_of hb9 rfl,?_⟩
   conv=>whnf
   refine⟨λe=>e.elim (R9.o1.ne R9.s (by decide)) (R9.o2.ne R9.s (by decide)),_,cel_of R9.s rfl,?_⟩
   conv=>whnf
   refine⟨λe=>e.elim (λe=>e.elim (R9.o1.ne hb9 (by decide)) (R9.o2.ne hb9 (by decide))) hgbs,_,cel_of hb9 rfl,?_⟩
   conv=>whnf
   refine⟨?_,?_⟩
   ·conv=>whnf
    refine⟨rfl,?_⟩
    intro HA ra fa _
    have RA:=R9.q fa.e
    conv=>whnf
    refine⟨?_,?_⟩
    ·conv=>whnf
     refine .el2 [.string (Tp.S blkX.text)] (by kernel_rfl) RA.o1 (CellsAt.new (cs:=[.string _]) fa) rfl (by simp[oneCell]) (by omega) (by have:=(Qa.1 RA.s).1;omega) (λk hk=>.inl (.inl hk)) ?_
     intro v1 HB o1RB fB _ b1RB
     have RB:=RA.a1 o1RB fB b1RB
     conv=>whnf
     refine⟨rfl,?_⟩
     intro HC rc fc _
     have RC:=RB.q fc.e
     conv=>whnf
     refine .el2 [.int .i64 blkX.epoch] (by kernel_rfl) RC.o2 (CellsAt.new (cs:=[.int .i64 _]) fc) rfl (by simp[oneCell]) (by omega) (by have:=(Qa.1 RC.s).1;omega) (λk hk=>.inl (.inr hk)) ?_
     intro v2 HD o2RD f2RD _ b2RD
     have RD:=RC.a2 o2RD f2RD b2RD
     obtain⟨adA,capA,rfl⟩:=RD.o1.form
     obtain⟨adB,capB,rfl⟩:=RD.o2.form
     conv=>whnf
     refine .one (v:=.slice adA (acc.length+1) capA) (cs:=[.slice ad1 acc.length cap1,.slice ad2 acc.length cap2]) 0 RD.s (.inl (.inr rfl)) rfl rfl rfl (by simp) ?_
     intro HY uY _
     have RY:=RD.st (u1':=.slice adA (acc.length+1) capA) (u2':=.slice ad2 acc.length cap2) uY hgS6.1 hgrs
     conv=>whnf
     refine .one (v:=.slice adB (acc.length+1) capB) (cs:=[.slice adA (acc.length+1) capA,.slice ad2 acc.length cap2]) 1 RY.s (.inl (.inr rfl)) rfl rfl rfl (by simp) ?_
     intro HZ uZ _
     have RZ:=RY.st (u1':=.slice adA (acc.length+1) capA) (u2':=.slice adB (acc.length+1) capB) uZ hgS6.1 hgrs
     conv=>whnf
     refine⟨rfl,((i+1:Nat):Int),wr64 (by omega) (by omega),?_⟩
     refine⟨(i+1,acc++[(blkX.text,blkX.epoch)],.slice adA (acc.length+1) capA,.slice adB (acc.length+1) capB),⟨rfl,trivial⟩,⟨h',by simp[hal],by rw[Qt];exact hto,RZ.s,RZ.r,by simpa using RZ.o1,by simpa using RZ.o2,S6,RZ.av,hsb6',RZ.p1,RZ.p2⟩,by show a.ds.length-(i+1)<a.ds.length-i;omega⟩
    ·conv=>whnf
     refine⟨rfl,?_⟩
     intro HB rb fb _
     have RB:=RA.q fb.e
     have hca:=cells_keep (vs:=[.string _]) fb.e id (CellsAt.new (cs:=[.string _]) fa)
     conv=>whnf
     refine .el2 [.string (Tp.S blkX.text)] (by kernel_rfl) RB.o1 hca rfl (by simp[oneCell]) (by omega) (by have:=(Qa.1 RB.s).1;omega) (λk hk=>.inl (.inl hk)) ?_
     intro v1 HC o1RC fC _ b1RC
     have RC:=RB.a1 o1RC fC b1RC
     have hcb:=cells_keep (vs:=[.int .i64 _]) fC (λe=>by have:=(RA.o1.ge rb e).2;have:=fb.size;omega) (CellsAt.new (cs:=[.int .i64 _]) fb)
     conv=>whnf
     refine .el2 [.int .i64 blkX.epoch] (by kernel_rfl) RC.o2 hcb rfl (by simp[oneCell]) (by omega) (by have:=(Qa.1 RC.s).1;omega) (λk hk=>.inl (.inr hk)) ?_
     intro v2 HD o2RD f2RD _ b2RD
     have RD:=RC.a2 o2RD f2RD b2RD
     obtain⟨adA,capA,rfl⟩:=RD.o1.form
     obtain⟨adB,capB,rfl⟩:=RD.o2.form
     conv=>whnf
     refine .one (v:=.slice adA (acc.length+1) capA) (cs:=[.slice ad1 acc.length cap1,.slice ad2 acc.length cap2]) 0 RD.s (.inl (.inr rfl)) rfl rfl rfl (by simp) ?_
     intro HY uY _
     have RY:=RD.st (u1':=.slice adA (acc.length+1) capA) (u2':=.slice ad2 acc.length cap2) uY hgS6.1 hgrs
     conv=>whnf
     refine .one (v:=.slice adB (acc.length+1) capB) (cs:=[.slice adA (acc.length+1) capA,.slice ad2 acc.length cap2]) 1 RY.s (.inl (.inr rfl)) rfl rfl rfl (by simp) ?_
     intro HZ uZ _
     have RZ:=RY.st (u1':=.slice adA (acc.length+1) capA) (u2':=.slice adB (acc.length+1) capB) uZ hgS6.1 hgrs
     conv=>whnf
     refine⟨rfl,((i+1:Nat):Int),wr64 (by omega) (by omega),?_⟩
     refine⟨(i+1,acc++[(blkX.text,blkX.epoch)],.slice adA (acc.length+1) capA,.slice adB (acc.length+1) capB),⟨rfl,trivial⟩,⟨h',by simp[hal],by rw[Qt];exact hto,RZ.s,RZ.r,by simpa using RZ.o1,by simpa using RZ.o2,S6,RZ.av,hsb6',RZ.p1,RZ.p2⟩,by show a.ds.length-(i+1)<a.ds.length-i;omega⟩
   ·conv=>whnf
    refine⟨rfl,?_⟩
    intro HA ra fa _
    have RA:=R9.q fa.e
    conv=>whnf
    refine⟨rfl,?_⟩
    intro HB rb fb _
    have RB:=RA.q fb.e
    conv=>whnf
    refine .el2 [.string (Tp.S blkX.text)] (by kernel_rfl) RB.o1 (CellsAt.new (cs:=[.string _]) fb) rfl (by simp[oneCell]) (by omega) (by have:=(Qa.1 RB.s).1;omega) (λk hk=>.inl (.inl hk)) ?_
    intro v1 HC o1RC fC _ b1RC
    have RC:=RB.a1 o1RC fC b1RC
    have hcb:=cells_keep (vs:=[.int .i64 _]) fC (λe=>by have:=(R9.o1.ge ra e).2;have:=fa.size;omega) (cells_keep fb.e id (CellsAt.new (cs:=[.int .i64 _]) fa))
    conv=>whnf
    refine .el2 [.int .i64 blkX.epoch] (by kernel_rfl) RC.o2 hcb rfl (by simp[oneCell]) (by omega) (by have:=(Qa.1 RC.s).1;omega) (λk hk=>.inl (.inr hk)) ?_
    intro v2 HD o2RD f2RD _ b2RD
    have RD:=RC.a2 o2RD f2RD b2RD
    obtain⟨adA,capA,rfl⟩:=RD.o1.form
    obtain⟨adB,capB,rfl⟩:=RD.o2.form
    conv=>whnf
    refine .one (v:=.slice adA (acc.length+1) capA) (cs:=[.slice ad1 acc.length cap1,.slice ad2 acc.length cap2]) 0 RD.s (.inl (.inr rfl)) rfl rfl rfl (by simp) ?_
    intro HY uY _
    have RY:=RD.st (u1':=.slice adA (acc.length+1) capA) (u2':=.slice ad2 acc.length cap2) uY hgS6.1 hgrs
    conv=>whnf
    refine .one (v:=.slice adB (acc.length+1) capB) (cs:=[.slice adA (acc.length+1) capA,.slice ad2 acc.length cap2]) 1 RY.s (.inl (.inr rfl)) rfl rfl rfl (by simp) ?_
    intro HZ uZ _
    have RZ:=RY.st (u1':=.slice adA (acc.length+1) capA) (u2':=.slice adB (acc.length+1) capB) uZ hgS6.1 hgrs
    conv=>whnf
    refine⟨rfl,((i+1:Nat):Int),wr64 (by omega) (by omega),?_⟩
    refine⟨(i+1,acc++[(blkX.text,blkX.epoch)],.slice adA (acc.length+1) capA,.slice adB (acc.length+1) capB),⟨rfl,trivial⟩,⟨h',by simp[hal],by rw[Qt];exact hto,RZ.s,RZ.r,by simpa using RZ.o1,by simpa using RZ.o2,S6,RZ.av,hsb6',RZ.p1,RZ.p2⟩,by show a.ds.length-(i+1)<a.ds.length-i;omega⟩
  |true=>
   rw[if_pos rfl] at hto
   conv=>whnf
   refine .q (by kernel_rfl) ?_
   conv=>whnf
   refine⟨id,_,cel_of hb8 rfl,?_⟩
   conv=>whnf
   refine⟨id,_,cel_of R8.av.vol rfl,?_⟩
   conv=>whnf
   refine⟨rfl,λh9=>?_,λh9=>?_⟩
   ·rw[if_pos (by rw[←S_size];exact h9)] at hto
    conv=>whnf
    refine⟨rfl,?_⟩
    conv=>whnf
    refine .k ((blkL blkX)) (hb8) (.inr hbH) rfl rfl ?_
    intro H9 u9 _
    have R9:=hbad u9
    have hb9:=u9.1
    conv=>whnf
    refine .p2 (λk=>(Value.slice ad1 acc.length cap1).ownBlock=some k∨(Value.slice ad2 acc.length cap2).ownBlock=some k) (λk=>((Value.slice ad1 acc.length cap1).ownBlock=some k∨(Value.slice ad2 acc.length cap2).ownBlock=some k)∨k=gs) (λi=>Nat.beq i 13||Nat.beq i 15) (.take 0 (.take 1 (.take 2 (.ptake 3 (.take 6 (.take 7 (.take 8 (.ptake 9 (.two 4 (.two 5 (.take 12 (.one 10 (.one 11 (.sw (.one 13 (.take 14 (.one 15 .done))))))) 10 (.one 5 (.take 12 (.one 11 (.sw (.one 13 (.take 14 (.one 15 .done)))))))) 10 (.one 4 (.one 5 (.take 12 (.one 11 (.sw (.one 13 (.take 14 (.one 15 .done))))))))))))))))) (λk=>.inl) (λk hk=>.inr (hk.elim (λhk=>hk.elim (λe=>(R9.o1.ge k e).1) (λe=>(R9.o2.ge k e).1)) (λe=>by subst e;show H.size≤k;omega))) (by kernel_rfl) ?_
    conv=>whnf
    refine⟨λe=>e.elim (R9.o1.ne R9.s (by decide)) (R9.o2.ne R9.s (by decide)),_,cel_of R9.s rfl,?_⟩
    conv=>whnf
    refine⟨λe=>e.elim (λe=>e.elim (R9.o1.ne hb9 (by decide)) (R9.o2.ne hb9 (by decide))) hgbs,_,cel_of hb9 rfl,?_⟩
    conv=>whnf
    refine⟨λe=>e.elim (R9.o1.ne R9.s (by decide)) (R9.o2.ne R9.s (by decide)),_,cel_of R9.s rfl,?_⟩
    conv=>whnf
    refine⟨λe=>e.elim (λe=>e.elim (R9.o1.ne hb9 (by decide)) (R9.o2.ne hb9 (by decide))) hgbs,_,cel_of hb9 rfl,?_⟩
    conv=>whnf
    refine⟨?_,?_⟩
    ·conv=>whnf
     refine⟨rfl,?_⟩
     intro HA ra fa _
     have RA:=R9.q fa.e
     conv=>whnf
     refine⟨?_,?_⟩
     ·conv=>whnf
      refine .el2 [.string (Tp.S blkX.text)] (by kernel_rfl) RA.o1 (CellsAt.new (cs:=[.string _]) fa) rfl (by simp[oneCell]) (by omega) (by have:=(Qa.1 RA.s).1;omega) (λk hk=>.inl (.inl hk)) ?_
      intro v1 HB o1RB fB _ b1RB
      have RB:=RA.a1 o1RB fB b1RB
      conv=>whnf
      refine⟨rfl,?_⟩
      intro HC rc fc _
      have RC:=RB.q fc.e
      conv=>whnf
      refine .el2 [.int .i64 blkX.epoch] (by kernel_rfl) RC.o2 (CellsAt.new (cs:=[.int .i64 _]) fc) rfl (by simp[oneCell]) (by omega) (by have:=(Qa.1 RC.s).1;omega) (λk hk=>.inl (.inr hk)) ?_
      intro v2 HD o2RD f2RD _ b2RD
      have RD:=RC.a2 o2RD f2RD b2RD
      obtain⟨adA,capA,rfl⟩:=RD.o1.form
      obtain⟨adB,capB,rfl⟩:=RD.o2.form
      conv=>whnf
      refine .one (v:=.slice adA (acc.length+1) capA) (cs:=[.slice ad1 acc.length cap1,.slice ad2 acc.length cap2]) 0 RD.s (.inl (.inr rfl)) rfl rfl rfl (by simp) ?_
      intro HY uY _
      have RY:=RD.st (u1':=.slice adA (acc.length+1) capA) (u2':=.slice ad2 acc.length cap2) uY hgS6.1 hgrs
      conv=>whnf
      refine .one (v:=.slice adB (acc.length+1) capB) (cs:=[.slice adA (acc.length+1) capA,.slice ad2 acc.length cap2]) 1 RY.s (.inl (.inr rfl)) rfl rfl rfl (by simp) ?_
      intro HZ uZ _
      have RZ:=RY.st (u1':=.slice adA (acc.length+1) capA) (u2':=.slice adB (acc.length+1) capB) uZ hgS6.1 hgrs
      conv=>whnf
      refine⟨rfl,((i+1:Nat):Int),wr64 (by omega) (by omega),?_⟩
      refine⟨(i+1,acc++[(blkX.text,blkX.epoch)],.slice adA (acc.length+1) capA,.slice adB (acc.length+1) capB),⟨rfl,trivial⟩,⟨h',by simp[hal],by rw[Qt];exact hto,RZ.s,RZ.r,by simpa using RZ.o1,by simpa using RZ.o2,S6,RZ.av,hsb6',RZ.p1,RZ.p2⟩,by show a.ds.length-(i+1)<a.ds.length-i;omega⟩
     ·conv=>whnf
      refine⟨rfl,?_⟩
      intro HB rb fb _
      have RB:=RA.q fb.e
      have hca:=cells_keep (vs:=[.string _]) fb.e id (CellsAt.new (cs:=[.string _]) fa)
      conv=>whnf
      refine .el2 [.string (Tp.S blkX.text)] (by kernel_rfl) RB.o1 hca rfl (by simp[oneCell]) (by omega) (by have:=(Qa.1 RB.s).1;omega) (λk hk=>.inl (.inl hk)) ?_
      intro v1 HC o1RC fC _ b1RC
      have RC:=RB.a1 o1RC fC b1RC
      have hcb:=cells_keep (vs:=[.int .i64 _]) fC (λe=>by have:=(RA.o1.ge rb e).2;have:=fb.size;omega) (CellsAt.new (cs:=[.int .i64 _]) fb)
      conv=>whnf
      refine .el2 [.int .i64 blkX.epoch] (by kernel_rfl) RC.o2 hcb rfl (by simp[oneCell]) (by omega) (by have:=(Qa.1 RC.s).1;omega) (λk hk=>.inl (.inr hk)) ?_
      intro v2 HD o2RD f2RD _ b2RD
      have RD:=RC.a2 o2RD f2RD b2RD
      obtain⟨adA,capA,rfl⟩:=RD.o1.form
      obtain⟨adB,capB,rfl⟩:=RD.o2.form
      conv=>whnf
      refine .one (v:=.slice adA (acc.length+1) capA) (cs:=[.slice ad1 acc.length cap1,.slice ad2 acc.length cap2]) 0 RD.s (.inl (.inr rfl)) rfl rfl rfl (by simp) ?_
      intro HY uY _
      have RY:=RD.st (u1':=.slice adA (acc.length+1) capA) (u2':=.slice ad2 acc.length cap2) uY hgS6.1 hgrs
      conv=>whnf
      refine .one (v:=.slice adB (acc.length+1) capB) (cs:=[.slice adA (acc.length+1) capA,.slice ad2 acc.length cap2]) 1 RY.s (.inl (.inr rfl)) rfl rfl rfl (by simp) ?_
      intro HZ uZ _
      have RZ:=RY.st (u1':=.slice adA (acc.length+1) capA) (u2':=.slice adB (acc.length+1) capB) uZ hgS6.1 hgrs
      conv=>whnf
      refine⟨rfl,((i+1:Nat):Int),wr64 (by omega) (by omega),?_⟩
      refine⟨(i+1,acc++[(blkX.text,blkX.epoch)],.slice adA (acc.length+1) capA,.slice adB (acc.length+1) capB),⟨rfl,trivial⟩,⟨h',by simp[hal],by rw[Qt];exact hto,RZ.s,RZ.r,by simpa using RZ.o1,by simpa using RZ.o2,S6,RZ.av,hsb6',RZ.p1,RZ.p2⟩,by show a.ds.length-(i+1)<a.ds.length-i;omega⟩
    ·conv=>whnf
     refine⟨rfl,?_⟩
     intro HA ra fa _
     have RA:=R9.q fa.e
     conv=>whnf
     refine⟨rfl,?_⟩
     intro HB rb fb _
     have RB:=RA.q fb.e
     conv=>whnf
     refine .el2 [.string (Tp.S blkX.text)] (by kernel_rfl) RB.o1 (CellsAt.new (cs:=[.string _]) fb) rfl (by simp[oneCell]) (by omega) (by have:=(Qa.1 RB.s).1;omega) (λk hk=>.inl (.inl hk)) ?_
     intro v1 HC o1RC fC _ b1RC
     have RC:=RB.a1 o1RC fC b1RC
     have hcb:=cells_keep (vs:=[.int .i64 _]) fC (λe=>by have:=(R9.o1.ge ra e).2;have:=fa.size;omega) (cells_keep fb.e id (CellsAt.new (cs:=[.int .i64 _]) fa))
     conv=>whnf
     refine .el2 [.int .i64 blkX.epoch] (by kernel_rfl) RC.o2 hcb rfl (by simp[oneCell]) (by omega) (by have:=(Qa.1 RC.s).1;omega) (λk hk=>.inl (.inr hk)) ?_
     intro v2 HD o2RD f2RD _ b2RD
     have RD:=RC.a2 o2RD f2RD b2RD
     obtain⟨adA,capA,rfl⟩:=RD.o1.form
     obtain⟨adB,capB,rfl⟩:=RD.o2.form
     conv=>whnf
     refine .one (v:=.slice adA (acc.length+1) capA) (cs:=[.slice ad1 acc.length cap1,.slice ad2 acc.length cap2]) 0 RD.s (.inl (.inr rfl)) rfl rfl rfl (by simp) ?_
     intro HY uY _
     have RY:=RD.st (u1':=.slice adA (acc.length+1) capA) (u2':=.slice ad2 acc.length cap2) uY hgS6.1 hgrs
     conv=>whnf
     refine .one (v:=.slice adB (acc.length+1) capB) (cs:=[.slice adA (acc.length+1) capA,.slice ad2 acc.length cap2]) 1 RY.s (.inl (.inr rfl)) rfl rfl rfl (by simp) ?_
     intro HZ uZ _
     have RZ:=RY.st (u1':=.slice adA (acc.length+1) capA) (u2':=.slice adB (acc.length+1) capB) uZ hgS6.1 hgrs
     conv=>whnf
     refine⟨rfl,((i+1:Nat):Int),wr64 (by omega) (by omega),?_⟩
     refine⟨(i+1,acc++[(blkX.text,blkX.epoch)],.slice adA (acc.length+1) capA,.slice adB (acc.length+1) capB),⟨rfl,trivial⟩,⟨h',by simp[hal],by rw[Qt];exact hto,RZ.s,RZ.r,by simpa using RZ.o1,by simpa using RZ.o2,S6,RZ.av,hsb6',RZ.p1,RZ.p2⟩,by show a.ds.length-(i+1)<a.ds.length-i;omega⟩
   ·rw[if_neg (by rw[←S_size];exact λe=>e h9)] at hto
    conv=>whnf
    refine .p2 (λk=>(Value.slice ad1 acc.length cap1).ownBlock=some k∨(Value.slice ad2 acc.length cap2).ownBlock=some k) (λk=>((Value.slice ad1 acc.length cap1).ownBlock=some k∨(Value.slice ad2 acc.length cap2).ownBlock=some k)∨k=gs) (λi=>Nat.beq i 13||Nat.beq i 15) (.take 0 (.take 1 (.take 2 (.ptake 3 (.take 6 (.take 7 (.take 8 (.ptake 9 (.two 4 (.two 5 (.take 12 (.one 10 (.one 11 (.sw (.one 13 (.take 14 (.one 15 .done))))))) 10 (.one 5 (.take 12 (.one 11 (.sw (.one 13 (.take 14 (.one 15 .done)))))))) 10 (.one 4 (.one 5 (.take 12 (.one 11 (.sw (.one 13 (.take 14 (.one 15 .done))))))))))))))))) (λk=>.inl) (λk hk=>.inr (hk.elim (λhk=>hk.elim (λe=>(R8.o1.ge k e).1) (λe=>(R8.o2.ge k e).1)) (λe=>by subst e;show H.size≤k;omega))) (by kernel_rfl) ?_
    conv=>whnf
    refine⟨λe=>e.elim (R8.o1.ne R8.s (by decide)) (R8.o2.ne R8.s (by decide)),_,cel_of R8.s rfl,?_⟩
    conv=>whnf
    refine⟨λe=>e.elim (λe=>e.elim (R8.o1.ne hb8 (by decide)) (R8.o2.ne hb8 (by decide))) hgbs,_,cel_of hb8 rfl,?_⟩
    conv=>whnf
    refine⟨λe=>e.elim (R8.o1.ne R8.s (by decide)) (R8.o2.ne R8.s (by decide)),_,cel_of R8.s rfl,?_⟩
    conv=>whnf
    refine⟨λe=>e.elim (λe=>e.elim (R8.o1.ne hb8 (by decide)) (R8.o2.ne hb8 (by decide))) hgbs,_,cel_of hb8 rfl,?_⟩
    conv=>whnf
    refine⟨?_,?_⟩
    ·conv=>whnf
     refine⟨rfl,?_⟩
     intro HA ra fa _
     have RA:=R8.q fa.e
     conv=>whnf
     refine⟨?_,?_⟩
     ·conv=>whnf
      refine .el2 [.string (Tp.S bk.text)] (by kernel_rfl) RA.o1 (CellsAt.new (cs:=[.string _]) fa) rfl (by simp[oneCell]) (by omega) (by have:=(Qa.1 RA.s).1;omega) (λk hk=>.inl (.inl hk)) ?_
      intro v1 HB o1RB fB _ b1RB
      have RB:=RA.a1 o1RB fB b1RB
      conv=>whnf
      refine⟨rfl,?_⟩
      intro HC rc fc _
      have RC:=RB.q fc.e
      conv=>whnf
      refine .el2 [.int .i64 bk.epoch] (by kernel_rfl) RC.o2 (CellsAt.new (cs:=[.int .i64 _]) fc) rfl (by simp[oneCell]) (by omega) (by have:=(Qa.1 RC.s).1;omega) (λk hk=>.inl (.inr hk)) ?_
      intro v2 HD o2RD f2RD _ b2RD
      have RD:=RC.a2 o2RD f2RD b2RD
      obtain⟨adA,capA,rfl⟩:=RD.o1.form
      obtain⟨adB,capB,rfl⟩:=RD.o2.form
      conv=>whnf
      refine .one (v:=.slice adA (acc.length+1) capA) (cs:=[.slice ad1 acc.length cap1,.slice ad2 acc.length cap2]) 0 RD.s (.inl (.inr rfl)) rfl rfl rfl (by simp) ?_
      intro HY uY _
      have RY:=RD.st (u1':=.slice adA (acc.length+1) capA) (u2':=.slice ad2 acc.length cap2) uY hgS6.1 hgrs
      conv=>whnf
      refine .one (v:=.slice adB (acc.length+1) capB) (cs:=[.slice adA (acc.length+1) capA,.slice ad2 acc.length cap2]) 1 RY.s (.inl (.inr rfl)) rfl rfl rfl (by simp) ?_
      intro HZ uZ _
      have RZ:=RY.st (u1':=.slice adA (acc.length+1) capA) (u2':=.slice adB (acc.length+1) capB) uZ hgS6.1 hgrs
      conv=>whnf
      refine⟨rfl,((i+1:Nat):Int),wr64 (by omega) (by omega),?_⟩
      refine⟨(i+1,acc++[(bk.text,bk.epoch)],.slice adA (acc.length+1) capA,.slice adB (acc.length+1) capB),⟨rfl,trivial⟩,⟨h',by simp[hal],by rw[Qt];exact hto,RZ.s,RZ.r,by simpa using RZ.o1,by simpa using RZ.o2,S6,RZ.av,hsb6',RZ.p1,RZ.p2⟩,by show a.ds.length-(i+1)<a.ds.length-i;omega⟩
     ·conv=>whnf
      refine⟨rfl,?_⟩
      intro HB rb fb _
      have RB:=RA.q fb.e
      have hca:=cells_keep (vs:=[.string _]) fb.e id (CellsAt.new (cs:=[.string _]) fa)
      conv=>whnf
      refine .el2 [.string (Tp.S bk.text)] (by kernel_rfl) RB.o1 hca rfl (by simp[oneCell]) (by omega) (by have:=(Qa.1 RB.s).1;omega) (λk hk=>.inl (.inl hk)) ?_
      intro v1 HC o1RC fC _ b1RC
      have RC:=RB.a1 o1RC fC b1RC
      have hcb:=cells_keep (vs:=[.int .i64 _]) fC (λe=>by have:=(RA.o1.ge rb e).2;have:=fb.size;omega) (CellsAt.new (cs:=[.int .i64 _]) fb)
      conv=>whnf
      refine .el2 [.int .i64 bk.epoch] (by kernel_rfl) RC.o2 hcb rfl (by simp[oneCell]) (by omega) (by have:=(Qa.1 RC.s).1;omega) (λk hk=>.inl (.inr hk)) ?_
      intro v2 HD o2RD f2RD _ b2RD
      have RD:=RC.a2 o2RD f2RD b2RD
      obtain⟨adA,capA,rfl⟩:=RD.o1.form
      obtain⟨adB,capB,rfl⟩:=RD.o2.form
      conv=>whnf
      refine .one (v:=.slice adA (acc.length+1) capA) (cs:=[.slice ad1 acc.length cap1,.slice ad2 acc.length cap2]) 0 RD.s (.inl (.inr rfl)) rfl rfl rfl (by simp) ?_
      intro HY uY _
      have RY:=RD.st (u1':=.slice adA (acc.length+1) capA) (u2':=.slice ad2 acc.length cap2) uY hgS6.1 hgrs
      conv=>whnf
      refine .one (v:=.slice adB (acc.length+1) capB) (cs:=[.slice adA (acc.length+1) capA,.slice ad2 acc.length cap2]) 1 RY.s (.inl (.inr rfl)) rfl rfl rfl (by simp) ?_
      intro HZ uZ _
      have RZ:=RY.st (u1':=.slice adA (acc.length+1) capA) (u2':=.slice adB (acc.length+1) capB) uZ hgS6.1 hgrs
      conv=>whnf
      refine⟨rfl,((i+1:Nat):Int),wr64 (by omega) (by omega),?_⟩
      refine⟨(i+1,acc++[(bk.text,bk.epoch)],.slice adA (acc.length+1) capA,.slice adB (acc.length+1) capB),⟨rfl,trivial⟩,⟨h',by simp[hal],by rw[Qt];exact hto,RZ.s,RZ.r,by simpa using RZ.o1,by simpa using RZ.o2,S6,RZ.av,hsb6',RZ.p1,RZ.p2⟩,by show a.ds.length-(i+1)<a.ds.length-i;omega⟩
    ·conv=>whnf
     refine⟨rfl,?_⟩
     intro HA ra fa _
     have RA:=R8.q fa.e
     conv=>whnf
     refine⟨rfl,?_⟩
     intro HB rb fb _
     have RB:=RA.q fb.e
     conv=>whnf
     refine .el2 [.string (Tp.S bk.text)] (by kernel_rfl) RB.o1 (CellsAt.new (cs:=[.string _]) fb) rfl (by simp[oneCell]) (by omega) (by have:=(Qa.1 RB.s).1;omega) (λk hk=>.inl (.inl hk)) ?_
     intro v1 HC o1RC fC _ b1RC
     have RC:=RB.a1 o1RC fC b1RC
     have hcb:=cells_keep (vs:=[.int .i64 _]) fC (λe=>by have:=(R8.o1.ge ra e).2;have:=fa.size;omega) (cells_keep fb.e id (CellsAt.new (cs:=[.int .i64 _]) fa))
     conv=>whnf
     refine .el2 [.int .i64 bk.epoch] (by kernel_rfl) RC.o2 hcb rfl (by simp[oneCell]) (by omega) (by have:=(Qa.1 RC.s).1;omega) (λk hk=>.inl (.inr hk)) ?_
     intro v2 HD o2RD f2RD _ b2RD
     have RD:=RC.a2 o2RD f2RD b2RD
     obtain⟨adA,capA,rfl⟩:=RD.o1.form
     obtain⟨adB,capB,rfl⟩:=RD.o2.form
     conv=>whnf
     refine .one (v:=.slice adA (acc.length+1) capA) (cs:=[.slice ad1 acc.length cap1,.slice ad2 acc.length cap2]) 0 RD.s (.inl (.inr rfl)) rfl rfl rfl (by simp) ?_
     intro HY uY _
     have RY:=RD.st (u1':=.slice adA (acc.length+1) capA) (u2':=.slice ad2 acc.length cap2) uY hgS6.1 hgrs
     conv=>whnf
     refine .one (v:=.slice adB (acc.length+1) capB) (cs:=[.slice adA (acc.length+1) capA,.slice ad2 acc.length cap2]) 1 RY.s (.inl (.inr rfl)) rfl rfl rfl (by simp) ?_
     intro HZ uZ _
     have RZ:=RY.st (u1':=.slice adA (acc.length+1) capA) (u2':=.slice adB (acc.length+1) capB) uZ hgS6.1 hgrs
     conv=>whnf
     refine⟨rfl,((i+1:Nat):Int),wr64 (by omega) (by omega),?_⟩
     refine⟨(i+1,acc++[(bk.text,bk.epoch)],.slice adA (acc.length+1) capA,.slice adB (acc.length+1) capB),⟨rfl,trivial⟩,⟨h',by simp[hal],by rw[Qt];exact hto,RZ.s,RZ.r,by simpa using RZ.o1,by simpa using RZ.o2,S6,RZ.av,hsb6',RZ.p1,RZ.p2⟩,by show a.ds.length-(i+1)<a.ds.length-i;omega⟩
 ·have hi':i=a.ds.length:=by have:¬(i:Int)<(a.ds.length:Int):=h5;omega
  subst hi'
  rw[ZA,stF,QT] at hto
  subst hto
  obtain⟨ad1,cap1,rfl⟩:=ho1.form
  obtain⟨ad2,cap2,rfl⟩:=ho2.form
  conv=>whnf
  refine⟨[.slice ad1 acc.length cap1,.slice ad2 acc.length cap2],rfl,⟨cel_of hs4 rfl,cel_of hs4 rfl,trivial⟩,?_⟩
  conv=>whnf
  refine .k ([.slice ad1 acc.length cap1,.slice ad2 acc.length cap2]) (hr4) (.inr (by show H.size≤gr;omega)) rfl rfl ?_
  intro H6 u6 _
  refine⟨?_⟩
  conv=>whnf
  refine⟨[.slice ad1 acc.length cap1,.slice ad2 acc.length cap2],rfl,CellsAt.at u6.1,?_⟩
  have hgS4:=hgS hsb4
  exact⟨_,_,rfl,ho1.frm u6.e (λk hk (e:k=gr)=>ho1.ne hr4 (by decide) (e▸hk)),ho2.frm u6.e (λk hk (e:k=gr)=>ho2.ne hr4 (by decide) (e▸hk)),S4,h4.arr.frm u6.e (λk hk (e:k=gr)=>hgS4.2 (e▸hk)),
   λk hk=>(hsb4 k hk).imp id (λh=>by omega),hu1,hu2⟩
end
attribute [irreducible] vstate
end Go.Proofs.YtjambljmnifknaaGreatDoor.Vc
