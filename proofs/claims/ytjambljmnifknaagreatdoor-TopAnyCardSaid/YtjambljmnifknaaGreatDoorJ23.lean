/- Part 23 of the proof of TopAny: Bounds: how many changes a text's groups have; a volume that was opened, or made · store: a store as a thing; its open · store: Open, Make · store: Update, Get, List, Used, Pending, Volume · store: Update, Sync · store: Sync. -/
import Derived.Test.YtjambljmnifknaaGreatDoorJ22
set_option maxRecDepth 100000
set_option maxHeartbeats 80000000
set_option linter.all false
open Go.Proofs.Tryz
namespace Go.Proofs.YtjambljmnifknaaGreatDoor.Vc
open Go Go.RowKit Tp
open Dk (Arr Dsk)
theorem chgsF_len:∀(q:Nat) (s:By) (acc:List Chg),(chgsF q s acc).1.length≤acc.length+s.length
 |q,[],acc=>by cases q<;>simp[chgsF]
 |0,_::_,acc=>by simp[chgsF]
 |q+1,k::s,acc=>by
  have h1:=takeR_len s
  have h2:=takeR_len (takeR s)
  unfold chgsF
  split
  ·split
   ·have:=chgsF_len q (takeR s) (acc++[⟨takeT s,[],true⟩])
    simp at this⊢;omega
   ·simp
  ·split
   ·split
    ·have:=chgsF_len q (takeR (takeR s)) (acc++[⟨takeT s,takeT (takeR s),false⟩])
     simp at this⊢;omega
    ·simp
   ·simp
section
attribute [local semireducible] freadV
theorem freadV_sum{t:By}(h:(freadV t).2.2=0):(freadV t).1.2.length+(freadV t).2.1.length≤t.length∧(freadV t).1.2.length≤64:=by
 unfold freadV freadW at h⊢
 dsimp only at h⊢
 have h0:=cutR_len (cutR (Lib.trimPrefix t [71]) 4) 4
 have h1:=cutR_len (Lib.trimPrefix t [71]) 4
 have ht:(Lib.trimPrefix t [71]).length≤t.length:=by
  unfold Lib.trimPrefix
  split<;>simp
 generalize cutR (cutR (Lib.trimPrefix t [71]) 4) 4=r2 at h h0⊢
 generalize (cutV (cutR (Lib.trimPrefix t [71]) 4) 4)=lg at h h0⊢
 have h3:=cutR_len (r2.drop lg.toNat) 4
 have h4:=chgsF_len (r2.take lg.toNat).length (r2.take lg.toNat) []
 have h5:=@fchk_64 (chgsV (r2.take lg.toNat)).1
 unfold chgsV at h h5⊢
 simp only[QC,QV,Q0] at h3 h4
 (repeat' split at h)<;>first|(exfalso;revert h;decide)|skip
 rename_i a1 a2 a3 a4 a5 a6 a7
 rw[if_neg a1,if_neg a2,if_neg a3,if_neg a4,if_neg a5,if_neg a6,if_neg a7]
 exact⟨by simp at*;omega,h5 a7⟩
end
def cntG:List Grp→Nat
 |[]=>0
 |g::r=>g.2.length+cntG r
theorem cntG_app:∀a b:List Grp,cntG (a++b)=cntG a+cntG b
 |[],b=>by simp[cntG]
 |g::a,b=>by simp[cntG,cntG_app a b];omega
theorem scanF_cnt(n:Nat):∀(q:Nat) (t:By) (acc:List Grp) (fin:Nat),cntG (scanF n q t acc fin).1≤cntG acc+t.length
 |0,_,acc,_=>by simp[scanF]
 |q+1,t,acc,fin=>by
  unfold scanF
  split
  ·simp
  ·split
   ·simp
   ·rename_i h _
    have h1:=(freadV_sum (t:=t) (by omega)).1
    have h2:=scanF_cnt n q (freadV t).2.1 (acc++[(freadV t).1]) (n-(freadV t).2.1.length)
    rw[cntG_app] at h2
    simp[cntG] at h2
    omega
theorem scanV_cnt(s:By):cntG (scanV s).1≤s.length:=by
 have:=scanF_cnt s.length (s.length+1) s [] 0
 unfold scanV
 simpa [cntG] using this
def foldG(l:List Pr)(gs:List Grp):List Pr:=gs.foldl (λl g=>applyV l g.2) l
theorem app1s_len:∀(cs:List Chg) (l:List Pr),(cs.foldl app1 l).length≤l.length+cs.length
 |[],l=>by simp
 |c::r,l=>by
  have h1:=app1s_len r (app1 l c)
  have h2:=app1_len l c
  simp only[Yh,Qo]
  omega
theorem applyV_len(l:List Pr)(cs:List Chg):(applyV l cs).length≤l.length+cs.length:=by
 unfold applyV
 split
 ·exact app1s_len cs l
 ·simp
section
attribute [local semireducible] nextSeq
theorem fixF_ds(v:Vol)(al:List Int):∀(l:List It) (a:Arr),(fixF v al l a).2.ds.length=a.ds.length
 |[],_=>rfl
 |x::r,a=>by
  have h1:=shardsV_ds a v x.stripe (x.seq+1) x.text al
  unfold fixF
  (repeat' split)<;>first|exact fixF_ds v al r a|exact h1|exact(fixF_ds v al r _).trans h1
theorem maxOf_le{l:List Int}{M:Int}(h:∀x∈l,x≤M)(h0:0≤M):Lib.maxOf l≤M:=by
 unfold Lib.maxOf
 cases l with
 |nil=>exact h0
 |cons a r=>
  have:∀(r:List Int) (b:Int),b≤M→(∀x∈r,x≤M)→r.foldl max b≤M:=by
   intro r
   induction r with
   |nil=>intro b hb _;exact hb
   |cons y r ih=>intro b hb hr;exact ih _ (by have:=hr y (Qs ..);omega) λx hx=>hr x (Qu _ hx)
  exact this (a::r) _ (h a (Qs ..)) h
theorem seqF_le(a:Arr)(v:Vol):∀(q n:Nat) (s:Int),0≤s→s≤eMax+1→0≤seqF a v q n s∧seqF a v q n s≤eMax+1
 |0,_,_,h0,h=>⟨h0,h⟩
 |q+1,n,s,h0,h=>by
  unfold seqF
  have:=maxOf_le (M:=eMax+1) (λx hx=>by have:=(vstate_ep a v (n:Int) x hx).2;omega) (by decide)
  exact seqF_le a v q (n+1) _ (by omega) (by omega)
theorem nextSeq_le{l:List It}(h:∀x∈l,itOk x):0≤nextSeq l∧nextSeq l≤eMax+1:=by
 cases l with
 |nil=>exact⟨(QJ 0),(by decide:(0:Int)≤eMax+1)⟩
 |cons x r=>
  show 0≤(maxIt x r).seq+1∧(maxIt x r).seq+1≤eMax+1
  have hx:itOk (maxIt x r):=(maxIt_mem x r).elim (λe=>by rw[e];exact h x (Qs ..)) λe=>h _ (Qu _ e)
  have h1:=hx.2.1
  have h2:=hx.2.2
  omega
theorem vopenV_sm{a:Arr}{B:Nat}(hB:Sm B a)(hnd:a.ds.length≤6)(id:Int):Sm (B+6000) (vopenV a id).2∧(vopenV a id).2.ds.length=a.ds.length:=by
 unfold vopenV
 split
 ·exact⟨hB.mono (by omega),rfl⟩
 ·split
  ·exact⟨hB.mono (by omega),rfl⟩
  ·rename_i c hc
   refine⟨openW_sm hB (vhead_ok hc).1 hnd,?_⟩
   unfold openW
   (repeat' split)<;>first|exact fixF_ds _ _ _ _|(rw[aflushed_ds];exact fixF_ds _ _ _ _)
theorem vopenV_ok{a:Arr}{B:Nat}(hB:Sm B a)(hnd:a.ds.length≤6){id:Int}(hid:id≤9223372036854775807){v:Vol}(h:(vopenV a id).1.1=some v):VOk (B+6000) (eMax+1) v (vopenV a id).2∧v.id=id:=by
 have h1:=vopenV_sm hB hnd id
 generalize hr:vopenV a id=r at h h1⊢
 unfold vopenV at hr
 split at hr
 ·subst hr;cases h
 ·split at hr
  ·subst hr;cases h
  ·rename_i c hc
   have hcf:=vhead_ok hc
   unfold openW at hr
   split at hr
   ·subst hr;cases h
   ·split at hr
    ·subst hr;cases h
    ·subst hr
     cases h
     have hs:=nextSeq_le λx hx=>vints_ok (a:=a) (v:=vol0 c id) hx
     exact⟨⟨h1.1,by rw[h1.2];exact hnd,hcf.1,by rw[h1.2];exact hcf.2.symm,hid,seqF_le _ _ _ _ _ hs.1 hs.2⟩,rfl⟩
end
structure St where
 l:Lg
 v:Vol
 half:Nat
 next:Int
 ws:List (List Chg)
 ps:List Pr
structure Sp where
 gs:Nat
 gl:Nat
 gv:Nat
 b:Nat
 cap:Nat
 wv:Value
 pv:Value
def stL(x:Sp)(s:St):List Value:=[ptr x.gl 0,ptr x.gv 0,.int .i64 (s.half:Int),.int .i64 s.next,x.wv,x.pv]
def TS(x:Sp)(S:Nat→Prop):Nat→Prop:=λk=>TL S x.gv x.b k∨k=x.gs
structure SOk(N:Nat)(s:St):Prop where
 hf:s.half≤1
 nx:0≤s.next∧s.next≤300000000+1000*N
 wn:s.ws.length≤N
 wo:∀w∈s.ws,w.length≤64∧∀c∈w,chOk c
 pn:s.ps.length≤300000000+64*N
 po:∀p∈s.ps,prOk p
structure SS(B:Nat)(Q:Int)(N:Nat)(p:Pl)(x:Sp)(s:St)(a:Arr)(H:Heap)(S:Nat→Prop):Prop where
 st:H[x.gs]? =some (.cells (stL x s).toArray 96 (0,0))
 lv:LV B Q p x.gl x.gv x.b x.cap a s.v s.l H S
 out:¬S x.gs
 pr:RwO (TS x S) H x.pv (s.ps.map prL)
 wt:GrO (TS x S) H x.wv s.ws
 ok:SOk N s
theorem LV.blkb{B:Nat}{Q:Int}{p:Pl}{gl gv b cap:Nat}{a:Arr}{v:Vol}{l:Lg}{H:Heap}{S:Nat→Prop}(h:LV B Q p gl gv b cap a v l H S):∃cs:List Value,H[b]? =some (.cells cs.toArray 9 (0,0)):=by
 obtain⟨cs,_,h,_⟩:=h.al.row.blk1
 exact⟨cs,h⟩
theorem LV.frm{B:Nat}{Q:Int}{p:Pl}{gl gv b cap:Nat}{a:Arr}{v:Vol}{l:Lg}{H H':Heap}{S T:Nat→Prop}(h:LV B Q p gl gv b cap a v l H S)(hF:Frm T H H')(h1:∀k,S k→¬T k)(h2:¬T gv)(h3:¬T gl)(h4:¬T b):LV B Q p gl gv b cap a v l H' S:=
 ⟨⟨h.al.av.frm hF h1 h2,hF.blkT h.al.lg h3,h.al.out,h.al.row.frm hF (λk hk=>by cases hk;exact h4),h.al.ro⟩,h.vo,h.lo⟩
theorem LV.frm1{B:Nat}{Q:Int}{p:Pl}{gl gv b cap:Nat}{a:Arr}{v:Vol}{l:Lg}{H H':Heap}{S:Nat→Prop}{g:Nat}{cs:Array Value}{t:TypeId}{fz:Nat×Nat}(h:LV B Q p gl gv b cap a v l H S)(hg:H[g]? =some (.cells cs t fz))(hS:¬S g)(h1:t≠70)(h2:t≠152)(h3:t≠9)(hF:Frm (λk=>k=g) H H'):LV B Q p gl gv b cap a v l H' S:=by
 obtain⟨cb,hb⟩:=h.blkb
 refine h.frm hF (λk hk e=>hS (e▸hk)) ?_ ?_ ?_
 ·intro e
  have:=h.al.av.vol
  rw[e,hg] at this
  simp at this
  exact h1 this.2.1
 ·intro e
  have:=h.al.lg
  rw[e,hg] at this
  simp at this
  exact h2 this.2.1
 ·intro e
  rw[e,hg] at hb
  simp at hb
  exact h3 hb.2.1
theorem LV.ltT{B:Nat}{Q:Int}{p:Pl}{gl gv b cap:Nat}{a:Arr}{v:Vol}{l:Lg}{H:Heap}{S:Nat→Prop}(h:LV B Q p gl gv b cap a v l H S):∀k,TL S gv b k→k<H.size:=by
 obtain⟨cb,hb⟩:=h.blkb
 rintro k ((hk|hk)|hk)
 ·exact h.al.av.arr.lt k hk
 ·rw[hk];exact h.al.av.lt
 ·rw[hk];exact(Qa.1 hb).1
theorem lopenV_bad{a:Arr}{v:Vol}{fr cnt e:Int}(h:lopenV a v fr cnt=(none,e)):e≠0:=by
 unfold lopenV at h
 (repeat' split at h)<;>first|(cases h;decide)|(rename_i h5;cases h;exact h5)|cases h
theorem sixF_two(t:By):sixF t [[65],[66]] 0= -1∨sixF t [[65],[66]] 0=0∨sixF t [[65],[66]] 0=1:=by
 simp only[sixF]
 (repeat' split)<;>simp
def sopenT(h:Nat)(sc:List Grp×Nat)(r:LR):(Option St×Int)×Arr:=if r.1.1≠0 then((none,r.1.1),r.1.2) else((some ⟨r.2.2,r.2.1,h,(sc.1.length:Int),[],foldG [] sc.1⟩,0),r.1.2)
def sopenL(a:Arr)(v:Vol)(h:Nat):Option Lg×Int→(Option St×Int)×Arr
 |(none,e)=>((none,e),a)
 |(some l,_)=>sopenT h (scanV (textF l.size l.parts)) (ltruncV a v l (scanV (textF l.size l.parts)).2)
def sopenV(a:Arr)(v:Vol):(Option St×Int)×Arr:=
 if v.conf.st<3 then((none,10),a) else
 if(vReadV a v 0).2≠0 then((none,(vReadV a v 0).2),a) else
 if sixF (vReadV a v 0).1 [[65],[66]] 0<0 then((none,10),a) else
 sopenL a v (sixF (vReadV a v 0).1 [[65],[66]] 0).toNat (lhalfV a v (sixF (vReadV a v 0).1 [[65],[66]] 0).toNat)
def SoR(p:Pl)(B:Nat)(Q:Int)(W:Nat→Prop)(H:Heap)(t:(Option St×Int)×Arr)(u:Value)(H':Heap):Prop:=match t.1.1 with
 |none=>u=.tuple #[.pointer none,.int .i64 t.1.2]∧Sm B t.2∧t.2.ds.length≤6∧∃S',PaH p t.2 H' S'∧Sub S' W H
 |some s=>∃x S',u=.tuple #[ptr x.gs 0,.int .i64 0]∧SS B Q 0 p x s t.2 H' S'∧Sub (TS x S') W H
theorem foldG_nil(l:List Pr):foldG l []=l:=rfl
theorem foldG_cons(l:List Pr)(g:Grp)(r:List Grp):foldG l (g::r)=foldG (applyV l g.2) r:=rfl
attribute [local irreducible] foldG ltruncV lhalfV
theorem pr_flat{l:List Pr}(h:l.map prL≠[]):(l.map prL).flatten≠[]:=by
 cases l with
 |nil=>exact(h rfl).elim
 |cons c r=>simp[prL]
theorem RwO.fresh{W:Nat→Prop}{H':Heap}{base n sz:Nat}{e:TypeId}{v:Value}{xs:List Value}{ls:List (List Value)}(h:Own H' base e sz v n xs)(hx:xs=ls.flatten)(hl:ls.length=n)(hW:∀k,W k→k<base)(ht:rowT e=true:=by decide):RwO W H' v ls:=
 ⟨h.rw hx hl,λ_ k hk=>⟨λe=>by have:=(h.ge k hk).1;have:=hW k e;omega,by
  rcases h.2 with ⟨rfl,_⟩|⟨g,cap,cur,rfl,_,hg,_⟩
  ·simp[Value.ownBlock] at hk
  ·simp[Value.ownBlock] at hk
   subst hk
   have hg:H'[g]? =some (.cells cur e):=hg
   unfold rowB
   rw[hg]
   exact ht⟩⟩
theorem s_sopen{p:Pl}{gv:Nat}{v:Vol}{a:Arr}{H:Heap}{U:Nat→Prop}{B:Nat}{Q:Int}(h:AV p gv v a H U)(hO:VOk B Q v a)(hB:B≤780000)(hQ:Q≤80000000000000000):
  Spec prog 21 #[ptr gv 0] H (λk=>U k∨k=gv) (SoR p (B+12000) (Q+1000) (λk=>U k∨k=gv) H (sopenV a v)):=by
 obtain⟨tot,htot⟩:∃t,sopenV a v=t:=⟨_,rfl⟩
 rw[htot]
 unfold sopenV at htot
 have bad:∀{X:Heap} {S':Nat→Prop} {e:Int},PaH p a X S'→Sub S' (λk=>U k∨k=gv) H→((none,e),a)=tot→SoR p (B+12000) (Q+1000) (λk=>U k∨k=gv) H tot (.tuple #[.pointer none,.int .i64 e]) X:=λh1 h2 ht=>by subst ht;exact⟨rfl,hO.sm.mono (by omega),hO.nd,_,h1,h2⟩
 have hrd:=λ{X:Heap} (e:Frm nob H X)=>s_vread (h.q e) hO.sm 0 (Qb hO.nd (by decide)) hO.cf
 generalize vReadV a v 0=rv at htot hrd
 obtain⟨nm,er⟩:=rv
 dsimp only at htot hrd
 have hix:=λ{X:Heap} {w:Value} (hv:Rw X w ([[65],[66]].map λx=>[.string (S x)]))=>s_sidx hv (by decide) nm
 have hir:=sixF_two nm
 generalize sixF nm [[65],[66]] 0=ix at htot hix hir
 have hn1:ix.toNat≤1:=by omega
 have hhf:∀{X:Heap} {W:Nat→Prop},AV p gv v a X W→¬ix<0→Spec prog 45 #[ptr gv 0,.int .i64 ix] X W (LoR p gv v a X W B Q (lhalfV a v ix.toNat)):=λhX h0=>by
  have:=s_half hX hO ix.toNat hn1
  rw[QL (by omega)] at this
  exact this
 have hbd:∀{e:Int},lhalfV a v ix.toNat=(none,e)→e≠0:=λh=>by unfold lhalfV at h;exact lopenV_bad h
 generalize lhalfV a v ix.toNat=lh at htot hhf hbd
 obtain⟨lo,le⟩:=lh
 cases lo with
 |none=>
  have hle:=hbd rfl
  clear hbd
  refine spx func21 ?_
  conv=>whnf
  refine .q (s_vconf h.vol) ?_
  rintro _ H1 rfl e1 _
  conv=>whnf
  refine⟨rfl,λh2=>?_,λh2=>?_⟩
  ·rw[if_pos h2] at htot
   exact⟨bad (h.arr.q e1) (λk hk=>.inl (.inl hk)) htot⟩
  rw[if_neg h2] at htot
  conv=>whnf
  refine .t (hrd e1) (λk hk=>.inl (.inl hk)) ?_
  rintro _ H2 ⟨rfl,S2,ha2,hs2⟩ e2 _
  have hV2:=(h.q e1).step e2 ha2 hs2
  have hs2':Sub S2 (λk=>U k∨k=gv) H:=λk hk=>(hs2 k hk).elim (λh=>.inl (.inl h)) λh=>.inr (Qb e1.1 h)
  conv=>whnf
  refine⟨rfl,λh3=>?_,λh3=>?_⟩
  ·rw[if_pos h3] at htot
   exact⟨bad ha2 hs2' htot⟩
  rw[if_neg (λe=>e h3)] at htot
  conv=>whnf
  refine⟨rfl,?_⟩
  conv=>whnf
  intro H3 r3 f3 _
  conv=>whnf
  refine .q (hix (.inr ⟨r3,0,2,rfl,Qd _,CellsAt.new (cs:=[.string (S [65]),.string (S [66])]) f3⟩)) ?_
  rintro _ H4 rfl e4 _
  conv=>whnf
  refine⟨rfl,?_⟩
  conv=>whnf
  intro H5 gs f5 _
  have e25:=(f3.e.trans e4).trans f5.e
  have hV5:=hV2.q e25
  have hz5:=f5.size
  have hz25:=((f3.e.trans e4)).1
  have hz12:=e2.1
  have hz01:=e1.1
  have hgs:gs=H4.size:=f5.1
  have hst5:H5[gs]? =some (.cells #[.pointer none,ptr gv 0,.int .i64 ix,.int .i64 0,.slice none 0 0,.slice none 0 0] 96 (0,0)):=f5.at
  have hng:¬S2 gs:=λe=>by have:=ha2.lt gs e;omega
  conv=>whnf
  refine⟨_,cel_of hst5 rfl,?_⟩
  conv=>whnf
  refine⟨rfl,λh6=>?_,λh6=>?_⟩
  ·rw[if_pos h6] at htot
   exact⟨bad hV5.arr hs2' htot⟩
  rw[if_neg h6] at htot
  conv=>whnf
  refine⟨_,cel_of hst5 rfl,?_⟩
  conv=>whnf
  refine .t (hhf hV5 h6) (λk hk=>hs2' k hk) ?_
  rintro _ H6 ⟨rfl,S3,ha6,hs3⟩ e6 _
  have hst6:=e6.blkT hst5 hng
  have hs3':Sub S3 (λk=>U k∨k=gv) H:=λk hk=>(hs3 k hk).elim (hs2' k) λh=>.inr (by omega)
  conv=>whnf
  refine .k ([.pointer none,ptr gv 0,.int .i64 ix,.int .i64 0,.slice none 0 0,.slice none 0 0]) (hst6) (.inr (by show H.size≤gs;omega)) rfl rfl ?_
  intro H7 u7 _
  conv=>whnf
  refine⟨rfl,λh7=>?_,λh7=>absurd h7 hle⟩
  exact⟨bad (ha6.arr.frm u7.e λk hk (e:k=gs)=>(hs3 k hk).elim (λh=>hng (e▸h)) λh=>by omega) hs3' htot⟩
 |some l=>
  clear hbd
  have he:sopenL a v ix.toNat (some l,le)=sopenT ix.toNat (scanV (textF l.size l.parts)) (ltruncV a v l (scanV (textF l.size l.parts)).2):=rfl
  rw[he] at htot
  clear he
  have htx:=λ{X:Heap} {S:Nat→Prop} {gl b cap:Nat} (hL:LV B Q p gl gv b cap a v l X S)=>s_ltext hL.al.lg hL.al.row.rd.1 (Qb hL.lo.flat (by decide)) (Qb hL.lo.n (by decide))
  have htl:=λ(h:LOk l)=>h.text
  have htr:=λ{X:Heap} {S:Nat→Prop} {gl b cap:Nat} (hL:LV B Q p gl gv b cap a v l X S) (n:Nat)=>s_ltrunc hL (by omega) (by omega) n
  generalize textF l.size l.parts=t at htot htx htl
  have hsc:=λ(ht:LOk l) (X:Heap)=>(s_scan t (Qb (htl ht) (by decide)) X).imp (R':=λu H'=>∃(xs:List Yl) (ad:Option Addr) (cp:Nat),u=.tuple #[.slice ad xs.length cp,.int .i64 ((scanV t).2:Int)]∧Own H' X.size 106 2 (.slice ad xs.length cp) xs.length (ylsV xs)∧xs.map (·.1)=(scanV t).1∧xs.length≤t.length∧∀x∈xs,Own H' X.size 158 3 (.slice x.2.2.1 x.1.2.length x.2.2.2) x.1.2.length (cgsV x.1.2)∧∀c∈x.1.2,chOk c) λu H' ⟨xs,h1,w,h2,h3,h4,h5⟩=>by
   obtain⟨ad,cp,rfl⟩:=h3.form
   exact⟨xs,ad,cp,h2,h3,h1,h4,h5⟩
  have hcnt:=scanV_cnt t
  generalize scanV t=sc at htot hsc hcnt
  obtain⟨grs,en⟩:=sc
  dsimp only at htot hsc hcnt
  have htr:=λ{X:Heap} {S:Nat→Prop} {gl b cap:Nat} (hL:LV B Q p gl gv b cap a v l X S)=>htr hL en
  generalize ltruncV a v l en=r at htot htr
  obtain⟨⟨re,ra⟩,rv,rl⟩:=r
  unfold sopenT at htot
  dsimp only at htot htr
  obtain⟨fin,hfin⟩:∃f,foldG [] grs=f:=⟨_,rfl⟩
  rw[hfin] at htot
  refine spx func21 ?_
  conv=>whnf
  refine .q (s_vconf h.vol) ?_
  rintro _ H1 rfl e1 _
  conv=>whnf
  refine⟨rfl,λh2=>?_,λh2=>?_⟩
  ·rw[if_pos h2] at htot
   exact⟨bad (h.arr.q e1) (λk hk=>.inl (.inl hk)) htot⟩
  rw[if_neg h2] at htot
  conv=>whnf
  refine .t (hrd e1) (λk hk=>.inl (.inl hk)) ?_
  rintro _ H2 ⟨rfl,S2,ha2,hs2⟩ e2 _
  have hV2:=(h.q e1).step e2 ha2 hs2
  have hs2':Sub S2 (λk=>U k∨k=gv) H:=λk hk=>(hs2 k hk).elim (λh=>.inl (.inl h)) λh=>.inr (Qb e1.1 h)
  conv=>whnf
  refine⟨rfl,λh3=>?_,λh3=>?_⟩
  ·rw[if_pos h3] at htot
   exact⟨bad ha2 hs2' htot⟩
  rw[if_neg (λe=>e h3)] at htot
  conv=>whnf
  refine⟨rfl,?_⟩
  conv=>whnf
  intro H3 r3 f3 _
  conv=>whnf
  refine .q (hix (.inr ⟨r3,0,2,rfl,Qd _,CellsAt.new (cs:=[.string (S [65]),.string (S [66])]) f3⟩)) ?_
  rintro _ H4 rfl e4 _
  conv=>whnf
  refine⟨rfl,?_⟩
  conv=>whnf
  intro H5 gs f5 _
  have e25:=(f3.e.trans e4).trans f5.e
  have hV5:=hV2.q e25
  have hz5:=f5.size
  have hz25:=((f3.e.trans e4)).1
  have hz12:=e2.1
  have hz01:=e1.1
  have hgs:gs=H4.size:=f5.1
  have hst5:H5[gs]? =some (.cells #[.pointer none,ptr gv 0,.int .i64 ix,.int .i64 0,.slice none 0 0,.slice none 0 0] 96 (0,0)):=f5.at
  have hng:¬S2 gs:=λe=>by have:=ha2.lt gs e;omega
  conv=>whnf
  refine⟨_,cel_of hst5 rfl,?_⟩
  conv=>whnf
  refine⟨rfl,λh6=>?_,λh6=>?_⟩
  ·rw[if_pos h6] at htot
   exact⟨bad hV5.arr hs2' htot⟩
  rw[if_neg h6] at htot
  conv=>whnf
  refine⟨_,cel_of hst5 rfl,?_⟩
  conv=>whnf
  refine .t (hhf hV5 h6) (λk hk=>hs2' k hk) ?_
  rintro _ H6 ⟨gl,b,cap,S3,rfl,hgl,hb,hL6,hs3⟩ e6 _
  have hst6:=e6.blkT hst5 hng
  have hs3':Sub S3 (λk=>U k∨k=gv) H:=λk hk=>(hs3 k hk).elim (hs2' k) λh=>.inr (by omega)
  have hng3:¬S3 gs:=λe=>(hs3 gs e).elim hng λh=>by omega
  conv=>whnf
  refine .k ([ptr gl 0,ptr gv 0,.int .i64 ix,.int .i64 0,.slice none 0 0,.slice none 0 0]) (hst6) (.inr (by show H.size≤gs;omega)) rfl rfl ?_
  intro H7 u7 _
  have hL7:=hL6.frm1 hst6 hng3 (by decide) (by decide) (by decide) u7.e
  conv=>whnf
  refine⟨rfl,λh7=>absurd rfl h7,λ_=>?_⟩
  conv=>whnf
  refine⟨_,cel_of u7.1 rfl,?_⟩
  conv=>whnf
  refine .q (htx hL7) ?_
  rintro _ H8 rfl e8 _
  conv=>whnf
  refine .q (hsc hL7.lo H8) ?_
  rintro _ H9 ⟨xs,ad,cp,rfl,hrow,hxs,hxl,hxc⟩ e9 _
  have e79:=e8.trans e9
  have hst9:=e79.blk u7.1
  have hL9:=hL7.q e79
  conv=>whnf
  refine⟨_,cel_of hst9 rfl,?_⟩
  conv=>whnf
  refine .t (htr hL9) (λk hk=>hk.elim (λhk=>hk.elim (λhk=>(hs3' k hk)) λe=>.inl (.inr e)) (λe=>.inr (by show H.size≤k;omega))) ?_
  rintro _ H10 ⟨rfl,S4,hL10,hs4⟩ e10 _
  have hL10:LV (B+12000) (Q+1000) p gl gv b cap ra rv rl H10 S4:=hL10
  have hlt:=hL9.ltT
  have hgl7:gs<H7.size:=(Qa.1 u7.1).1
  have hz9:=e79.1
  have hng9:¬TL S3 gv b gs:=λhk=>hk.elim (λhk=>hk.elim hng3 λe=>by have:=h.lt;omega) λe=>by omega
  have hst10:=e10.blkT hst9 hng9
  have hs4':Sub S4 (λk=>U k∨k=gv) H:=λk hk=>(hs4 k hk).elim (hs3' k) λh=>.inr (by omega)
  conv=>whnf
  refine⟨rfl,λh8=>?_,λh8=>?_⟩
  ·rw[if_pos h8] at htot
   subst htot
   exact⟨rfl,hL10.vo.sm,hL10.vo.nd,S4,hL10.al.av.arr,hs4'⟩
  rw[if_neg (λe=>e h8)] at htot
  have hng4:¬S4 gs:=λe=>(hs4 gs e).elim hng3 λh=>by omega
  have hlt4:=hL10.ltT
  have hgs10:gs<H10.size:=(Qa.1 hst10).1
  have hz10:=e10.1
  have hzz:H7.size≤H8.size:=e8.1
  have hW:∀k,(TL S4 gv b k∨k=gs)→k<H10.size:=λk hk=>hk.elim (hlt4 k) λe=>by omega
  have hrow10:=hrow.frm e10 λk hk e=>by have:=(hrow.ge k hk).1;have:=hL7.ltT k e;omega
  have hxlen:xs.length=grs.length:=by have:=Qf List.length hxs;simpa using this
  have hix':((ix.toNat:Nat):Int)=ix:=QL (by have:¬ix<0:=h6;omega)
  have htl3:=htl hL7.lo
  have hxc10:∀x∈xs,Own H10 H8.size 158 3 (.slice x.2.2.1 x.1.2.length x.2.2.2) x.1.2.length (cgsV x.1.2)∧∀c∈x.1.2,chOk c:=λx hx=>⟨(hxc x hx).1.frm e10 λk hk e=>by have:=((hxc x hx).1.ge k hk).1;have:=hL7.ltT k e;omega,(hxc x hx).2⟩
  clear hxc hrow hrd hix hhf htx hsc htr
  conv=>whnf
  refine .g [(6,ptr gs 0),(7,.slice ad xs.length cp),(68,.slice ad xs.length cp),(69,.int .i64 (xs.length:Int)),(70,.int .i64 0)] ⟨rfl,rfl,rfl,rfl,rfl,trivial⟩ λenv0 KL hKL=>?_
  refine⟨Nat×List Yl×List Pr×Value,λx=>[(70,.int .i64 (x.1:Int))],λx H'=>x.1+x.2.1.length=xs.length∧xs.drop x.1=x.2.1∧foldG x.2.2.1 (x.2.1.map (·.1))=fin∧x.2.2.1.length+cntG (x.2.1.map (·.1))≤300000000∧(∀q∈x.2.2.1,prOk q)∧H'[gs]? =some (.cells #[ptr gl 0,ptr gv 0,.int .i64 ix,.int .i64 0,.slice none 0 0,x.2.2.2] 96 (0,0))∧RwO (λk=>TL S4 gv b k∨k=gs) H' x.2.2.2 (x.2.2.1.map prL)∧Frm (λk=>k=gs) H10 H',λx=>x.2.1.length,
   ⟨(0,xs,[],.slice none 0 0),⟨rfl,trivial⟩,by simp,rfl,by rw[hxs];exact hfin,by rw[hxs];simp;omega,by simp,hst10,⟨.inl ⟨rfl,rfl⟩,λe=>(e rfl).elim⟩,Frm.refl _ _⟩,?_⟩
  rintro⟨i,r,l2,pv⟩ HK junk ⟨hi,hd,hfo,hbd2,hok,hstK,hpK,hFK⟩ F
  dsimp only at hi hd hfo hbd2 hok hstK hpK
  cases r with
  |nil=>
   conv=>whnf
   refine⟨rfl,λh5=>absurd h5 (by show ¬(i:Int)<(xs.length:Int);simp at hi;omega),λh5=>?_⟩
   refine hKL _ _ _ ?_
   conv=>whnf
   refine .k ([ptr gl 0,ptr gv 0,.int .i64 ix,.int .i64 (xs.length:Int),.slice none 0 0,pv]) (hstK) (.inr (by show H.size≤gs;omega)) rfl rfl ?_
   intro HL uL _
   have hFL:=hFK.trans uL.e
   have hLL:=hL10.frm1 hst10 hng4 (by decide) (by decide) (by decide) hFL
   rw[YG,foldG_nil] at hfo
   subst hfo
   subst htot
   refine⟨⟨gs,gl,gv,b,cap,.slice none 0 0,pv⟩,S4,rfl,⟨?_,hLL,hng4,?_,⟨[],⟨.inl ⟨rfl,rfl⟩,λe=>(e rfl).elim⟩,rfl,λi x w hx=>by simp at hx⟩,⟨hn1,⟨by show(0:Int)≤(grs.length:Int);omega,by show(grs.length:Int)≤_;omega⟩,Qk _,λw hw=>by (cases hw),by show l2.length≤_;simp[cntG] at hbd2;omega,hok⟩⟩,?_⟩
   ·show HL[gs]? =some (.cells #[ptr gl 0,ptr gv 0,.int .i64 ((ix.toNat:Nat):Int),.int .i64 (grs.length:Int),.slice none 0 0,pv] 96 (0,0))
    rw[hix',←hxlen]
    exact uL.1
   ·exact hpK.frm (W':=λk=>TL S4 gv b k∨k=gs) pr_flat uL.e (λk _ e=>.inr e) (λk _ e=>e)
   ·rintro k (((hk|hk)|hk)|hk)
    ·exact hs4' k hk
    ·exact .inl (.inr hk)
    ·exact .inr (by have:k=b:=hk;omega)
    ·exact .inr (by have:k=gs:=hk;omega)
  |cons y r=>
   obtain⟨hy,hd'⟩:=drop_cons hd
   have h':i<xs.length:=(Qe.1 hy).1
   have hrowK:=hrow10.frm hFK λk hk (e:k=gs)=>hrow10.ne hst10 (by decide) (e▸hk)
   obtain⟨_,_,hae,_,hw⟩:=(hrowK.rw (ls:=xs.map ylL) rfl (by simp)).at (f:=ylL) (sz:=2) (λ_=>rfl)
   cases hae
   obtain⟨ba,o,rfl,hcc⟩:=hw i y hy
   have hcy:=hxc10 y (Qj hy)
   have hcK:=hcy.1.frm hFK λk hk (e:k=gs)=>hcy.1.ne hst10 (by decide) (e▸hk)
   have hbd3:l2.length+y.1.2.length+cntG (r.map (·.1))≤300000000:=by simp[cntG] at hbd2;omega
   have hap:=λ{X:Heap} (e:Frm nob HK X)=>Spec.sl (R:=λ_ _=>True) ((s_apply (hpK.1.q e) ((hcK.q e).rw (ls:=y.1.2.map cgL) rfl (by simp)) hok hcy.2 (by omega)).imp λ_ _ h=>⟨h,trivial⟩)
   have hal:=applyV_len l2 y.1.2
   have hok2:=applyV_ok hok hcy.2
   rw[QX,foldG_cons] at hfo
   generalize applyV l2 y.1.2=l3 at hap hal hok2 hfo
   have hzK:=hFK.1
   conv=>whnf
   refine⟨rfl,λh5=>?_,λh5=>absurd (QK.2 h') h5⟩
   conv=>whnf
   refine⟨i,rfl,h',?_⟩
   conv=>whnf
   refine⟨ylL y,rfl,hcc,?_⟩
   conv=>whnf
   intro HM q fM _
   have hqz:=fM.1
   conv=>whnf
   refine .k ((ylL y)) (fM.at) (.inr (by show H.size≤q;omega)) rfl rfl ?_
   intro HN uN _
   have eN:Frm nob HK HN:=fM.e.then uN.e λk hk=>.inr (by have:k=q:=hk;omega)
   have hstN:=eN.blk hstK
   have hzN:=eN.1
   conv=>whnf
   refine .p2 (λ_=>False) (λk=>k=gs) (λi=>i==10) (.take 0 (.take 1 (.take 2 (.take 3 (.take 4 (.take 5 (.take 6 (.one 7 (.take 8 (.take 9 (.sw (.one 10 .done)))))))))))) (λ_ h=>h.elim) (λk hk=>.inr (by have:k=gs:=hk;show H.size≤k;omega)) (by kernel_rfl) ?_
   conv=>whnf
   refine⟨id,_,cel_of hstN rfl,?_⟩
   conv=>whnf
   refine⟨id,_,cel_of uN.1 rfl,?_⟩
   conv=>whnf
   refine .q (hap eN) ?_
   rintro _ HO ⟨ad2,cp2,rfl,ho3,_⟩ eO _
   have hstO:=eO.blk hstN
   conv=>whnf
   refine .k ([ptr gl 0,ptr gv 0,.int .i64 ix,.int .i64 0,.slice none 0 0,.slice ad2 l3.length cp2]) (hstO) (.inl rfl) rfl rfl ?_
   intro HP uP _
   refine go ?_
   exact⟨(i+1,r,l3,.slice ad2 l3.length cp2),⟨rfl,trivial⟩,⟨by simp at hi⊢;omega,hd',hfo,by show l3.length+cntG (r.map (·.1))≤_;omega,hok2,uP.1,RwO.fresh (ho3.frm uP.e λk hk (e:k=gs)=>ho3.ne hstO (by decide) (e▸hk)) rfl (by simp) (λk hk=>by have:=hW k hk;omega),(hFK.trans ((eN.trans eO).mono λ_ _ e=>e.elim)).trans uP.e⟩,by show r.length<r.length+1;omega⟩
end Go.Proofs.YtjambljmnifknaaGreatDoor.Vc
namespace Go.Proofs.YtjambljmnifknaaGreatDoor.Vc
open Go Go.RowKit Tp
open Dk (Arr Dsk)
theorem SoR.low{p:Pl}{B:Nat}{Q:Int}{W W':Nat→Prop}{H H1 H':Heap}{t:(Option St×Int)×Arr}{u:Value}(h:SoR p B Q W' H1 t u H')(hW:∀k,W' k→W k∨H.size≤k)(hz:H.size≤H1.size):SoR p B Q W H t u H':=by
 unfold SoR at h⊢
 split at h
 ·obtain⟨h1,hm,hd,S',h2,h3⟩:=h
  exact⟨h1,hm,hd,S',h2,λk hk=>(h3 k hk).elim (hW k) λe=>.inr (Qb hz e)⟩
 ·obtain⟨x,S',h1,h2,h3⟩:=h
  exact⟨x,S',h1,h2,λk hk=>(h3 k hk).elim (hW k) λe=>.inr (Qb hz e)⟩
theorem SoR.tup{p:Pl}{B:Nat}{Q:Int}{W:Nat→Prop}{H H':Heap}{t:(Option St×Int)×Arr}{u:Value}(h:SoR p B Q W H t u H'):∃pv e,u=.tuple #[pv,.int .i64 e]∧SoR p B Q W H t (.tuple #[pv,.int .i64 e]) H':=by
 have h0:=h
 unfold SoR at h
 split at h
 ·obtain⟨rfl,_⟩:=h
  exact⟨_,_,rfl,h0⟩
 ·obtain⟨x,S',rfl,_⟩:=h
  exact⟨_,_,rfl,h0⟩
theorem SoR.mono{p:Pl}{B B':Nat}{Q Q':Int}{W:Nat→Prop}{H H':Heap}{t:(Option St×Int)×Arr}{u:Value}(h:SoR p B Q W H t u H')(hB:B≤B')(hQ:Q≤Q'):SoR p B' Q' W H t u H':=by
 unfold SoR at h⊢
 split at h
 ·exact⟨h.1,h.2.1.mono hB,h.2.2⟩
 ·obtain⟨x,S',h1,h2,h3⟩:=h
  exact⟨x,S',h1,⟨h2.st,h2.lv.mono hB hQ,h2.out,h2.pr,h2.wt,h2.ok⟩,h3⟩
theorem vopenV_bad{a:Arr}{id:Int}(h:(vopenV a id).1.1=none):(vopenV a id).1.2≠0:=by
 generalize hr:vopenV a id=r at h⊢
 unfold vopenV at hr
 split at hr
 ·subst hr;simp
 ·split at hr
  ·subst hr;simp
  ·unfold openW at hr
   split at hr
   ·rename_i h1;subst hr;exact h1
   ·split at hr
    ·rename_i h1;subst hr;exact h1
    ·subst hr;cases h
def stOpenV(a:Arr)(id:Int):(Option St×Int)×Arr:=match(vopenV a id).1.1 with
 |none=>((none,(vopenV a id).1.2),(vopenV a id).2)
 |some v=>sopenV (vopenV a id).2 v
attribute [local irreducible] sopenV
theorem s_stopen{p:Pl}{a:Arr}{H:Heap}{U:Nat→Prop}(h:PaH p a H U){B:Nat}(hB:Sm B a)(hBB:B≤700000)(hnd:a.ds.length≤6)(id:Int)(hid:id≤9223372036854775807):
  Spec prog 11 #[ptr p.ga 0,.int .i64 id] H U (SoR p (B+18000) (eMax+1001) U H (stOpenV a id)):=by
 obtain⟨tot,htot⟩:∃t,stOpenV a id=t:=⟨_,rfl⟩
 rw[htot]
 unfold stOpenV at htot
 have hop:=λX (e:Frm nob H X)=>s_open (h.q e) hB hBB hnd id hid
 have hbad:=vopenV_bad (a:=a) (id:=id)
 have hok:=λv=>vopenV_ok (v:=v) hB hnd (id:=id) hid
 have hsm:=vopenV_sm hB hnd id
 generalize vopenV a id=vo at htot hop hbad hok hsm
 obtain⟨⟨o,e⟩,a2⟩:=vo
 cases o with
 |none=>
  have he:=hbad rfl
  dsimp only at htot hop he
  clear hok hbad
  refine spx func11 ?_
  conv=>whnf
  refine .t (hop H (Frm.refl _ _)) (λk hk=>.inl hk) ?_
  rintro _ H1 ⟨rfl,S1,ha1,hs1⟩ e1 _
  conv=>whnf
  refine⟨rfl,λh7=>?_,λh7=>absurd h7 he⟩
  subst htot
  exact⟨rfl,hsm.1.mono (by omega),by show a2.ds.length≤6;rw[hsm.2];exact hnd,S1,ha1,hs1⟩
 |some v=>
  have hov:=(hok v rfl).1
  dsimp only at htot hop hov
  clear hok hbad
  have hso:=λ{X:Heap} {S:Nat→Prop} {gv:Nat} (hv:AV p gv v a2 X S)=>(s_sopen hv hov (by omega) (by decide)).imp λu H' h=>h.tup
  rw[htot] at hso
  refine spx func11 ?_
  conv=>whnf
  refine .t (hop H (Frm.refl _ _)) (λk hk=>.inl hk) ?_
  rintro _ H1 ⟨gv,rfl,hgv,S1,hV1,hs1⟩ e1 _
  conv=>whnf
  refine⟨rfl,λh7=>absurd rfl h7,λ_=>?_⟩
  conv=>whnf
  refine .t (hso hV1) (λk hk=>hk.elim (hs1 k) (λe=>.inr (by have:k=gv:=e;show H.size≤k;omega))) ?_
  rintro _ H2 ⟨pv,e,rfl,hR⟩ e2 _
  conv=>whnf
  exact⟨(hR.low (λk hk=>hk.elim (hs1 k) (λe=>.inr (by have:k=gv:=e;omega))) e1.1).mono (by omega) (by decide)⟩
theorem putC_ds(v:Vol)(t:By):∀(ds:List Int) (a:Arr),(putC v t ds a).2.ds.length=a.ds.length
 |[],_=>by unfold putC;rfl
 |d::ds,a=>by
  unfold putC
  split
  ·exact vputA_ds _ _ _ _ _ _
  ·rw[putC_ds v t ds];exact vputA_ds _ _ _ _ _ _
theorem stripesF_ds(v:Vol)(all:List Int):∀(q n:Nat) (a:Arr),(stripesF v all q n a).2.ds.length=a.ds.length
 |0,_,_=>by unfold stripesF;rfl
 |q+1,n,a=>by
  unfold stripesF
  split
  ·exact shardsV_ds _ _ _ _ _ _
  ·rw[stripesF_ds v all q];exact shardsV_ds _ _ _ _ _ _
theorem vmakeV_ok{a:Arr}{B:Nat}(hB:Sm B a)(hnd:a.ds.length≤6)(c:Cf){id:Int}(hid:id≤9223372036854775807)(h:(vmakeV a c id).1=0):VOk (B+6006) 0 ⟨c,id,0⟩ (vmakeV a c id).2:=by
 generalize hr:vmakeV a c id=r at h⊢
 unfold vmakeV at hr
 have hal:=aliveL_len a a.ds.length
 split at hr
 ·subst hr;cases h
 rename_i hc
 have hc:cfOk c:=Zm hc
 split at hr
 ·subst hr;cases h
 rename_i hd
 have hd:(a.ds.length:Int)=cfDisks c:=Zm hd
 split at hr
 ·subst hr;cases h
 split at hr
 ·subst hr;cases h
 split at hr
 ·subst hr;cases h
 split at hr
 ·subst hr;cases h
 have hst:c.st.toNat≤1000:=by have:=hc.b;omega
 have hal6:(aliveL a a.ds.length).length≤6:=by simp at hal;omega
 have h1:=putC_sm ⟨c,id,0⟩ (cfW c) (aliveL a a.ds.length) hB
 have h2:=stripesF_sm ⟨c,id,0⟩ (aliveL a a.ds.length) c.st.toNat 0 h1
 have hm:c.st.toNat*(aliveL a a.ds.length).length≤1000*6:=Q9 hst hal6
 have hds:(stripesF ⟨c,id,0⟩ (aliveL a a.ds.length) c.st.toNat 0 (putC ⟨c,id,0⟩ (cfW c) (aliveL a a.ds.length) a).2).2.ds.length=a.ds.length:=by rw[stripesF_ds,putC_ds]
 split at hr
 ·rename_i h3;subst hr;exact absurd h h3
 split at hr
 ·rename_i h3;subst hr;exact absurd h h3
 subst hr
 exact⟨h2.flushed.mono (by omega),by rw[aflushed_ds,hds];exact hnd,hc,by rw[aflushed_ds,hds];exact hd,hid,QJ _,QJ _⟩
theorem vmakeV_sm{a:Arr}{B:Nat}(hB:Sm B a)(hnd:a.ds.length≤6)(c:Cf)(id:Int):Sm (B+6006) (vmakeV a c id).2∧(vmakeV a c id).2.ds.length≤6:=by
 have hal:=aliveL_len a a.ds.length
 have hal6:(aliveL a a.ds.length).length≤6:=by simp at hal;omega
 have k0:Sm (B+6006) a∧a.ds.length≤6:=⟨hB.mono (by omega),hnd⟩
 have h1:=putC_sm ⟨c,id,0⟩ (cfW c) (aliveL a a.ds.length) hB
 have d1:=putC_ds ⟨c,id,0⟩ (cfW c) (aliveL a a.ds.length) a
 unfold vmakeV
 split
 ·exact k0
 rename_i hc
 have hc:cfOk c:=Zm hc
 have hst:c.st.toNat≤1000:=by have:=hc.b;omega
 have h2:=stripesF_sm ⟨c,id,0⟩ (aliveL a a.ds.length) c.st.toNat 0 h1
 have d2:=stripesF_ds ⟨c,id,0⟩ (aliveL a a.ds.length) c.st.toNat 0 (putC ⟨c,id,0⟩ (cfW c) (aliveL a a.ds.length) a).2
 have hm:c.st.toNat*(aliveL a a.ds.length).length≤1000*6:=Q9 hst hal6
 split
 ·exact k0
 split
 ·exact k0
 split
 ·exact k0
 split
 ·exact k0
 split
 ·exact k0
 split
 ·exact⟨h1.mono (by omega),by rw[d1];exact hnd⟩
 split
 ·exact⟨h2.mono (by omega),by rw[d2,d1];exact hnd⟩
 ·exact⟨h2.flushed.mono (by omega),by rw[aflushed_ds,d2,d1];exact hnd⟩
def smakeV(a:Arr)(c:Cf)(id:Int):(Option St×Int)×Arr:=
 if ¬cfOk c then((none,1),a) else if c.st<3 then((none,1),a) else
 if(vmakeV a c id).1≠0 then((none,(vmakeV a c id).1),(vmakeV a c id).2) else
 if(vwriteV (vmakeV a c id).2 ⟨c,id,0⟩ 0 [65]).1.1≠0 then((none,(vwriteV (vmakeV a c id).2 ⟨c,id,0⟩ 0 [65]).1.1),(vwriteV (vmakeV a c id).2 ⟨c,id,0⟩ 0 [65]).1.2) else
 sopenV (vwriteV (vmakeV a c id).2 ⟨c,id,0⟩ 0 [65]).1.2 (vwriteV (vmakeV a c id).2 ⟨c,id,0⟩ 0 [65]).2
theorem s_stmake{p:Pl}{a:Arr}{H:Heap}{U:Nat→Prop}(h:PaH p a H U){B:Nat}(hB:Sm B a)(hBB:B≤400000)(hnd:a.ds.length≤6)(c:Cf)(id:Int)(hid:id≤9223372036854775807):
  Spec prog 51 #[ptr p.ga 0,cfV c,.int .i64 id] H U (SoR p (B+20000) 1001 U H (smakeV a c id)):=by
 obtain⟨tot,htot⟩:∃t,smakeV a c id=t:=⟨_,rfl⟩
 rw[htot]
 unfold smakeV at htot
 have bad:∀{X:Heap} {S':Nat→Prop} {e:Int} {b:Arr},PaH p b X S'→Sub S' U H→(Sm (B+20000) b∧b.ds.length≤6)→((none,e),b)=tot→SoR p (B+20000) 1001 U H tot (.tuple #[.pointer none,.int .i64 e]) X:=λh1 h2 h3 ht=>by subst ht;exact⟨rfl,h3.1,h3.2,_,h1,h2⟩
 have hck:=λX=>s_check c X
 have hce:cfE c=if cfOk c then 0 else 1:=by unfold cfE;rfl
 have hmk:=λX (e:Frm nob H X)=>s_vmake (h.q e) hB (by omega) c id (Qb hnd (by decide))
 have hmo:=vmakeV_ok hB hnd c (id:=id) hid
 have hms:=vmakeV_sm hB hnd c id
 have k0:Sm (B+20000) a∧a.ds.length≤6:=⟨hB.mono (by omega),hnd⟩
 generalize vmakeV a c id=mk at htot hmk hmo hms
 obtain⟨me,a1⟩:=mk
 dsimp only at htot hmk hmo hms
 have hwr:=λ{X:Heap} {S:Nat→Prop} {gv:Nat} (h0:me=0) (hV:AV p gv ⟨c,id,0⟩ a1 X S)=>by
  have ho:=hmo h0
  exact s_vwrite hV ho.sm (by omega) 0 [65] (by decide) (by decide) (Qb ho.nd (by decide)) ho.cf ho.ds ho.id ⟨QJ 0,(by decide:(0:Int)≤100000000000000000)⟩
 have hwo:=λ(h0:me=0)=>(hmo h0).write 0 [65]
 generalize vwriteV a1 ⟨c,id,0⟩ 0 [65]=wr at htot hwr hwo
 obtain⟨⟨we,a2⟩,v2⟩:=wr
 dsimp only at htot hwr hwo
 have hso:=λ{X:Heap} {S:Nat→Prop} {gv:Nat} (h0:me=0) (hv:AV p gv v2 a2 X S)=>(s_sopen hv (hwo h0) (by omega) (by decide)).imp λu H' h=>h.tup
 generalize sopenV a2 v2=so at htot hso
 generalize cfE c=ce at hce hck
 have hwk:=hwo
 clear hmo hwo
 refine spx func51 ?_
 conv=>whnf
 intro H1 bc f1 _
 have hc1:=f1.at
 conv=>whnf
 refine⟨cfL c,rfl,CellsAt.new (cs:=cfL c) f1,?_⟩
 conv=>whnf
 refine .q (hck _) ?_
 rintro _ H2 rfl e2 _
 have hc2:H2[bc]? =some (.cells (cfL c).toArray 23 (0,0)):=e2.blk f1.at
 have e12:=f1.e.trans e2
 have hz1:=f1.e.1
 have hz2:=e2.1
 conv=>whnf
 refine⟨rfl,λh3=>?_,λh3=>?_⟩
 ·have hnc:¬cfOk c:=λe=>h3 (by rw[hce,if_pos e])
  rw[if_pos hnc] at htot
  exact⟨bad (h.q e12) (Sub.refl _ _) k0 htot⟩
 have hc:cfOk c:=Zm λe=>by rw[if_neg e] at hce;omega
 rw[if_neg (λe=>e hc)] at htot
 conv=>whnf
 refine⟨_,cel_of hc2 rfl,?_⟩
 conv=>whnf
 refine⟨rfl,λh4=>?_,λh4=>?_⟩
 ·have h4':c.st<3:=h4
  rw[if_pos h4'] at htot
  exact⟨bad (h.q e12) (Sub.refl _ _) k0 htot⟩
 have h4':¬c.st<3:=h4
 rw[if_neg h4'] at htot
 conv=>whnf
 refine⟨cfL c,rfl,CellsAt.at hc2,?_⟩
 conv=>whnf
 refine .t (hmk _ e12) (λk hk=>.inl hk) ?_
 rintro _ H3 ⟨pv,rfl,S3,ha3,hs3,hy,hn⟩ e3 _
 have hs3':Sub S3 U H:=λk hk=>(hs3 k hk).elim .inl λh=>.inr (by omega)
 conv=>whnf
 refine⟨rfl,λh5=>?_,λh5=>?_⟩
 ·have h5':me≠0:=h5
  rw[if_pos h5'] at htot
  conv=>whnf
  rw[hn h5']
  exact⟨bad ha3 hs3' ⟨hms.1.mono (by omega),hms.2⟩ htot⟩
 have h5':me=0:=h5
 rw[if_neg (λe=>e h5')] at htot
 refine Qh (hy h5') λgv hgv=>?_
 have hpv:=hgv.1
 have hV3:=hgv.2.2
 have hgz:=hgv.2.1
 conv=>whnf
 refine⟨0,1,rfl,⟨_,rfl⟩,by decide,by decide,S [65],by decide,?_⟩
 rw[hpv]
 conv=>whnf
 refine .t (hwr h5' hV3) (λk hk=>hk.elim (hs3' k) (λe=>.inr (by have:k=gv:=e;show H.size≤k;omega))) ?_
 rintro _ H4 ⟨rfl,S4,hV4,hs4⟩ e4 _
 have hs4':Sub S4 U H:=λk hk=>(hs4 k hk).elim (hs3' k) λh=>.inr (by have:=e3.1;omega)
 conv=>whnf
 refine⟨rfl,λh6=>?_,λh6=>?_⟩
 ·rw[if_pos h6] at htot
  exact⟨bad hV4.arr hs4' ⟨(hwk h5').sm.mono (by omega),(hwk h5').nd⟩ htot⟩
 rw[if_neg (λe=>e h6)] at htot
 rw[htot] at hso
 conv=>whnf
 refine .t (hso h5' hV4) (λk hk=>hk.elim (hs4' k) (λe=>.inr (by have:k=gv:=e;show H.size≤k;omega))) ?_
 rintro _ H5 ⟨pw,e,rfl,hR⟩ e5 _
 conv=>whnf
 exact⟨(hR.low (λk hk=>hk.elim (hs4' k) (λe=>.inr (by have:k=gv:=e;omega))) (by have:=e4.1;have:=e3.1;omega)).mono (by omega) (by omega)⟩
end Go.Proofs.YtjambljmnifknaaGreatDoor.Vc
namespace Go.Proofs.YtjambljmnifknaaGreatDoor.Vc
open Go Go.RowKit Tp
open Dk (Arr Dsk)
section
variable {B:Nat}{Q:Int}{N:Nat}{p:Pl}{x:Sp}{s:St}{a:Arr}{H H':Heap}{S:Nat→Prop}
theorem SS.gs_lt(h:SS B Q N p x s a H S):x.gs<H.size:=(Qa.1 h.st).1
theorem SS.gs_TL(h:SS B Q N p x s a H S):¬TL S x.gv x.b x.gs:=by
 obtain⟨cb,hb⟩:=h.lv.blkb
 rintro ((e|e)|e)
 ·exact h.out e
 ·have:=h.lv.al.av.vol
  rw[←e,h.st] at this
  simp at this
 ·rw[←e,h.st] at hb
  simp at hb
theorem SS.ltT(h:SS B Q N p x s a H S):∀k,TS x S k→k<H.size:=λk hk=>hk.elim (h.lv.ltT k) λe=>by rw[e];exact h.gs_lt
theorem SS.mono{B':Nat}{Q':Int}{N':Nat}(h:SS B Q N p x s a H S)(hB:B≤B')(hQ:Q≤Q')(hN:N≤N'):SS B' Q' N' p x s a H S:=
 ⟨h.st,h.lv.mono hB hQ,h.out,h.pr,h.wt,⟨h.ok.hf,⟨h.ok.nx.1,by have:=h.ok.nx.2;omega⟩,Qb h.ok.wn hN,h.ok.wo,by have:=h.ok.pn;omega,h.ok.po⟩⟩
theorem SS.q(h:SS B Q N p x s a H S)(hF:Frm nob H H'):SS B Q N p x s a H' S:=
 ⟨hF.blk h.st,h.lv.q hF,h.out,h.pr.frm pr_flat hF (λ_ _ e=>e.elim) (λ_ _ e=>e),h.wt.frm hF (λ_ _ e=>e.elim) (λ_ _ e=>e),h.ok⟩
theorem SS.up{B':Nat}{Q':Int}{S' T:Nat→Prop}{l':Lg}{v':Vol}{a':Arr}(h:SS B Q N p x s a H S)(hF:Frm T H H')(hT:∀k,T k→TL S x.gv x.b k∨H.size≤k)(hs:Sub S' S H)(hL:LV B' Q' p x.gl x.gv x.b x.cap a' v' l' H' S'):
  SS B' Q' N p x ⟨l',v',s.half,s.next,s.ws,s.ps⟩ a' H' S':=by
 have hlt:=h.gs_lt
 have h1:∀k,k<H.size→T k→TS x S k:=λk hk ht=>(hT k ht).elim .inl λe=>by omega
 have h2:∀k,k<H.size→TS x S' k→TS x S k:=by
  rintro k hk (((e|e)|e)|e)
  ·exact(hs k e).elim (λe=>.inl (.inl (.inl e))) λe=>by omega
  ·exact .inl (.inl (.inr e))
  ·exact .inl (.inr e)
  ·exact .inr e
 exact⟨hF.blkT h.st (λe=>(hT _ e).elim h.gs_TL λe=>by omega),hL,λe=>(hs _ e).elim h.out λe=>by omega,h.pr.frm pr_flat hF h1 h2,h.wt.frm hF h1 h2,⟨h.ok.hf,h.ok.nx,h.ok.wn,h.ok.wo,h.ok.pn,h.ok.po⟩⟩
theorem TS_sub{S S':Nat→Prop}{H:Heap}(hs:Sub S' S H):Sub (TS x S') (TS x S) H:=by
 rintro k (((e|e)|e)|e)
 ·exact(hs k e).elim (λe=>.inl (.inl (.inl (.inl e)))) .inr
 ·exact .inl (.inl (.inl (.inr e)))
 ·exact .inl (.inl (.inr e))
 ·exact .inl (.inr e)
theorem s_stget(h:SS B Q N p x s a H S)(hN:N≤1000)(k:By):Spec prog 151 #[ptr x.gs 0,.string (Tp.S k)] H nob λu _=>u=match dgetF k s.ps with|none=>.tuple #[.string (Tp.S []),.int .i64 13]|some y=>.tuple #[.string (Tp.S y),.int .i64 0]:=by
 have hpn:=h.ok.pn
 have hg:=s_dget h.pr.1 (by omega) k
 generalize dgetF k s.ps=o at hg⊢
 cases o with
 |none=>
  refine spx func151 ?_
  conv=>whnf
  refine⟨_,cel_of h.st rfl,?_⟩
  conv=>whnf
  refine .q (hg) ?_
  rintro _ H1 rfl e1 _
  conv=>whnf
  exact⟨rfl⟩
 |some y=>
  refine spx func151 ?_
  conv=>whnf
  refine⟨_,cel_of h.st rfl,?_⟩
  conv=>whnf
  refine .q (hg) ?_
  rintro _ H1 rfl e1 _
  conv=>whnf
  exact⟨rfl⟩
theorem s_stused(h:SS B Q N p x s a H S):Spec prog 157 #[ptr x.gs 0] H nob λu _=>u=.int .i64 ((textF s.l.size s.l.parts).length:Nat):=by
 have htx:=s_ltext h.lv.al.lg h.lv.al.row.rd.1 (Qb h.lv.lo.flat (by decide)) (Qb h.lv.lo.n (by decide))
 generalize textF s.l.size s.l.parts=t at htx⊢
 refine spx func157 ?_
 conv=>whnf
 refine⟨_,cel_of h.st rfl,?_⟩
 conv=>whnf
 refine .q (htx) ?_
 rintro _ H1 rfl e1 _
 conv=>whnf
 exact⟨Qf (λn:Nat=>Value.int .i64 (n:Int)) (S_size t)⟩
theorem GrO.slice{W:Nat→Prop}{v:Value}{ws:List (List Chg)}(h:GrO W H v ws):∃ad cap,v=.slice ad ws.length cap:=by
 obtain⟨vs,h1,h2,_⟩:=h
 rcases h1.1 with ⟨rfl,hx⟩|⟨b,o,cap,rfl,_⟩
 ·refine⟨none,0,?_⟩
  have:vs=[]:=by simpa using hx
  subst this
  simp at h2
  rw[←h2]
 ·exact⟨_,cap,by rw[Qv,h2]⟩
theorem s_stpend(h:SS B Q N p x s a H S):Spec prog 158 #[ptr x.gs 0] H nob λu _=>u=.int .i64 (s.ws.length:Nat):=by
 obtain⟨ad,cap,hw⟩:=h.wt.slice
 have hst:H[x.gs]? =some (.cells #[ptr x.gl 0,ptr x.gv 0,.int .i64 (s.half:Int),.int .i64 s.next,.slice ad s.ws.length cap,x.pv] 96 (0,0)):=by rw[←hw];exact h.st
 refine spx func158 ?_
 conv=>whnf
 refine⟨_,cel_of hst rfl,?_⟩
 conv=>whnf
 exact⟨rfl⟩
theorem s_stvol(h:SS B Q N p x s a H S):Spec prog 160 #[ptr x.gs 0] H nob λu _=>u=ptr x.gv 0:=by
 refine spx func160 ?_
 conv=>whnf
 refine⟨_,cel_of h.st rfl,?_⟩
 conv=>whnf
 exact⟨rfl⟩
theorem s_stlist(h:SS B Q N p x s a H S)(hN:N≤1000):Spec prog 153 #[ptr x.gs 0] H nob λu H'=>Own H' H.size 9 1 u s.ps.length (strV (s.ps.map (·.1))):=by
 have hpn:=h.ok.pn
 obtain⟨ad,cap,hpv,_,hw⟩:=h.pr.1.at (f:=prL) (sz:=2) (λ_=>rfl)
 have hst:H[x.gs]? =some (.cells #[ptr x.gl 0,ptr x.gv 0,.int .i64 (s.half:Int),.int .i64 s.next,x.wv,.slice ad s.ps.length cap] 96 (0,0)):=by rw[←hpv];exact h.st
 generalize s.ps=l at hpn hw hst
 refine spx func153 ?_
 conv=>whnf
 refine⟨_,cel_of hst rfl,?_⟩
 conv=>whnf
 refine .g [(3,.slice none 0 0),(11,.slice ad l.length cap),(12,.int .i64 (l.length:Int)),(13,.int .i64 0)] ⟨rfl,rfl,rfl,rfl,trivial⟩ λenv0 KL hKL=>?_
 refine⟨Nat×List Pr×Value,λx=>[(3,x.2.2),(13,.int .i64 (x.1:Int))],λx H'=>x.1+x.2.1.length=l.length∧l.drop x.1=x.2.1∧Own H' H.size 9 1 x.2.2 x.1 (strV ((l.take x.1).map (·.1)))∧Frm nob H H',λx=>x.2.1.length,
  ⟨(0,l,.slice none 0 0),⟨rfl,rfl,trivial⟩,by simp,rfl,Own.nil _ _ _ _,Frm.refl _ _⟩,?_⟩
 rintro⟨i,r,v⟩ HK junk ⟨hi,hd,ho,hFK⟩ F
 dsimp only at hi hd ho
 have hzK:=hFK.1
 cases r with
 |nil=>
  conv=>whnf
  refine⟨rfl,λh5=>absurd h5 (by show ¬(i:Int)<(l.length:Int);simp at hi;omega),λh5=>?_⟩
  refine hKL _ _ _ ?_
  conv=>whnf
  have hie:i=l.length:=by simpa using hi
  rw[hie,Zx] at ho
  exact⟨by rw[hie];exact ho⟩
 |cons y r=>
  obtain⟨hy,hd'⟩:=drop_cons hd
  have h':i<l.length:=(Qe.1 hy).1
  obtain⟨ba,o,rfl,hcc⟩:=hw i y hy
  conv=>whnf
  refine⟨rfl,λh5=>?_,λh5=>absurd (QK.2 h') h5⟩
  conv=>whnf
  refine⟨i,rfl,h',?_⟩
  conv=>whnf
  refine⟨prL y,rfl,cells_keep hFK id hcc,?_⟩
  conv=>whnf
  intro HM q fM _
  conv=>whnf
  refine .k ((prL y)) (fM.at) (.inr (by have:=fM.1;show H.size≤q;omega)) rfl rfl ?_
  intro HN uN _
  have eN:Frm nob HK HN:=fM.e.then uN.e λk hk=>.inr (by have:k=q:=hk;have:=fM.1;omega)
  conv=>whnf
  refine⟨_,cel_of uN.1 rfl,?_⟩
  conv=>whnf
  refine⟨rfl,?_⟩
  conv=>whnf
  intro HO q2 fO _
  conv=>whnf
  refine .el2 [.string (Tp.S y.1)] (by kernel_rfl) ((ho.q eN).q fO.e) (CellsAt.new (cs:=[.string (Tp.S y.1)]) fO) rfl (by simp[oneCell]) (by omega) (by have:=eN.1;have:=fO.e.1;show H.size≤_;omega) (λk hk=>.inr (ho.ge k hk).1) ?_
  intro v10 HP ho10 e10 _ _
  refine go ?_
  exact⟨(i+1,r,v10),⟨rfl,rfl,trivial⟩,⟨by simp at hi⊢;omega,hd',by rw[List.take_succ,hy];simpa [strV] using ho10,(hFK.trans (eN.trans fO.e)).then e10 λk hk=>.inr (ho.ge k hk).1⟩,by show r.length<r.length+1;omega⟩
end
def updV(s:St)(l:List Chg):Int×St:=
 if fchkV l≠0 then(fchkV l,s) else if(scanWV s.next (s.ws++[l])).2≠0 then((scanWV s.next (s.ws++[l])).2,s) else
 if roomF s.l<(scanWV s.next (s.ws++[l])).1.length then(11,s) else(0,⟨s.l,s.v,s.half,s.next,s.ws++[l],applyV s.ps l⟩)
attribute [local irreducible] roomF
section
variable {B:Nat}{Q:Int}{N:Nat}{p:Pl}{x:Sp}{s:St}{a:Arr}{H:Heap}{S:Nat→Prop}
theorem Rw.one{v:Value}{ls:List (List Value)}(h:Rw H v ls):oneCell v=true:=by
 rcases h with ⟨rfl,_⟩|⟨b,o,cap,rfl,_⟩<;>rfl
theorem flat1:∀l:List Value,l=(l.map λx=>[x]).flatten
 |[]=>rfl
 |a::r=>by
  have:=flat1 r
  simp only[QX,Ze,←this]
  rfl
theorem GrO.snoc{W:Nat→Prop}{vs:List Value}{ws:List (List Chg)}{y v:Value}{l:List Chg}(h3:∀(i:Nat) (x:Value) (w:List Chg),vs[i]? =some x→ws[i]? =some w→RwO W H x (w.map cgL))(h2:vs.length=ws.length)(hy:RwO W H y (l.map cgL))(hv:RwO W H v ((vs++[y]).map λx=>[x])):GrO W H v (ws++[l]):=by
 refine⟨vs++[y],hv,by simp[h2],λi x w hx hw=>?_⟩
 by_cases hi:i<vs.length
 ·rw[QG hi] at hx
  rw[QG (by omega)] at hw
  exact h3 i x w hx hw
 ·rw[Zu (by omega)] at hx
  rw[Zu (by omega),←h2] at hw
  cases hk:i-vs.length with
  |zero=>
   rw[hk] at hx hw
   simp at hx hw
   subst hx hw
   exact hy
  |succ n=>rw[hk] at hx;simp at hx
theorem s_update(h:SS B Q N p x s a H S)(hN:N≤1000){v:Value}{l:List Chg}{bv:Nat}(hvo:Own H bv 158 3 v l.length (cgsV l))(ho:∀c∈l,chOk c)(hl:l.length≤1000000):
  Spec prog 150 #[ptr x.gs 0,v] H (λk=>k=x.gs) λu H'=>u=.int .i64 (updV s l).1∧∃wv pv,SS B Q (N+1) p ⟨x.gs,x.gl,x.gv,x.b,x.cap,wv,pv⟩ (updV s l).2 a H' S:=by
 obtain⟨tot,htot⟩:∃t,updV s l=t:=⟨_,rfl⟩
 rw[htot]
 unfold updV at htot
 have hv:Rw H v (l.map cgL):=hvo.rw rfl (by simp)
 have hok:=h.ok
 have hpn:=hok.pn
 have hwn:=hok.wn
 have hlo:=h.lv.lo
 have bad:∀{X:Heap} {e:Int},Frm nob H X→(e,s)=tot→Value.int .i64 e=Value.int .i64 tot.1∧∃wv pv,SS B Q (N+1) p ⟨x.gs,x.gl,x.gv,x.b,x.cap,wv,pv⟩ tot.2 a X S:=λhX ht=>by subst ht;exact⟨rfl,x.wv,x.pv,(h.q hX).mono (Qd _) (QJ _) (by omega)⟩
 have hck:=s_fcheck hv ho (Qb hl (by decide))
 have h64:=@fchk_64 l
 generalize fchkV l=ck at htot hck h64
 obtain⟨vs,hv1,hv2,hv3⟩:=h.wt
 have hv1c:∀y∈vs,oneCell y=true:=λy hy=>by
  obtain⟨i,hi,rfl⟩:=List.mem_iff_getElem.1 hy
  exact(hv3 i _ (s.ws[i]'(by omega)) (Qc hi) (Qc _)).1.one
 have hcl:=λ{X:Heap} (e:Frm nob H X)=>Spec.sl (R:=λ_ _=>True) ((s_cloneg (hv1.1.q e) hv1c (by omega)).imp λ_ _ h=>⟨h,trivial⟩)
 have hcc:=λ{X:Heap} (e:Frm nob H X)=>Spec.sl (R:=λ_ _=>True) ((s_clonec (hv.q e) (by omega)).imp λ_ _ h=>⟨h,trivial⟩)
 have hsw:=λ{X:Heap} {w:Value} (h64:l.length≤64) (hg:GrO nob X w (s.ws++[l]))=>s_swrite hg (λy hy=>by
  rcases Qz.1 hy with hy|hy
  ·exact⟨Qb (hok.wo y hy).1 (by decide),(hok.wo y hy).2⟩
  ·rw[Q4.1 hy];exact⟨hl,ho⟩) (by simp;omega) s.next ⟨hok.nx.1,Yo hok.nx.2 (by omega)⟩
 generalize scanWV s.next (s.ws++[l])=sw at htot hsw
 have hc:0≤s.l.count*s.l.size∧s.l.count*s.l.size≤1000000000000:=by
  rw[hlo.cnt]
  have hsz:=hlo.sz
  have hpl:=hlo.n
  have h1:(s.l.parts.length:Int)*s.l.size≤1000*4000:=Z3 (by omega) hsz.2 (by omega) (by decide)
  have h2:0≤(s.l.parts.length:Int)*s.l.size:=Yq (by omega) (by omega)
  omega
 have hrm:=λ{X:Heap} (e:Frm nob H X)=>s_lroom (h.q e).lv.al.lg (h.q e).lv.al.row.rd.1 (Qb hlo.flat (by decide)) (Qb hlo.n (by decide)) hc
 generalize roomF s.l=rm at htot hrm
 have hap:=λ{X:Heap} (h64:l.length≤64) (hr:Rw X x.pv (s.ps.map prL)) (hc:Rw X v (l.map cgL))=>Spec.sl (R:=λ_ _=>True) ((s_apply hr hc hok.po ho (by omega)).imp λ_ _ h=>⟨h,trivial⟩)
 have hapo:=applyV_ok hok.po ho
 have hapl:=applyV_len s.ps l
 generalize applyV s.ps l=ap at htot hap hapo hapl
 refine spx func150 ?_
 conv=>whnf
 refine .q (hck) ?_
 rintro _ H1 rfl e1 _
 conv=>whnf
 refine⟨rfl,λh3=>?_,λh3=>?_⟩
 ·rw[if_pos h3] at htot
  exact⟨bad e1 htot⟩
 rw[if_neg (λe=>e h3)] at htot
 have hl64:=h64 (λe=>e h3)
 have h1:=h.q e1
 conv=>whnf
 refine⟨_,cel_of h1.st rfl,?_⟩
 conv=>whnf
 refine .q (hcl e1) ?_
 rintro _ H2 ⟨ad2,c2,rfl,ho2,_⟩ e2 _
 conv=>whnf
 refine .q (hcc (e1.trans e2)) ?_
 rintro _ H3 ⟨ad3,c3,rfl,ho3,_⟩ e3 _
 conv=>whnf
 refine⟨rfl,?_⟩
 conv=>whnf
 intro H4 q4 f4 _
 have e14:=((e1.trans e2).trans e3).trans f4.e
 have z1:=e1.1
 have z2:=e2.1
 have z3:=e3.1
 have z4:=f4.e.1
 conv=>whnf
 refine .el2 [.slice ad3 l.length c3] (by kernel_rfl) ((ho2.q e3).q f4.e) (CellsAt.new (cs:=[.slice ad3 l.length c3]) f4) rfl (by simp[oneCell]) (by omega) (by omega) (λk hk=>.inr (by have:=(ho2.ge k hk).1;show H.size≤k;omega)) ?_
 intro v5 H5 ho5
 obtain⟨ad5,c5,rfl⟩:=ho5.form
 intro e5 _ _
 have F15:Frm nob H H5:=e14.then e5 λk hk=>.inr (by have:=(ho2.ge k hk).1;omega)
 have z5:=e5.1
 have ho3':=(ho3.q f4.e).frm e5 λk hk e=>((ho2.q e3).q f4.e).apart (ho3.q f4.e) (by decide) k e hk
 have hgs:=h.gs_lt
 have hlt:=h.ltT
 have hgr:∀{W:Nat→Prop} {X:Heap},Frm (λk=>k=x.gs) H5 X→(∀k,W k→TS x S k)→GrO W X (.slice ad5 (vs.length+1) c5) (s.ws++[l]):=λ{W X} hF h5=>
  GrO.snoc (λi y w hy hw=>(hv3 i y w hy hw).frm cg_flat ((F15.mono λ_ _ e=>e.elim).trans hF) (λk _ hk=>.inr hk) λk _ hk=>h5 k hk) hv2 (RwO.fresh (ho3'.frm hF λk hk (e:k=x.gs)=>by have:=(ho3.ge k hk).1;omega) rfl (by simp) λk hk=>by have:=hlt k (h5 k hk);omega) (RwO.fresh (ho5.frm hF λk hk (e:k=x.gs)=>by have:=(ho5.ge k hk).1;omega) (flat1 _) (by simp) λk hk=>by have:=hlt k (h5 k hk);omega)
 clear hcl hcc
 conv=>whnf
 have h5:=h.q F15
 conv=>whnf
 refine⟨_,cel_of h5.st rfl,?_⟩
 conv=>whnf
 refine .q (hsw hl64 (hgr (Frm.refl _ _) (λ_ e=>e.elim))) ?_
 rintro _ H6 rfl e6 _
 have F16:=F15.trans e6
 conv=>whnf
 refine⟨rfl,λh6=>?_,λh6=>?_⟩
 ·rw[if_pos h6] at htot
  exact⟨bad F16 htot⟩
 rw[if_neg (λe=>e h6)] at htot
 have hh6:=h.q F16
 conv=>whnf
 refine⟨_,cel_of hh6.st rfl,?_⟩
 conv=>whnf
 refine .q (hrm F16) ?_
 rintro _ H7 rfl e7 _
 have F17:=F16.trans e7
 conv=>whnf
 refine⟨rfl,λh7=>?_,λh7=>?_⟩
 ·have h7':rm<((Tp.S sw.1).size:Int):=h7
  rw[S_size] at h7'
  rw[if_pos h7'] at htot
  exact⟨bad F17 htot⟩
 have h7':¬rm<((Tp.S sw.1).size:Int):=h7
 rw[S_size] at h7'
 rw[if_neg h7'] at htot
 have hh7:=h.q F17
 conv=>whnf
 refine .k ([ptr x.gl 0,ptr x.gv 0,.int .i64 (s.half:Int),.int .i64 s.next,.slice ad5 (vs.length+1) c5,x.pv]) (hh7.st) (.inl rfl) rfl rfl ?_
 intro H8 u8 _
 have F58:Frm (λk=>k=x.gs) H5 H8:=((e6.trans e7).mono λ_ _ e=>e.elim).trans u8.e
 have F18:Frm (λk=>k=x.gs) H H8:=(F17.mono λ_ _ e=>e.elim).trans u8.e
 conv=>whnf
 refine⟨_,cel_of u8.1 rfl,?_⟩
 conv=>whnf
 refine .q (hap hl64 (hh7.pr.frm (W':=TS x S) pr_flat u8.e (λ_ _ e=>.inr e) (λ_ _ e=>e)).1 ((hvo.frm F18 λk hk (e:k=x.gs)=>hvo.ne h.st (by decide) (e▸hk)).rw rfl (by simp))) ?_
 rintro _ H9 ⟨ad9,c9,rfl,ho9,_⟩ e9 _
 have hst9:=e9.blk u8.1
 conv=>whnf
 refine .k ([ptr x.gl 0,ptr x.gv 0,.int .i64 (s.half:Int),.int .i64 s.next,.slice ad5 (vs.length+1) c5,.slice ad9 ap.length c9]) (hst9) (.inl rfl) rfl rfl ?_
 intro H10 u10 _
 have F510:Frm (λk=>k=x.gs) H5 H10:=(F58.trans (e9.mono λ_ _ e=>e.elim)).trans u10.e
 have F110:Frm (λk=>k=x.gs) H H10:=(F18.trans (e9.mono λ_ _ e=>e.elim)).trans u10.e
 have z8:=F18.1
 subst htot
 exact⟨rfl,.slice ad5 (vs.length+1) c5,.slice ad9 ap.length c9,u10.1,h.lv.frm1 h.st h.out (by decide) (by decide) (by decide) F110,h.out,
  RwO.fresh (ho9.frm u10.e λk hk (e:k=x.gs)=>ho9.ne hst9 (by decide) (e▸hk)) rfl (by simp) (λk hk=>by have:=hlt k hk;omega),hgr F510 (λ_ e=>e),
  ⟨hok.hf,⟨hok.nx.1,by have:=hok.nx.2;show s.next≤_;omega⟩,by show(s.ws++[l]).length≤_;simp;omega,λw hw=>(Qz.1 hw).elim (hok.wo w) λe=>by rw[Q4.1 e];exact⟨hl64,ho⟩,by show ap.length≤_;omega,hapo⟩⟩
end
end Go.Proofs.YtjambljmnifknaaGreatDoor.Vc
namespace Go.Proofs.YtjambljmnifknaaGreatDoor.Vc
open Go Go.RowKit Tp
open Dk (Arr Dsk)
section
attribute [local semireducible] scanWV
theorem scanWF_len(f:Int):∀(ws:List (List Chg)) (i:Nat) (acc:By),(∀w∈ws,∀c∈w,chOk c)→(scanWF f i ws acc).1.length≤acc.length+10000000*ws.length
 |[],_,acc,_=>by simp[scanWF]
 |w::r,i,acc,h=>by
  have h1:=fwriteV_len (seq:=f+i) (h w (Qs ..))
  have h2:=scanWF_len f r (i+1) (acc++(fwriteV (f+i) w).1) λy hy=>h y (Qu _ hy)
  unfold scanWF
  split
  ·simp
  ·simp only[Qi,Qo] at h2⊢
   omega
theorem scanWV_len(f:Int){ws:List (List Chg)}(h:∀w∈ws,∀c∈w,chOk c):(scanWV f ws).1.length≤10000000*ws.length:=by
 have:=scanWF_len f ws 0 [] h
 simpa [scanWV] using this
end
def syncT(a:Arr)(s:St)(t:By×Int)(r:LR):Int×Arr×St:=
 if t.2≠0 then(t.2,a,s) else if r.1.1≠0 then(r.1.1,r.1.2,⟨r.2.2,r.2.1,s.half,s.next,s.ws,s.ps⟩) else(0,r.1.2,⟨r.2.2,r.2.1,s.half,s.next+(s.ws.length:Nat),[],s.ps⟩)
def syncV(a:Arr)(s:St):Int×Arr×St:=syncT a s (scanWV s.next s.ws) (lappV a s.v s.l (scanWV s.next s.ws).1)
section
variable {B:Nat}{Q:Int}{N:Nat}{p:Pl}{x:Sp}{s:St}{a:Arr}{H:Heap}{S:Nat→Prop}
theorem s_sync(h:SS B Q N p x s a H S)(hB:B≤780000)(hQ:Q≤80000000000000000)(hN:N≤1000):
  Spec prog 155 #[ptr x.gs 0] H (TS x S) λu H'=>u=.int .i64 (syncV a s).1∧∃wv S',SS (B+12000) (Q+1000) (N+1) p ⟨x.gs,x.gl,x.gv,x.b,x.cap,wv,x.pv⟩ (syncV a s).2.2 (syncV a s).2.1 H' S'∧Sub S' S H:=by
 obtain⟨tot,htot⟩:∃t,syncV a s=t:=⟨_,rfl⟩
 rw[htot]
 unfold syncV at htot
 have hok:=h.ok
 have hwn:=hok.wn
 obtain⟨ad,cap,hwv⟩:=h.wt.slice
 obtain⟨gs,gl,gv,b,cp,wv,pv⟩:=x
 dsimp only at hwv
 subst hwv
 have hsw:=λ{X:Heap} (e:Frm nob H X)=>s_swrite (h.q e).wt (λy hy=>⟨Qb (hok.wo y hy).1 (by decide),(hok.wo y hy).2⟩) (by omega) s.next ⟨hok.nx.1,Yo hok.nx.2 (by omega)⟩
 have hsl:=scanWV_len s.next (ws:=s.ws) λw hw=>(hok.wo w hw).2
 generalize scanWV s.next s.ws=t at htot hsw hsl
 obtain⟨t,te⟩:=t
 dsimp only at htot hsw hsl
 have hla:=λ{X:Heap} (e:Frm nob H X)=>s_lapp (h.q e).lv (by omega) (by omega) t (by omega)
 generalize lappV a s.v s.l t=r at htot hla
 obtain⟨⟨re,ra⟩,rv,rl⟩:=r
 unfold syncT at htot
 dsimp only at htot hla
 have hgs:=h.gs_lt
 refine spx func155 ?_
 conv=>whnf
 refine .q (by kernel_rfl) ?_
 conv=>whnf
 refine⟨id,_,cel_of h.st rfl,?_⟩
 conv=>whnf
 refine⟨id,_,cel_of h.st rfl,?_⟩
 conv=>whnf
 refine .q (hsw (Frm.refl _ _)) ?_
 rintro _ H1 rfl e1 _
 conv=>whnf
 refine⟨rfl,λh2=>?_,λh2=>?_⟩
 ·rw[if_pos h2] at htot
  subst htot
  exact⟨rfl,.slice ad s.ws.length cap,S,(h.q e1).mono (by omega) (by omega) (by omega),Sub.refl _ _⟩
 rw[if_neg (λe=>e h2)] at htot
 have h1:=h.q e1
 conv=>whnf
 refine⟨_,cel_of h1.st rfl,?_⟩
 conv=>whnf
 refine .t (hla e1) (λk hk=>.inl (.inl hk)) ?_
 rintro _ H2 ⟨rfl,S2,hL2,hs2⟩ e2 _
 have hL2:LV (B+12000) (Q+1000) p gl gv b cp ra rv rl H2 S2:=hL2
 have hu2:=h1.up e2 (λk hk=>.inl hk) hs2 hL2
 have hs2':Sub S2 S H:=λk hk=>(hs2 k hk).elim .inl λhl=>.inr (Qb e1.1 hl)
 conv=>whnf
 refine⟨rfl,λh3=>?_,λh3=>?_⟩
 ·rw[if_pos h3] at htot
  subst htot
  exact⟨rfl,.slice ad s.ws.length cap,S2,hu2.mono (Qd _) (QJ _) (by omega),hs2'⟩
 rw[if_neg (λe=>e h3)] at htot
 have hw1:IntKind.i64.wrap (s.next+(s.ws.length:Int))=s.next+(s.ws.length:Int):=wr64 (by have:=hok.nx.1;omega) (by have:=hok.nx.2;omega)
 conv=>whnf
 refine .p2 (λ_=>False) (λk=>k=gs) (λi=>i==12) (.take 0 (.take 1 (.take 2 (.take 3 (.take 4 (.take 5 (.take 6 (.take 7 (.take 8 (.take 9 (.take 10 (.take 11 (.sw (.one 12 .done)))))))))))))) (λ_ h=>h.elim) (λk hk=>.inl (.inr hk)) (by kernel_rfl) ?_
 conv=>whnf
 refine⟨id,_,cel_of hu2.st rfl,?_⟩
 conv=>whnf
 refine⟨id,_,cel_of hu2.st rfl,?_⟩
 conv=>whnf
 refine⟨rfl,_,hw1,?_⟩
 conv=>whnf
 refine .k ([ptr gl 0,ptr gv 0,.int .i64 (s.half:Int),.int .i64 (s.next+(s.ws.length:Int)),.slice ad s.ws.length cap,pv]) (hu2.st) (.inl rfl) rfl rfl ?_
 intro H3 u3 _
 conv=>whnf
 refine .k ([ptr gl 0,ptr gv 0,.int .i64 (s.half:Int),.int .i64 (s.next+(s.ws.length:Int)),.slice none 0 0,pv]) (u3.1) (.inl (.inr rfl)) rfl rfl ?_
 intro H4 u4 _
 have F24:=u3.e.trans u4.e
 subst htot
 exact⟨rfl,.slice none 0 0,S2,⟨u4.1,hu2.lv.frm1 hu2.st hu2.out (by decide) (by decide) (by decide) F24,hu2.out,hu2.pr.frm pr_flat F24 (λ_ _ e=>.inr e) (λ_ _ e=>e),
  ⟨[],⟨.inl ⟨rfl,rfl⟩,λe=>(e rfl).elim⟩,rfl,λi x w hx=>by simp at hx⟩,⟨hok.hf,⟨by have:=hok.nx.1;show(0:Int)≤s.next+(s.ws.length:Int);omega,by have:=hok.nx.2;show s.next+(s.ws.length:Int)≤_;omega⟩,Qk _,λw hw=>by (cases hw),by have:=hok.pn;show s.ps.length≤_;omega,hok.po⟩⟩,hs2'⟩
end
end Go.Proofs.YtjambljmnifknaaGreatDoor.Vc
