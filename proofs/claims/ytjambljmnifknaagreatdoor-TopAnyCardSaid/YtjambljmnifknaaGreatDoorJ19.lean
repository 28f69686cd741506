/- Part 19 of the proof of TopAny: log: Text · log: put · volume: what Write leaves · log: Append, Truncate · log: Open · A range over a string; key.runes, key.Check · A builder whose buffer is known; key.Quote. -/
import Derived.Test.YtjambljmnifknaaGreatDoorJ18
import Derived.Laws.RangeAny
set_option maxRecDepth 100000
set_option maxHeartbeats 80000000
set_option linter.all false
open Go.Proofs.Tryz
namespace Go.Proofs.YtjambljmnifknaaGreatDoor.Vc
open Go Go.RowKit Tp
open Dk (Arr Dsk)
structure Lg where
 from_:Int
 count:Int
 size:Int
 parts:List By
def lgL(gv:Nat)(l:Lg)(pv:Value):List Value:=[ptr gv 0,.int .i64 l.from_,.int .i64 l.count,.int .i64 l.size,pv]
def textF(size:Int):List By→By
 |[]=>[]
 |s::r=>if(s.length:Int)<size then s else s++textF size r
theorem textF_len(size:Int):∀l:List By,(textF size l).length≤l.flatten.length
 |[]=>by simp[textF]
 |s::r=>by
  unfold textF
  have:=textF_len size r
  split<;>simp only[Ze,Qi]<;>omega
theorem s_ltext{gl gv:Nat}{l:Lg}{pv:Value}{H:Heap}(h:H[gl]? =some (.cells (lgL gv l pv).toArray 152 (0,0)))(hp:Rd H pv (strV l.parts))(hn:l.parts.flatten.length≤1000000000)(hl:l.parts.length≤1000000):
  Spec prog 47 #[ptr gl 0] H nob λu _=>u=.string (S (textF l.size l.parts)):=by
 obtain⟨tot,htot⟩:∃t,textF l.size l.parts=t:=⟨_,rfl⟩
 rw[htot]
 obtain⟨ad,cap,rfl,hw⟩:=hp.strs
 clear hp
 refine spx func47 ?_
 conv=>whnf
 refine⟨_,cel_of h rfl,?_⟩
 conv=>whnf
 refine⟨Nat×List By×By,λx=>[(13,.int .i64 (x.1:Int)),(3,.string (S x.2.2))],λx H'=>x.1+x.2.1.length=l.parts.length∧l.parts.drop x.1=x.2.1∧x.2.2++textF l.size x.2.1=tot∧x.2.2.length+x.2.1.flatten.length≤1000000000∧Frm nob H H',λx=>x.2.1.length,
  ⟨(0,l.parts,[]),⟨rfl,rfl,trivial⟩,by simp,rfl,htot,by simpa using hn,Frm.refl _ _⟩,?_⟩
 rintro⟨i,r,acc⟩ H2 junk ⟨hi,hd,ht,hal,hF⟩ F
 dsimp only at hi hd ht hal
 conv=>whnf
 refine⟨rfl,λh5=>?_,λh5=>?_⟩
 ·have h':i<l.parts.length:=by have:(i:Int)<(l.parts.length:Int):=h5;omega
  cases r with
  |nil=>simp at hi;omega
  |cons s r=>
   have hy:l.parts[i]? =some s:=by
    have:=Qf (·[0]?) hd
    simpa using this
   have hd':l.parts.drop (i+1)=r:=by
    have:=Qf List.tail hd
    simpa using this
   obtain⟨b,o,rfl,hc⟩:=hw i s hy
   unfold textF at ht
   rw[Ze,Qi] at hal
   conv=>whnf
   refine⟨i,rfl,h',?_⟩
   conv=>whnf
   refine⟨_,hF.cel hc,?_⟩
   conv=>whnf
   refine⟨by show(S acc).size+(S s).size≤_;rw[S_size,S_size];omega,S (acc++s),append_S _ _,?_⟩
   conv=>whnf
   refine⟨_,hF.cel (cel_of h rfl),?_⟩
   conv=>whnf
   refine⟨rfl,λh6=>?_,λh6=>?_⟩
   ·have h6':((S s).size:Int)<l.size:=h6
    rw[S_size] at h6'
    rw[if_pos h6'] at ht
    exact⟨by show Value.string (S (acc++s))=_;rw[ht]⟩
   ·have h6':¬((S s).size:Int)<l.size:=h6
    rw[S_size] at h6'
    rw[if_neg h6'] at ht
    conv=>whnf
    refine⟨rfl,((i+1:Nat):Int),wr64 (by omega) (by omega),?_⟩
    exact⟨(i+1,r,acc++s),⟨rfl,rfl,trivial⟩,⟨by simp at hi⊢;omega,hd',by rw[Qt];exact ht,by show(acc++s).length+r.flatten.length≤_;rw[Qi];omega,hF⟩,by show r.length<r.length+1;omega⟩
 ·have hr0:r=[]:=Qm (by have:¬(i:Int)<(l.parts.length:Int):=h5;omega)
  rw[hr0] at ht
  have ht':acc=tot:=by simpa [textF] using ht
  exact⟨by show Value.string (S acc)=_;rw[ht']⟩
def partF(size:Int)(t:By)(n:Nat):By:=(t.drop (min (n*size.toNat) t.length)).take (min ((n+1)*size.toNat) t.length-min (n*size.toNat) t.length)
theorem s_lpart{gl gv:Nat}{l:Lg}{pv:Value}{H:Heap}(h:H[gl]? =some (.cells (lgL gv l pv).toArray 152 (0,0)))(t:By)(n:Nat)(ht:t.length≤1000000000)(hn:n≤1000000)(hs:0≤l.size∧l.size≤1000000):
  Spec prog 81 #[ptr gl 0,.string (S t),.int .i64 (n:Int)] H nob λu _=>u=.string (S (partF l.size t n)):=by
 obtain⟨q,hq⟩:∃q:Nat,l.size=(q:Int):=⟨_,(QL hs.1).symm⟩
 have hr:partF l.size t n=(t.drop (min (n*q) t.length)).take (min ((n+1)*q) t.length-min (n*q) t.length):=by unfold partF;rw[hq];rfl
 rw[hr]
 have hm0:n*q≤1000000*1000000:=Q9 hn (by omega)
 have hm1:(n+1)*q=n*q+q:=Q6 _ _
 have hw0:IntKind.i64.wrap ((n:Int)*l.size)=((n*q:Nat):Int):=by rw[hq,←Int.natCast_mul,wr64 (by omega) (by omega)]
 have hw1:IntKind.i64.wrap ((n:Int)+1)=((n+1:Nat):Int):=by rw[wr64 (by omega) (by omega)];omega
 have hw2:IntKind.i64.wrap (((n+1:Nat):Int)*l.size)=(((n+1)*q:Nat):Int):=by rw[hq,←Int.natCast_mul,wr64 (by omega) (by omega)]
 generalize (n+1)*q=hi at*
 generalize n*q=lo at*
 refine spx func81 ?_
 conv=>whnf
 refine .p nob (.take 0 (.take 1 (.take 2 (.take 3 (.take 4 (.take 5 (.take 6 (.take 7 (.take 8 (.take 9 (.take 10 (.take 11 (.take 12 (.take 13 (.take 14 (.take 15 (.take 16 (.take 17 (.take 18 (.take 19 (.take 20 .done))))))))))))))))))))) (λ_ h=>h.elim) (by kernel_rfl) ?_
 conv=>whnf
 refine⟨id,_,cel_of h rfl,?_⟩
 conv=>whnf
 refine⟨rfl,_,hw0,?_⟩
 conv=>whnf
 refine⟨λh1=>?_,λh1=>?_,rfl⟩
 ·have h1':(lo:Int)≤((S t).size:Int):=h1
  rw[S_size] at h1'
  conv=>whnf
  refine⟨rfl,_,hw1,?_⟩
  conv=>whnf
  refine⟨id,_,cel_of h rfl,?_⟩
  conv=>whnf
  refine⟨rfl,_,hw2,?_⟩
  conv=>whnf
  refine⟨λh2=>?_,λh2=>?_,rfl⟩
  ·have h2':(hi:Int)≤((S t).size:Int):=h2
   rw[S_size] at h2'
   conv=>whnf
   refine⟨lo,hi,⟨_,rfl⟩,⟨_,rfl⟩,by omega,by rw[S_size];omega,_,extract_S t lo hi,?_⟩
   exact⟨by show Value.string _=_;rw[Zi (a:=lo) (by omega),Zi (by omega)]⟩
  ·have h2':((S t).size:Int)≤(hi:Int):=h2
   rw[S_size] at h2'
   conv=>whnf
   refine⟨lo,(S t).size,⟨_,rfl⟩,⟨_,rfl⟩,by rw[S_size];omega,Qd _,_,extract_S t lo (S t).size,?_⟩
   exact⟨by show Value.string _=_;rw[Zi (a:=lo) (by omega),YW (by omega),S_size]⟩
 ·have h1':((S t).size:Int)≤(lo:Int):=h1
  rw[S_size] at h1'
  conv=>whnf
  refine⟨rfl,_,hw1,?_⟩
  conv=>whnf
  refine⟨id,_,cel_of h rfl,?_⟩
  conv=>whnf
  refine⟨rfl,_,hw2,?_⟩
  conv=>whnf
  refine⟨λh2=>?_,λh2=>?_,rfl⟩
  ·have h2':(hi:Int)≤((S t).size:Int):=h2
   rw[S_size] at h2'
   conv=>whnf
   refine⟨(S t).size,hi,⟨_,rfl⟩,⟨_,rfl⟩,by rw[S_size];omega,by rw[S_size];omega,_,extract_S t (S t).size hi,?_⟩
   exact⟨by show Value.string _=_;rw[YW (a:=lo) (by omega),Zi (a:=hi) (by omega),S_size]⟩
  ·have h2':((S t).size:Int)≤(hi:Int):=h2
   rw[S_size] at h2'
   conv=>whnf
   refine⟨(S t).size,(S t).size,⟨_,rfl⟩,⟨_,rfl⟩,Qd _,Qd _,_,extract_S t (S t).size (S t).size,?_⟩
   exact⟨by show Value.string _=_;rw[YW (a:=lo) (by omega),YW (a:=hi) (by omega),S_size]⟩
def roomF(l:Lg):Int:=l.count*l.size-((textF l.size l.parts).length:Nat)
theorem s_lroom{gl gv:Nat}{l:Lg}{pv:Value}{H:Heap}(h:H[gl]? =some (.cells (lgL gv l pv).toArray 152 (0,0)))(hp:Rd H pv (strV l.parts))(hn:l.parts.flatten.length≤1000000000)(hl:l.parts.length≤1000000)(hc:0≤l.count*l.size∧l.count*l.size≤1000000000000):
  Spec prog 215 #[ptr gl 0] H nob λu _=>u=.int .i64 (roomF l):=by
 have hr:roomF l=l.count*l.size-((textF l.size l.parts).length:Nat):=rfl
 have htl:=textF_len l.size l.parts
 have htx:=λ{X:Heap} (e:Frm nob H X)=>s_ltext (e.blk h) (hp.q e) hn hl
 generalize textF l.size l.parts=t at hr htl htx
 rw[hr]
 refine spx func215 ?_
 conv=>whnf
 refine .p nob (.take 0 (.take 1 (.take 2 (.take 3 (.take 4 (.take 5 (.take 6 (.take 7 (.take 8 (.take 9 (.one 10 (.take 11 (.take 12 (.take 13 .done)))))))))))))) (λ_ h=>h.elim) (by kernel_rfl) ?_
 conv=>whnf
 refine⟨id,_,cel_of h rfl,?_⟩
 conv=>whnf
 refine⟨id,_,cel_of h rfl,?_⟩
 conv=>whnf
 refine⟨rfl,_,wr64 (by omega) (by omega),?_⟩
 conv=>whnf
 refine .q (htx (Frm.refl _ _)) ?_
 rintro _ H1 rfl e1 _
 conv=>whnf
 refine⟨rfl,l.count*l.size-(t.length:Nat),by rw[show((S t).size:Int)=(t.length:Nat) by rw[S_size],wr64 (by omega) (by omega)],?_⟩
 exact⟨rfl⟩
structure AL(p:Pl)(gl gv:Nat)(l:Lg)(pv:Value)(v:Vol)(a:Arr)(H:Heap)(S:Nat→Prop):Prop where
 av:AV p gv v a H S
 lg:H[gl]? =some (.cells (lgL gv l pv).toArray 152 (0,0))
 out:¬S gl
 row:Own H 0 9 1 pv l.parts.length (strV l.parts)
 ro:∀k,pv.ownBlock=some k→¬S k
def lputV(a:Arr)(v:Vol)(l:Lg)(n:Nat)(s:By):(Int×Arr)×Vol×Lg:=
 if l.parts.getD n []=s then((0,a),v,l) else
 if(vwriteV a v (l.from_+n) s).1.1≠0 then((vwriteV a v (l.from_+n) s).1,(vwriteV a v (l.from_+n) s).2,l) else
 ((0,(vwriteV a v (l.from_+n) s).1.2),(vwriteV a v (l.from_+n) s).2,⟨l.from_,l.count,l.size,l.parts.set n s⟩)
section
variable {p:Pl}{gl gv:Nat}{l:Lg}{v:Vol}{a:Arr}{H:Heap}{U:Nat→Prop}
theorem s_lput{ad:Option Addr}{cap:Nat}(h:AL p gl gv l (.slice ad l.parts.length cap) v a H U){B:Nat}(hB:Sm B a)(hBB:B≤900000)(n:Nat)(s:By)(hs:s.length≤1000000)(hn:n<l.parts.length)(hpl:l.parts.length≤1000)(hfr:0≤l.from_∧l.from_≤1000000)
  (hnd:a.ds.length≤255) (hc:cfOk v.conf) (hds:(a.ds.length:Int)=cfDisks v.conf) (hid:v.id≤9223372036854775807) (hsq:0≤v.seq∧v.seq≤100000000000000000):
  Spec prog 80 #[ptr gl 0,.int .i64 (n:Int),.string (S s)] H (λk=>(U k∨k=gv)∨(Value.slice ad l.parts.length cap).ownBlock=some k) λu H'=>u=.int .i64 (lputV a v l n s).1.1∧∃S',AL p gl gv (lputV a v l n s).2.2 (.slice ad l.parts.length cap) (lputV a v l n s).2.1 (lputV a v l n s).1.2 H' S'∧Sub S' U H:=by
 obtain⟨tot,htot⟩:∃t,lputV a v l n s=t:=⟨_,rfl⟩
 rw[htot]
 unfold lputV at htot
 have hwr:=λ{X:Heap} {W:Nat→Prop} (hX:AV p gv v a X W)=>s_vwrite hX hB hBB (l.from_+n) s hs (by omega) hnd hc hds hid hsq
 generalize vwriteV a v (l.from_+n) s=w at htot hwr
 have hx:l.parts[n]? =some (l.parts.getD n []):=by simp[hn]
 rcases h.row.blk with ⟨h1,h2⟩|⟨b,cap',cs,h1,hb0,hg,hnc,hmx,hcs,hcx⟩
 ·omega
 injection h1 with h3 _ h4
 subst h3 h4
 have hcn:cs[n]? =some (.string (S (l.parts.getD n []))):=by
  have:=Qf (·[n]?) hcx
  rw[QZ,if_pos (by omega)] at this
  rw[this];simp[strV,hn]
 refine spx func80 ?_
 conv=>whnf
 refine⟨_,cel_of h.lg rfl,?_⟩
 conv=>whnf
 refine⟨n,rfl,hn,?_⟩
 conv=>whnf
 refine⟨_,cel_of hg (by rw[Qr,Qq];exact hcn),?_⟩
 conv=>whnf
 refine⟨λh5=>?_,λh5=>?_⟩
 ·rw[if_pos (S_inj h5)] at htot
  subst htot
  exact⟨rfl,U,h,Sub.refl _ _⟩
 rw[if_neg (λe=>h5 (by rw[e]))] at htot
 have hne:gl≠gv:=λe=>by have h1:=h.lg;have h2:=h.av.vol;rw[e,h2] at h1;simp at h1
 have hnT:¬(U gl∨gl=gv):=λe=>e.elim h.out hne
 have hbS:¬U b:=h.ro b rfl
 have hbv:b≠gv:=λe=>by have h2:=h.av.vol;rw[←e,hg] at h2;simp at h2
 have hbl:b≠gl:=λe=>by have h2:=h.lg;rw[←e,hg] at h2;simp at h2
 conv=>whnf
 refine .p (λk=>U k∨k=gv) (.take 0 (.take 1 (.take 2 (.take 3 (.take 4 (.take 5 (.take 6 (.take 7 (.take 8 (.take 9 (.take 10 (.one 11 (.take 12 .done))))))))))))) (λk hk=>.inl (.inl hk)) (by kernel_rfl) ?_
 conv=>whnf
 refine⟨hnT,_,cel_of h.lg rfl,?_⟩
 conv=>whnf
 refine⟨hnT,_,cel_of h.lg rfl,?_⟩
 conv=>whnf
 refine⟨rfl,_,wr64 (by omega) (by omega),?_⟩
 conv=>whnf
 refine .t (hwr h.av) ((λk hk=>.inl hk)) ?_
 rintro _ H1 ⟨rfl,S1,h1,hs1⟩ e1 _
 have hg1:=e1.blkT hg (λe=>e.elim hbS hbv)
 have hl1:=e1.blkT h.lg hnT
 have hlg:=(Qa.1 h.lg).1
 have hbg:=(Qa.1 hg).1
 have ho1:¬S1 gl:=λe=>(hs1 gl e).elim h.out λe=>by omega
 have hb1:¬S1 b:=λe=>(hs1 b e).elim hbS λe=>by omega
 conv=>whnf
 refine⟨rfl,λh6=>?_,λh6=>?_⟩
 ·rw[if_pos h6] at htot
  subst htot
  exact⟨rfl,S1,⟨h1,hl1,ho1,h.row.frm e1 (λk hk e=>by cases hk;exact e.elim hbS hbv),λk hk=>by cases hk;exact hb1⟩,hs1⟩
 rw[if_neg (λe=>e h6)] at htot
 conv=>whnf
 refine⟨_,cel_of hl1 rfl,?_⟩
 conv=>whnf
 refine⟨n,rfl,hn,?_⟩
 conv=>whnf
 refine .one n hg1 (.inl (.inr rfl)) (Qr n) rfl (by kernel_rfl) (by omega) ?_
 intro H2 u2' _
 have u2:Upd H1 H2 b (.cells (cs.set n (.string (S s))).toArray 9 (0,0)):=u2'
 subst htot
 refine⟨rfl,S1,⟨h1.frm u2.e (λk hk (e:k=b)=>hb1 (e▸hk)) (λ(e:gv=b)=>hbv e.symm),u2.e.blkT hl1 (λ(e:gl=b)=>hbl e.symm),ho1,?_,λk hk=>by cases hk;exact hb1⟩,hs1⟩
 have hlen:(l.parts.set n s).length=l.parts.length:=Zb ..
 rw[show(⟨l.from_,l.count,l.size,l.parts.set n s⟩:Lg).parts=l.parts.set n s from rfl,hlen]
 refine Own.of u2.1 (Qk _) hnc hmx (by simpa using hcs) (by simp[strV]) ?_
 rw[ZI] at hcx⊢
 rw[List.take_set,hcx]
 simp[strV,ZO]
end
attribute [irreducible] lputV
theorem aflushed_ds(a:Arr):(Dk.aflushed a).ds.length=a.ds.length:=by
 unfold Dk.aflushed
 (repeat' split)<;>simp
theorem jF_ds(v:Vol)(sl:Int)(r:By):∀(l:List Int) (s:Int×Arr),(jF v sl r l s).2.ds.length=s.2.ds.length
 |[],_=>by unfold jF;rfl
 |d::l,s=>by
  unfold jF
  rw[jF_ds v sl r l]
  split
  ·exact vputA_ds _ _ _ _ _ _
  ·rfl
theorem flS_ds(s:Int×Arr):(flS s).2.ds.length=s.2.ds.length:=by
 unfold flS
 split
 ·exact aflushed_ds _
 ·rfl
theorem shS_ds(v:Vol)(n:Int)(t:By)(all:List Int)(s:Int×Arr):(shS v n t all s).2.ds.length=s.2.ds.length:=by
 unfold shS
 split
 ·exact shardsV_ds _ _ _ _ _ _
 ·rfl
theorem vwriteV_ds(a:Arr)(v:Vol)(n:Int)(t:By):(vwriteV a v n t).1.2.ds.length=a.ds.length:=by
 have h:(wrS a v n t).2.ds.length=a.ds.length:=by
  unfold wrS
  rw[flS_ds,shS_ds,flS_ds,jF_ds]
 unfold vwriteV
 (repeat' split)<;>first|rfl|exact h
theorem volUp_conf(v:Vol)(e:Int):(volUp v e).conf=v.conf∧(volUp v e).id=v.id∧v.seq≤(volUp v e).seq∧(volUp v e).seq≤v.seq+1:=by
 unfold volUp
 split
 ·exact⟨rfl,rfl,by show v.seq≤v.seq+1;omega,QJ _⟩
 ·exact⟨rfl,rfl,QJ _,by omega⟩
theorem vwriteV_vol(a:Arr)(v:Vol)(n:Int)(t:By):(vwriteV a v n t).2.conf=v.conf∧(vwriteV a v n t).2.id=v.id∧v.seq≤(vwriteV a v n t).2.seq∧(vwriteV a v n t).2.seq≤v.seq+1:=by
 have h0:v.conf=v.conf∧v.id=v.id∧v.seq≤v.seq∧v.seq≤v.seq+1:=⟨rfl,rfl,QJ _,by omega⟩
 unfold vwriteV
 (repeat' split)<;>first|exact h0|exact volUp_conf _ _
structure VOk(B:Nat)(Q:Int)(v:Vol)(a:Arr):Prop where
 sm:Sm B a
 nd:a.ds.length≤6
 cf:cfOk v.conf
 ds:(a.ds.length:Int)=cfDisks v.conf
 id:v.id≤9223372036854775807
 sq:0≤v.seq∧v.seq≤Q
theorem VOk.mono{B C:Nat}{Q R:Int}{v:Vol}{a:Arr}(h:VOk B Q v a)(h1:B≤C)(h2:Q≤R):VOk C R v a:=⟨h.sm.mono h1,h.nd,h.cf,h.ds,h.id,h.sq.1,Yo h.sq.2 h2⟩
theorem cfDisks_m{c:Cf}(h:cfOk c):c.m+1≤cfDisks c:=by
 unfold cfDisks
 rw[if_pos h]
 have:=h.b
 omega
theorem VOk.write{B:Nat}{Q:Int}{v:Vol}{a:Arr}(h:VOk B Q v a)(n:Int)(t:By):VOk (B+12) (Q+1) (vwriteV a v n t).2 (vwriteV a v n t).1.2:=by
 have h1:=vwriteV_vol a v n t
 have h2:=vwriteV_ds a v n t
 have hb:=h.cf.b
 have hq:=h.sq
 exact⟨vwriteV_sm h.sm n t h.nd (by have:=h.ds;have:=h.nd;have:=cfDisks_m h.cf;omega),by rw[h2];exact h.nd,by rw[h1.1];exact h.cf,by rw[h2,h1.1];exact h.ds,by rw[h1.2.1];exact h.id,by omega,by omega⟩
theorem VOk.put{B:Nat}{Q:Int}{v:Vol}{a:Arr}(h:VOk B Q v a)(l:Lg)(n:Nat)(s:By):VOk (B+12) (Q+1) (lputV a v l n s).2.1 (lputV a v l n s).1.2:=by
 have hw:=h.write (l.from_+n) s
 have h0:=h.mono (show B≤B+12 by omega) (show Q≤Q+1 by omega)
 unfold lputV
 (repeat' split)<;>first|exact h0|exact hw
theorem lputV_parts(a:Arr)(v:Vol)(l:Lg)(n:Nat)(s:By):(lputV a v l n s).2.2.parts.length=l.parts.length∧(lputV a v l n s).2.2.from_=l.from_∧(lputV a v l n s).2.2.count=l.count∧(lputV a v l n s).2.2.size=l.size:=by
 unfold lputV
 (repeat' split)<;>exact⟨by simp,rfl,rfl,rfl⟩
structure Then(Q:Prop):Prop where
 k:Q
theorem go{P Q:Prop}(k:Q)(h:Then Q→P:=by
 intro hQ
 repeat
  conv=>whnf
  first
  |refine⟨_,cel_of (by assumption) (by rfl),?_⟩
  |refine⟨id,_,cel_of (by assumption) (by rfl),?_⟩
  |refine⟨rfl,_,wr64 (by omega) (by omega),?_⟩
  |refine⟨_,wr64 (by omega) (by omega),?_⟩
 exact hQ.k):P:=h ⟨k⟩
theorem Spec.wk{P:Program}{f:FuncId}{args:Array Value}{H:Heap}{T T':Nat→Prop}{R:KK}(h:Spec P f args H T R)(hT:∀k,T k→T' k):Spec P f args H T' R:=
 ⟨h.good,λw hw=>(h.out w hw).mono λ_ _ ⟨v,h1,h2,h3,h4⟩=>⟨v,h1,h2,h3.mono λk _ hk=>hT k hk,h4⟩⟩
structure LOk(l:Lg):Prop where
 cnt:l.count=l.parts.length
 n:l.parts.length≤1000
 fr:0≤l.from_∧l.from_≤1000000
 sz:1≤l.size∧l.size≤4000
 pl:∀s∈l.parts,s.length≤300000
theorem LOk.flat{l:Lg}(h:LOk l):l.parts.flatten.length≤300000000:=
 Qb (flat_le 300000 _ h.pl) (QY _ h.n)
theorem LOk.text{l:Lg}(h:LOk l):(textF l.size l.parts).length≤300000000:=Qb (textF_len _ _) h.flat
theorem partF_len(sz:Int)(t:By)(n:Nat):(partF sz t n).length≤sz.toNat:=by
 unfold partF
 have:(n+1)*sz.toNat=n*sz.toNat+sz.toNat:=Q6 _ _
 rw[QC,this]
 omega
abbrev LR:=(Int×Arr)×Vol×Lg
theorem LOk.put{l:Lg}(h:LOk l)(a:Arr)(v:Vol)(n:Nat){s:By}(hs:s.length≤4000):LOk (lputV a v l n s).2.2:=by
 have hp:=lputV_parts a v l n s
 refine⟨by rw[hp.2.2.1,hp.1];exact h.cnt,by rw[hp.1];exact h.n,by rw[hp.2.1];exact h.fr,by rw[hp.2.2.2];exact h.sz,?_⟩
 have h1:∀x∈l.parts.set n s,x.length≤300000:=λx hx=>by
  rcases Zy hx with e|rfl
  ·exact h.pl x e
  ·omega
 unfold lputV
 (repeat' split)<;>first|exact h.pl|exact h1
def lputs(t:By):List Nat→Arr→Vol→Lg→LR
 |[],a,v,l=>((0,a),v,l)
 |n::r,a,v,l=>if(lputV a v l n (partF l.size t n)).1.1≠0 then lputV a v l n (partF l.size t n) else
  lputs t r (lputV a v l n (partF l.size t n)).1.2 (lputV a v l n (partF l.size t n)).2.1 (lputV a v l n (partF l.size t n)).2.2
def lappV(a:Arr)(v:Vol)(l:Lg)(s:By):LR:=
 if roomF l<s.length then((11,a),v,l) else if s=[] then((0,a),v,l) else
 lputs (textF l.size l.parts++s) (List.range' ((textF l.size l.parts).length/l.size.toNat) (l.parts.length-(textF l.size l.parts).length/l.size.toNat)) a v l
def ltruncV(a:Arr)(v:Vol)(l:Lg)(n:Nat):LR:=
 if(textF l.size l.parts).length<n then((1,a),v,l) else lputs ((textF l.size l.parts).take n) (List.range l.parts.length).reverse a v l
structure LV(B:Nat)(Q:Int)(p:Pl)(gl gv b cap:Nat)(a:Arr)(v:Vol)(l:Lg)(H:Heap)(S:Nat→Prop):Prop where
 al:AL p gl gv l (.slice (some ⟨b,0,none⟩) l.parts.length cap) v a H S
 vo:VOk B Q v a
 lo:LOk l
theorem LV.mono{B C:Nat}{Q R:Int}{p:Pl}{gl gv b cap:Nat}{a:Arr}{v:Vol}{l:Lg}{H:Heap}{S:Nat→Prop}(h:LV B Q p gl gv b cap a v l H S)(h1:B≤C)(h2:Q≤R):LV C R p gl gv b cap a v l H S:=⟨h.al,h.vo.mono h1 h2,h.lo⟩
def TL(U:Nat→Prop)(gv b:Nat):Nat→Prop:=λk=>(U k∨k=gv)∨k=b
def LVR(B:Nat)(Q:Int)(p:Pl)(gl gv b cap:Nat)(r:LR)(H:Heap)(S:Nat→Prop):Prop:=LV B Q p gl gv b cap r.1.2 r.2.1 r.2.2 H S
section
variable {p:Pl}{gl gv b cap:Nat}{l:Lg}{v:Vol}{a:Arr}{H:Heap}{U:Nat→Prop}{B:Nat}{Q:Int}
theorem LV.q{H':Heap}(h:LV B Q p gl gv b cap a v l H U)(e:Frm nob H H'):LV B Q p gl gv b cap a v l H' U:=
 ⟨⟨h.al.av.q e,e.blk h.al.lg,h.al.out,h.al.row.q e,h.al.ro⟩,h.vo,h.lo⟩
theorem s_lputB(h:LV B Q p gl gv b cap a v l H U)(hB:B≤900000)(hQ:Q≤99000000000000000)(n:Nat){s:By}(hs:s.length≤4000)(hn:n<l.parts.length):
  Spec prog 80 #[ptr gl 0,.int .i64 (n:Int),.string (S s)] H (TL U gv b) λu H'=>u=.int .i64 (lputV a v l n s).1.1∧∃S',LVR (B+12) (Q+1) p gl gv b cap (lputV a v l n s) H' S'∧Sub S' U H:=by
 have hnd:=h.vo.nd
 have hp:=lputV_parts a v l n s
 refine((s_lput h.al h.vo.sm hB n s (by omega) hn h.lo.n h.lo.fr (by omega) h.vo.cf h.vo.ds h.vo.id ⟨h.vo.sq.1,Yo h.vo.sq.2 (by omega)⟩).wk λk hk=>?_).imp λu H' ⟨h1,S',h2,h3⟩=>⟨h1,S',⟨?_,h.vo.put l n s,h.lo.put a v n hs⟩,h3⟩
 ·rcases hk with hk|hk
  ·exact .inl hk
  ·cases hk;exact .inr rfl
 ·rw[hp.1];exact h2
attribute [local irreducible] lputs textF
theorem LOk.part{l:Lg}(h:LOk l)(t:By)(n:Nat):(partF l.size t n).length≤4000:=by
 have:=partF_len l.size t n
 have:=h.sz
 omega
theorem roomF_le{l:Lg}(h:LOk l):roomF l≤4000000:=by
 have h1:(l.parts.length:Int)*l.size≤1000*4000:=Z3 (by have:=h.n;omega) h.sz.2 (by have:=h.sz;omega) (by decide)
 unfold roomF
 rw[h.cnt]
 omega
theorem s_lapp(h:LV B Q p gl gv b cap a v l H U)(hB:B≤800000)(hQ:Q≤90000000000000000)(s:By)(hs:s.length≤1000000000000000):
  Spec prog 218 #[ptr gl 0,.string (S s)] H (TL U gv b) λu H'=>u=.int .i64 (lappV a v l s).1.1∧∃S',LVR (B+12000) (Q+1000) p gl gv b cap (lappV a v l s) H' S'∧Sub S' U H:=by
 obtain⟨tot,htot⟩:∃t,lappV a v l s=t:=⟨_,rfl⟩
 rw[htot]
 unfold lappV at htot
 have hlo:=h.lo
 have hsz:=hlo.sz
 have hpl:=hlo.n
 have hrl:=roomF_le hlo
 have htl:=hlo.text
 have hc:0≤l.count*l.size∧l.count*l.size≤1000000000000:=by
  rw[hlo.cnt]
  have h1:(l.parts.length:Int)*l.size≤1000*4000:=Z3 (by omega) hsz.2 (by omega) (by decide)
  have h2:0≤(l.parts.length:Int)*l.size:=Yq (by omega) (by omega)
  omega
 have hfl:=hlo.flat
 have hrm:=λ{X:Heap} (e:Frm nob H X)=>s_lroom (e.blk h.al.lg) (h.al.row.rd.1.q e) (by omega) (by omega) hc
 have htx:=λ{X:Heap} (e:Frm nob H X)=>s_ltext (e.blk h.al.lg) (h.al.row.rd.1.q e) (by omega) (by omega)
 generalize roomF l=rm at htot hrm hrl
 generalize textF l.size l.parts=t at htot htx htl
 obtain⟨z,hz⟩:∃z:Nat,l.size=z:=⟨_,(QL (by omega)).symm⟩
 obtain⟨q,hq⟩:∃q,t.length/z=q:=⟨_,rfl⟩
 have hdv:IntKind.i64.wrap (Int.tdiv (t.length:Int) l.size)=(q:Int):=by
  have:t.length/z≤t.length:=Nat.div_le_self _ _
  rw[hz,Z6 (by omega),←hq,←Int.natCast_ediv,wr64 (by omega) (by omega)]
 rw[hz,Qn,hq] at htot
 refine spx func218 ?_
 conv=>whnf
 refine .q (hrm (Frm.refl _ _)) ?_
 rintro _ H1 rfl e1 _
 conv=>whnf
 refine⟨rfl,λh2=>?_,λh2=>?_⟩
 ·have h2':rm<((S s).size:Int):=h2
  rw[S_size] at h2'
  rw[if_pos h2'] at htot
  subst htot
  exact⟨rfl,U,(h.q e1).mono (by omega) (by omega),Sub.refl _ _⟩
 have h2':¬rm<((S s).size:Int):=h2
 rw[S_size] at h2'
 rw[if_neg h2'] at htot
 conv=>whnf
 refine .q (htx e1) ?_
 rintro _ H2 rfl e2 _
 have e12:=e1.trans e2
 conv=>whnf
 refine⟨λh3=>?_,λh3=>?_⟩
 ·rw[if_pos (S_inj (a:=s) (b:=[]) h3)] at htot
  subst htot
  exact⟨rfl,U,(h.q e12).mono (by omega) (by omega),Sub.refl _ _⟩
 rw[if_neg (λe=>h3 (by rw[e];rfl))] at htot
 conv=>whnf
 refine⟨_,cel_of (e12.blk h.al.lg) rfl,?_⟩
 conv=>whnf
 refine⟨rfl,by omega,q,by rw[S_size];exact hdv,?_⟩
 conv=>whnf
 refine⟨List Nat×Nat×LR,λx=>[(6,.int .i64 (x.2.1:Int))],λx H'=>x.1=List.range' x.2.1 (l.parts.length-x.2.1)∧lputs (t++s) x.1 x.2.2.1.2 x.2.2.2.1 x.2.2.2.2=tot∧(q≤x.2.1∧x.2.1-q≤l.parts.length)∧x.2.2.2.2.parts.length=l.parts.length∧x.2.2.2.2.size=l.size∧∃S',LVR (B+12*(x.2.1-q)) (Q+(x.2.1-q:Nat)) p gl gv b cap x.2.2 H' S'∧Sub S' U H,
  λx=>l.parts.length-x.2.1,⟨(_,q,((0,a),v,l)),⟨rfl,trivial⟩,rfl,htot,⟨Qd _,by show q-q≤_;omega⟩,rfl,rfl,U,(h.q e12).mono (by omega) (by omega),Sub.refl _ _⟩,?_⟩
 rintro⟨r,i,⟨⟨e0,a0⟩,v0,l0⟩⟩ H3 junk ⟨hr,hto,hqi,hpn,hls,S1,hX,hS1⟩ F
 dsimp only at hr hto hqi hpn hls hX
 have hqi:q≤i∧i-q≤l.parts.length:=hqi
 have hX:LV (B+12*(i-q)) (Q+(i-q:Nat)) p gl gv b cap a0 v0 l0 H3 S1:=hX
 have hl0:=hX.lo
 have hc0:=hl0.cnt
 have hl1:=hl0.sz
 have hX1:=hX.al.lg
 refine go ?_
 conv=>whnf
 refine⟨rfl,λh4=>?_,λh4=>?_⟩
 ·have h4':(i:Int)<l0.count:=h4
  have hi:i<l0.parts.length:=by omega
  obtain⟨m,hm⟩:∃m,l.parts.length-i=m+1:=⟨l.parts.length-i-1,by omega⟩
  have hm1:l.parts.length-(i+1)=m:=by clear hto hX hX1;omega
  have hqq:i+1-q=i-q+1:=Nat.sub_add_comm hqi.1
  have hq1:i+1-q≤l.parts.length:=by clear hto hX hX1;omega
  rw[hr,hm,ZH] at hto
  unfold lputs at hto
  have hpt:=s_lpart hX1 (t++s) i (by rw[Qi];omega) (by omega) (by omega)
  have hpf:=hl0.part (t++s) i
  generalize partF l0.size (t++s) i=pt at hpt hpf hto
  have hput:=λ{X:Heap} (e:Frm nob H3 X)=>s_lputB (hX.q e) (by omega) (by omega) i hpf hi
  have hps:=lputV_parts a0 v0 l0 i pt
  generalize lputV a0 v0 l0 i pt=w at hput hto hps
  conv=>whnf
  refine⟨by show(S t).size+(S s).size≤_;rw[S_size,S_size];omega,S (t++s),append_S _ _,?_⟩
  conv=>whnf
  refine .q (hpt) ?_
  rintro _ H4 rfl e4 _
  conv=>whnf
  refine .t (hput e4) (λk hk=>hk.elim (λhk=>hk.elim (λhk=>(hS1 k hk).elim (λx=>.inl (.inl (.inl x))) .inr) (λx=>.inl (.inl (.inr x)))) (λx=>.inl (.inr x))) ?_
  rintro _ H5 ⟨rfl,S2,hY,hS2⟩ e5 _
  have hY':=hY.mono (show B+12*(i-q)+12≤B+12000 by omega) (show Q+(i-q:Nat)+1≤Q+1000 by omega)
  have hSS:Sub S2 U H:=hS1.trans (λk hk=>(hS2 k hk).elim .inl λe=>.inr (Qb e4.1 e)) F.1
  conv=>whnf
  refine⟨rfl,λh6=>?_,λh6=>?_⟩
  ·rw[if_pos h6] at hto
   subst hto
   exact⟨rfl,S2,hY',hSS⟩
  ·rw[if_neg (λe=>e h6)] at hto
   refine go ?_
   exact⟨(List.range' (i+1) m,i+1,w),⟨rfl,trivial⟩,⟨by show List.range' (i+1) m=List.range' (i+1) (l.parts.length-(i+1));rw[hm1],hto,⟨YQ hqi.1,hq1⟩,hps.1.trans hpn,hps.2.2.2.trans hls,S2,hY.mono (by show _≤B+12*(i+1-q);rw[hqq];exact Qd _) (by show _≤Q+(i+1-q:Nat);rw[hqq];exact Int.le_of_eq (by rw[Int.natCast_add,Int.add_assoc];rfl)),hSS⟩,by show l.parts.length-(i+1)<l.parts.length-i;omega⟩
 ·have h4':¬(i:Int)<l0.count:=h4
  have hz0:l.parts.length-i=0:=by omega
  rw[hr,hz0] at hto
  unfold lputs at hto
  subst hto
  exact⟨rfl,S1,hX.mono (by omega) (by omega),hS1⟩
theorem s_ltrunc(h:LV B Q p gl gv b cap a v l H U)(hB:B≤800000)(hQ:Q≤90000000000000000)(n:Nat):
  Spec prog 48 #[ptr gl 0,.int .i64 (n:Int)] H (TL U gv b) λu H'=>u=.int .i64 (ltruncV a v l n).1.1∧∃S',LVR (B+12000) (Q+1000) p gl gv b cap (ltruncV a v l n) H' S'∧Sub S' U H:=by
 obtain⟨tot,htot⟩:∃t,ltruncV a v l n=t:=⟨_,rfl⟩
 rw[htot]
 unfold ltruncV at htot
 have hlo:=h.lo
 have hpl:=hlo.n
 have hcn:=hlo.cnt
 have htl:=hlo.text
 have hfl:=hlo.flat
 have htx:=λ{X:Heap} (e:Frm nob H X)=>s_ltext (e.blk h.al.lg) (h.al.row.rd.1.q e) (by omega) (by omega)
 generalize textF l.size l.parts=t at htot htx htl
 refine spx func48 ?_
 conv=>whnf
 refine⟨rfl,λh1=>absurd h1 (by omega),λh1=>?_⟩
 conv=>whnf
 refine .q (htx (Frm.refl _ _)) ?_
 rintro _ H1 rfl e1 _
 conv=>whnf
 refine⟨rfl,λh2=>?_,λh2=>?_⟩
 ·have h2':((S t).size:Int)<(n:Int):=h2
  rw[S_size] at h2'
  rw[if_pos (by omega)] at htot
  subst htot
  exact⟨rfl,U,(h.q e1).mono (by omega) (by omega),Sub.refl _ _⟩
 have h2':¬((S t).size:Int)<(n:Int):=h2
 rw[S_size] at h2'
 rw[if_neg (by omega)] at htot
 conv=>whnf
 refine .q (htx e1) ?_
 rintro _ H2 rfl e2 _
 have e12:=e1.trans e2
 have hlg:=e12.blk h.al.lg
 conv=>whnf
 refine⟨0,n,rfl,⟨_,rfl⟩,Qk _,by rw[S_size];omega,_,extract_S t 0 n,?_⟩
 refine go ?_
 conv=>whnf
 refine⟨Nat×LR,λx=>[(6,.int .i64 ((x.1:Int)-1))],λx H'=>lputs (t.take n) (List.range x.1).reverse x.2.1.2 x.2.2.1 x.2.2.2=tot∧x.1≤l.parts.length∧x.2.2.2.parts.length=l.parts.length∧∃S',LVR (B+12*(l.parts.length-x.1)) (Q+(l.parts.length-x.1:Nat)) p gl gv b cap x.2 H' S'∧Sub S' U H,
  λx=>x.1,⟨(l.parts.length,((0,a),v,l)),⟨by rw[←hcn];rfl,trivial⟩,htot,Qd _,rfl,U,(h.q e12).mono (by omega) (by omega),Sub.refl _ _⟩,?_⟩
 rintro⟨i,⟨⟨e0,a0⟩,v0,l0⟩⟩ H3 junk ⟨hto,hi,hpn,S1,hX,hS1⟩ F
 dsimp only at hto hi hpn hX
 have hX:LV (B+12*(l.parts.length-i)) (Q+(l.parts.length-i:Nat)) p gl gv b cap a0 v0 l0 H3 S1:=hX
 have hl0:=hX.lo
 have hl1:=hl0.sz
 have hX1:=hX.al.lg
 conv=>whnf
 refine⟨rfl,λh4=>?_,λh4=>?_⟩
 ·have h4':0≤(i:Int)-1:=h4
  obtain⟨m,rfl⟩:∃m,i=m+1:=⟨i-1,by omega⟩
  rw[show(List.range (m+1)).reverse=m::(List.range m).reverse by rw[ZC,Jc];rfl] at hto
  unfold lputs at hto
  have hmi:((m+1:Nat):Int)-1=(m:Int):=by omega
  have hm3:IntKind.i64.wrap (((m+1:Nat):Int)-1-1)=(m:Int)-1:=by rw[wr64 (by omega) (by omega)];omega
  have hm2:l.parts.length-m=l.parts.length-(m+1)+1:=by omega
  have hpt:=s_lpart hX1 (t.take n) m (by rw[QC];omega) (by omega) (by omega)
  have hpf:=hl0.part (t.take n) m
  generalize partF l0.size (t.take n) m=pt at hpt hpf hto
  have hput:=λ{X:Heap} (e:Frm nob H3 X)=>s_lputB (hX.q e) (by omega) (by omega) m hpf (by omega)
  have hps:=lputV_parts a0 v0 l0 m pt
  generalize lputV a0 v0 l0 m pt=w at hput hto hps
  rw[←hmi] at hpt hput
  conv=>whnf
  refine .q (hpt) ?_
  rintro _ H4 rfl e4 _
  conv=>whnf
  refine .t (hput e4) (λk hk=>hk.elim (λhk=>hk.elim (λhk=>(hS1 k hk).elim (λx=>.inl (.inl (.inl x))) .inr) (λx=>.inl (.inl (.inr x)))) (λx=>.inl (.inr x))) ?_
  rintro _ H5 ⟨rfl,S2,hY,hS2⟩ e5 _
  have hY':=hY.mono (show _≤B+12000 by omega) (show _≤Q+1000 by omega)
  have hSS:Sub S2 U H:=hS1.trans (λk hk=>(hS2 k hk).elim .inl λe=>.inr (Qb e4.1 e)) F.1
  conv=>whnf
  refine⟨rfl,λh6=>?_,λh6=>?_⟩
  ·rw[if_pos h6] at hto
   subst hto
   exact⟨rfl,S2,hY',hSS⟩
  ·rw[if_neg (λe=>e h6)] at hto
   conv=>whnf
   refine⟨rfl,(m:Int)-1,hm3,?_⟩
   exact⟨(m,w),⟨rfl,trivial⟩,⟨hto,Nat.le_of_succ_le hi,hps.1.trans hpn,S2,hY.mono (by show _≤B+12*(l.parts.length-m);omega) (by show _≤Q+(l.parts.length-m:Nat);omega),hSS⟩,Yt m⟩
 ·have h4':¬0≤(i:Int)-1:=h4
  obtain rfl:i=0:=by omega
  unfold lputs at hto
  subst hto
  exact⟨rfl,S1,hX.mono (by omega) (by omega),hS1⟩
end
def lreads(a:Arr)(v:Vol)(fr:Int):List Nat→List By→List By×Int
 |[],acc=>(acc,0)
 |n::r,acc=>if(vReadV a v (fr+n)).2≠0 then([],(vReadV a v (fr+n)).2) else lreads a v fr r (acc++[(vReadV a v (fr+n)).1])
def lopenV(a:Arr)(v:Vol)(fr cnt:Int):Option Lg×Int:=
 if fr<0 then(none,1) else if cnt<1 then(none,1) else if v.conf.st<fr then(none,1) else if v.conf.st-fr<cnt then(none,1) else
 if(lreads a v fr (List.range cnt.toNat) []).2≠0 then(none,(lreads a v fr (List.range cnt.toNat) []).2) else(some ⟨fr,cnt,cfCap v.conf,(lreads a v fr (List.range cnt.toNat) []).1⟩,0)
theorem vReadV_len(a:Arr)(v:Vol)(n:Int)(h:a.ds.length≤255)(hc:cfOk v.conf):(vReadV a v n).1.length≤300000:=by
 unfold vReadV
 split
 ·simp
 ·exact Qb (vjoin_len v _ _ (by rw[vstate_len];exact h) λx hx=>(vstate_row a v n x hx).elim (λe=>by rw[e];exact Qk _) λe=>by have:=hc.b;omega) (by decide)
attribute [local irreducible] lreads
def LoR(p:Pl)(gv:Nat)(v:Vol)(a:Arr)(H:Heap)(U:Nat→Prop)(B:Nat)(Q:Int)(t:Option Lg×Int)(u:Value)(H':Heap):Prop:=match t.1 with
 |none=>u=.tuple #[.pointer none,.int .i64 t.2]∧∃S',AV p gv v a H' S'∧Sub S' U H
 |some l=>∃gl b cap S',u=.tuple #[ptr gl 0,.int .i64 0]∧H.size≤gl∧H.size≤b∧LV B Q p gl gv b cap a v l H' S'∧Sub S' U H
section
variable {p:Pl}{gv:Nat}{v:Vol}{a:Arr}{H:Heap}{U:Nat→Prop}{B:Nat}{Q:Int}
theorem s_lopen(h:AV p gv v a H U)(hO:VOk B Q v a)(fr cnt:Int)(hb:fr≤1000000∧cnt≤1000000):
  Spec prog 78 #[ptr gv 0,.int .i64 fr,.int .i64 cnt] H U (LoR p gv v a H U B Q (lopenV a v fr cnt)):=by
 obtain⟨tot,htot⟩:∃t,lopenV a v fr cnt=t:=⟨_,rfl⟩
 rw[htot]
 unfold lopenV at htot
 have hcb:=hO.cf.b
 have hnd:=hO.nd
 have hcap:1≤cfCap v.conf∧cfCap v.conf≤4000:=by unfold cfCap;rw[if_pos hO.cf];omega
 have hcp:=s_capa v.conf
 generalize cfCap v.conf=cp at htot hcap hcp
 obtain⟨c,hc⟩:∃c,cnt.toNat=c:=⟨_,rfl⟩
 rw[hc] at htot
 obtain⟨rd,hrd⟩:∃t,lreads a v fr (List.range c) []=t:=⟨_,rfl⟩
 rw[hrd] at htot
 rw[Yv] at hrd
 have bad:∀{X:Heap} {S':Nat→Prop} {e:Int},AV p gv v a X S'→Sub S' U H→(none,e)=tot→LoR p gv v a H U B Q tot (.tuple #[.pointer none,.int .i64 e]) X:=λh1 h2 ht=>by subst ht;exact⟨rfl,_,h1,h2⟩
 have hst:IntKind.i64.wrap (v.conf.st-fr)=v.conf.st-fr∨fr<0:=by
  by_cases hf:fr<0
  ·exact .inr hf
  ·exact .inl (wr64 (by omega) (by omega))
 refine spx func78 ?_
 conv=>whnf
 refine .q (s_vconf h.vol) ?_
 rintro _ H1 rfl e1 _
 conv=>whnf
 refine⟨rfl,λh1=>?_,λh1=>?_⟩
 ·rw[if_pos h1] at htot
  exact⟨bad (h.q e1) (Sub.refl _ _) htot⟩
 rw[if_neg h1] at htot
 conv=>whnf
 refine⟨rfl,λh2=>?_,λh2=>?_⟩
 ·rw[if_pos h2] at htot
  exact⟨bad (h.q e1) (Sub.refl _ _) htot⟩
 rw[if_neg h2] at htot
 conv=>whnf
 refine⟨rfl,λh3=>?_,λh3=>?_⟩
 ·rw[if_pos h3] at htot
  exact⟨bad (h.q e1) (Sub.refl _ _) htot⟩
 rw[if_neg h3] at htot
 conv=>whnf
 refine⟨rfl,v.conf.st-fr,hst.resolve_right h1,?_⟩
 conv=>whnf
 refine⟨rfl,λh4=>?_,λh4=>?_⟩
 ·rw[if_pos h4] at htot
  exact⟨bad (h.q e1) (Sub.refl _ _) htot⟩
 rw[if_neg h4] at htot
 conv=>whnf
 refine .q (s_vconf (e1.blk h.vol)) ?_
 rintro _ H2 rfl e2 _
 conv=>whnf
 refine .q (hcp H2) ?_
 rintro _ H3 rfl e3 _
 conv=>whnf
 refine⟨rfl,?_⟩
 conv=>whnf
 intro H4 gl f4 _
 have e14:=((e1.trans e2).trans e3).trans f4.e
 have hgs:=f4.size
 have h13:=((e1.trans e2).trans e3).1
 have hg4:H4[gl]? =some (.cells (lgL gv ⟨fr,cnt,cp,[]⟩ (.slice none 0 0)).toArray 152 (0,0)):=f4.at
 conv=>whnf
 refine⟨Nat×List By×Value,λx=>[(47,.int .i64 (x.1:Int))],λx H'=>x.1=x.2.1.length∧x.1≤c∧lreads a v fr (List.range' x.1 (c-x.1)) x.2.1=rd∧(∀s∈x.2.1,s.length≤300000)∧H'[gl]? =some (.cells (lgL gv ⟨fr,cnt,cp,[]⟩ x.2.2).toArray 152 (0,0))∧Own H' (gl+1) 9 1 x.2.2 x.2.1.length (strV x.2.1)∧∃S',AV p gv v a H' S'∧Sub S' U H∧¬S' gl∧∀k,x.2.2.ownBlock=some k→¬S' k,
  λx=>c-x.1,⟨(0,[],.slice none 0 0),⟨rfl,trivial⟩,rfl,Qk _,hrd,by simp,hg4,Own.nil _ _ _ _,U,h.q e14,Sub.refl _ _,λe=>by have:=h.arr.lt gl e;omega,λk hk=>by cases hk⟩,?_⟩
 rintro⟨i,acc,pv⟩ H5 junk ⟨hi,hic,hto,hac,hg5,how,S1,hV,hs1,hng,hnp⟩ F
 dsimp only at hi hic hto hac hg5 how hnp
 conv=>whnf
 refine⟨rfl,λh5=>?_,λh5=>?_⟩
 ·have h5':(i:Int)<cnt:=h5
  have hm:c-i=c-(i+1)+1:=by omega
  rw[hm,ZH] at hto
  unfold lreads at hto
  have hrv:=λ{X:Heap} (e:Frm nob H5 X)=>s_vread (hV.q e) hO.sm (fr+i) (Qb hnd (by decide)) hO.cf
  have hln:=vReadV_len a v (fr+i) (Qb hnd (by decide)) hO.cf
  refine Qh (⟨_,rfl⟩:∃w,vReadV a v (fr+i)=w) λw hw=>?_
  rw[hw] at hln hto
  simp only[hw] at hrv
  refine go ?_
  conv=>whnf
  refine .t (hrv (Frm.refl _ _)) (hs1) ?_
  rintro _ H6 ⟨rfl,S2,ha6,hs2⟩ e6 _
  have hV6:=hV.step e6 ha6 hs2
  have hsub:Sub S2 U H:=hs1.trans hs2 F.1
  have hg6:=e6.blkT hg5 hng
  have how6:=(how.past hnp e6 hs2).1
  have hn6:=(how.past hnp e6 hs2).2
  have hng6:¬S2 gl:=λe=>(hs2 gl e).elim hng λe=>by have:=(Qa.1 hg5).1;omega
  conv=>whnf
  refine⟨rfl,λh6=>?_,λh6=>?_⟩
  ·rw[if_pos h6] at hto
   rw[←hto,if_pos h6] at htot
   exact⟨bad hV6 hsub htot⟩
  ·rw[if_neg (λe=>e h6)] at hto
   refine go ?_
   conv=>whnf
   refine⟨rfl,?_⟩
   intro H7 r f7 _
   have how7:=how6.q f7.e
   have hg7:=f7.e.blk hg6
   have hgl7:=(Qa.1 hg7).1
   conv=>whnf
   refine .el2 [.string (S w.1)] (by kernel_rfl) how7 (CellsAt.new (cs:=[.string _]) f7) rfl (by simp[oneCell]) (by omega) hgl7 (λk hk=>.inr (by have:=(how7.ge k hk).1;show H.size≤k;omega)) ?_
   intro v8 H8 ho8 e8 _ hb8
   have ha8:=(Own.app e8 (hV6.q f7.e).arr hn6 hb8).1
   have hn8:=(Own.app e8 (hV6.q f7.e).arr hn6 hb8).2
   have hg8:=e8.blkT hg7 (λe=>by have:=(how7.ge gl e).1;omega)
   have hv8:AV p gv v a H8 S2:=⟨e8.blkT (hV6.q f7.e).vol (λhk=>how7.ne (hV6.q f7.e).vol (by decide) hk),ha8,hV6.out⟩
   conv=>whnf
   refine .one (v:=v8) 4 hg8 (.inr (by show H.size≤gl;omega)) rfl ho8.slc.2 (by kernel_rfl) (by simp[lgL]) ?_
   intro H9 u9' _
   have u9:Upd H8 H9 gl (.cells (lgL gv ⟨fr,cnt,cp,[]⟩ v8).toArray 152 (0,0)):=u9'
   have hgv:gl≠gv:=λe=>by have:=h.lt;omega
   refine go ?_
   refine⟨(i+1,acc++[w.1],v8),⟨rfl,trivial⟩,⟨by simp[hi],by omega,hto,?_,u9.1,?_,S2,hv8.frm u9.e (λk hk (e:k=gl)=>hng6 (e▸hk)) (λe=>hgv e.symm),hsub,hng6,hn8⟩,by show c-(i+1)<c-i;omega⟩
   ·intro s hs
    rcases Qz.1 hs with hs|hs
    ·exact hac s hs
    ·simp at hs;subst hs;exact hln
   ·have:=ho8.frm u9.e (λk hk (e:k=gl)=>by have:=(ho8.ge k hk).1;omega)
    simpa [strV] using this
 ·have h5':¬(i:Int)<cnt:=h5
  rw[show c-i=0 by omega] at hto
  unfold lreads at hto
  rw[←hto,if_neg (by simp)] at htot
  refine⟨?_⟩
  show LoR p gv v a H U B Q tot (.tuple #[ptr gl 0,.int .i64 0]) H5
  rw[←htot]
  have hcl:cnt=(acc.length:Int):=by omega
  have hst1:=hcb.2.2.1.2
  rcases how.blk with ⟨_,h9⟩|⟨b,cap,cs,h9,hb0,_⟩
  ·omega
  subst h9
  exact⟨gl,b,cap,S1,rfl,by omega,by omega,⟨⟨hV,hg5,hng,how.low (Qk _),hnp⟩,hO,⟨hcl,by show acc.length≤1000;omega,by show 0≤fr∧fr≤1000000;omega,hcap,hac⟩⟩,hs1⟩
end
end Go.Proofs.YtjambljmnifknaaGreatDoor.Vc
namespace Go.Proofs.YtjambljmnifknaaGreatDoor.Vc
open Go Go.RowKit Tp
section
variable {c:Ctx}{ρ:Operand→Value}{o:Oper}{H:Heap}{K:KK}{x:Operand}
theorem raw_range{s:ByteArray}(hP:c.P=prog)(ho:o.op=.range 9 x)(hx:ρ x=.string s)(hF:Frm c.S c.H0 H)
  (k:∀H' b,Fresh H H' b (.stringIter s 0)→Frm c.S c.H0 H'→K (.pointer (some ⟨b,0,none⟩)) H'):RawVC c ρ o H K:=
 ⟨λw hw=>by
  have hf:Fresh H (w.alloc (.stringIter s 0)).heap w.heap.size (.stringIter s 0):=⟨by rw[hw],by rw[←hw];rfl⟩
  have hF':=hF.trans (hf.frm _)
  refine⟨_,w.alloc (.stringIter s 0),.inl ?_,⟨rfl,rfl,rfl⟩,hF',k _ _ hf hF'⟩
  rw[hP]
  unfold execOp
  rw[ho]
  dsimp only
  rw[hx]
  exact val_run (run_range_string w 9 s underlying9)⟩
theorem raw_next{s:ByteArray}{b p:Nat}(ho:o.op=.next x true)(hx:ρ x=.pointer (some ⟨b,0,none⟩))(hb:H[b]? =some (.stringIter s p))(hS:c.S b∨c.H0.size≤b)(hF:Frm c.S c.H0 H)
  (k1:¬p<s.size→K (.tuple #[.bool false]) H)
  (k2:p<s.size→∀H',Upd H H' b (.stringIter s (p+(Utf8.decode s p).2))→Frm c.S c.H0 H'→K (.tuple #[.bool true,.int .i64 p,.int .i32 ((Utf8.decode s p).1:Int)]) H'):RawVC c ρ o H K:=
 ⟨λw hw=>by
  have hb':w.heap[b]? =some (.stringIter s p):=by rw[hw];exact hb
  by_cases h:p<s.size
  ·have hlt:b<w.heap.size:=(Qa.1 hb').1
   have hu:Upd H (w.putObj b (.stringIter s (p+(Utf8.decode s p).2))).heap b (.stringIter s (p+(Utf8.decode s p).2)):=⟨World.putObj_heap_same hlt,by rw[←hw];simp,λk hk=>by rw[←hw];exact World.putObj_heap_other hk⟩
   have hF':=Frm.then hF hu.e (λk hk=>by subst hk;exact hS)
   refine⟨_,w.putObj b (.stringIter s (p+(Utf8.decode s p).2)),.inl ?_,⟨rfl,rfl,rfl⟩,hF',k2 h _ hu hF'⟩
   unfold execOp
   rw[ho]
   dsimp only
   rw[hx]
   refine val_run ?_
   simp only[Instr.next,getObj,setObj,Sem.run_bind,Sem.run,hb',Result.andThen,h,if_true]
   simp[goInt,World.putObj]
  ·refine⟨_,w,.inl ?_,Amb.refl w,by rw[hw];exact hF,by rw[hw];exact k1 h⟩
   unfold execOp
   rw[ho]
   dsimp only
   rw[hx]
   refine val_run ?_
   simp[Instr.next,getObj,Sem.run,hb',h]⟩
end
def i32V(l:List Int):List Value:=l.map (.int .i32)
def runesF(s:By):Nat→Nat→List Int→List Int×Bool
 |0,_,acc=>(acc,true)
 |q+1,p,acc=>if p<s.length then if((Utf8.decode (S s) p).1:Int)=65533∧Lib.hasPrefix (s.drop p) [239,191,189]=false then([],false) else runesF s q (p+(Utf8.decode (S s) p).2) (acc++[((Utf8.decode (S s) p).1:Int)]) else(acc,true)
def runesV(s:By):List Int×Bool:=runesF s s.length 0 []
theorem width_pos(s:ByteArray)(pos:Nat)(h:pos<s.size):1≤(Utf8.decode s pos).2:=by
 by_cases ha:(s[pos]'h).toNat<128
 ·rw[decode_ascii s pos h ha];exact Qd _
 ·exact(decode_high s pos h (by omega)).2
theorem extract_end(s:By)(p:Nat):(S s).extract p (S s).size=S (s.drop p):=by
 rw[extract_S,S_size,QU (by rw[QV];omega)]
theorem runesF_end{s:By}{p:Nat}(h:¬p<s.length):∀(q:Nat) (acc:List Int),runesF s q p acc=(acc,true)
 |0,_=>rfl
 |q+1,acc=>by unfold runesF;rw[if_neg h]
theorem runesF_go{s:By}{p q:Nat}(h:p<s.length)(hq:s.length≤p+q)(acc:List Int):runesF s q p acc=if((Utf8.decode (S s) p).1:Int)=65533∧Lib.hasPrefix (s.drop p) [239,191,189]=false then([],false) else runesF s (q-1) (p+(Utf8.decode (S s) p).2) (acc++[((Utf8.decode (S s) p).1:Int)]):=by
 cases q with
 |zero=>omega
 |succ q=>rw[runesF,if_pos h];rfl
attribute [local irreducible] Utf8.decode Lib.hasPrefix
theorem s_runes(s:By)(hs:s.length≤1000000000)(H:Heap):Spec prog 255 #[.string (S s)] H nob λu H'=>∃v,u=.tuple #[v,.bool (runesV s).2]∧Rd H' v (i32V (runesV s).1):=by
 obtain⟨tot,htot⟩:∃t,runesV s=t:=⟨_,rfl⟩
 rw[htot]
 unfold runesV at htot
 refine spx func255 ?_
 conv=>whnf
 refine raw_range rfl rfl rfl (Frm.refl _ _) ?_
 intro H1 b f1 _
 have hbs:=f1.size
 conv=>whnf
 refine⟨Nat×Nat×List Int×Value,λx=>[(4,x.2.2.2)],λx H'=>H'[b]? =some (.stringIter (S s) x.2.1)∧runesF s x.1 x.2.1 x.2.2.1=tot∧s.length≤x.2.1+x.1∧x.2.2.1.length≤x.2.1∧Own H' (b+1) 21 1 x.2.2.2 x.2.2.1.length (i32V x.2.2.1),λx=>s.length-x.2.1,
  ⟨(s.length,0,[],.slice none 0 0),⟨rfl,trivial⟩,f1.at,htot,by omega,Qk _,Own.nil _ _ _ _⟩,?_⟩
 rintro⟨q,p,acc,v⟩ H2 junk ⟨hb,hto,hq,hal,how⟩ F
 dsimp only at hb hto hq hal how
 have hb2:=(Qa.1 hb).1
 conv=>whnf
 refine raw_next rfl rfl hb (.inr (by show H.size≤b;omega)) F (λh=>?_) (λh=>?_)
 ·rw[S_size] at h
  rw[runesF_end h] at hto
  subst hto
  exact⟨_,rfl,how.rd.1⟩
 ·rw[S_size] at h
  intro H3 u3 F3
  rw[runesF_go h hq] at hto
  have hw1:=width_pos (S s) p (by rw[S_size];exact h)
  generalize Utf8.decode (S s) p=d at hto u3 hw1
  have how3:=how.frm u3.e (λk hk (e:k=b)=>by have:=(how.ge k hk).1;omega)
  have u3':H3[b]? =some (.stringIter (S s) (p+d.2)):=u3.1
  have hb3:=(Qa.1 u3').1
  conv=>whnf
  refine⟨rfl,λh5=>?_,λh5=>?_⟩
  ·conv=>whnf
   refine⟨p,(S s).size,⟨_,rfl⟩,rfl,by rw[S_size];omega,Qd _,_,extract_end s p,?_⟩
   conv=>whnf
   refine .tb (s_hasp (S (s.drop p)) _ H3) (λ_ h=>h.elim) (λhp=>?_) (λhp=>?_)
   ·have hp':Lib.hasPrefix (s.drop p) [239,191,189]=true:=hp
    rw[if_neg (λe=>by rw[hp'] at e;cases e.2)] at hto
    rintro _ rfl e4 F4
    conv=>whnf
    refine⟨rfl,?_⟩
    intro H5 r f5 _
    have how5:=how3.q f5.e
    conv=>whnf
    refine .el2 [.int .i32 (d.1:Int)] (by kernel_rfl) how5 (CellsAt.new (cs:=[.int .i32 _]) f5) rfl (by simp[oneCell]) (by omega) (by have:=f5.e.1;omega) (λk hk=>.inr (by have:=(how5.ge k hk).1;show H.size≤k;omega)) ?_
    intro v6 H6 ho6 e6 _ _
    refine⟨(q-1,p+d.2,acc++[(d.1:Int)],v6),⟨rfl,trivial⟩,⟨e6.blkT (f5.e.blk u3') (λe=>by have:=(how5.ge b e).1;omega),hto,by show s.length≤p+d.2+(q-1);omega,by show(acc++[(d.1:Int)]).length≤p+d.2;rw[Qi];simp;omega,?_⟩,by show s.length-(p+d.2)<s.length-p;omega⟩
    show Own H6 (b+1) 21 1 v6 (acc++[(d.1:Int)]).length (i32V (acc++[(d.1:Int)]))
    rw[Qi,i32V,Qy]
    exact ho6
   ·have hp':Lib.hasPrefix (s.drop p) [239,191,189]=false:=hp
    rw[if_pos ⟨h5,hp'⟩] at hto
    rintro _ rfl e4 F4
    subst hto
    exact⟨_,rfl,.inl ⟨rfl,rfl⟩⟩
  ·rw[if_neg (λe=>h5 e.1)] at hto
   conv=>whnf
   refine⟨rfl,?_⟩
   intro H5 r f5 _
   have how5:=how3.q f5.e
   conv=>whnf
   refine .el2 [.int .i32 (d.1:Int)] (by kernel_rfl) how5 (CellsAt.new (cs:=[.int .i32 _]) f5) rfl (by simp[oneCell]) (by omega) (by have:=f5.e.1;omega) (λk hk=>.inr (by have:=(how5.ge k hk).1;show H.size≤k;omega)) ?_
   intro v6 H6 ho6 e6 _ _
   refine⟨(q-1,p+d.2,acc++[(d.1:Int)],v6),⟨rfl,trivial⟩,⟨e6.blkT (f5.e.blk u3') (λe=>by have:=(how5.ge b e).1;omega),hto,by show s.length≤p+d.2+(q-1);omega,by show(acc++[(d.1:Int)]).length≤p+d.2;rw[Qi];simp;omega,?_⟩,by show s.length-(p+d.2)<s.length-p;omega⟩
   show Own H6 (b+1) 21 1 v6 (acc++[(d.1:Int)]).length (i32V (acc++[(d.1:Int)]))
   rw[Qi,i32V,Qy]
   exact ho6
theorem s_runes'(s:By)(hs:s.length≤1000000000)(H:Heap):Spec prog 255 #[.string (S s)] H nob λu H'=>∃ad cap,u=.tuple #[.slice ad (runesV s).1.length cap,.bool (runesV s).2]∧∀i x,(runesV s).1[i]? =some x→∃b o,ad=some ⟨b,o,none⟩∧cel H' ⟨b,o+i,none⟩=some (.int .i32 x):=
 (s_runes s hs H).imp λu H' ⟨v,h1,h2⟩=>by
  obtain⟨ad,cap,rfl,hw⟩:=h2.vals
  refine⟨ad,cap,by rw[h1];simp[i32V],λi x hx=>hw i (.int .i32 x) (by rw[i32V,Qp,hx];rfl)⟩
def kbadF:List Int→Int
 |[]=>0
 |r::l=>if r<32 then 7 else if r=127 then 7 else kbadF l
def keyE(s:By):Int:=if(runesV s).2=false then 7 else if(runesV s).1.length=0 then 7 else if 64<(runesV s).1.length then 7 else kbadF (runesV s).1
theorem s_kcheck(s:By)(hs:s.length≤1000000000)(H:Heap):Spec prog 203 #[.string (S s)] H nob λu _=>u=.int .i64 (keyE s):=by
 obtain⟨tot,htot⟩:∃t,keyE s=t:=⟨_,rfl⟩
 rw[htot]
 unfold keyE at htot
 have hr:=s_runes' s hs H
 generalize runesV s=rv at hr htot
 obtain⟨l,is⟩:=rv
 dsimp only at hr htot
 cases is with
 |false=>
  rw[if_pos rfl] at htot
  subst htot
  refine spx func203 ?_
  conv=>whnf
  refine .q (hr) ?_
  rintro _ H1 ⟨ad,cap,rfl,hw⟩ e1 _
  exact⟨rfl⟩
 |true=>
  rw[if_neg (by simp)] at htot
  refine spx func203 ?_
  conv=>whnf
  refine .q (hr) ?_
  rintro _ H1 ⟨ad,cap,rfl,hw⟩ e1 _
  conv=>whnf
  refine⟨rfl,λh1=>?_,λh1=>?_⟩
  ·rw[if_pos (ZZ.1 h1)] at htot
   subst htot
   exact⟨rfl⟩
  rw[if_neg (λe=>h1 (by rw[e];rfl))] at htot
  conv=>whnf
  refine⟨rfl,λh2=>?_,λh2=>?_⟩
  ·rw[if_pos (QK.1 h2)] at htot
   subst htot
   exact⟨rfl⟩
  have hl:l.length≤64:=Nat.le_of_not_lt λe=>h2 (QK.2 e)
  rw[if_neg (Nat.not_lt.2 hl)] at htot
  conv=>whnf
  refine⟨Nat×List Int,λx=>[(26,.int .i64 (x.1:Int))],λx H'=>x.1+x.2.length=l.length∧l.drop x.1=x.2∧kbadF x.2=tot∧Frm nob H1 H',λx=>x.2.length,
   ⟨(0,l),⟨rfl,trivial⟩,by simp,rfl,htot,Frm.refl _ _⟩,?_⟩
  rintro⟨i,r⟩ H2 junk ⟨hi,hd,ht,hF⟩ F
  dsimp only at hi hd ht
  conv=>whnf
  refine⟨rfl,λh5=>?_,λh5=>?_⟩
  ·have h':i<l.length:=QK.1 h5
   cases r with
   |nil=>simp at hi;omega
   |cons y r=>
    have hy:l[i]? =some y:=by
     have:=Qf (·[0]?) hd
     simpa using this
    have hd':l.drop (i+1)=r:=by
     have:=Qf List.tail hd
     simpa using this
    obtain⟨b,o,rfl,hc⟩:=hw i y hy
    unfold kbadF at ht
    conv=>whnf
    refine⟨i,rfl,h',?_⟩
    conv=>whnf
    refine⟨_,hF.cel hc,?_⟩
    conv=>whnf
    refine⟨rfl,λh6=>?_,λh6=>?_⟩
    ·rw[if_pos h6] at ht
     subst ht
     exact⟨rfl⟩
    ·rw[if_neg h6] at ht
     conv=>whnf
     refine⟨rfl,λh7=>?_,λh7=>?_⟩
     ·rw[if_pos h7] at ht
      subst ht
      exact⟨rfl⟩
     ·rw[if_neg h7] at ht
      refine go ?_
      exact⟨(i+1,r),⟨rfl,trivial⟩,⟨by simp at hi⊢;omega,hd',ht,hF⟩,by show r.length<r.length+1;omega⟩
  ·have hr0:r=[]:=Qm (by have:¬(i:Int)<(l.length:Int):=h5;omega)
   subst hr0
   subst ht
   exact⟨rfl⟩
attribute [irreducible] runesV runesF keyE
end Go.Proofs.YtjambljmnifknaaGreatDoor.Vc
namespace Go.Proofs
open Go.RowKit Go.Sort Go.Lib
open Go.Shelf
def Tryz.lays240_ren:Go.Shelf.Ren:=⟨λ|240=>224|276=>269|n=>n,λ|70=>223|0=>0|72=>225|4=>4|164=>326|37=>192|5=>5|n=>n,λ|n=>n⟩
theorem Tryz.lays240:Go.Proofs.Lays.n240 prog Tryz.lays240_ren:=by constructor<;>intros<;>kernel_rfl
theorem Tryz.Builder_X72_240:Builder.X72 prog Tryz.lays240_ren:=by constructor<;>intros<;>kernel_rfl
end Go.Proofs
namespace Go.Proofs.YtjambljmnifknaaGreatDoor.Vc
open Go Go.RowKit Tp
theorem s_cc{H:Heap}{b:Nat}{p v:Value}(h:H[b]? =some (.cells #[p,v] 225 (0,0)))(hp:p=.pointer none∨p=ptr b 0):
  Spec prog 224 #[ptr b 0] H (λk=>k=b) λu H'=>u=.tuple #[]∧H'[b]? =some (.cells #[ptr b 0,v] 225 (0,0)):=
 ⟨by kernel_rfl,λw hw=>by
  subst hw
  rcases hp with rfl|rfl
  ·refine(Any.Builder_copyCheck_fresh Tryz.lays240 Tryz.Builder_X72_240 b w (by simp[World.cell?,h]) (by simp[World.shape?,h];rfl) (by simp[World.frozen?,h])).mono ?_
   rintro e w' ⟨rfl,rfl⟩
   have hs:(w.setCell ⟨b,0,none⟩ (.pointer (some ⟨b,0,none⟩))).heap=w.heap.setIfInBounds b (.cells #[ptr b 0,v] 225 (0,0)):=by
    have hlt:=(Qa.1 h).1
    simp only[World.setCell]
    refine YL λk=>?_
    rw[ZM,YA]
    split
    ·rename_i e;subst e;rw[h];rfl
    ·rfl
   have hlt:=(Qa.1 h).1
   refine⟨_,rfl,?_,⟨by rw[hs];simp,λk _ hk=>by rw[hs,Zs (λe=>hk e.symm)]⟩,rfl,by rw[hs];simp[hlt]⟩
   simp only[World.setCell]
   exact⟨rfl,rfl,rfl⟩
  ·refine(Any.Builder_copyCheck_used Tryz.lays240 Tryz.Builder_X72_240 b w (by simp[World.cell?,h,ptr])).mono ?_
   rintro e w' ⟨rfl,rfl⟩
   exact⟨_,rfl,Amb.refl _,Frm.refl _ _,rfl,h⟩⟩
structure BB(H:Heap)(b:Nat)(v:Value)(l:By):Prop where
 hp:∃p,H[b]? =some (.cells #[p,v] 225 (0,0))∧(p=.pointer none∨p=ptr b 0)
 row:Own H b 5 1 v l.length (bytesV l)
def BT(b:Nat)(v:Value):Nat→Prop:=λk=>k=b∨v.ownBlock=some k
theorem BB.new{H H':Heap}{b:Nat}(h:Fresh H H' b (.cells #[.pointer none,.slice none 0 0] 225)):BB H' b (.slice none 0 0) []:=⟨⟨_,h.at,.inl rfl⟩,Own.nil _ _ _ _⟩
theorem BB.q{H H':Heap}{b:Nat}{v:Value}{l:By}(h:BB H b v l)(e:Frm nob H H'):BB H' b v l:=⟨h.hp.elim λp hp=>⟨p,e.blk hp.1,hp.2⟩,h.row.q e⟩
theorem BB.bld{H:Heap}{b:Nat}{v:Value}{l:By}(h:BB H b v l):Bld H b l:=by
 obtain⟨p,hp,hpp⟩:=h.hp
 have hr:(mkw H).ownsRowF b 5 1 v (Lib.byteCells l).length (Lib.byteCells l):=by
  rw[Lib.byteCells_length];exact World.ownsRowF_of h.row
 have hx:Lib.BuilderAtF 225 5 b b p (Lib.byteCells l) (mkw H):=⟨Qd _,v,hp,hr,h.row.ne hp (by decide)⟩
 rcases hpp with rfl|rfl
 ·exact .inl hx
 ·exact .inr hx
theorem oneB{l:By}:∀y∈bytesV l,oneCell y=true:=λy hy=>by
 obtain⟨c,_,rfl⟩:=Qw.1 hy
 rfl
section
variable {H:Heap}{b:Nat}{v:Value}{l:By}
theorem BB.put{H1 H2 H3:Heap}{v':Value}{l':By}(h:BB H b v l)(e1:Frm (λk=>k=b) H H1)(h2:Own H2 b 5 1 v' l'.length (bytesV l'))(u:Upd H2 H3 b (.cells #[ptr b 0,v'] 225 (0,0)))(hn:∀k,v'.ownBlock=some k→v.ownBlock=some k∨H1.size≤k):
  BB H3 b v' l'∧∀k,v'.ownBlock=some k→v.ownBlock=some k∨H.size≤k:=by
 obtain⟨p,hp,_⟩:=h.hp
 have hlt:=(Qa.1 hp).1
 have h0:=h.row.ne hp (by decide)
 exact⟨⟨⟨_,u.1,.inr rfl⟩,h2.frm u.e λk hk (e:k=b)=>by
  subst e
  rcases hn k hk with e|e
  ·exact h0 e
  ·have:=e1.1;omega⟩,λk hk=>(hn k hk).imp id λe=>Qb e1.1 e⟩
theorem s_wbB(h:BB H b v l)(c:UInt8)(hl:l.length≤100000000000):Spec prog 165 #[ptr b 0,byteV c] H (BT b v) λu H'=>u=.nilIface∧∃v',BB H' b v' (l++[c])∧∀k,v'.ownBlock=some k→v.ownBlock=some k∨H.size≤k:=by
 obtain⟨p,hp,hpp⟩:=h.hp
 have hlt:=(Qa.1 hp).1
 have hne:=h.row.ne hp (by decide)
 refine spx func165 ?_
 conv=>whnf
 refine .t (s_cc hp hpp) (λk hk=>.inl (.inl hk)) ?_
 rintro _ H1 ⟨rfl,h1⟩ e1 _
 have ho1:=h.row.frm e1 (λk hk (e:k=b)=>hne (e▸hk))
 have h11:=e1.1
 refine go ?_
 conv=>whnf
 refine⟨rfl,?_⟩
 intro H2 r f2 _
 have ho2:=ho1.q f2.e
 conv=>whnf
 refine .el2 [byteV c] (by kernel_rfl) ho2 (CellsAt.new (cs:=[byteV c]) f2) rfl (by simp[byteV,oneCell]) (by omega) (by have:=f2.e.1;omega) (λk hk=>.inl (.inr hk)) ?_
 intro v3 H3 ho3 e3 _ hb3
 have h3:=e3.blkT (f2.e.blk h1) hne
 conv=>whnf
 refine .one (v:=v3) 1 h3 (.inl (.inl rfl)) rfl ho3.slc.2 (by kernel_rfl) (by simp) ?_
 intro H4 u4' _
 have u4:Upd H3 H4 b (.cells #[ptr b 0,v3] 225 (0,0)):=u4'
 have hz:=h.put (l':=l++[c]) (e1.then f2.e λ_ hk=>hk.elim) (by simpa [bytesV] using ho3) u4 hb3
 exact⟨rfl,v3,hz⟩
theorem s_wB(h:BB H b v l){x:Value}{m base:Nat}{ys:By}(hx:Own H base 5 1 x m (bytesV ys))(hl:l.length≤100000000000)(hm:m≤100000000000)(hxv:∀k,x.ownBlock=some k→v.ownBlock≠some k):
  Spec prog 217 #[ptr b 0,x] H (BT b v) λu H'=>(∃n,u=.tuple #[.int .i64 n,.nilIface])∧∃v',BB H' b v' (l++ys)∧∀k,v'.ownBlock=some k→v.ownBlock=some k∨H.size≤k:=by
 obtain⟨p,hp,hpp⟩:=h.hp
 obtain⟨xa,xc,rfl⟩:=hx.form
 have hlt:=(Qa.1 hp).1
 have hne:=h.row.ne hp (by decide)
 have hne':=hx.ne hp (by decide)
 have hys:ys.length=m:=by have:=hx.1;simpa [bytesV] using this
 refine spx func217 ?_
 conv=>whnf
 refine .t (s_cc hp hpp) (λk hk=>.inl (.inl hk)) ?_
 rintro _ H1 ⟨rfl,h1⟩ e1 F1
 have ho1:=h.row.frm e1 (λk hk (e:k=b)=>hne (e▸hk))
 have hx1:=hx.frm e1 (λk hk (e:k=b)=>hne' (e▸hk))
 have h11:=e1.1
 refine go ?_
 conv=>whnf
 refine .own (by kernel_rfl) ho1 hx1 oneB (by omega) (by omega) (λk hk=>.inl (.inr hk)) F1 ?_
 intro v3 H3 ho3 e3 _ hb3
 have h3:=e3.blkT h1 hne
 conv=>whnf
 refine .one (v:=v3) 1 h3 (.inl (.inl rfl)) rfl ho3.slc.2 (by kernel_rfl) (by simp) ?_
 intro H4 u4' _
 have u4:Upd H3 H4 b (.cells #[ptr b 0,v3] 225 (0,0)):=u4'
 have hz:=h.put (l':=l++ys) e1 (by simpa [bytesV,hys] using ho3) u4 hb3
 exact⟨⟨_,rfl⟩,v3,hz⟩
end
def dig(n:Nat):UInt8:=[48,49,50,51,52,53,54,55,56,57,65,66,67,68,69,70].getD n 0
def quo1(c:UInt8):By:=if 32<c.toNat∧c.toNat<127∧c.toNat≠37 then [c] else [37,dig (c.toNat/16),dig (c.toNat%16)]
def quoB:By→By
 |[]=>[]
 |c::r=>quo1 c++quoB r
def quoteV(s:By):By:=if s=[] then [37] else quoB s
theorem dig_at{n:Nat}(h:n<16):([48,49,50,51,52,53,54,55,56,57,65,66,67,68,69,70]:By)[n]? =some (dig n):=by
 unfold dig;rw[Ql];simp[h]
theorem shr4:∀n:Nat,n<256→(n:Int).fdiv (2^min (Int.toNat 4) IntKind.u8.bits)=((n/16:Nat):Int):=by decide+kernel
theorem and15:∀n:Nat,n<256→IntKind.u8.wrap ((BitVec.ofInt IntKind.u8.bits (n:Int)&&& BitVec.ofInt IntKind.u8.bits 15).toNat:Int)=((n%16:Nat):Int):=by decide+kernel
theorem quo1_len(c:UInt8):(quo1 c).length≤3:=by unfold quo1;split<;>simp
attribute [local irreducible] quo1 dig
theorem s_quote(s:By)(hs:s.length≤1000000000)(H:Heap):Spec prog 152 #[.string (S s)] H nob λu _=>u=.string (S (quoteV s)):=by
 obtain⟨tot,htot⟩:∃t,quoteV s=t:=⟨_,rfl⟩
 rw[htot]
 unfold quoteV at htot
 refine spx func152 ?_
 conv=>whnf
 refine⟨λh0=>?_,λh0=>?_⟩
 ·rw[if_pos (S_inj (a:=s) (b:=[]) h0)] at htot
  subst htot
  exact⟨rfl⟩
 rw[if_neg (λe=>h0 (by rw[e];rfl))] at htot
 conv=>whnf
 intro H1 b f1 _
 have hB1:=BB.new f1
 have hbs:=f1.size
 conv=>whnf
 intro cap hcap H2 r f2 _
 have hB2:=hB1.q f2.e
 have hr2:H2[r]? =some (.cells (bytesC (S s) cap).toArray 5 (cap,cap+1)):=f2.at
 have hrs:=f2.size
 conv=>whnf
 refine⟨Nat×By×By×Value,λx=>[(11,.int .i64 (x.1:Int))],λx H'=>x.1+x.2.1.length=s.length∧s.drop x.1=x.2.1∧x.2.2.1++quoB x.2.1=tot∧x.2.2.1.length≤3*x.1∧BB H' b x.2.2.2 x.2.2.1∧x.2.2.2.ownBlock≠some r∧H'[r]? =some (.cells (bytesC (S s) cap).toArray 5 (cap,cap+1)),λx=>x.2.1.length,
  ⟨(0,s,[],.slice none 0 0),⟨rfl,trivial⟩,by simp,rfl,htot,Qk _,hB2,by simp[Value.ownBlock],hr2⟩,?_⟩
 rintro⟨i,l,acc,v⟩ H3 junk ⟨hi,hd,ht,hal,hB,hvr,hr3⟩ F
 dsimp only at hi hd ht hal hB hvr
 have hgS:∀k,BT b v k→nob k∨H.size≤k:=λk hk=>.inr (hk.elim (λe=>by subst e;omega) λe=>by have:=(hB.row.ge k e).1;omega)
 have hbr:¬BT b v r:=λe=>e.elim (λe=>by omega) hvr
 have hr3':=(Qa.1 hr3).1
 conv=>whnf
 refine⟨rfl,λh5=>?_,λh5=>?_⟩
 ·have h':i<s.length:=by have:(i:Int)<((S s).size:Int):=h5;rw[S_size] at this;omega
  cases l with
  |nil=>simp at hi;omega
  |cons c l=>
   have hy:s[i]? =some c:=by
    have:=Qf (·[0]?) hd
    simpa using this
   have hd':s.drop (i+1)=l:=by
    have:=Qf List.tail hd
    simpa using this
   have hcell:(bytesC (S s) cap).toArray[0+i]? =some (byteV c):=by
    rw[Qr,Qq,bytesC,QG (by rw[Qv];exact h'),Qp]
    show Option.map byteV s[i]? =_
    rw[hy];rfl
   unfold quoB at ht
   rw[←Qt] at ht
   have hql:=quo1_len c
   have hc8:c.toNat<256:=c.toNat_lt
   conv=>whnf
   refine⟨i,rfl,by rw[S_size];exact h',?_⟩
   conv=>whnf
   refine⟨_,cel_of hr3 hcell,?_⟩
   conv=>whnf
   refine⟨rfl,λh6=>?_,λh6=>?_⟩
   ·conv=>whnf
    refine⟨rfl,λh7=>?_,λh7=>?_⟩
    ·conv=>whnf
     refine⟨rfl,λh8=>?_,λh8=>?_⟩
     ·have hq1:quo1 c=[c]:=by unfold quo1;rw[if_pos ⟨QK.1 h6,QK.1 h7,λe=>h8 (by rw[e];rfl)⟩]
      rw[hq1] at ht
      conv=>whnf
      refine .t (s_wbB hB c (by omega)) (hgS) ?_
      rintro _ H4 ⟨rfl,v4,hB4,hn4⟩ e4 _
      refine go ?_
      exact⟨(i+1,l,acc++[c],v4),⟨rfl,trivial⟩,⟨by simp at hi⊢;omega,hd',ht,by show(acc++[c]).length≤3*(i+1);simp;omega,hB4,λe=>(hn4 r e).elim hvr λe=>by omega,e4.blkT hr3 hbr⟩,by show l.length<l.length+1;omega⟩
     ·have hq1:quo1 c=[37,dig (c.toNat/16),dig (c.toNat%16)]:=by unfold quo1;rw[if_neg (λe=>e.2.2 (ZZ.1 h8))]
      rw[hq1] at ht
      conv=>whnf
      refine .t (λk=>H.size≤k) (λk hk=>.inr hk) (by kernel_rfl) ?_
      conv=>whnf
      refine⟨by decide,_,shr4 _ hc8,?_⟩
      conv=>whnf
      refine⟨c.toNat/16,dig (c.toNat/16),rfl,dig_at (by omega),?_⟩
      conv=>whnf
      refine⟨rfl,_,and15 _ hc8,?_⟩
      conv=>whnf
      refine⟨c.toNat%16,dig (c.toNat%16),rfl,dig_at (by omega),?_⟩
      conv=>whnf
      refine⟨rfl,?_⟩
      intro H4 q f4 _
      have hq4:Own H4 0 5 1 (.slice (some ⟨q,0,none⟩) 3 3) 3 (bytesV [37,dig (c.toNat/16),dig (c.toNat%16)]):=Own.new f4.at rfl (Qk _) (by decide)
      have hqs:=f4.size
      conv=>whnf
      refine .t (s_wB (hB.q f4.e) hq4 (by omega) (by decide) (λk hk e=>by cases hk;have:=(hB.row.ge q e).2;omega)) (λk hk=>.inl (by have:=hgS k hk;exact this.elim (λe=>e.elim) id)) ?_
      rintro _ H5 ⟨⟨n5,rfl⟩,v5,hB5,hn5⟩ e5 _
      refine go ?_
      exact⟨(i+1,l,acc++[37,dig (c.toNat/16),dig (c.toNat%16)],v5),⟨rfl,trivial⟩,⟨by simp at hi⊢;omega,hd',ht,by show(acc++[37,dig (c.toNat/16),dig (c.toNat%16)]).length≤3*(i+1);simp;omega,hB5,λe=>(hn5 r e).elim hvr λe=>by have:=f4.e.1;omega,e5.blkT (f4.e.blk hr3) hbr⟩,by show l.length<l.length+1;omega⟩
    ·have hq1:quo1 c=[37,dig (c.toNat/16),dig (c.toNat%16)]:=by unfold quo1;rw[if_neg (λe=>h7 (QK.2 e.2.1))]
     rw[hq1] at ht
     conv=>whnf
     refine .t (λk=>H.size≤k) (λk hk=>.inr hk) (by kernel_rfl) ?_
     conv=>whnf
     refine⟨by decide,_,shr4 _ hc8,?_⟩
     conv=>whnf
     refine⟨c.toNat/16,dig (c.toNat/16),rfl,dig_at (by omega),?_⟩
     conv=>whnf
     refine⟨rfl,_,and15 _ hc8,?_⟩
     conv=>whnf
     refine⟨c.toNat%16,dig (c.toNat%16),rfl,dig_at (by omega),?_⟩
     conv=>whnf
     refine⟨rfl,?_⟩
     intro H4 q f4 _
     have hq4:Own H4 0 5 1 (.slice (some ⟨q,0,none⟩) 3 3) 3 (bytesV [37,dig (c.toNat/16),dig (c.toNat%16)]):=Own.new f4.at rfl (Qk _) (by decide)
     have hqs:=f4.size
     conv=>whnf
     refine .t (s_wB (hB.q f4.e) hq4 (by omega) (by decide) (λk hk e=>by cases hk;have:=(hB.row.ge q e).2;omega)) (λk hk=>.inl (by have:=hgS k hk;exact this.elim (λe=>e.elim) id)) ?_
     rintro _ H5 ⟨⟨n5,rfl⟩,v5,hB5,hn5⟩ e5 _
     refine go ?_
     exact⟨(i+1,l,acc++[37,dig (c.toNat/16),dig (c.toNat%16)],v5),⟨rfl,trivial⟩,⟨by simp at hi⊢;omega,hd',ht,by show(acc++[37,dig (c.toNat/16),dig (c.toNat%16)]).length≤3*(i+1);simp;omega,hB5,λe=>(hn5 r e).elim hvr λe=>by have:=f4.e.1;omega,e5.blkT (f4.e.blk hr3) hbr⟩,by show l.length<l.length+1;omega⟩
   ·have hq1:quo1 c=[37,dig (c.toNat/16),dig (c.toNat%16)]:=by unfold quo1;rw[if_neg (λe=>h6 (QK.2 e.1))]
    rw[hq1] at ht
    conv=>whnf
    refine .t (λk=>H.size≤k) (λk hk=>.inr hk) (by kernel_rfl) ?_
    conv=>whnf
    refine⟨by decide,_,shr4 _ hc8,?_⟩
    conv=>whnf
    refine⟨c.toNat/16,dig (c.toNat/16),rfl,dig_at (by omega),?_⟩
    conv=>whnf
    refine⟨rfl,_,and15 _ hc8,?_⟩
    conv=>whnf
    refine⟨c.toNat%16,dig (c.toNat%16),rfl,dig_at (by omega),?_⟩
    conv=>whnf
    refine⟨rfl,?_⟩
    intro H4 q f4 _
    have hq4:Own H4 0 5 1 (.slice (some ⟨q,0,none⟩) 3 3) 3 (bytesV [37,dig (c.toNat/16),dig (c.toNat%16)]):=Own.new f4.at rfl (Qk _) (by decide)
    have hqs:=f4.size
    conv=>whnf
    refine .t (s_wB (hB.q f4.e) hq4 (by omega) (by decide) (λk hk e=>by cases hk;have:=(hB.row.ge q e).2;omega)) (λk hk=>.inl (by have:=hgS k hk;exact this.elim (λe=>e.elim) id)) ?_
    rintro _ H5 ⟨⟨n5,rfl⟩,v5,hB5,hn5⟩ e5 _
    refine go ?_
    exact⟨(i+1,l,acc++[37,dig (c.toNat/16),dig (c.toNat%16)],v5),⟨rfl,trivial⟩,⟨by simp at hi⊢;omega,hd',ht,by show(acc++[37,dig (c.toNat/16),dig (c.toNat%16)]).length≤3*(i+1);simp;omega,hB5,λe=>(hn5 r e).elim hvr λe=>by have:=f4.e.1;omega,e5.blkT (f4.e.blk hr3) hbr⟩,by show l.length<l.length+1;omega⟩
 ·have hl0:l=[]:=Qm (by have:¬(i:Int)<((S s).size:Int):=h5;rw[S_size] at this;omega)
  subst hl0
  have ht':acc=tot:=by simpa [quoB] using ht
  conv=>whnf
  refine .t (s_bstr hB.bld) (λk hk=>.inr (by have:=hk.1;show H.size≤k;omega)) ?_
  rintro _ H4 ⟨rfl,_⟩ _ _
  exact⟨by show Value.string (S acc)=_;rw[ht']⟩
attribute [irreducible] quoteV
end Go.Proofs.YtjambljmnifknaaGreatDoor.Vc
