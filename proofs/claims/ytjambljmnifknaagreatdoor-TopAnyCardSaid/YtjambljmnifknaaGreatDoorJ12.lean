/- Part 12 of the proof of TopAny: mat: rows of rows · mat.Pick, mat.Invert · mat.Invert. -/
import Derived.Test.YtjambljmnifknaaGreatDoorJ11
import Derived.Laws.Append
set_option maxRecDepth 100000
set_option maxHeartbeats 80000000
set_option linter.all false
open Go.Proofs.Tryz
namespace Go.Proofs.YtjambljmnifknaaGreatDoor.Vc
open Go Go.RowKit Tp
theorem Own.new{H:Heap}{base g n sz:Nat}{e:TypeId}{cs:List Value}(h:H[g]? =some (.cells cs.toArray e (0,0)))(hl:cs.length=n*sz)(hb:base≤g)(hn:n≤140737488355328):Own H base e sz (.slice (some ⟨g,0,none⟩) n n) n cs:=
 ⟨hl,.inr ⟨g,n,cs.toArray,rfl,hb,h,Qd _,by unfold maxLen;omega,by simp[hl],by rw[←hl];simp⟩⟩
theorem Frm.upd{H H1 H2:Heap}{b:Nat}{o:Obj}(h:Frm nob H H1)(u:Upd H1 H2 b o)(hb:H.size≤b):Frm nob H H2:=
 ⟨by rw[u.2.1];exact h.1,λk hk _=>(u.2.2 k (by omega)).trans (h.2 k hk id)⟩
def hd(l:List By):By:=l.headD []
def mMay(l:List By):Prop:=(1≤l.length∧l.length≤255)∧(1≤(hd l).length∧(hd l).length≤255)∧∀r∈l,r.length=(hd l).length
instance (l:List By):Decidable (mMay l):=by unfold mMay;exact inferInstance
theorem s_mmay(l:List By){v:Value}{H:Heap}(hv:Rd H v (strV l))(hn:l.length≤1000000):Spec prog 320 #[v] H nob λu _=>u=.bool (decide (mMay l)):=by
 obtain⟨al,cl,rfl,hw⟩:=hv.strs
 clear hv
 cases l with
 |nil=>
  have hd:decide (mMay [])=false:=by decide
  rw[hd]
  refine spx func320 ?_
  conv=>whnf
  refine⟨rfl,λ_=>?_,λh=>absurd (by show(0:Int)<1;decide) h⟩
  exact⟨rfl⟩
 |cons r0 r=>
  obtain⟨b,o,rfl,h0⟩:=hw 0 r0 rfl
  have hlv:∀i s,(r0::r)[i]? =some s→cel H ⟨b,o+i,none⟩=some (.string (S s)):=λi s hi=>by
   obtain⟨b',o',e1,e2⟩:=hw i s hi
   cases e1
   exact e2
  clear hw
  have hnz:0<(r0::r).length:=by simp
  have hhd:hd (r0::r)=r0:=rfl
  have hS:=S_size r0
  generalize r0::r=l at*
  have hno:∀{x:Prop},(mMay l→x)→(¬x)→decide (mMay l)=false:=λh1 h2=>QM λh=>h2 (h1 h)
  have hyes:mMay l→decide (mMay l)=true:=λh=>QO h
  have hm:mMay l↔((1≤l.length∧l.length≤255)∧(1≤r0.length∧r0.length≤255)∧∀r∈l,r.length=r0.length):=by unfold mMay;rw[hhd]
  generalize decide (mMay l)=dd at*
  refine spx func320 ?_
  conv=>whnf
  refine⟨rfl,λh=>absurd h (by show ¬((l.length:Int)<1);omega),λ_=>?_⟩
  conv=>whnf
  refine⟨rfl,λh1=>?_,λh1=>?_⟩
  ·exact⟨Qf Value.bool (hno (λh=>(hm.1 h).1.2) (by have:(255:Int)<(l.length:Int):=h1;omega)).symm⟩
  conv=>whnf
  refine⟨0,rfl,hnz,?_⟩
  conv=>whnf
  refine⟨_,h0,?_⟩
  conv=>whnf
  refine⟨rfl,λh2=>?_,λh2=>?_⟩
  ·exact⟨Qf Value.bool (hno (λh=>(hm.1 h).2.1.1) (by have:((S r0).size:Int)<1:=h2;omega)).symm⟩
  conv=>whnf
  refine⟨0,rfl,hnz,?_⟩
  conv=>whnf
  refine⟨_,h0,?_⟩
  conv=>whnf
  refine⟨rfl,λh3=>?_,λh3=>?_⟩
  ·exact⟨Qf Value.bool (hno (λh=>(hm.1 h).2.1.2) (by have:(255:Int)<((S r0).size:Int):=h3;omega)).symm⟩
  conv=>whnf
  refine⟨Nat,λi=>[(29,.int .i64 (i:Int))],λi H'=>i≤l.length∧(∀j s,j<i→l[j]? =some s→s.length=r0.length)∧Frm nob H H',λi=>l.length-i,⟨0,⟨rfl,trivial⟩,Qk _,λj s hj=>absurd hj (by omega),Frm.refl _ _⟩,?_⟩
  rintro i H2 junk ⟨hi,hlen,hF⟩ F
  conv=>whnf
  refine⟨rfl,λh=>?_,λh=>?_⟩
  ·have h':i<l.length:=by have:(i:Int)<(l.length:Int):=h;omega
   have hx:l[i]? =some (l.getD i []):=by simp[h']
   conv=>whnf
   refine⟨i,rfl,h',?_⟩
   conv=>whnf
   refine⟨_,hF.cel (hlv i _ hx),?_⟩
   conv=>whnf
   refine⟨0,rfl,hnz,?_⟩
   conv=>whnf
   refine⟨_,hF.cel h0,?_⟩
   conv=>whnf
   refine⟨rfl,λh4=>?_,λh4=>?_⟩
   ·exact⟨Qf Value.bool (hno (λh=>(hm.1 h).2.2 _ (Qj hx)) (by have:¬((S (l.getD i [])).size:Int)=((S r0).size:Int):=h4;rw[S_size] at this;omega)).symm⟩
   ·have h4':(l.getD i []).length=r0.length:=by have:((S (l.getD i [])).size:Int)=((S r0).size:Int):=h4;rw[S_size] at this;omega
    conv=>whnf
    refine⟨rfl,((i+1:Nat):Int),wr64 (by omega) (by omega),?_⟩
    exact⟨i+1,⟨rfl,trivial⟩,⟨h',λj s hj hs=>by rcases YS.1 hj with h|h;exact hlen j s h hs;subst h;rw[hx] at hs;exact QS hs▸h4',hF⟩,by show l.length-(i+1)<l.length-i;omega⟩
  ·have hok:mMay l:=hm.2 ⟨⟨by omega,by have:¬(255:Int)<(l.length:Int):=h1;omega⟩,⟨by have:¬((S r0).size:Int)<1:=h2;omega,by have:¬(255:Int)<((S r0).size:Int):=h3;omega⟩,λx hx=>by
    obtain⟨j,hj,rfl⟩:=Zh hx
    exact hlen j _ (by have:¬(i:Int)<(l.length:Int):=h;omega) (by simp[hj])⟩
   exact⟨Qf Value.bool (hyes hok).symm⟩
structure RowR where
 blk:Nat
 cap:Nat
 dat:By
def rowV(p:RowR):Value:=.slice (some ⟨p.blk,0,none⟩) p.dat.length p.cap
def RowAt(H:Heap)(p:RowR):Prop:=∃tl:List Value,H[p.blk]? =some (.cells (bytesV p.dat++tl).toArray 5 (0,0))∧p.dat.length≤p.cap
structure Mat(H:Heap)(b:Nat)(M:List RowR):Prop where
 top:H[b]? =some (.cells (M.map rowV).toArray 192 (0,0))
 row:∀p∈M,RowAt H p
 nd:(M.map RowR.blk).Nodup
theorem RowAt.cells{H:Heap}{p:RowR}(h:RowAt H p):CellsAt H p.blk 0 (bytesV p.dat):=by
 obtain⟨tl,h,_⟩:=h
 exact(CellsAt.app.1 (CellsAt.at h)).1
theorem RowAt.frm{T:Nat→Prop}{H H':Heap}{p:RowR}(h:RowAt H p)(hF:Frm T H H')(hT:¬T p.blk):RowAt H' p:=by
 obtain⟨tl,h,hc⟩:=h
 exact⟨tl,hF.blkT h hT,hc⟩
theorem Mat.q{H H':Heap}{b:Nat}{M:List RowR}(h:Mat H b M)(hF:Frm nob H H'):Mat H' b M:=⟨hF.blk h.top,λp hp=>(h.row p hp).frm hF id,h.nd⟩
theorem Mat.cell{H:Heap}{b i:Nat}{M:List RowR}{p:RowR}(h:Mat H b M)(hp:M[i]? =some p):cel H ⟨b,0+i,none⟩=some (rowV p):=cel_of h.top (by rw[Qr,Qq,Qp,hp];rfl)
theorem bytesV_get{s:By}{j:Nat}(h:j<s.length):(bytesV s)[j]? =some (byteV (s.getD j 0)):=by simp[bytesV,h]
def dats(M:List RowR):List By:=M.map RowR.dat
def unitR(n i:Nat):By:=(List.range n).map λj=>if j=i then 1 else 0
def unitL(n:Nat):List By:=(List.range n).map (unitR n)
theorem fill_set{α:Type}(xs:List α)(m:Nat)(z v:α):(xs++List.replicate (m+1) z).set xs.length v=xs++[v]++List.replicate m z:=by
 rw[List.set_append_right _ _ (Qd _)]
 simp[QP]
theorem zerosL_one(n:Nat)(z:Value):zerosL n [z]=List.replicate n z:=by
 unfold zerosL
 induction n with
 |zero=>rfl
 |succ n ih=>rw[QP,Ze,ih];rfl
theorem s_unit(n:Nat)(hn:n≤255)(H:Heap):Spec prog 292 #[.int .i64 (n:Int)] H nob λu H'=>∃b M,u=.slice (some ⟨b,0,none⟩) n n∧Mat H' b M∧dats M=unitL n∧H.size≤b∧∀p∈M,H.size≤p.blk:=by
 refine spx func292 ?_
 conv=>whnf
 refine⟨n,n,rfl,rfl,Qd _,by omega,by show 24*n≤_;omega,rfl,?_⟩
 intro H1 b f1 _
 have hbs:b=H.size:=f1.size.2
 have hb1:H1[b]? =some (.cells (([]:List RowR).map rowV++List.replicate n (Value.slice none 0 0)).toArray 192 (0,0)):=by
  have:=f1.at
  rw[show zerosL n (Value.slice none 0 0).cells.toList=List.replicate n (Value.slice none 0 0) from zerosL_one n _] at this
  exact this
 conv=>whnf
 refine⟨Nat×List RowR,λx=>[(9,.int .i64 (x.1:Int))],λx H'=>x.1≤n∧x.2.length=x.1∧H'[b]? =some (.cells (x.2.map rowV++List.replicate (n-x.1) (Value.slice none 0 0)).toArray 192 (0,0))∧(∀p∈x.2,RowAt H' p∧H.size<p.blk∧p.blk<H'.size)∧(x.2.map RowR.blk).Nodup∧dats x.2=(List.range x.1).map (unitR n)∧Frm nob H H',λx=>n-x.1,
  ⟨(0,[]),⟨rfl,trivial⟩,Qk _,rfl,hb1,λp hp=>(by cases hp),List.nodup_nil,rfl,f1.e⟩,?_⟩
 rintro⟨i,M⟩ H2 junk ⟨hi,hMl,hb2,hM,hnd,hda,hF⟩ F
 dsimp only at hi hMl hb2 hM hnd hda
 conv=>whnf
 refine⟨rfl,λh=>?_,λh=>?_⟩
 ·have h':i<n:=by have:(i:Int)<(n:Int):=h;omega
  conv=>whnf
  refine⟨n,n,rfl,rfl,Qd _,by omega,by show 1*n≤_;omega,rfl,?_⟩
  intro H3 r f3 _
  have hr3:H3[r]? =some (.cells (List.replicate n (Value.int .u8 0)).toArray 5 (0,0)):=by
   have:=f3.at
   rw[show zerosL n (Value.int .u8 0).cells.toList=List.replicate n (Value.int .u8 0) from zerosL_one n _] at this
   exact this
  have hrs:=f3.size
  have hblt:b<H2.size:=(Qa.1 hb2).1
  conv=>whnf
  refine⟨i,rfl,h',?_⟩
  conv=>whnf
  refine .one (v:=.slice (some ⟨r,0,none⟩) n n) i (f3.e.blk hb2) (.inr (by show H.size≤b;omega)) (Qr i) rfl rfl (by simp[hMl];omega) ?_
  intro H4 u4 _
  have hr4:=(u4.2.2 r (by omega)).trans hr3
  rw[show n-i=(n-(i+1))+1 by omega,show i=(M.map rowV).length by simp[hMl],fill_set,Qv,hMl] at u4
  have hci:cel H4 ⟨b,0+i,none⟩=some (.slice (some ⟨r,0,none⟩) n n):=cel_of u4.1 (by
   rw[Qr,Qq,Qt,Zu (by simp[hMl])]
   simp[hMl])
  conv=>whnf
  refine⟨i,rfl,h',?_⟩
  conv=>whnf
  refine⟨_,hci,?_⟩
  conv=>whnf
  refine⟨i,rfl,h',?_⟩
  conv=>whnf
  refine .one (v:=.int .u8 1) i hr4 (.inr (by show H.size≤r;omega)) (Qr i) rfl rfl (by simp;omega) ?_
  intro H5 u5 _
  conv=>whnf
  refine⟨rfl,((i+1:Nat):Int),wr64 (by omega) (by omega),?_⟩
  have hrow:(List.replicate n (Value.int .u8 0)).set i (.int .u8 1)=bytesV (unitR n i):=by
   refine QQ λj=>?_
   unfold bytesV unitR
   rw[ZF,ZB,Qp,Zk]
   by_cases hj:j<n
   ·rw[ZR hj]
    by_cases e:i=j
    ·subst e;simp[hj,byteV]
    ·simp[e,Yu e,hj,byteV]
   ·rw[Qx (l:=List.range n) (by simp;omega)]
    simp[hj];omega
  rw[hrow] at u5
  have hul:(unitR n i).length=n:=by simp[unitR]
  have h23:=f3.e.1
  have h34:H4.size=H3.size:=u4.2.1
  have h45:H5.size=H4.size:=u5.2.1
  refine⟨(i+1,M++[⟨r,n,unitR n i⟩]),⟨rfl,trivial⟩,⟨h',by simp[hMl],?_,?_,?_,?_,?_⟩,by show n-(i+1)<n-i;omega⟩
  ·rw[u5.2.2 b (by omega),u4.1]
   simp only[Qy,QX,YG,rowV,hul]
  ·intro p hp
   rcases Qz.1 hp with h|h
   ·obtain⟨q1,q2,q3⟩:=hM p h
    exact⟨((q1.frm f3.e id).frm u4.e (by show ¬p.blk=b;omega)).frm u5.e (by show ¬p.blk=r;omega),q2,by omega⟩
   ·simp at h
    subst h
    exact⟨⟨[],by rw[QT];exact u5.1,by rw[hul];exact Qd _⟩,by show H.size<r;omega,by show r<H5.size;omega⟩
  ·rw[Qy,List.nodup_append]
   refine⟨hnd,by simp,λx hx y hy=>?_⟩
   simp at hx hy
   obtain⟨p,hp,rfl⟩:=hx
   have:=(hM p hp).2.2
   subst hy
   omega
  ·unfold dats at hda⊢
   rw[Qy,hda,ZC,Qy]
   rfl
  ·exact((hF.trans f3.e).upd u4 (by omega)).upd u5 (by omega)
 ·have hn':i=n:=by have:¬(i:Int)<(n:Int):=h;omega
  subst hn'
  refine⟨b,M,rfl,⟨?_,λp hp=>(hM p hp).1,hnd⟩,hda,by omega,λp hp=>Yn (hM p hp).2.1⟩
  rw[ZA,Jd,QT] at hb2
  exact hb2
theorem Mat.getD{H:Heap}{b i:Nat}{M:List RowR}(h:Mat H b M)(hi:i<M.length):∃p,M[i]? =some p∧RowAt H p∧(dats M).getD i []=p.dat∧cel H ⟨b,0+i,none⟩=some (rowV p):=by
 have hp:M[i]? =some M[i]:=by simp[hi]
 exact⟨M[i],hp,h.row _ (ZU hi),by simp[dats,hi],h.cell hp⟩
theorem s_texts{b cap:Nat}{M:List RowR}{H:Heap}(hM:Mat H b M)(hn:M.length≤1000000):Spec prog 291 #[.slice (some ⟨b,0,none⟩) M.length cap] H nob λu H'=>Own H' H.size 9 1 u M.length (strV (dats M)):=by
 obtain⟨f,hf⟩:∃f:Nat→Value,∀j,f j=.string (S ((dats M).getD j [])):=⟨_,λ_=>rfl⟩
 refine spx func291 ?_
 conv=>whnf
 refine⟨M.length,M.length,rfl,rfl,Qd _,by omega,by show 16*M.length≤_;omega,rfl,?_⟩
 intro H1 g f1 _
 have hgs:g=H.size:=f1.size.2
 have hg1:H1[g]? =some (.cells (mixL M.length 0 f (λ_=>.string (S []))).toArray 9 (0,0)):=by rw[mixL_zero];exact f1.at
 conv=>whnf
 refine⟨Nat,λi=>[(11,.int .i64 (i:Int))],λi H'=>i≤M.length∧H'[g]? =some (.cells (mixL M.length i f (λ_=>.string (S []))).toArray 9 (0,0))∧Frm nob H H',λi=>M.length-i,
  ⟨0,⟨rfl,trivial⟩,Qk _,hg1,f1.e⟩,?_⟩
 rintro i H2 junk ⟨hi,hg2,hF⟩ F
 conv=>whnf
 refine⟨rfl,λh=>?_,λh=>?_⟩
 ·have h':i<M.length:=by have:(i:Int)<(M.length:Int):=h;omega
  have hM2:=hM.q hF
  refine Qh (hM2.getD h') λp hp=>?_
  have hfi:=(hf i).trans (Qf (λx=>Value.string (S x)) hp.2.2.1)
  conv=>whnf
  refine⟨i,rfl,h',?_⟩
  conv=>whnf
  refine⟨_,hp.2.2.2,?_⟩
  conv=>whnf
  refine⟨p.dat,rfl,hp.2.1.cells,?_⟩
  conv=>whnf
  refine⟨i,rfl,h',?_⟩
  conv=>whnf
  refine .one (v:=.string (S p.dat)) i hg2 (.inr (by show H.size≤g;omega)) (Qr i) rfl rfl (by rw[mixL_len];exact h') ?_
  intro H4 u4 _
  rw[mixL_set h' hfi.symm] at u4
  conv=>whnf
  refine⟨rfl,((i+1:Nat):Int),wr64 (by omega) (by omega),?_⟩
  exact⟨i+1,⟨rfl,trivial⟩,⟨h',u4.1,hF.upd u4 (by omega)⟩,by show M.length-(i+1)<M.length-i;omega⟩
 ·have hn':i=M.length:=by have:¬(i:Int)<(M.length:Int):=h;omega
  subst hn'
  have hfin:mixL M.length M.length f (λ_=>.string (S []))=strV (dats M):=mixL_all (by simp[strV,dats]) (λj v hv=>by
   rw[hf]
   have hj:=(Qe.1 hv).1
   simp[strV,dats] at hj
   simp[strV,dats,hj] at hv⊢
   exact hv.symm)
  rw[hfin] at hg2
  exact⟨Own.new hg2 (by simp[strV,dats]) (by omega) (by omega)⟩
theorem s_ident(n:Int)(hn:n≤9223372036854775807)(H:Heap):Spec prog 244 #[.int .i64 n] H nob λu H'=>∃v,u=.tuple #[v,.int .i64 (if 1≤n∧n≤255 then 0 else 1)]∧Own H' H.size 9 1 v (if 1≤n∧n≤255 then n.toNat else 0) (strV (if 1≤n∧n≤255 then unitL n.toNat else [])):=by
 by_cases h:1≤n∧n≤255
 ·rw[if_pos h,if_pos h,if_pos h]
  obtain⟨n,rfl⟩:=QW (by omega:0≤n)
  refine spx func244 ?_
  conv=>whnf
  refine⟨rfl,λh=>absurd h (by omega),λ_=>?_⟩
  conv=>whnf
  refine⟨rfl,λh=>absurd h (by omega),λ_=>?_⟩
  conv=>whnf
  refine .q (s_unit n (by omega) _) ?_
  rintro _ H1 ⟨b,M,rfl,hM,hd,hb,_⟩ e1 _
  have hl:M.length=n:=by have:=Qf List.length hd;simpa [dats,unitL] using this
  have ht:=s_texts (cap:=n) hM (by omega)
  rw[hl] at ht
  conv=>whnf
  refine .q (ht) ?_
  rintro v H2 ho e2 _
  refine⟨v,rfl,?_⟩
  rw[hd] at ho
  have hbase:∀{w n xs},Own H2 H1.size 9 1 w n xs→Own H2 H.size 9 1 w n xs:=λ{w n xs} ho=>⟨ho.1,ho.2.elim .inl λ⟨g,cap,cur,h1,h2,h3⟩=>.inr ⟨g,cap,cur,h1,Qb e1.1 h2,h3⟩⟩
  exact hbase ho
 ·rw[if_neg h,if_neg h,if_neg h]
  refine spx func244 ?_
  conv=>whnf
  refine⟨rfl,λh1=>?_,λh1=>?_⟩
  ·exact⟨_,rfl,Own.nil _ _ _ _⟩
  conv=>whnf
  refine⟨rfl,λh2=>?_,λh2=>absurd (by omega) h⟩
  exact⟨_,rfl,Own.nil _ _ _ _⟩
theorem s_scale(p:RowR)(c:UInt8){H:Heap}{tl:List Value}(hp:H[p.blk]? =some (.cells (bytesV p.dat++tl).toArray 5 (0,0)))(hl:p.dat.length≤1000000):
  Spec prog 321 #[rowV p,byteV c] H (λk=>k=p.blk) λu H'=>u=.tuple #[]∧H'[p.blk]? =some (.cells (bytesV (vscale p.dat c)++tl).toArray 5 (0,0)):=by
 obtain⟨g,cap,s⟩:=p
 dsimp only at hp hl⊢
 obtain⟨f,hf⟩:∃f:Nat→Value,∀j,f j=byteV (gmul (s.getD j 0) c):=⟨_,λ_=>rfl⟩
 obtain⟨g0,hg0⟩:∃f:Nat→Value,∀j,f j=byteV (s.getD j 0):=⟨_,λ_=>rfl⟩
 have hfin:mixL s.length s.length f g0=bytesV (vscale s c):=mixL_all (by simp[bytesV,vscale_len]) (λj v hv=>by
  rw[hf]
  have hj:=(Qe.1 hv).1
  simp[bytesV,vscale_len] at hj
  simp[bytesV,vscale,hj] at hv⊢
  exact hv.symm)
 have h0:mixL s.length 0 f g0=bytesV s:=by
  refine QQ λj=>?_
  by_cases hj:j<s.length
  ·rw[mixL_get hj,if_neg (by omega),bytesV_get hj,hg0]
  ·rw[Qx (by rw[mixL_len];omega),Qx (by simp[bytesV];omega)]
 rw[←h0] at hp
 rw[←hfin]
 clear hfin h0
 refine spx func321 ?_
 conv=>whnf
 refine⟨Nat,λi=>[(8,.int .i64 (i:Int))],λi H'=>i≤s.length∧H'[g]? =some (.cells (mixL s.length i f g0++tl).toArray 5 (0,0)),λi=>s.length-i,
  ⟨0,⟨rfl,trivial⟩,Qk _,hp⟩,?_⟩
 rintro i H2 junk ⟨hi,hg2⟩ F
 conv=>whnf
 refine⟨rfl,λh=>?_,λh=>?_⟩
 ·have h':i<s.length:=by have:(i:Int)<(s.length:Int):=h;omega
  have hci:cel H2 ⟨g,0+i,none⟩=some (byteV (s.getD i 0)):=cel_of hg2 (by
   rw[Qr,Qq,QG (by rw[mixL_len];exact h'),mixL_get h',if_neg (Nat.lt_irrefl i),hg0])
  conv=>whnf
  refine⟨i,rfl,h',?_⟩
  conv=>whnf
  refine⟨_,hci,?_⟩
  conv=>whnf
  refine .q (s_mul (s.getD i 0) c _) ?_
  rintro _ _ ⟨rfl,rfl⟩ e3 _
  conv=>whnf
  refine⟨i,rfl,h',?_⟩
  conv=>whnf
  refine .one (v:=byteV (gmul (s.getD i 0) c)) i hg2 (.inl rfl) (Qr i) rfl rfl (by rw[Qi,mixL_len];omega) ?_
  intro H4 u4 _
  rw[Ja _ _ (by rw[mixL_len];exact h'),mixL_set h' (hf i).symm] at u4
  conv=>whnf
  refine⟨rfl,((i+1:Nat):Int),wr64 (by omega) (by omega),?_⟩
  exact⟨i+1,⟨rfl,trivial⟩,⟨h',u4.1⟩,by show s.length-(i+1)<s.length-i;omega⟩
 ·have hn':i=s.length:=by have:¬(i:Int)<(s.length:Int):=h;omega
  subst hn'
  exact⟨rfl,hg2⟩
def addV(a b:By)(c:UInt8):By:=List.zipWith (λr x=>r^^^gmul x c) a b
theorem s_add(p q:RowR)(c:UInt8){H:Heap}{tl tq:List Value}(hp:H[p.blk]? =some (.cells (bytesV p.dat++tl).toArray 5 (0,0)))(hq:H[q.blk]? =some (.cells (bytesV q.dat++tq).toArray 5 (0,0)))(hne:p.blk≠q.blk)(hl:p.dat.length≤1000000)(hlq:q.dat.length=p.dat.length):
  Spec prog 322 #[rowV p,rowV q,byteV c] H (λk=>k=p.blk) λu H'=>u=.tuple #[]∧H'[p.blk]? =some (.cells (bytesV (addV p.dat q.dat c)++tl).toArray 5 (0,0)):=by
 obtain⟨g,cap,s⟩:=p
 obtain⟨gq,capq,t⟩:=q
 dsimp only at hp hl hq hne hlq⊢
 obtain⟨f,hf⟩:∃f:Nat→Value,∀j,f j=byteV (s.getD j 0^^^gmul (t.getD j 0) c):=⟨_,λ_=>rfl⟩
 obtain⟨g0,hg0⟩:∃f:Nat→Value,∀j,f j=byteV (s.getD j 0):=⟨_,λ_=>rfl⟩
 have hfin:mixL s.length s.length f g0=bytesV (addV s t c):=mixL_all (by simp[bytesV,addV,hlq]) (λj v hv=>by
  rw[hf]
  have hj:=(Qe.1 hv).1
  simp[bytesV,addV,hlq] at hj
  have e1:s[j]? =some (s.getD j 0):=by simp[hj]
  have e2:t[j]? =some (t.getD j 0):=by simp[show j<t.length by omega]
  simp only[bytesV,addV,Qp,Za,e1,e2] at hv
  exact(QS hv).symm)
 have h0:mixL s.length 0 f g0=bytesV s:=by
  refine QQ λj=>?_
  by_cases hj:j<s.length
  ·rw[mixL_get hj,if_neg (by omega),bytesV_get hj,hg0]
  ·rw[Qx (by rw[mixL_len];omega),Qx (by simp[bytesV];omega)]
 rw[←h0] at hp
 rw[←hfin]
 clear hfin h0
 have hqc:∀{X:Heap} {i:Nat},X[gq]? =some (.cells (bytesV t++tq).toArray 5 (0,0))→i<t.length→cel X ⟨gq,0+i,none⟩=some (byteV (t.getD i 0)):=λ{X i} hX hi=>cel_of hX (by
  rw[Qr,Qq,QG (by simp[bytesV,hi]),bytesV_get hi])
 refine spx func322 ?_
 conv=>whnf
 refine⟨Nat,λi=>[(10,.int .i64 (i:Int))],λi H'=>i≤s.length∧H'[g]? =some (.cells (mixL s.length i f g0++tl).toArray 5 (0,0))∧H'[gq]? =some (.cells (bytesV t++tq).toArray 5 (0,0)),λi=>s.length-i,
  ⟨0,⟨rfl,trivial⟩,Qk _,hp,hq⟩,?_⟩
 rintro i H2 junk ⟨hi,hg2,hq2⟩ F
 conv=>whnf
 refine⟨rfl,λh=>?_,λh=>?_⟩
 ·have h':i<s.length:=by have:(i:Int)<(t.length:Int):=h;omega
  have hci:cel H2 ⟨g,0+i,none⟩=some (byteV (s.getD i 0)):=cel_of hg2 (by
   rw[Qr,Qq,QG (by rw[mixL_len];exact h'),mixL_get h',if_neg (Nat.lt_irrefl i),hg0])
  conv=>whnf
  refine⟨i,rfl,by show i<t.length;omega,?_⟩
  conv=>whnf
  refine⟨_,hqc (i:=i) hq2 (by omega),?_⟩
  conv=>whnf
  refine .p (λk=>k=g) (.take 0 (.take 1 (.take 2 (.take 3 (.take 4 (.take 6 (.take 7 (.two 5 (.one 8 (.one 9 (.take 10 (.one 11 .done)))) 8 (.one 5 (.one 9 (.take 10 (.one 11 .done)))))))))))) (λk hk=>.inl hk) (by kernel_rfl) ?_
  conv=>whnf
  refine⟨i,rfl,h',?_⟩
  conv=>whnf
  refine⟨?_,?_⟩
  ·conv=>whnf
   refine⟨_,hci,?_⟩
   conv=>whnf
   refine .q (s_mul (t.getD i 0) c _) ?_
   rintro _ _ ⟨rfl,rfl⟩ e3 _
   conv=>whnf
   refine .q (s_gadd (s.getD i 0) _ _) ?_
   rintro _ _ ⟨rfl,rfl⟩ e4 _
   conv=>whnf
   refine⟨i,rfl,h',?_⟩
   conv=>whnf
   refine .one (v:=byteV (s.getD i 0^^^gmul (t.getD i 0) c)) i hg2 (.inl rfl) (Qr i) rfl rfl (by rw[Qi,mixL_len];omega) ?_
   intro H4 u4 _
   rw[Ja _ _ (by rw[mixL_len];exact h'),mixL_set h' (hf i).symm] at u4
   conv=>whnf
   refine⟨rfl,((i+1:Nat):Int),wr64 (by omega) (by omega),?_⟩
   exact⟨i+1,⟨rfl,trivial⟩,⟨h',u4.1,(u4.2.2 gq (Yu hne)).trans hq2⟩,by show s.length-(i+1)<s.length-i;omega⟩
  ·conv=>whnf
   refine .q (s_mul (t.getD i 0) c _) ?_
   rintro _ _ ⟨rfl,rfl⟩ e3 _
   conv=>whnf
   refine⟨_,hci,?_⟩
   conv=>whnf
   refine .q (s_gadd (s.getD i 0) _ _) ?_
   rintro _ _ ⟨rfl,rfl⟩ e4 _
   conv=>whnf
   refine⟨i,rfl,h',?_⟩
   conv=>whnf
   refine .one (v:=byteV (s.getD i 0^^^gmul (t.getD i 0) c)) i hg2 (.inl rfl) (Qr i) rfl rfl (by rw[Qi,mixL_len];omega) ?_
   intro H4 u4 _
   rw[Ja _ _ (by rw[mixL_len];exact h'),mixL_set h' (hf i).symm] at u4
   conv=>whnf
   refine⟨rfl,((i+1:Nat):Int),wr64 (by omega) (by omega),?_⟩
   exact⟨i+1,⟨rfl,trivial⟩,⟨h',u4.1,(u4.2.2 gq (Yu hne)).trans hq2⟩,by show s.length-(i+1)<s.length-i;omega⟩
 ·have hn':i=s.length:=by have:¬(i:Int)<(t.length:Int):=h;omega
  subst hn'
  exact⟨rfl,hg2⟩
theorem Rd.vals{H:Heap}{v:Value}{l:List Value}(h:Rd H v l):∃ad cap,v=.slice ad l.length cap∧∀i x,l[i]? =some x→∃b o,ad=some ⟨b,o,none⟩∧cel H ⟨b,o+i,none⟩=some x:=by
 rcases h with ⟨rfl,rfl⟩|⟨b,o,cap,rfl,_,hc⟩
 ·exact⟨_,_,rfl,λi s hi=>by simp at hi⟩
 ·exact⟨some ⟨b,o,none⟩,cap,rfl,λi s hi=>⟨b,o,rfl,hc.get hi⟩⟩
theorem gD{α:Type}{l:List α}{i:Nat}{d:α}(h:i<l.length):l[i]? =some (l.getD i d):=by simp[h]
def intV(l:List Int):List Value:=l.map (.int .i64)
def pickOk(a:List By)(rows:List Int):Prop:=mMay a∧(rows≠[]∧rows.length≤255)∧∀r∈rows,0≤r∧r<a.length
instance (a:List By)(rows:List Int):Decidable (pickOk a rows):=by unfold pickOk;exact inferInstance
def pickV(a:List By)(rows:List Int):List By×Int:=if pickOk a rows then(rows.map λr=>a.getD r.toNat [],0) else([],1)
theorem s_pick(a:List By)(rows:List Int){av rv:Value}{H:Heap}(hav:Rd H av (strV a))(hrv:Rd H rv (intV rows))(hna:a.length≤1000000)(hnr:rows.length≤1000000):
  Spec prog 298 #[av,rv] H nob λu H'=>∃v,u=.tuple #[v,.int .i64 (pickV a rows).2]∧Own H' H.size 9 1 v (pickV a rows).1.length (strV (pickV a rows).1):=by
 have hmay:=s_mmay a hav hna
 have hrd:pickV a rows=if pickOk a rows then(rows.map λr=>a.getD r.toNat [],0) else([],1):=rfl
 generalize pickV a rows=rd at hrd⊢
 obtain⟨aa,ca,rfl,haw⟩:=hav.strs
 obtain⟨ar,cr,rfl,hrw⟩:=hrv.vals
 clear hav hrv
 have hlr:(intV rows).length=rows.length:=by simp[intV]
 rw[hlr]
 by_cases hm:mMay a
 case neg=>
  rw[QM hm] at hmay
  rw[if_neg (λh=>hm h.1)] at hrd
  subst hrd
  refine spx func298 ?_
  conv=>whnf
  refine .q (hmay) ?_
  rintro _ H1 rfl e1 _
  exact⟨_,rfl,Own.nil _ _ _ _⟩
 rw[QO hm] at hmay
 refine spx func298 ?_
 conv=>whnf
 refine .q (hmay) ?_
 rintro _ H1 rfl e1 _
 conv=>whnf
 refine⟨rfl,λh=>?_,λhnz=>?_⟩
 ·have h0:rows.length=0:=by have:(rows.length:Int)=0:=h;omega
  rw[if_neg (λhk=>hk.2.1.1 (Qm h0))] at hrd
  subst hrd
  exact⟨_,rfl,Own.nil _ _ _ _⟩
 conv=>whnf
 refine⟨rfl,λh1=>?_,λh1=>?_⟩
 ·rw[if_neg (λhk=>by have:=hk.2.1.2;have h1':(255:Int)<(rows.length:Int):=h1;omega)] at hrd
  subst hrd
  exact⟨_,rfl,Own.nil _ _ _ _⟩
 conv=>whnf
 refine⟨Nat×Value,λx=>[(24,.int .i64 (x.1:Int)),(6,x.2)],λx H'=>x.1≤rows.length∧Own H' H.size 9 1 x.2 x.1 (strV ((rows.take x.1).map λr=>a.getD r.toNat []))∧(∀j r,j<x.1→rows[j]? =some r→0≤r∧r<a.length)∧Frm nob H H',λx=>rows.length-x.1,
  ⟨(0,.slice none 0 0),⟨rfl,rfl,trivial⟩,Qk _,Own.nil _ _ _ _,λj r hj=>absurd hj (by show ¬j<0;omega),e1⟩,?_⟩
 rintro⟨i,v⟩ H2 junk ⟨hi,how,hall,hF⟩ F
 dsimp only at hi how hall
 conv=>whnf
 refine⟨rfl,λh=>?_,λh=>?_⟩
 ·have h':i<rows.length:=by have:(i:Int)<(rows.length:Int):=h;omega
  have hx:rows[i]? =some (rows.getD i 0):=by simp[h']
  have hc:=hrw i (.int .i64 (rows.getD i 0)) (by simp only[intV,Qp,hx];rfl)
  refine Qh hc λb hc=>Qh hc λo hc=>?_
  have hc1:=hc.1
  subst hc1
  have hbad:¬(0≤rows.getD i 0∧rows.getD i 0<a.length)→rd=([],1):=λhb=>by
   rw[if_neg (λhk=>hb (hk.2.2 _ (Qj hx)))] at hrd
   exact hrd
  conv=>whnf
  refine⟨i,rfl,h',?_⟩
  conv=>whnf
  refine⟨_,hF.cel hc.2,?_⟩
  conv=>whnf
  refine⟨rfl,λh2=>?_,λh2=>?_⟩
  ·have:=hbad (by omega)
   subst this
   exact⟨_,rfl,Own.nil _ _ _ _⟩
  conv=>whnf
  refine⟨rfl,λh3=>?_,λh3=>?_⟩
  ·have h3':(a.length:Int)≤rows.getD i 0:=h3
   have:=hbad (by omega)
   subst this
   exact⟨_,rfl,Own.nil _ _ _ _⟩
  have h3':¬(a.length:Int)≤rows.getD i 0:=h3
  have hai:a[(rows.getD i 0).toNat]? =some (a.getD (rows.getD i 0).toNat []):=gD (by omega)
  have hca:=haw _ _ hai
  refine Qh hca λba hca=>Qh hca λoa hca=>?_
  have hca1:=hca.1
  subst hca1
  conv=>whnf
  refine⟨(rows.getD i 0).toNat,by omega,by show(rows.getD i 0).toNat<a.length;omega,?_⟩
  conv=>whnf
  refine⟨_,hF.cel hca.2,?_⟩
  conv=>whnf
  refine⟨rfl,?_⟩
  intro H3 r f3 _
  have how3:=how.q f3.e
  have h0:=hF.1
  conv=>whnf
  refine .el [.string (S (a.getD (rows.getD i 0).toNat []))] (by kernel_rfl) how3 (CellsAt.new (cs:=[.string _]) f3) rfl (by simp[oneCell]) (by omega) (by have:=f3.e.1;omega) (λk hk=>.inr (how3.ge k hk).1) ?_
  intro v4 H4 ho4 e4 _
  conv=>whnf
  refine⟨rfl,((i+1:Nat):Int),wr64 (by omega) (by omega),?_⟩
  refine⟨(i+1,v4),⟨rfl,rfl,trivial⟩,⟨h',?_,?_,(hF.trans f3.e).then e4 (λk hk=>.inr (how3.ge k hk).1)⟩,by show rows.length-(i+1)<rows.length-i;omega⟩
  ·dsimp only
   rw[Yr h',Qy]
   unfold strV at ho4⊢
   rw[Qy]
   have hge:rows[i]=rows.getD i 0:=by simp[h']
   simpa [hge] using ho4
  ·intro j r hj hr
   rcases YS.1 hj with h|h
   ·exact hall j r h hr
   ·subst h
    rw[hx] at hr
    have:=QS hr
    omega
 ·have hn':i=rows.length:=by have:¬(i:Int)<(rows.length:Int):=h;omega
  subst hn'
  have h0':rows≠[]:=λe=>by have hh:¬(rows.length:Int)=0:=hnz;rw[e] at hh;exact hh rfl
  have hok:pickOk a rows:=⟨hm,⟨h0',by have:¬(255:Int)<(rows.length:Int):=h1;omega⟩,λr hr=>by
   obtain⟨j,hj,rfl⟩:=Zh hr
   exact hall j _ hj (by simp[hj])⟩
  rw[if_pos hok] at hrd
  subst hrd
  rw[Zx] at how
  exact⟨v,rfl,by rw[Qv];exact how⟩
theorem zeroCells_u8(n:Nat):(Builtin.zeroCells #[Value.int .u8 0] n).toList=List.replicate n (.int .u8 0):=by
 unfold Builtin.zeroCells
 refine QQ λj=>?_
 simp[Zk]
 by_cases h:j<n
 ·simp[h,YP]
 ·simp[h]
theorem raw_apps{c:Ctx}{ρ:Operand→Value}{o:Oper}{H:Heap}{K:KK}{cl:Call}{s:ByteArray}(hP:c.P=prog)(ho:o.op=.call cl)(hc:cl.callee=.builtin .append)(ha:cl.args.toList.map ρ=[.slice none 0 0,.string s])(ht:cl.argTypes.toList=[192,9])(h0:0<s.size)(hs:s.size≤1000000000)(hF:Frm c.S c.H0 H)
  (k:∀cap tl b H',s.size≤cap→Fresh H H' b (.cells (bytesV (L s)++tl).toArray 5 (0,0))→Frm c.S c.H0 H'→K (.slice (some ⟨b,0,none⟩) s.size cap) H'):RawVC c ρ o H K:=by
 refine⟨λw hw=>?_⟩
 have hat:cl.argTypes=#[192,9]:=by apply Zq;rw[ht]
 obtain⟨i,hi,hz⟩:∃i,prog.info? 5=some i∧i.zero=some (.int .u8 0)∧i.bytes=1:=⟨_,rfl,rfl,rfl⟩
 have hr:=run_append_nil_string (P:=prog) (w:=w) 192 9 o.type 5 i (.int .u8 0) underlying192 underlying9 hi hz.1 s h0 (by omega) (by rw[hz.2];omega)
 have hobj:(s.data.map (λb=>Value.int .u8 b.toNat)++Builtin.zeroCells (Value.int .u8 0).cells (grownCap w s.size 0 5-s.size))=(bytesV (L s)++List.replicate (grownCap w s.size 0 5-s.size) (Value.int .u8 0)).toArray:=by
  apply Zq
  rw[ZS]
  show _++(Builtin.zeroCells #[Value.int .u8 0] _).toList=_
  rw[zeroCells_u8]
  simp[bytesV,L]
  intro a _;rfl
 rw[hobj] at hr
 have hfr:Fresh H (w.drew.alloc (.cells (bytesV (L s)++List.replicate (grownCap w s.size 0 5-s.size) (Value.int .u8 0)).toArray 5)).heap w.heap.size (.cells (bytesV (L s)++List.replicate (grownCap w s.size 0 5-s.size) (Value.int .u8 0)).toArray 5 (0,0)):=⟨by rw[hw],by rw[←hw];rfl⟩
 have hF':=hF.trans (hfr.frm _)
 refine⟨_,w.drew.alloc (.cells (bytesV (L s)++List.replicate (grownCap w s.size 0 5-s.size) (Value.int .u8 0)).toArray 5),.inl ?_,⟨rfl,rfl,rfl⟩,hF',k (grownCap w s.size 0 5) _ _ _ (grownCap_ge w s.size 0 5) hfr hF'⟩
 rw[←hP] at hr
 refine builtin_run ho hc w λcs=>?_
 simp only[builtin]
 refine val_run ?_
 rw[hat,ha]
 exact hr
def swapM(L:List By)(r c:Nat):List By:=(L.set r (L.getD c [])).set c (L.getD r [])
structure Tab(H:Heap)(s n b:Nat)(M:List RowR):Prop where
 top:H[b]? =some (.cells (M.map rowV).toArray 192 (0,0))
 row:∀(i:Nat) p,M[i]? =some p→RowAt H p∧s≤p.blk∧p.dat.length=n
 inj:∀(i j:Nat) p q,M[i]? =some p→M[j]? =some q→p.blk=q.blk→i=j
 len:M.length=n
 base:s≤b
def Two(H:Heap)(s n bl br:Nat)(L R:List By):Prop:=∃ML MR,Tab H s n bl ML∧Tab H s n br MR∧dats ML=L∧dats MR=R∧(∀p∈ML,∀q∈MR,p.blk≠q.blk)∧bl≠br
theorem Two.symm{H:Heap}{s n bl br:Nat}{L R:List By}(h:Two H s n bl br L R):Two H s n br bl R L:=by
 obtain⟨ML,MR,h1,h2,h3,h4,h5,h6⟩:=h
 exact⟨MR,ML,h2,h1,h4,h3,λp hp q hq e=>h5 q hq p hp e.symm,h6.symm⟩
theorem Tab.frm{T:Nat→Prop}{H H':Heap}{s n b:Nat}{M:List RowR}(h:Tab H s n b M)(hF:Frm T H H')(hb:¬T b)(hM:∀p∈M,¬T p.blk):Tab H' s n b M:=
 ⟨hF.blkT h.top hb,λi p hp=>⟨(h.row i p hp).1.frm hF (hM p (Qj hp)),(h.row i p hp).2⟩,h.inj,h.len,h.base⟩
theorem Two.len{H:Heap}{s n bl br:Nat}{L R:List By}(h:Two H s n bl br L R):L.length=n∧R.length=n∧s≤bl∧s≤br:=by
 obtain⟨ML,MR,h1,h2,rfl,rfl,h5,h6⟩:=h
 exact⟨by simp[dats,h1.len],by simp[dats,h2.len],h1.base,h2.base⟩
theorem Tab.blk{H:Heap}{s n b i:Nat}{M:List RowR}{p:RowR}(h:Tab H s n b M)(hp:M[i]? =some p){g:Nat}{cs:Array Value}{t:TypeId}(hg:H[g]? =some (.cells cs t (0,0)))(ht:t≠5):g≠p.blk:=by
 rintro rfl
 obtain⟨⟨tl,hx,_⟩,_⟩:=h.row i p hp
 rw[hg] at hx
 simp at hx
 exact ht hx.2
theorem Two.row{H:Heap}{s n bl br:Nat}{L R:List By}(h:Two H s n bl br L R){i:Nat}(hi:i<n):∃(p:RowR) (tl:List Value),cel H ⟨bl,0+i,none⟩=some (rowV p)∧p.dat=L.getD i []∧p.dat.length=n∧s≤p.blk∧H[p.blk]? =some (.cells (bytesV p.dat++tl).toArray 5 (0,0))∧
  (∀H' new,new.length=n→Frm (λk=>k=p.blk) H H'→H'[p.blk]? =some (.cells (bytesV new++tl).toArray 5 (0,0))→Two H' s n bl br (L.set i new) R)∧(∀k q,k≠i→cel H ⟨bl,0+k,none⟩=some (rowV q)→q.blk≠p.blk)∧bl≠p.blk∧br≠p.blk:=by
 obtain⟨ML,MR,h1,h2,rfl,rfl,h5,h6⟩:=h
 have hil:i<ML.length:=by rw[h1.len];exact hi
 have hp:ML[i]? =some ML[i]:=by simp[hil]
 generalize hpe:ML[i]=p at hp
 obtain⟨⟨tl,hx,hcap⟩,hs,hn⟩:=h1.row i p hp
 refine⟨p,tl,cel_of h1.top (by rw[Qr,Qq,Qp,hp];rfl),by simp[dats,hil,hpe],hn,hs,hx,λH' new hnew hF hH'=>?_,λk q hk hc=>?_,h1.blk hp h1.top (by decide),h1.blk hp h2.top (by decide)⟩
 ·have hbl:bl≠p.blk:=h1.blk hp h1.top (by decide)
  have hbr:br≠p.blk:=h1.blk hp h2.top (by decide)
  refine⟨ML.set i ⟨p.blk,p.cap,new⟩,MR,⟨?_,?_,?_,by rw[Zb];exact h1.len,h1.base⟩,h2.frm hF hbr (λq hq e=>h5 p (Qj hp) q hq e.symm),?_,rfl,?_,h6⟩
  ·have:(ML.set i ⟨p.blk,p.cap,new⟩).map rowV=ML.map rowV:=by
    rw[ZO]
    refine QQ λj=>?_
    rw[ZF]
    by_cases e:i=j
    ·subst e
     rw[if_pos rfl,if_pos (by simp[hil]),Qp,hp]
     simp[rowV,hnew,hn]
    ·rw[if_neg e]
   rw[this]
   exact hF.blkT h1.top hbl
  ·intro j q hq
   rw[ZF] at hq
   by_cases e:i=j
   ·subst e
    rw[if_pos rfl,if_pos hil] at hq
    obtain rfl:=QS hq
    exact⟨⟨tl,hH',by show new.length≤p.cap;omega⟩,hs,hnew⟩
   ·rw[if_neg e] at hq
    obtain⟨q1,q2⟩:=h1.row j q hq
    exact⟨q1.frm hF (λe2=>e (h1.inj i j p q hp hq e2.symm)),q2⟩
  ·intro j k q r hq hr hqr
   rw[ZF] at hq hr
   have hx:∀j q,(if i=j then if i<ML.length then some (⟨p.blk,p.cap,new⟩:RowR) else none else ML[j]?)=some q→∃q',ML[j]? =some q'∧q'.blk=q.blk:=λj q h=>by
    by_cases e:i=j
    ·subst e
     rw[if_pos rfl,if_pos hil] at h
     obtain rfl:=QS h
     exact⟨p,hp,rfl⟩
    ·rw[if_neg e] at h
     exact⟨q,h,rfl⟩
   obtain⟨q',a1,a2⟩:=hx j q hq
   obtain⟨r',b1,b2⟩:=hx k r hr
   exact h1.inj j k q' r' a1 b1 (by rw[a2,b2,hqr])
  ·unfold dats
   rw[ZO]
  ·intro x hx y hy
   rcases Zy hx with h|rfl
   ·exact h5 x h y hy
   ·exact h5 p (Qj hp) y hy
 ·intro e
  have:∃q',ML[k]? =some q'∧rowV q'=rowV q:=by
   unfold cel World.cell? mkw at hc
   dsimp only at hc
   rw[h1.top] at hc
   simp at hc
   exact hc
  obtain⟨q',a1,a2⟩:=this
  have:q'.blk=q.blk:=by simp[rowV] at a2;exact a2.1
  exact hk (h1.inj k i q' p a1 hp (by rw[this,e]))
theorem Two.swap{H:Heap}{s n bl br:Nat}{L R:List By}(h:Two H s n bl br L R){i j:Nat}(hi:i<n)(hj:j<n):∃(cs:List Value) (p q:RowR),H[bl]? =some (.cells cs.toArray 192 (0,0))∧cs.length=n∧cel H ⟨bl,0+i,none⟩=some (rowV p)∧cel H ⟨bl,0+j,none⟩=some (rowV q)∧
  (∀H',Frm (λk=>k=bl) H H'→H'[bl]? =some (.cells ((cs.set i (rowV q)).set j (rowV p)).toArray 192 (0,0))→Two H' s n bl br (swapM L i j) R):=by
 obtain⟨ML,MR,h1,h2,rfl,rfl,h5,h6⟩:=h
 have hil:i<ML.length:=by rw[h1.len];exact hi
 have hjl:j<ML.length:=by rw[h1.len];exact hj
 have hp:ML[i]? =some ML[i]:=by simp[hil]
 have hq:ML[j]? =some ML[j]:=by simp[hjl]
 refine⟨ML.map rowV,ML[i],ML[j],h1.top,by simp[h1.len],cel_of h1.top (by rw[Qr,Qq,Qp,hp];rfl),cel_of h1.top (by rw[Qr,Qq,Qp,hq];rfl),λH' hF hH'=>?_⟩
 have hget:∀k,((ML.set i ML[j]).set j ML[i])[k]? =if j=k then ML[i]? else if i=k then ML[j]? else ML[k]? :=λk=>by
  rw[ZF,ZF,Zb,hp,hq]
  by_cases e:j=k
  ·rw[if_pos e,if_pos e,if_pos (by omega)]
  ·rw[if_neg e,if_neg e]
   by_cases e2:i=k
   ·rw[if_pos e2,if_pos e2,if_pos (by omega)]
   ·rw[if_neg e2,if_neg e2]
 have hpl:∀k,∃k',((ML.set i ML[j]).set j ML[i])[k]? =ML[k']? ∧(k'=if j=k then i else if i=k then j else k):=λk=>by
  refine⟨_,?_,rfl⟩
  rw[hget]
  by_cases e:j=k
  ·rw[if_pos e,if_pos e]
  ·rw[if_neg e,if_neg e]
   by_cases e2:i=k
   ·rw[if_pos e2,if_pos e2]
   ·rw[if_neg e2,if_neg e2]
 have hrow:∀(k:Nat) (p:RowR),ML[k]? =some p→RowAt H' p:=λk p hk=>(h1.row k p hk).1.frm hF (λe=>h1.blk hk h1.top (by decide) e.symm)
 refine⟨(ML.set i ML[j]).set j ML[i],MR,⟨?_,?_,?_,by simp[h1.len],h1.base⟩,h2.frm hF (Yu h6) (λq hq e=>?_),?_,rfl,?_,h6⟩
 ·rw[ZO,ZO];exact hH'
 ·intro k p hk
  obtain⟨k',e1,_⟩:=hpl k
  rw[e1] at hk
  exact⟨hrow k' p hk,(h1.row k' p hk).2⟩
 ·intro k l p q hk hl hpq
  obtain⟨k',e1,e2⟩:=hpl k
  obtain⟨l',e3,e4⟩:=hpl l
  rw[e1] at hk
  rw[e3] at hl
  have:=h1.inj k' l' p q hk hl hpq
  subst e2 e4
  repeat' split at this
  all_goals omega
 ·obtain⟨k,hk,rfl⟩:=Zh hq
  exact h2.blk (i:=k) (by simp[hk]) h1.top (by decide) e.symm
 ·unfold dats swapM
  rw[ZO,ZO]
  simp[hil,hjl]
 ·intro x hx y hy
  obtain⟨k,hk,rfl⟩:=Zh hx
  obtain⟨k',e1,_⟩:=hpl k
  rw[Qc hk] at e1
  exact h5 _ (Qj e1.symm) y hy
def pivF(L:List By)(c:Nat):Nat→Nat→Option Nat
 |0,_=>none
 |q+1,r=>if byAt (L.getD r []) c=0 then pivF L c q (r+1) else some r
def clrF(c:Nat):Nat→Nat→List By×List By→List By×List By
 |0,_,M=>M
 |q+1,k,M=>clrF c q (k+1) (if k=c then M else(M.1.set k (addV (M.1.getD k []) (M.1.getD c []) (byAt (M.1.getD k []) c)),M.2.set k (addV (M.2.getD k []) (M.2.getD c []) (byAt (M.1.getD k []) c))))
def scalM(M:List By)(c:Nat)(x:UInt8):List By:=M.set c (vscale (M.getD c []) x)
def colX(c r:Nat)(L:List By):UInt8:=ginv (byAt ((swapM L r c).getD c []) c)
def colM(n c r:Nat)(L R:List By):List By×List By:=clrF c n 0 (scalM (swapM L r c) c (colX c r L),scalM (swapM R r c) c (colX c r L))
def colF(n:Nat):Nat→Nat→List By→List By→Option (List By)
 |0,_,_,R=>some R
 |q+1,c,L,R=>match pivF L c (n-c) c with
  |none=>none
  |some r=>colF n q (c+1) (colM n c r L R).1 (colM n c r L R).2
theorem and_share{A B:Prop}(hBA:A→B)(hA:A):A∧B:=⟨hA,hBA hA⟩
theorem updo_comm{e:Env}{a b:Nat}{x y:Value}(hab:Nat.beq a b=false):updo (updo e (some a) x) (some b) y=updo (updo e (some b) y) (some a) x:=by
 funext i
 unfold updo upd
 dsimp only
 cases h1:Nat.beq i b with
 |true=>
  have:=QF h1
  subst this
  have:Nat.beq i a=false:=by
   cases h2:Nat.beq i a with
   |false=>rfl
   |true=>have:=QF h2;subst this;rw[YY] at hab;cases hab
  rw[this]
 |false=>rfl
theorem plan_comm{F:Env→Heap→(Env→Heap→Prop)→Prop}{e:Env}{a b:Nat}{x y:Value}{H:Heap}{K:Env→Heap→Prop}(hab:Nat.beq a b=false)(h:F (updo (updo e (some a) x) (some b) y) H K):F (updo (updo e (some b) y) (some a) x) H K:=by
 rw[←updo_comm hab];exact h
def invOk(a:List By):Prop:=mMay a∧a.length=(hd a).length
instance (a:List By):Decidable (invOk a):=by unfold invOk;exact inferInstance
def invR(o:Option (List By)):List By×Int:=match o with|some R=>(R,0)|none=>([],2)
def invV(a:List By):List By×Int:=if invOk a then invR (colF a.length a.length 0 a (unitL a.length)) else([],1)
theorem addV_len(a b:By)(c:UInt8)(h:b.length=a.length):(addV a b c).length=a.length:=by simp[addV,h]
def Inj(M:List RowR):Prop:=∀(i j:Nat) p q,M[i]? =some p→M[j]? =some q→p.blk=q.blk→i=j
theorem Tab.nodup{H:Heap}{s n b:Nat}{M:List RowR}(h:Tab H s n b M):(M.map RowR.blk).Nodup:=by
 unfold List.Nodup
 rw[YN]
 intro i j hi hj hij e
 simp at hi hj e
 exact absurd (h.inj i j M[i] M[j] (by simp[hi]) (by simp[hj]) e) (by omega)
attribute [irreducible] swapM scalM clrF colX colM
attribute [local irreducible] addV
theorem Inj.snoc{M:List RowR}{p:RowR}(h:Inj M)(hn:∀q∈M,q.blk≠p.blk):Inj (M++[p]):=by
 intro i j x y hx hy e
 rw[Yx] at hx hy
 split at hx<;>split at hy
 ·exact h i j x y hx hy e
 ·have hm:=Qj hx
  have:y=p:=by
   have:=Qj hy
   simpa using this
  subst this
  exact(hn x hm e).elim
 ·have hm:=Qj hy
  have:x=p:=by
   have:=Qj hx
   simpa using this
  subst this
  exact(hn y hm e.symm).elim
 ·have h1:=(Qe.1 hx).1
  have h2:=(Qe.1 hy).1
  simp at h1 h2
  omega
theorem Mat.inj{H:Heap}{b:Nat}{M:List RowR}(h:Mat H b M):Inj M:=by
 intro i j p q hp hq e
 have hn:=h.nd
 unfold List.Nodup at hn
 rw[YN] at hn
 obtain⟨h1,rfl⟩:=Qe.1 hp
 obtain⟨h2,rfl⟩:=Qe.1 hq
 rcases Nat.lt_trichotomy i j with h|h|h
 ·exact(hn i j (by simpa using h1) (by simpa using h2) h (by simpa using e)).elim
 ·exact h
 ·exact(hn j i (by simpa using h2) (by simpa using h1) h (by simpa using e.symm)).elim
theorem s_invert(a:List By){v:Value}{H:Heap}(hv:Rd H v (strV a))(hn:a.length≤1000000):
  Spec prog 299 #[v] H nob λu H'=>∃w,u=.tuple #[w,.int .i64 (invV a).2]∧Own H' H.size 9 1 w (invV a).1.length (strV (invV a).1):=by
 have hmay:=s_mmay a hv hn
 have hrd:invV a=if invOk a then invR (colF a.length a.length 0 a (unitL a.length)) else([],1):=rfl
 generalize invV a=rd at hrd⊢
 obtain⟨aa,ca,rfl,haw⟩:=hv.strs
 clear hv
 by_cases hm:mMay a
 case neg=>
  rw[QM hm] at hmay
  rw[if_neg (λh=>hm h.1)] at hrd
  subst hrd
  refine spx func299 ?_
  conv=>whnf
  refine .q (hmay) ?_
  rintro _ H1 rfl e1 _
  exact⟨_,rfl,Own.nil _ _ _ _⟩
 rw[QO hm] at hmay
 have hn0:0<a.length:=hm.1.1
 obtain⟨b0,o0,rfl,h0⟩:=haw 0 (a.getD 0 []) (gD hn0)
 have hlv:∀i,i<a.length→cel H ⟨b0,o0+i,none⟩=some (.string (S (a.getD i []))):=λi hi=>by
  obtain⟨b',o',e1,e2⟩:=haw i _ (gD (d:=[]) hi)
  cases e1
  exact e2
 have hhd:hd a=a.getD 0 []:=by cases a with
  |nil=>simp at hn0
  |cons x r=>rfl
 clear haw
 by_cases hsq:a.length=(hd a).length
 case neg=>
  rw[if_neg (λh=>hsq h.2)] at hrd
  subst hrd
  refine spx func299 ?_
  conv=>whnf
  refine .q (hmay) ?_
  rintro _ H1 rfl e1 _
  conv=>whnf
  refine⟨0,rfl,hn0,?_⟩
  conv=>whnf
  refine⟨_,e1.cel h0,?_⟩
  conv=>whnf
  refine⟨rfl,λ_=>?_,λh=>absurd (by have:(a.length:Int)=((S (a.getD 0 [])).size:Int):=h;rw[S_size,←hhd] at this;omega) hsq⟩
  exact⟨_,rfl,Own.nil _ _ _ _⟩
 rw[if_pos ⟨hm,hsq⟩] at hrd
 have hrow:∀i,i<a.length→(a.getD i []).length=a.length:=λi hi=>by
  have:=hm.2.2 (a.getD i []) (Qj (gD hi))
  omega
 have hn255:=hm.1.2
 clear hm
 have hSS:((S (a.getD 0 [])).size:Int)=a.length:=by rw[S_size,hrow 0 hn0]
 generalize hnn:a.length=n at*
 obtain⟨fin,hfin⟩:∃fin,fin=colF n n 0 a (unitL n):=⟨_,rfl⟩
 rw[←hfin] at hrd
 refine spx func299 ?_
 conv=>whnf
 refine .q (hmay) ?_
 rintro _ H1 rfl e1 _
 conv=>whnf
 refine⟨0,rfl,hn0,?_⟩
 conv=>whnf
 refine⟨_,e1.cel h0,?_⟩
 conv=>whnf
 refine⟨rfl,λh=>absurd hSS.symm h,λ_=>?_⟩
 conv=>whnf
 refine .p nob (.take 0 (.take 2 (.two 1 (.one 3 (.take 4 (.take 5 .done))) 3 (.one 1 (.take 4 (.take 5 .done)))))) (λ_ h=>h.elim) (by kernel_rfl) ?_
 conv=>whnf
 refine⟨?A,?B⟩
 case' A=>
  conv=>whnf
  refine⟨n,n,rfl,rfl,Qd _,by omega,by show 24*n≤_;omega,rfl,?_⟩
  intro H2 bl f2 _
  have hbl0:=f2.at
  have hbls:H.size≤bl:=by have:=f2.size.2;have:=e1.1;omega
  conv=>whnf
  refine .q (s_unit n (by omega) _) ?_
  rintro _ H3 ⟨br,MR,rfl,hMR,hdR,hbr,hMRs⟩ e3 _
  have hF3:Frm nob H H3:=(e1.trans f2.e).trans e3
  have hbl3:=e3.blk hbl0
  have hbrs:H.size≤br:=by have:=f2.e.1;have:=e1.1;omega
  have hMs:∀p∈MR,H.size≤p.blk:=λp hp=>by have:=hMRs p hp;have:=f2.e.1;have:=e1.1;omega
  have hne:bl≠br:=by have:=f2.size;omega
 case' B=>
  conv=>whnf
  refine .q (s_unit n (by omega) _) ?_
  rintro _ H2 ⟨br,MR,rfl,hMR,hdR,hbr,hMRs⟩ e3 _
  conv=>whnf
  refine⟨n,n,rfl,rfl,Qd _,by omega,by show 24*n≤_;omega,rfl,?_⟩
  intro H3 bl f2 _
  have hbl3:=f2.at
  have hbls:H.size≤bl:=by have:=f2.size.2;have:=e1.1;have:=e3.1;omega
  have hF3:Frm nob H H3:=(e1.trans e3).trans f2.e
  have hbrs:H.size≤br:=by have:=e1.1;omega
  have hMs:∀p∈MR,H.size≤p.blk:=λp hp=>by have:=hMRs p hp;have:=e1.1;omega
  have hne:bl≠br:=by have:=f2.size.2;have:=(Qa.1 hMR.top).1;omega
  replace hMR:=hMR.q f2.e
 all_goals
  rw[show zerosL n (Value.slice none 0 0).cells.toList=List.replicate n (Value.slice none 0 0) from zerosL_one n _] at hbl3
  conv=>whnf
  refine⟨Nat×List RowR,λx=>[(35,.int .i64 (x.1:Int))],λx H'=>x.1≤n∧x.2.length=x.1∧H'[bl]? =some (.cells (x.2.map rowV++List.replicate (n-x.1) (Value.slice none 0 0)).toArray 192 (0,0))∧(∀p∈x.2,RowAt H' p∧H.size≤p.blk∧p.dat.length=n∧∀q∈MR,p.blk≠q.blk)∧Inj x.2∧dats x.2=(List.range x.1).map (λj=>a.getD j [])∧Mat H' br MR∧Frm nob H H',λx=>n-x.1,
   ⟨(0,[]),⟨rfl,trivial⟩,Qk _,rfl,hbl3,λp hp=>(by cases hp),λi j p q hp=>(by simp at hp),rfl,hMR,hF3⟩,?_⟩
  rintro⟨i,M⟩ H4 junk ⟨hi,hMl,hb4,hM,hinj,hda,hMR4,hF4⟩ F
  dsimp only at hi hMl hb4 hM hinj hda
  conv=>whnf
  refine⟨rfl,λh=>?_,λh=>?_⟩
  ·have h':i<n:=by have:(i:Int)<(n:Int):=h;omega
   conv=>whnf
   refine⟨i,rfl,h',?_⟩
   conv=>whnf
   refine⟨_,hF4.cel (hlv i h'),?_⟩
   conv=>whnf
   refine raw_apps rfl rfl rfl rfl rfl (by rw[S_size,hrow i h'];omega) (by rw[S_size,hrow i h'];omega) ?_ ?_
   ·assumption
   intro cap tl r H5 hcap f5 F5
   rw[L_S] at f5
   have hsn:(S (a.getD i [])).size=n:=by rw[S_size,hrow i h']
   have hr5:=f5.at
   have hrs:=f5.size
   have hblt:bl<H4.size:=(Qa.1 hb4).1
   conv=>whnf
   refine⟨i,rfl,h',?_⟩
   conv=>whnf
   refine .one (v:=.slice (some ⟨r,0,none⟩) (S (a.getD i [])).size cap) i (f5.e.blk hb4) (.inr (by show H.size≤bl;omega)) (Qr i) rfl rfl (by simp[hMl];omega) ?_
   intro H6 u6 _
   rw[show n-i=(n-(i+1))+1 by omega,show i=(M.map rowV).length by simp[hMl],fill_set,Qv,hMl] at u6
   have hr6:=(u6.2.2 r (by omega)).trans hr5
   have h46:=hF4.1
   conv=>whnf
   refine⟨rfl,((i+1:Nat):Int),wr64 (by omega) (by omega),?_⟩
   refine⟨(i+1,M++[⟨r,cap,a.getD i []⟩]),⟨rfl,trivial⟩,⟨h',by simp[hMl],?_,?_,?_,?_,?_,?_⟩,by show n-(i+1)<n-i;omega⟩
   ·rw[u6.1,hsn]
    simp only[Qy,QX,YG,rowV,hrow i h']
   ·intro p hp
    rcases Qz.1 hp with h|h
    ·obtain⟨q1,q2,q3,q4⟩:=hM p h
     have hpb:p.blk≠bl:=by
      obtain⟨tl',hx,_⟩:=q1
      intro e
      rw[e,hb4] at hx
      simp at hx
     exact⟨(q1.frm f5.e id).frm u6.e hpb,q2,q3,q4⟩
    ·simp at h
     subst h
     refine⟨⟨tl,hr6,by show(a.getD i []).length≤cap;rw[hrow i h'];omega⟩,by show H.size≤r;omega,hrow i h',λq hq=>?_⟩
     obtain⟨⟨tl',hx,_⟩,_⟩:RowAt H4 q∧True:=⟨hMR4.row q hq,trivial⟩
     have:=(Qa.1 hx).1
     show r≠q.blk
     omega
   ·refine hinj.snoc λq hq=>?_
    obtain⟨⟨tl',hx,_⟩,_⟩:=hM q hq
    have:=(Qa.1 hx).1
    show q.blk≠r
    omega
   ·unfold dats at hda⊢
    rw[Qy,hda,ZC,Qy]
    rfl
   ·refine⟨(u6.2.2 br (Yu hne)).trans (f5.e.blk hMR4.top),λp hp=>((hMR4.row p hp).frm f5.e id).frm u6.e ?_,hMR4.nd⟩
    obtain⟨tl',hx,_⟩:=hMR4.row p hp
    intro e
    rw[show p.blk=bl from e,hb4] at hx
    simp at hx
   ·exact(hF4.trans f5.e).upd u6 hbls
  ·have hin:i=n:=by have:¬(i:Int)<(n:Int):=h;omega
   subst hin
   rw[ZA,Jd,QT] at hb4
   have hda':dats M=a:=by
    rw[hda]
    refine QQ λj=>?_
    by_cases hj:j<i
    ·rw[Qp,ZR hj,gD (l:=a) (d:=[]) (by omega)];rfl
    ·rw[Qx (by simp;omega),Qx (by omega)]
   have hMRl:MR.length=i:=by have:=Qf List.length hdR;simpa [dats,unitL] using this
   have hMRd:∀p∈MR,p.dat.length=i:=λp hp=>by
    have:p.dat∈dats MR:=List.mem_map_of_mem hp
    rw[hdR] at this
    simp only[unitL,Qw] at this
    obtain⟨j,_,hj⟩:=this
    rw[←hj];simp[unitR]
   have hT4:Two H4 H.size i bl br a (unitL i):=⟨M,MR,⟨hb4,λj p hp=>by obtain⟨q1,q2,q3,_⟩:=hM p (Qj hp);exact⟨q1,q2,q3⟩,hinj,hMl,hbls⟩,⟨hMR4.top,λj p hp=>⟨hMR4.row p (Qj hp),hMs p (Qj hp),hMRd p (Qj hp)⟩,hMR4.inj,hMRl,hbrs⟩,hda',hdR,λp hp q hq=>(hM p hp).2.2.2 q hq,hne⟩
   clear hM hMR4 hMR hda hinj hb4 hMs hdR hMRl hMRd hda' hlv hrow
   conv=>whnf
   refine⟨Nat×List By×List By,λx=>[(47,.int .i64 (x.1:Int))],λx H'=>x.1≤i∧Two H' H.size i bl br x.2.1 x.2.2∧colF i (i-x.1) x.1 x.2.1 x.2.2=fin∧Frm nob H H',λx=>i-x.1,
    ⟨(0,a,unitL i),⟨rfl,trivial⟩,Qk _,hT4,hfin.symm,hF4⟩,?_⟩
   rintro⟨c,P,Q⟩ H5 junk ⟨hc,hT5,hcol,hF5⟩ F5
   dsimp only at hc hT5 hcol
   conv=>whnf
   refine⟨rfl,λh=>?_,λh=>?_⟩
   ·have hci:c<i:=by have:(c:Int)<(i:Int):=h;omega
    rw[show i-c=(i-(c+1))+1 by omega,colF] at hcol
    obtain⟨pv,hpv⟩:∃pv,pv=pivF P c (i-c) c:=⟨_,rfl⟩
    rw[←hpv] at hcol
    conv=>whnf
    refine⟨Nat,λr=>[(10,.int .i64 (r:Int))],λr H'=>c≤r∧r≤i∧Two H' H.size i bl br P Q∧pivF P c (i-r) r=pv∧Frm nob H H',λr=>i-r,
     ⟨c,⟨rfl,trivial⟩,Qd _,hc,hT5,hpv.symm,hF5⟩,?_⟩
    rintro r H6 junk ⟨hcr,hri,hT6,hpr,hF6⟩ F6
    conv=>whnf
    refine⟨rfl,λh=>?_,λh=>?_⟩
    ·have hri':r<i:=by have:(r:Int)<(i:Int):=h;omega
     rw[show i-r=(i-(r+1))+1 by omega,pivF] at hpr
     refine Qh (hT6.row hri') λp hp=>Qh hp λtl hp=>?_
     have hpc:cel H6 ⟨p.blk,0+c,none⟩=some (byteV (byAt (P.getD r []) c)):=cel_of hp.2.2.2.2.1 (by
      rw[Qr,Qq,QG (by simp[bytesV];omega),bytesV_get (by omega),hp.2.1];rfl)
     conv=>whnf
     refine⟨r,rfl,hri',?_⟩
     conv=>whnf
     refine⟨_,hp.1,?_⟩
     conv=>whnf
     refine⟨c,rfl,by omega,?_⟩
     conv=>whnf
     refine⟨_,hpc,?_⟩
     conv=>whnf
     refine⟨rfl,λh0=>?_,λh0=>?_⟩
     ·have h0':byAt (P.getD r []) c=0:=by have:(((byAt (P.getD r []) c).toNat:Nat):Int)=0:=h0;exact Y1.1 (by simpa using this)
      rw[if_pos h0'] at hpr
      conv=>whnf
      refine⟨rfl,((r+1:Nat):Int),wr64 (by omega) (by omega),?_⟩
      exact⟨r+1,⟨rfl,trivial⟩,⟨by omega,hri',hT6,hpr,hF6⟩,by show i-(r+1)<i-r;omega⟩
     ·have h0':¬byAt (P.getD r []) c=0:=λe=>h0 (by show(((byAt (P.getD r []) c).toNat:Nat):Int)=0;rw[e];rfl)
      rw[if_neg h0'] at hpr
      subst hpr
      dsimp only at hcol
      clear hpv h0 h0' hpc hT5
      refine Qh (hT6.swap hri' hci) λcs hx=>Qh hx λp hx=>Qh hx λq hx=>?_
      conv=>whnf
      refine .p (λk=>k=bl) (.take 0 (.take 1 (.take 2 (.take 3 (.take 4 (.take 5 (.take 6 (.take 8 (.take 9 (.take 10 (.two 7 (.one 11 (.take 12 (.one 13 (.take 14 (.one 15 .done))))) 11 (.one 7 (.take 12 (.one 13 (.take 14 (.one 15 .done)))))))))))))))) (λk hk=>.inr (by subst hk;exact hbls)) (by kernel_rfl) ?_
      conv=>whnf
      refine⟨c,rfl,hci,?_⟩
      conv=>whnf
      refine⟨r,rfl,hri',?_⟩
      conv=>whnf
      refine and_share (λhA=>?_) ?_
      ·conv at hA=>whnf
       refine Qh hA λv1 hA=>?_
       have hc1:=hA.1
       replace hA:=hA.2
       conv at hA=>whnf
       refine Qh hA λv2 hA=>?_
       conv=>whnf
       refine⟨v2,hA.1,?_⟩
       conv=>whnf
       refine⟨v1,hc1,?_⟩
       exact plan_comm rfl hA.2
      ·conv=>whnf
       refine⟨_,hx.2.2.2.1,?_⟩
       conv=>whnf
       refine⟨_,hx.2.2.1,?_⟩
       conv=>whnf
       refine⟨r,rfl,hri',?_⟩
       conv=>whnf
       refine .one (v:=rowV q) r hx.1 (.inl rfl) (Qr r) rfl rfl (by rw[hx.2.1];exact hri') ?_
       intro H7 u7 _
       conv=>whnf
       refine⟨c,rfl,hci,?_⟩
       conv=>whnf
       refine .one (v:=rowV p) c u7.1 (.inl rfl) (Qr c) rfl rfl (by rw[Zb,hx.2.1];exact hci) ?_
       intro H8 u8 _
       have hT8:=(hx.2.2.2.2 H8 (u7.e.trans u8.e) u8.1).symm
       have hF8:=(hF6.upd u7 hbls).upd u8 hbls
       refine Qh (hT8.swap hri' hci) λcs2 hy=>Qh hy λp2 hy=>Qh hy λq2 hy=>?_
       conv=>whnf
       refine .p (λk=>k=br) (.take 0 (.take 1 (.take 2 (.take 3 (.take 4 (.take 5 (.take 6 (.take 8 (.take 9 (.take 10 (.two 7 (.one 11 (.take 12 (.one 13 (.take 14 (.one 15 .done))))) 11 (.one 7 (.take 12 (.one 13 (.take 14 (.one 15 .done)))))))))))))))) (λk hk=>.inr (by subst hk;exact hbrs)) (by kernel_rfl) ?_
       conv=>whnf
       refine⟨c,rfl,hci,?_⟩
       conv=>whnf
       refine⟨r,rfl,hri',?_⟩
       conv=>whnf
       refine and_share (λhA=>?_) ?_
       ·conv at hA=>whnf
        refine Qh hA λv1 hA=>?_
        have hc1:=hA.1
        replace hA:=hA.2
        conv at hA=>whnf
        refine Qh hA λv2 hA=>?_
        conv=>whnf
        refine⟨v2,hA.1,?_⟩
        conv=>whnf
        refine⟨v1,hc1,?_⟩
        exact plan_comm rfl hA.2
       ·conv=>whnf
        refine⟨_,hy.2.2.2.1,?_⟩
        conv=>whnf
        refine⟨_,hy.2.2.1,?_⟩
        conv=>whnf
        refine⟨r,rfl,hri',?_⟩
        conv=>whnf
        refine .one (v:=rowV q2) r hy.1 (.inl rfl) (Qr r) rfl rfl (by rw[hy.2.1];exact hri') ?_
        intro H9 u9 _
        conv=>whnf
        refine⟨c,rfl,hci,?_⟩
        conv=>whnf
        refine .one (v:=rowV p2) c u9.1 (.inl rfl) (Qr c) rfl rfl (by rw[Zb,hy.2.1];exact hci) ?_
        intro H10 u10 _
        have hT10:=(hy.2.2.2.2 H10 (u9.e.trans u10.e) u10.1).symm
        have hF10:=(hF8.upd u9 hbrs).upd u10 hbrs
        have hM0:clrF c i 0 (scalM (swapM P r c) c (colX c r P),scalM (swapM Q r c) c (colX c r P))=colM i c r P Q:=by unfold colM;rfl
        have hInv:=s_inv (byAt ((swapM P r c).getD c []) c) H10
        have hx0:ginv (byAt ((swapM P r c).getD c []) c)=colX c r P:=by unfold colX;rfl
        rw[hx0] at hInv
        refine Qh (hT10.row hci) λp3 hz=>Qh hz λt3 hz=>?_
        have hpc3:cel H10 ⟨p3.blk,0+c,none⟩=some (byteV (byAt ((swapM P r c).getD c []) c)):=cel_of hz.2.2.2.2.1 (by
         rw[Qr,Qq,QG (by simp[bytesV];omega),bytesV_get (by omega),hz.2.1];rfl)
        have hs3:∀z,z=p3.blk→nob z∨H.size≤z:=λz h=>.inr (h▸hz.2.2.2.1)
        conv=>whnf
        refine⟨c,rfl,hci,?_⟩
        conv=>whnf
        refine⟨_,hz.1,?_⟩
        conv=>whnf
        refine⟨c,rfl,by omega,?_⟩
        conv=>whnf
        refine⟨_,hpc3,?_⟩
        conv=>whnf
        refine .q (hInv) ?_
        rintro _ H11 rfl e11 _
        have hz1:=e11.cel hz.1
        have hz5:=e11.blk hz.2.2.2.2.1
        conv=>whnf
        refine⟨c,rfl,hci,?_⟩
        conv=>whnf
        refine⟨_,hz1,?_⟩
        conv=>whnf
        refine .t (s_scale p3 (colX c r P) hz5 (by omega)) (hs3) ?_
        rintro _ H12 ⟨rfl,h12⟩ e12 _
        have hT12:Two H12 H.size i bl br (scalM (swapM P r c) c (colX c r P)) (swapM Q r c):=by
         have:=hz.2.2.2.2.2.1 H12 (vscale p3.dat (colX c r P)) (by rw[vscale_len,hz.2.2.1]) ((e11.mono (λ_ _ h=>h.elim)).trans e12) h12
         rw[hz.2.1] at this
         unfold scalM
         exact this
        have hF12:Frm nob H H12:=(hF10.trans e11).then e12 hs3
        refine Qh (hT12.symm.row hci) λp4 hw=>Qh hw λt4 hw=>?_
        have hs4:∀z,z=p4.blk→nob z∨H.size≤z:=λz h=>.inr (h▸hw.2.2.2.1)
        conv=>whnf
        refine⟨c,rfl,hci,?_⟩
        conv=>whnf
        refine⟨_,hw.1,?_⟩
        conv=>whnf
        refine .t (s_scale p4 (colX c r P) hw.2.2.2.2.1 (by omega)) (hs4) ?_
        rintro _ H13 ⟨rfl,h13⟩ e13 _
        have hT13:Two H13 H.size i bl br (scalM (swapM P r c) c (colX c r P)) (scalM (swapM Q r c) c (colX c r P)):=by
         have:=hw.2.2.2.2.2.1 H13 (vscale p4.dat (colX c r P)) (by rw[vscale_len,hw.2.2.1]) e13 h13
         rw[hw.2.1] at this
         unfold scalM at this⊢
         exact this.symm
        have hF13:Frm nob H H13:=hF12.then e13 hs4
        clear hpc3 hz hw hT10 hT12 hy hx hT8 hT6 hInv
        conv=>whnf
        refine⟨Nat×List By×List By,λy=>[(116,.int .i64 (y.1:Int))],λy H'=>y.1≤i∧Two H' H.size i bl br y.2.1 y.2.2∧clrF c (i-y.1) y.1 (y.2.1,y.2.2)=colM i c r P Q∧Frm nob H H',λy=>i-y.1,
         ⟨(0,scalM (swapM P r c) c (colX c r P),scalM (swapM Q r c) c (colX c r P)),⟨rfl,trivial⟩,Qk _,hT13,hM0,hF13⟩,?_⟩
        rintro⟨k,P3,Q3⟩ H14 junk ⟨hk,hT14,hcl,hF14⟩ F14
        dsimp only at hk hT14 hcl
        conv=>whnf
        refine⟨rfl,λh=>?_,λh=>?_⟩
        ·have hki:k<i:=by have:(k:Int)<(i:Int):=h;omega
         rw[show i-k=(i-(k+1))+1 by omega,clrF] at hcl
         conv=>whnf
         refine⟨rfl,λhkc=>?_,λhkc=>?_⟩
         ·have hkc':k≠c:=λe=>hkc (by rw[e])
          rw[if_neg hkc'] at hcl
          dsimp only at hcl
          refine Qh (hT14.row hki) λp5 ha=>Qh ha λt5 ha=>?_
          refine Qh (hT14.row hci) λp6 hb=>Qh hb λt6 hb=>?_
          have hpc5:cel H14 ⟨p5.blk,0+c,none⟩=some (byteV (byAt (P3.getD k []) c)):=cel_of ha.2.2.2.2.1 (by
           rw[Qr,Qq,QG (by simp[bytesV];omega),bytesV_get (by omega),ha.2.1];rfl)
          have hs5:∀z,z=p5.blk→nob z∨H.size≤z:=λz h=>.inr (h▸ha.2.2.2.1)
          conv=>whnf
          refine⟨k,rfl,hki,?_⟩
          conv=>whnf
          refine⟨_,ha.1,?_⟩
          conv=>whnf
          refine⟨c,rfl,by omega,?_⟩
          conv=>whnf
          refine⟨_,hpc5,?_⟩
          conv=>whnf
          refine .t (λz=>z=p5.blk) hs5 (by kernel_rfl) ?_
          conv=>whnf
          refine⟨k,rfl,hki,?_⟩
          conv=>whnf
          refine⟨ha.2.2.2.2.2.2.2.1,_,ha.1,?_⟩
          conv=>whnf
          refine⟨c,rfl,hci,?_⟩
          conv=>whnf
          refine⟨ha.2.2.2.2.2.2.2.1,_,hb.1,?_⟩
          conv=>whnf
          refine .t (s_add p5 p6 (byAt (P3.getD k []) c) ha.2.2.2.2.1 hb.2.2.2.2.1 (hb.2.2.2.2.2.2.1 k p5 hkc' ha.1) (by omega) (by omega)) (λ_ h=>.inl h) ?_
          rintro _ H15 ⟨rfl,h15⟩ e15 _
          have hT15:Two H15 H.size i bl br (P3.set k (addV (P3.getD k []) (P3.getD c []) (byAt (P3.getD k []) c))) Q3:=by
           have:=ha.2.2.2.2.2.1 H15 _ (by rw[addV_len _ _ _ (by omega)];exact ha.2.2.1) e15 h15
           rw[ha.2.1,hb.2.1] at this
           exact this
          have hF15:Frm nob H H15:=hF14.then e15 hs5
          refine Qh (hT15.symm.row hki) λp7 hc7=>Qh hc7 λt7 hc7=>?_
          refine Qh (hT15.symm.row hci) λp8 hd8=>Qh hd8 λt8 hd8=>?_
          have hs7:∀z,z=p7.blk→nob z∨H.size≤z:=λz h=>.inr (h▸hc7.2.2.2.1)
          conv=>whnf
          refine .t (λz=>z=p7.blk) hs7 (by kernel_rfl) ?_
          conv=>whnf
          refine⟨k,rfl,hki,?_⟩
          conv=>whnf
          refine⟨hc7.2.2.2.2.2.2.2.1,_,hc7.1,?_⟩
          conv=>whnf
          refine⟨c,rfl,hci,?_⟩
          conv=>whnf
          refine⟨hc7.2.2.2.2.2.2.2.1,_,hd8.1,?_⟩
          conv=>whnf
          refine .t (s_add p7 p8 (byAt (P3.getD k []) c) hc7.2.2.2.2.1 hd8.2.2.2.2.1 (hd8.2.2.2.2.2.2.1 k p7 hkc' hc7.1) (by omega) (by omega)) (λ_ h=>.inl h) ?_
          rintro _ H16 ⟨rfl,h16⟩ e16 _
          have hT16:Two H16 H.size i bl br (P3.set k (addV (P3.getD k []) (P3.getD c []) (byAt (P3.getD k []) c))) (Q3.set k (addV (Q3.getD k []) (Q3.getD c []) (byAt (P3.getD k []) c))):=by
           have:=hc7.2.2.2.2.2.1 H16 _ (by rw[addV_len _ _ _ (by omega)];exact hc7.2.2.1) e16 h16
           rw[hc7.2.1,hd8.2.1] at this
           exact this.symm
          have hF16:Frm nob H H16:=hF15.then e16 hs7
          conv=>whnf
          refine⟨rfl,((k+1:Nat):Int),wr64 (by omega) (by omega),?_⟩
          exact⟨(k+1,_,_),⟨rfl,trivial⟩,⟨hki,hT16,hcl,hF16⟩,by show i-(k+1)<i-k;omega⟩
         ·have hkc':k=c:=by have:(k:Int)=(c:Int):=hkc;omega
          rw[if_pos hkc'] at hcl
          conv=>whnf
          refine⟨rfl,((k+1:Nat):Int),wr64 (by omega) (by omega),?_⟩
          exact⟨(k+1,P3,Q3),⟨rfl,trivial⟩,⟨hki,hT14,hcl,hF14⟩,by show i-(k+1)<i-k;omega⟩
        ·have hkn:k=i:=by have:¬(k:Int)<(i:Int):=h;omega
         rw[hkn,ZA] at hcl
         unfold clrF at hcl
         rw[←hcl] at hcol
         conv=>whnf
         refine⟨rfl,((c+1:Nat):Int),wr64 (by omega) (by omega),?_⟩
         exact⟨(c+1,P3,Q3),⟨rfl,trivial⟩,⟨hci,hT14,hcol,hF14⟩,by show i-(c+1)<i-c;omega⟩
    ·have hrn:r=i:=by have:¬(r:Int)<(i:Int):=h;omega
     subst hrn
     rw[ZA] at hpr
     unfold pivF at hpr
     subst hpr
     dsimp only at hcol
     subst hcol
     subst hrd
     exact⟨_,rfl,Own.nil _ _ _ _⟩
   ·have hcn:c=i:=by have:¬(c:Int)<(i:Int):=h;omega
    subst hcn
    rw[ZA] at hcol
    unfold colF at hcol
    subst hcol
    subst hrd
    refine Qh hT5.symm λMA hx=>Qh hx λMB hx=>?_
    have hlA:=hx.1.len
    have ht:=s_texts (cap:=c) (M:=MA) ⟨hx.1.top,λp hp=>by obtain⟨k,hk,rfl⟩:=Zh hp;exact(hx.1.row k _ (by simp[hk])).1,hx.1.nodup⟩ (by omega)
    rw[hlA,hx.2.2.1] at ht
    conv=>whnf
    refine .q (ht) ?_
    rintro v H7 ho e7 _
    refine⟨v,rfl,?_⟩
    have hQ:Q.length=c:=hT5.len.2.1
    show Own _ H.size 9 1 v Q.length (strV Q)
    rw[hQ]
    have h05:=hF5.1
    exact⟨ho.1,ho.2.elim .inl λ⟨g,cap,cur,h1,h2,h3⟩=>.inr ⟨g,cap,cur,h1,Qb h05 h2,h3⟩⟩
attribute [irreducible] invV
end Go.Proofs.YtjambljmnifknaaGreatDoor.Vc
