/- Part 26 of the proof of TopAny: shell: list, put, del · shell: fail, replace, corrupt, fuse, crash, open · shell: corrupt, crash, open · shell: what a line's words are, and do. -/
import Derived.Test.YtjambljmnifknaaGreatDoorJ25
set_option maxRecDepth 100000
set_option maxHeartbeats 80000000
set_option linter.all false
open Go.Proofs.Tryz
namespace Go.Proofs.YtjambljmnifknaaGreatDoor.Vc
open Go Go.RowKit Tp
open Dk (Arr Dsk)
def keysW:By:=[107,101,121,115]
section
variable {i:Nat}{p:Pl}{gz:Nat}{a:Arr}{H H':Heap}{S S':Nat→Prop}{x:Sp}{s:St}
def listR(a:Arr)(s:St):By×Arr×Option St:=(saidV 0 (keysW::(s.ps.map (·.1)).map quoteV),a,some s)
theorem d_list(h:Ses i p gz (some (x,s)) a H S)(hi:i≤18)(q:AgP)(y:Arg):Spec prog 94 #[ptr gz 0,.agg (agL q y).toArray] H (TW gz S (some (x,s))) (DoR i p gz (TW gz S (some (x,s))) H (listR a s)):=by
 have hss:SS (40000*i) (eMax+1+4000*i) i p x s a H S:=h.sto
 have hses:H[gz]? =some (.cells #[ptr p.ga 0,ptr x.gs 0] 110 (0,0)):=h.ses
 have hls:=λ{X:Heap} (e:Frm nob H X)=>Spec.sl (R:=λ_ _=>True) ((s_stlist (hss.q e) (by omega)).imp λ_ _ h=>⟨h,trivial⟩)
 have hG:=λ{X:Heap} (e:Frm nob H X)=>h.gl.q e
 have hpn:=hss.ok.pn
 have hko:∀z∈s.ps.map (·.1),z.length≤65535:=λz hz=>by
  obtain⟨w,h1,rfl⟩:=Qw.1 hz
  exact(hss.ok.po w h1).1
 have end':∀{X:Heap},Frm nob H X→DoR i p gz (TW gz S (some (x,s))) H (listR a s) (.string (Tp.S (saidV 0 (keysW::(s.ps.map (·.1)).map quoteV)))) X:=λe=>⟨rfl,some (x,s),S,rfl,(h.q e).up (by omega),Sub.refl _ _⟩
 have hlen:(s.ps.map (·.1)).length=s.ps.length:=by simp
 rw[←hlen] at hpn
 simp only[←hlen] at hls
 clear hlen
 generalize s.ps.map (·.1)=ks at hls hpn hko end'
 generalize listR a s=r at end'⊢
 refine spx func94 ?_
 conv=>whnf
 intro H1 b1 f1 _
 conv=>whnf
 refine⟨rfl,?_⟩
 conv=>whnf
 intro H2 b2 f2 _
 have E2:=f1.e.trans f2.e
 conv=>whnf
 refine⟨_,cel_of (E2.blk hses) rfl,?_⟩
 conv=>whnf
 refine .q (hls E2) ?_
 rintro _ H3 ⟨ad,cap,rfl,hK,_⟩ e3 _
 have E3:=E2.trans e3
 have z1:=f1.1
 have z1':=f1.size
 have z2:=f2.1
 have z2':=f2.size
 have hW3:Own H3 H.size 9 1 (.slice (some ⟨b2,0,none⟩) 1 1) 1 (strV [keysW]):=Own.new (e3.blk f2.at) rfl (by omega) (by decide)
 have hne0:∀k,(Value.slice (some ⟨b2,0,none⟩) 1 1).ownBlock=some k→(Value.slice ad ks.length cap).ownBlock≠some k:=λk hk e=>by
  have hkb:b2=k:=by simpa [Value.ownBlock] using hk
  have:=(hK.ge _ e).1
  omega
 conv=>whnf
 refine .g [(5,.slice (some ⟨b2,0,none⟩) 1 1),(13,.slice ad ks.length cap),(14,.int .i64 (ks.length:Int)),(15,.int .i64 0)] ⟨rfl,rfl,rfl,rfl,trivial⟩ λenv0 KL hKL=>?_
 refine⟨Nat×List By×Value,λx=>[(5,x.2.2),(15,.int .i64 (x.1:Int))],λx H'=>x.1+x.2.1.length=ks.length∧ks.drop x.1=x.2.1∧Own H' H.size 9 1 x.2.2 (x.1+1) (strV (keysW::(ks.take x.1).map quoteV))∧Own H' H2.size 9 1 (.slice ad ks.length cap) ks.length (strV ks)∧(∀k,x.2.2.ownBlock=some k→(Value.slice ad ks.length cap).ownBlock≠some k)∧Frm nob H H',λx=>x.2.1.length,
  ⟨(0,ks,.slice (some ⟨b2,0,none⟩) 1 1),⟨rfl,rfl,trivial⟩,by simp,rfl,hW3,hK,hne0,E3⟩,?_⟩
 rintro⟨j,rs,v⟩ HA junk ⟨hj,hd,hv,hKA,hne,hFA⟩ F
 dsimp only at hj hd hv hKA hne
 have zA:=hFA.1
 cases rs with
 |nil=>
  conv=>whnf
  refine⟨rfl,λh5=>absurd h5 (by show ¬(j:Int)<(ks.length:Int);simp at hj;omega),λh5=>?_⟩
  refine hKL _ _ _ ?_
  have hje:j=ks.length:=by simpa using hj
  rw[hje,Zx] at hv
  have hwl:(keysW::ks.map quoteV).length=ks.length+1:=by simp
  have hjl:(Lib.join (keysW::ks.map quoteV) [32]).length≤140737488355328:=by
   have:=join_le 196606 (ws:=keysW::ks.map quoteV) λw hw=>by
    rcases QB.1 hw with rfl|hw
    ·decide
    ·obtain⟨z,hz,rfl⟩:=Qw.1 hw
     have:=quoteV_len z
     have:=hko z hz
     omega
   rw[hwl] at this
   have h2:(ks.length+1)*(196606+1)≤(300000000+64*18+1)*(196606+1):=QY _ (by omega)
   omega
  conv=>whnf
  refine .q (s_said (hG hFA) 0 er0.b.1 er0.b.2 hv.rd.1 (by rw[hwl];omega) hjl) ?_
  rintro _ HB rfl eB _
  conv=>whnf
  exact⟨end' (hFA.trans eB)⟩
 |cons y r=>
  obtain⟨hy,hd'⟩:=drop_cons hd
  have h':j<ks.length:=(Qe.1 hy).1
  obtain⟨ad',cap',hae,hw⟩:=hKA.rd.1.vals
  obtain⟨ba,o,had,hcel⟩:=hw j (.string (Tp.S y)) (by simp[strV,hy])
  have hta:ad=some ⟨ba,o,none⟩:=by injection hae with h1 h2 h3;rw[h1,had]
  subst hta
  have hyl:=hko y (Qj hy)
  have hqu:=λX=>s_quote y (by omega) X
  have hsv:strV (keysW::(ks.take (j+1)).map quoteV)=strV (keysW::(ks.take j).map quoteV)++[.string (Tp.S (quoteV y))]:=by
   rw[ZE,hy]
   simp[strV]
  generalize quoteV y=qy at hqu hsv
  conv=>whnf
  refine⟨rfl,λh5=>?_,λh5=>absurd (QK.2 h') h5⟩
  conv=>whnf
  refine⟨j,rfl,h',?_⟩
  conv=>whnf
  refine⟨_,hcel,?_⟩
  conv=>whnf
  refine .q (hqu _) ?_
  rintro _ HB rfl eB _
  conv=>whnf
  refine⟨rfl,?_⟩
  conv=>whnf
  intro HC q2 fC _
  have EC:=eB.trans fC.e
  have hvC:=hv.q EC
  have hKC:=hKA.q EC
  conv=>whnf
  refine .el2 [.string (Tp.S qy)] (by kernel_rfl) hvC (CellsAt.new (cs:=[.string (Tp.S qy)]) fC) rfl (by simp[oneCell]) (by omega) (by have:=EC.1;omega) (λk hk=>.inr (hvC.ge k hk).1) ?_
  intro v10 HD ho10 e10 _ hvb
  refine go ?_
  exact⟨(j+1,r,v10),⟨rfl,rfl,trivial⟩,⟨by simp at hj⊢;omega,hd',by rw[hsv];exact ho10,hKC.frm e10 (λk hk e=>hne k e hk),λk hk e=>(hvb k hk).elim (λe'=>hne k e' e) λe'=>by have:=(hKC.ge k e).2;omega,(hFA.trans EC).then e10 λk hk=>.inr (hvC.ge k hk).1⟩,by show r.length<r.length+1;omega⟩
def putP:List By→List Chg
 |k::v::r=>⟨k,v,false⟩::putP r
 |_=>[]
def delP(l:List By):List Chg:=l.map λt=>⟨t,[],true⟩
def updR(a:Arr)(r:Int×St):By×Arr×Option St:=(saidV r.1 [okW],a,some r.2)
theorem d_del(h:Ses i p gz (some (x,s)) a H S)(hi:i≤18){Bq:Nat}(q:AgP){y:Arg}(hy:ArgV H Bq q y)(hyo:∀t∈y.ts,t.length≤65535)(hyl:y.ts.length≤100000):Spec prog 92 #[ptr gz 0,.agg (agL q y).toArray] H (TW gz S (some (x,s))) (DoR i p gz (TW gz S (some (x,s))) H (updR a (updV s (delP y.ts)))):=by
 have hss:SS (40000*i) (eMax+1+4000*i) i p x s a H S:=h.sto
 have hses:H[gz]? =some (.cells #[ptr p.ga 0,ptr x.gs 0] 110 (0,0)):=h.ses
 have hco:∀c∈delP y.ts,chOk c:=λc hc=>by
  obtain⟨t,ht,rfl⟩:=Qw.1 hc
  exact⟨hyo t ht,by simp⟩
 have hln:(delP y.ts).length=y.ts.length:=by simp[delP]
 have hupd:=λ{X:Heap} {v:Value} {bv:Nat} (e:Frm nob H X) (hv:Own X bv 158 3 v (delP y.ts).length (cgsV (delP y.ts)))=>s_update (hss.q e) (by omega) hv hco (by omega)
 have her:=er_upd s (delP y.ts)
 generalize updV s (delP y.ts)=ur at hupd her⊢
 obtain⟨ue,us⟩:=ur
 dsimp only at hupd her
 obtain⟨ad,cap,hae,hw⟩:=hy.t.rd.1.vals
 have hta:ad=q.ta:=by injection hae with h1 h2 h3;exact h1.symm
 subst hta
 refine spx func92 ?_
 conv=>whnf
 intro H1 b1 f1 _
 conv=>whnf
 refine⟨_,f1.cel rfl,?_⟩
 conv=>whnf
 refine .g [(0,ptr gz 0),(5,.slice none 0 0),(9,.slice q.ta y.ts.length q.tc),(10,.int .i64 (y.ts.length:Int)),(11,.int .i64 0)] ⟨rfl,rfl,rfl,rfl,rfl,trivial⟩ λenv0 KL hKL=>?_
 refine⟨Nat×List By×Value,λx=>[(5,x.2.2),(11,.int .i64 (x.1:Int))],λx H'=>x.1+x.2.1.length=y.ts.length∧y.ts.drop x.1=x.2.1∧Own H' H.size 158 3 x.2.2 x.1 (cgsV (delP (y.ts.take x.1)))∧Frm nob H H',λx=>x.2.1.length,
  ⟨(0,y.ts,.slice none 0 0),⟨rfl,rfl,trivial⟩,by simp,rfl,Own.nil _ _ _ _,f1.e⟩,?_⟩
 rintro⟨j,rs,v⟩ HA junk ⟨hj,hd,hL,F⟩ FA
 dsimp only at hj hd hL
 cases rs with
 |nil=>
  conv=>whnf
  refine⟨rfl,λh5=>absurd h5 (by show ¬(j:Int)<(y.ts.length:Int);simp at hj;omega),λh5=>?_⟩
  refine hKL _ _ _ ?_
  have hje:j=y.ts.length:=by simpa using hj
  rw[hje,Zx,←hln] at hL
  conv=>whnf
  refine⟨_,cel_of (F.blk hses) rfl,?_⟩
  have hup:=hupd F hL
  conv=>whnf
  refine .t (hup) (λk (hk:k=x.gs)=>.inl (.inl (.inr hk))) ?_
  rintro _ HB ⟨rfl,wv,pv,hSB⟩ eB _
  have hse:=(h.q F).str (x':=(⟨x.gs,x.gl,x.gv,x.b,x.cap,wv,pv⟩,us)) eB (λk (hk:k=x.gs)=>.inr hk) hSB rfl (Sub.refl _ _) (by omega) (by omega) (by omega)
  conv=>whnf
  refine⟨rfl,?_⟩
  conv=>whnf
  intro HC bC fC _
  conv=>whnf
  refine .q (said_ok (hse.gl.q fC.e) ue her.b.1 her.b.2 fC.at) ?_
  rintro _ HD rfl eD _
  conv=>whnf
  exact⟨⟨rfl,some (⟨x.gs,x.gl,x.gv,x.b,x.cap,wv,pv⟩,us),S,rfl,hse.q (fC.e.trans eD),Sub.refl _ _⟩⟩
 |cons t r=>
  obtain⟨ht,hd'⟩:=drop_cons hd
  have h':j<y.ts.length:=(Qe.1 ht).1
  obtain⟨ba,o,had,hcel⟩:=hw j (.string (Tp.S t)) (by simp[strV,ht])
  have zA:=F.1
  have hsv:cgsV (delP (y.ts.take (j+1)))=cgsV (delP (y.ts.take j))++cgL ⟨t,[],true⟩:=by
   rw[ZE,ht]
   simp[delP,cgsV]
  rw[had]
  conv=>whnf
  refine⟨rfl,λh5=>?_,λh5=>absurd (QK.2 h') h5⟩
  conv=>whnf
  refine⟨j,rfl,h',?_⟩
  conv=>whnf
  refine⟨_,F.cel hcel,?_⟩
  conv=>whnf
  refine⟨rfl,?_⟩
  conv=>whnf
  refine⟨rfl,?_⟩
  conv=>whnf
  intro HC q2 fC _
  have hLC:=hL.q fC.e
  conv=>whnf
  refine .el2 (cgL ⟨t,[],true⟩) (by kernel_rfl) hLC (CellsAt.new (cs:=cgL ⟨t,[],true⟩) fC) rfl (by simp[oneCell,cgL]) (by omega) (by have:=fC.e.1;omega) (λk hk=>.inr (hLC.ge k hk).1) ?_
  intro v10 HD ho10 e10 _ hvb
  refine go ?_
  exact⟨(j+1,r,v10),⟨rfl,rfl,trivial⟩,⟨by simp at hj⊢;omega,hd',by rw[hsv];exact ho10,(F.trans fC.e).then e10 λk hk=>.inr (hLC.ge k hk).1⟩,by show r.length<r.length+1;omega⟩
theorem putP_len:∀l:List By,(putP l).length≤l.length
 |[]=>by simp[putP]
 |[_]=>by simp[putP]
 |k::v::r=>by
  have:=putP_len r
  simp[putP];omega
theorem putP_ok:∀{l:List By},(∀t∈l,t.length≤65535)→∀c∈putP l,chOk c
 |[],_,c,hc=>by cases hc
 |[_],_,c,hc=>by cases hc
 |k::v::r,h,c,hc=>by
  rcases QB.1 hc with rfl|hc
  ·exact⟨h k (by simp),h v (by simp)⟩
  ·exact putP_ok (λt ht=>h t (by simp[ht])) c hc
theorem drop2{l:List By}{n:Nat}{a b:By}{r:List By}(h:l.drop n=a::b::r):l[n]? =some a∧l[n+1]? =some b∧l.drop (n+2)=r:=by
 obtain⟨h1,h2⟩:=drop_cons h
 obtain⟨h3,h4⟩:=drop_cons h2
 exact⟨h1,h3,h4⟩
theorem d_put(h:Ses i p gz (some (x,s)) a H S)(hi:i≤18){Bq:Nat}(q:AgP){y:Arg}(hy:ArgV H Bq q y)(hyo:∀t∈y.ts,t.length≤65535)(hyl:y.ts.length≤100000):Spec prog 91 #[ptr gz 0,.agg (agL q y).toArray] H (TW gz S (some (x,s))) (DoR i p gz (TW gz S (some (x,s))) H (updR a (updV s (putP y.ts)))):=by
 have hss:SS (40000*i) (eMax+1+4000*i) i p x s a H S:=h.sto
 have hses:H[gz]? =some (.cells #[ptr p.ga 0,ptr x.gs 0] 110 (0,0)):=h.ses
 have hco:=putP_ok hyo
 have hln:=putP_len y.ts
 have hupd:=λ{X:Heap} {v:Value} {bv:Nat} (e:Frm nob H X) (hv:Own X bv 158 3 v (putP y.ts).length (cgsV (putP y.ts)))=>s_update (hss.q e) (by omega) hv hco (by omega)
 have her:=er_upd s (putP y.ts)
 generalize updV s (putP y.ts)=ur at hupd her⊢
 obtain⟨ue,us⟩:=ur
 dsimp only at hupd her
 obtain⟨ad,cap,hae,hw⟩:=hy.t.rd.1.vals
 have hta:ad=q.ta:=by injection hae with h1 h2 h3;exact h1.symm
 subst hta
 refine spx func91 ?_
 conv=>whnf
 intro H1 b1 f1 _
 conv=>whnf
 refine .g [(0,ptr gz 0),(3,ptr b1 0),(5,.slice none 0 0),(6,.int .i64 0)] ⟨rfl,rfl,rfl,rfl,trivial⟩ λenv0 KL hKL=>?_
 refine⟨Nat×List By×List Chg×Value,λx=>[(5,x.2.2.2),(6,.int .i64 ((2*x.1:Nat):Int))],λx H'=>2*x.1+x.2.1.length=y.ts.length∧y.ts.drop (2*x.1)=x.2.1∧x.2.2.1++putP x.2.1=putP y.ts∧x.2.2.1.length=x.1∧Own H' H1.size 158 3 x.2.2.2 x.1 (cgsV x.2.2.1)∧Frm nob H1 H',λx=>x.2.1.length,
  ⟨(0,y.ts,[],.slice none 0 0),⟨rfl,rfl,trivial⟩,by simp,rfl,rfl,rfl,Own.nil _ _ _ _,Frm.refl _ _⟩,?_⟩
 rintro⟨j,rs,acc,v⟩ HA junk ⟨hj,hd,hto,hac,hL,F1⟩ FA
 dsimp only at hj hd hto hac hL
 have F:=f1.e.trans F1
 have hb1:=F1.blk f1.at
 have zA:=F1.1
 have z1:=f1.e.1
 conv=>whnf
 refine⟨rfl,((2*j+1:Nat):Int),by rw[wr64 (by omega) (by omega)];omega,?_⟩
 conv=>whnf
 refine⟨_,cel_of hb1 rfl,?_⟩
 have stop:¬2*j+1<y.ts.length→acc=putP y.ts:=λhn=>by
  cases rs with
  |nil=>rw[←hto];simp[putP]
  |cons t r=>
   cases r with
   |nil=>rw[←hto];simp[putP]
   |cons t2 r2=>simp at hj;omega
 conv=>whnf
 refine⟨rfl,λh5=>?_,λh5=>?_⟩
 ·have h5':2*j+1<y.ts.length:=by have:((2*j+1:Nat):Int)<(y.ts.length:Int):=h5;omega
  cases rs with
  |nil=>simp at hj;omega
  |cons t r=>
   cases r with
   |nil=>simp at hj;omega
   |cons t2 r2=>
    obtain⟨ht1,ht2,hd2⟩:=drop2 hd
    obtain⟨ba,o,had,hcel1⟩:=hw (2*j) (.string (Tp.S t)) (by simp[strV,ht1])
    obtain⟨ba',o',had',hcel2⟩:=hw (2*j+1) (.string (Tp.S t2)) (by simp[strV,ht2])
    have hbo:(⟨ba',o',none⟩:Addr)=⟨ba,o,none⟩:=by rw[had] at had';injection had' with h;exact h.symm
    cases hbo
    obtain⟨qta,qtc,qna,qnc,qka,qkc⟩:=q
    dsimp only at had
    subst had
    have hsv:cgsV (acc++[⟨t,t2,false⟩])=cgsV acc++cgL ⟨t,t2,false⟩:=by simp[cgsV]
    have hty:∀k,v.ownBlock=some k→k≠b1∧k≠ba:=λk hk=>by
     refine⟨λe=>hL.ne hb1 (by decide) (e▸hk),λe=>?_⟩
     have:=(hL.ge k hk).1
     have:=cel_lt hcel1
     dsimp only at this
     omega
    conv=>whnf
    refine .p (λk=>v.ownBlock=some k) (.take 0 (.take 1 (.take 2 (.take 3 (.take 4 (.take 5 (.take 6 (.take 7 (.take 8 (.take 9 (.take 10 (.take 11 (.take 12 (.one 13 (.one 14 (.take 15 .done)))))))))))))))) (λk hk=>.inr (by have:=(hL.ge k hk).1;show H.size≤k;omega)) (by kernel_rfl) ?_
    conv=>whnf
    refine⟨λe=>(hty b1 e).1 rfl,_,cel_of hb1 rfl,?_⟩
    conv=>whnf
    refine⟨2*j,rfl,by omega,?_⟩
    conv=>whnf
    refine⟨λe=>(hty ba e).2 rfl,_,F.cel hcel1,?_⟩
    conv=>whnf
    refine⟨λe=>(hty b1 e).1 rfl,_,cel_of hb1 rfl,?_⟩
    conv=>whnf
    refine⟨rfl,((2*j+1:Nat):Int),by rw[wr64 (by omega) (by omega)];omega,?_⟩
    conv=>whnf
    refine⟨2*j+1,rfl,h5',?_⟩
    conv=>whnf
    refine⟨λe=>(hty ba e).2 rfl,_,F.cel hcel2,?_⟩
    conv=>whnf
    refine⟨rfl,?_⟩
    conv=>whnf
    refine⟨rfl,?_⟩
    conv=>whnf
    intro HC q2 fC _
    have hLC:=hL.q fC.e
    conv=>whnf
    refine .el2 (cgL ⟨t,t2,false⟩) (by kernel_rfl) hLC (CellsAt.new (cs:=cgL ⟨t,t2,false⟩) fC) rfl (by simp[oneCell,cgL]) (by omega) (by have:=fC.e.1;omega) (λk hk=>.inl hk) ?_
    intro v10 HD ho10 e10 _ hvb
    conv=>whnf
    conv=>whnf
    refine⟨rfl,((2*(j+1):Nat):Int),by rw[wr64 (by omega) (by omega)];omega,?_⟩
    exact⟨(j+1,r2,acc++[⟨t,t2,false⟩],v10),⟨rfl,rfl,trivial⟩,⟨by simp at hj⊢;omega,hd2,by rw[←hto];simp[putP],by simp[hac],by rw[hsv];exact ho10,(F1.trans fC.e).then e10 λk hk=>.inr (hLC.ge k hk).1⟩,by show r2.length<(t::t2::r2).length;simp;omega⟩
 ·have hacc:=stop (λe=>h5 (by show((2*j+1:Nat):Int)<(y.ts.length:Int);omega))
  refine hKL _ _ _ ?_
  rw[←hac,hacc] at hL
  conv=>whnf
  refine⟨_,cel_of (F.blk hses) rfl,?_⟩
  have hup:=hupd F hL
  conv=>whnf
  refine .t (hup) (λk (hk:k=x.gs)=>.inl (.inl (.inr hk))) ?_
  rintro _ HB ⟨rfl,wv,pv,hSB⟩ eB _
  have hse:=(h.q F).str (x':=(⟨x.gs,x.gl,x.gv,x.b,x.cap,wv,pv⟩,us)) eB (λk (hk:k=x.gs)=>.inr hk) hSB rfl (Sub.refl _ _) (by omega) (by omega) (by omega)
  conv=>whnf
  refine⟨rfl,?_⟩
  conv=>whnf
  intro HC bC fC _
  conv=>whnf
  refine .q (said_ok (hse.gl.q fC.e) ue her.b.1 her.b.2 fC.at) ?_
  rintro _ HD rfl eD _
  conv=>whnf
  exact⟨⟨rfl,some (⟨x.gs,x.gl,x.gv,x.b,x.cap,wv,pv⟩,us),S,rfl,hse.q (fC.e.trans eD),Sub.refl _ _⟩⟩
end
def dskR(e:Int)(a:Arr)(o:SO):By×Arr×Option St:=(saidV e [okW],a,o.map (·.2))
section
variable {i:Nat}{p:Pl}{gz:Nat}{o:SO}{a:Arr}{H H':Heap}{S S':Nat→Prop}
theorem row_get{ad:Option Addr}{cap n base:Nat}{e:TypeId}{xs:List Value}(h:Own H base e 1 (.slice ad n cap) n xs){j:Nat}{v:Value}(hj:xs[j]? =some v):∃b o,ad=some ⟨b,o,none⟩∧cel H ⟨b,o+j,none⟩=some v∧base≤b:=by
 obtain⟨ad',cap',hae,hw⟩:=h.rd.1.vals
 obtain⟨b,o,had,hc⟩:=hw j v hj
 have:ad=some ⟨b,o,none⟩:=by injection hae with h1 h2 h3;rw[h1,had]
 exact⟨b,o,this,hc,(h.ge b (by rw[this];rfl)).1⟩
theorem afaild_ds(a:Arr)(d:Int):(Dk.afaild a d).ds.length=a.ds.length:=by
 unfold Dk.afaild
 split
 ·rfl
 ·simp[Dk.withDk]
theorem areplaced_ds(a:Arr)(d:Int):(Dk.areplaced a d).ds.length=a.ds.length:=by
 unfold Dk.areplaced
 split
 ·rfl
 ·simp[Dk.withDk]
theorem acorrupted_ds(a:Arr)(d n:Int)(t:ByteArray):(Dk.acorrupted a d n t).ds.length=a.ds.length:=by
 unfold Dk.acorrupted
 split
 ·rfl
 ·simp[Dk.withDk]
theorem fused_ds(a:Arr)(n:Int):(Dk.fused a n).ds.length=a.ds.length:=by
 unfold Dk.fused
 split<;>rfl
theorem acrashed_ds(a:Arr)(bs:List Bool):(Dk.acrashed a bs).ds.length=a.ds.length:=Dk.crashAll_len a.ds bs
theorem d_fail(h:Ses i p gz o a H S)(hi:i≤18){Bq:Nat}(q:AgP){y:Arg}(hy:ArgV H Bq q y)(hB:∀k,TW gz S o k→k<Bq){n:Int}{nr:List Int}(hn:y.ns=n::nr):Spec prog 100 #[ptr gz 0,.agg (agL q y).toArray] H (TW gz S o) (DoR i p gz (TW gz S o) H (dskR (if Dk.noDisk a n then 1 else 0:Int) (Dk.afaild a n) o)):=by
 have hsm:Sm (40000*i) (Dk.afaild a n):=h.sm.failed n
 have hds:(Dk.afaild a n).ds.length=a.ds.length:=afaild_ds a n
 have her:Er (if Dk.noDisk a n then 1 else 0:Int):=by split<;>first|exact er1|exact er0
 have hc:=λ{X:Heap} (h:PaH p a X S)=>s_afail n h
 generalize (Dk.afaild a n)=a2 at hsm hds hc⊢
 generalize (if Dk.noDisk a n then 1 else 0:Int)=e at her hc⊢
 obtain⟨ba,of,had,hcel,hbb⟩:=row_get hy.n (j:=0) (v:=.int .i64 n) (by rw[hn];rfl)
 have hnl:0<y.ns.length:=by rw[hn];simp
 obtain⟨qta,qtc,qna,qnc,qka,qkc⟩:=q
 dsimp only at had
 subst had
 have hse:=λ{X X1:Heap} {S1:Nat→Prop} (F:Frm nob H X) (F1:Frm S X X1) (ha:PaH p a2 X1 S1) (hs:Sub S1 S X)=>(h.q F).dsk F1 ha hs hsm hds
 have fin:∀{X:Heap} {S1:Nat→Prop} {u:Value},Ses i p gz o a2 X S1→Sub S1 S H→u=.string (Tp.S (saidV e [okW]))→DoR i p gz (TW gz S o) H (dskR e a2 o) u X:=λhX hs hu=>⟨hu,o,_,rfl,hX.up (by omega),TW_sub hs⟩
 have hnS:∀k,Bq≤k→¬S k:=λk hk e=>by have:=hB k (.inl (Ses.sub k e));omega
 have hgS:¬S gz:=λe=>h.out (Ses.sub gz e)
 refine spx func100 ?_
 conv=>whnf
 intro H1 b1 f1 _
 have F:=f1.e
 have hbS:¬S b1:=λe=>by have:=h.arr.lt b1 e;have:=f1.1;omega
 conv=>whnf
 refine .p S (.take 0 (.take 1 (.take 2 (.take 3 (.take 4 (.take 5 (.take 6 (.take 7 (.two 8 (.one 9 (.one 10 (.take 11 .done))) 9 (.one 8 (.one 10 (.take 11 .done)))))))))))) (λk hk=>.inl (.inl (Ses.sub k hk))) (by kernel_rfl) ?_
 conv=>whnf
 refine⟨hgS,_,cel_of (F.blk h.ses) rfl,?_⟩
 conv=>whnf
 refine⟨hbS,_,f1.cel rfl,?_⟩
 conv=>whnf
 refine⟨0,rfl,hnl,?_⟩
 conv=>whnf
 refine⟨hnS _ hbb,_,F.cel hcel,?_⟩
 conv=>whnf
 refine⟨?_,?_⟩
 ·conv=>whnf
  refine .t (hc (h.q F).arr) (λk hk=>.inl hk) ?_
  rintro _ HB ⟨rfl,S2,ha2,hs2⟩ eB _
  have zF:=F.1
  have hX:=hse F eB ha2 hs2
  conv=>whnf
  refine⟨rfl,?_⟩
  conv=>whnf
  intro HC bC fC _
  conv=>whnf
  refine .q (said_ok (hX.gl.q fC.e) e her.b.1 her.b.2 fC.at) ?_
  rintro _ HD rfl eD _
  conv=>whnf
  exact⟨fin (hX.q (fC.e.trans eD)) (λk hk=>(hs2 k hk).imp (λe=>e) λe=>by omega) rfl⟩
 ·conv=>whnf
  refine⟨rfl,?_⟩
  conv=>whnf
  intro HB bB fB _
  have F2:=F.trans fB.e
  have zF:=F2.1
  conv=>whnf
  refine .t (hc (h.q F2).arr) (λk hk=>.inl hk) ?_
  rintro _ HC ⟨rfl,S2,ha2,hs2⟩ eC _
  have hX:=hse F2 eC ha2 hs2
  have hbB:=eC.blkT fB.at (λe=>by have:=h.arr.lt bB e;have:=fB.1;have:=F.1;omega)
  conv=>whnf
  refine .q (said_ok hX.gl e her.b.1 her.b.2 hbB) ?_
  rintro _ HD rfl eD _
  conv=>whnf
  exact⟨fin (hX.q eD) (λk hk=>(hs2 k hk).imp (λe=>e) λe=>by omega) rfl⟩
theorem d_replace(h:Ses i p gz o a H S)(hi:i≤18){Bq:Nat}(q:AgP){y:Arg}(hy:ArgV H Bq q y)(hB:∀k,TW gz S o k→k<Bq){n:Int}{nr:List Int}(hn:y.ns=n::nr):Spec prog 101 #[ptr gz 0,.agg (agL q y).toArray] H (TW gz S o) (DoR i p gz (TW gz S o) H (dskR (if Dk.noDisk a n then 1 else 0:Int) (Dk.areplaced a n) o)):=by
 have hsm:Sm (40000*i) (Dk.areplaced a n):=h.sm.replaced n
 have hds:(Dk.areplaced a n).ds.length=a.ds.length:=areplaced_ds a n
 have her:Er (if Dk.noDisk a n then 1 else 0:Int):=by split<;>first|exact er1|exact er0
 have hc:=λ{X:Heap} (h:PaH p a X S)=>s_areplace n h
 generalize (Dk.areplaced a n)=a2 at hsm hds hc⊢
 generalize (if Dk.noDisk a n then 1 else 0:Int)=e at her hc⊢
 obtain⟨ba,of,had,hcel,hbb⟩:=row_get hy.n (j:=0) (v:=.int .i64 n) (by rw[hn];rfl)
 have hnl:0<y.ns.length:=by rw[hn];simp
 obtain⟨qta,qtc,qna,qnc,qka,qkc⟩:=q
 dsimp only at had
 subst had
 have hse:=λ{X X1:Heap} {S1:Nat→Prop} (F:Frm nob H X) (F1:Frm S X X1) (ha:PaH p a2 X1 S1) (hs:Sub S1 S X)=>(h.q F).dsk F1 ha hs hsm hds
 have fin:∀{X:Heap} {S1:Nat→Prop} {u:Value},Ses i p gz o a2 X S1→Sub S1 S H→u=.string (Tp.S (saidV e [okW]))→DoR i p gz (TW gz S o) H (dskR e a2 o) u X:=λhX hs hu=>⟨hu,o,_,rfl,hX.up (by omega),TW_sub hs⟩
 have hnS:∀k,Bq≤k→¬S k:=λk hk e=>by have:=hB k (.inl (Ses.sub k e));omega
 have hgS:¬S gz:=λe=>h.out (Ses.sub gz e)
 refine spx func101 ?_
 conv=>whnf
 intro H1 b1 f1 _
 have F:=f1.e
 have hbS:¬S b1:=λe=>by have:=h.arr.lt b1 e;have:=f1.1;omega
 conv=>whnf
 refine .p S (.take 0 (.take 1 (.take 2 (.take 3 (.take 4 (.take 5 (.take 6 (.take 7 (.two 8 (.one 9 (.one 10 (.take 11 .done))) 9 (.one 8 (.one 10 (.take 11 .done)))))))))))) (λk hk=>.inl (.inl (Ses.sub k hk))) (by kernel_rfl) ?_
 conv=>whnf
 refine⟨hgS,_,cel_of (F.blk h.ses) rfl,?_⟩
 conv=>whnf
 refine⟨hbS,_,f1.cel rfl,?_⟩
 conv=>whnf
 refine⟨0,rfl,hnl,?_⟩
 conv=>whnf
 refine⟨hnS _ hbb,_,F.cel hcel,?_⟩
 conv=>whnf
 refine⟨?_,?_⟩
 ·conv=>whnf
  refine .t (hc (h.q F).arr) (λk hk=>.inl hk) ?_
  rintro _ HB ⟨rfl,S2,ha2,hs2⟩ eB _
  have zF:=F.1
  have hX:=hse F eB ha2 hs2
  conv=>whnf
  refine⟨rfl,?_⟩
  conv=>whnf
  intro HC bC fC _
  conv=>whnf
  refine .q (said_ok (hX.gl.q fC.e) e her.b.1 her.b.2 fC.at) ?_
  rintro _ HD rfl eD _
  conv=>whnf
  exact⟨fin (hX.q (fC.e.trans eD)) (λk hk=>(hs2 k hk).imp (λe=>e) λe=>by omega) rfl⟩
 ·conv=>whnf
  refine⟨rfl,?_⟩
  conv=>whnf
  intro HB bB fB _
  have F2:=F.trans fB.e
  have zF:=F2.1
  conv=>whnf
  refine .t (hc (h.q F2).arr) (λk hk=>.inl hk) ?_
  rintro _ HC ⟨rfl,S2,ha2,hs2⟩ eC _
  have hX:=hse F2 eC ha2 hs2
  have hbB:=eC.blkT fB.at (λe=>by have:=h.arr.lt bB e;have:=fB.1;have:=F.1;omega)
  conv=>whnf
  refine .q (said_ok hX.gl e her.b.1 her.b.2 hbB) ?_
  rintro _ HD rfl eD _
  conv=>whnf
  exact⟨fin (hX.q eD) (λk hk=>(hs2 k hk).imp (λe=>e) λe=>by omega) rfl⟩
theorem d_fuse(h:Ses i p gz o a H S)(hi:i≤18){Bq:Nat}(q:AgP){y:Arg}(hy:ArgV H Bq q y)(hB:∀k,TW gz S o k→k<Bq){n:Int}{nr:List Int}(hn:y.ns=n::nr)(hnm:n≤9223372036854775807):Spec prog 103 #[ptr gz 0,.agg (agL q y).toArray] H (TW gz S o) (DoR i p gz (TW gz S o) H (dskR (if n<0 then 1 else 0:Int) (Dk.fused a n) o)):=by
 have hsm:Sm (40000*i) (Dk.fused a n):=h.sm.fused n hnm
 have hds:(Dk.fused a n).ds.length=a.ds.length:=fused_ds a n
 have her:Er (if n<0 then 1 else 0:Int):=by split<;>first|exact er1|exact er0
 have hc:=λ{X:Heap} (h:PaH p a X S)=>s_afuse n h
 generalize (Dk.fused a n)=a2 at hsm hds hc⊢
 generalize (if n<0 then 1 else 0:Int)=e at her hc⊢
 obtain⟨ba,of,had,hcel,hbb⟩:=row_get hy.n (j:=0) (v:=.int .i64 n) (by rw[hn];rfl)
 have hnl:0<y.ns.length:=by rw[hn];simp
 obtain⟨qta,qtc,qna,qnc,qka,qkc⟩:=q
 dsimp only at had
 subst had
 have hse:=λ{X X1:Heap} {S1:Nat→Prop} (F:Frm nob H X) (F1:Frm S X X1) (ha:PaH p a2 X1 S1) (hs:Sub S1 S X)=>(h.q F).dsk F1 ha hs hsm hds
 have fin:∀{X:Heap} {S1:Nat→Prop} {u:Value},Ses i p gz o a2 X S1→Sub S1 S H→u=.string (Tp.S (saidV e [okW]))→DoR i p gz (TW gz S o) H (dskR e a2 o) u X:=λhX hs hu=>⟨hu,o,_,rfl,hX.up (by omega),TW_sub hs⟩
 have hnS:∀k,Bq≤k→¬S k:=λk hk e=>by have:=hB k (.inl (Ses.sub k e));omega
 have hgS:¬S gz:=λe=>h.out (Ses.sub gz e)
 refine spx func103 ?_
 conv=>whnf
 intro H1 b1 f1 _
 have F:=f1.e
 have hbS:¬S b1:=λe=>by have:=h.arr.lt b1 e;have:=f1.1;omega
 conv=>whnf
 refine .p S (.take 0 (.take 1 (.take 2 (.take 3 (.take 4 (.take 5 (.take 6 (.take 7 (.two 8 (.one 9 (.one 10 (.take 11 .done))) 9 (.one 8 (.one 10 (.take 11 .done)))))))))))) (λk hk=>.inl (.inl (Ses.sub k hk))) (by kernel_rfl) ?_
 conv=>whnf
 refine⟨hgS,_,cel_of (F.blk h.ses) rfl,?_⟩
 conv=>whnf
 refine⟨hbS,_,f1.cel rfl,?_⟩
 conv=>whnf
 refine⟨0,rfl,hnl,?_⟩
 conv=>whnf
 refine⟨hnS _ hbb,_,F.cel hcel,?_⟩
 conv=>whnf
 refine⟨?_,?_⟩
 ·conv=>whnf
  refine .t (hc (h.q F).arr) (λk hk=>.inl hk) ?_
  rintro _ HB ⟨rfl,S2,ha2,hs2⟩ eB _
  have zF:=F.1
  have hX:=hse F eB ha2 hs2
  conv=>whnf
  refine⟨rfl,?_⟩
  conv=>whnf
  intro HC bC fC _
  conv=>whnf
  refine .q (said_ok (hX.gl.q fC.e) e her.b.1 her.b.2 fC.at) ?_
  rintro _ HD rfl eD _
  conv=>whnf
  exact⟨fin (hX.q (fC.e.trans eD)) (λk hk=>(hs2 k hk).imp (λe=>e) λe=>by omega) rfl⟩
 ·conv=>whnf
  refine⟨rfl,?_⟩
  conv=>whnf
  intro HB bB fB _
  have F2:=F.trans fB.e
  have zF:=F2.1
  conv=>whnf
  refine .t (hc (h.q F2).arr) (λk hk=>.inl hk) ?_
  rintro _ HC ⟨rfl,S2,ha2,hs2⟩ eC _
  have hX:=hse F2 eC ha2 hs2
  have hbB:=eC.blkT fB.at (λe=>by have:=h.arr.lt bB e;have:=fB.1;have:=F.1;omega)
  conv=>whnf
  refine .q (said_ok hX.gl e her.b.1 her.b.2 hbB) ?_
  rintro _ HD rfl eD _
  conv=>whnf
  exact⟨fin (hX.q eD) (λk hk=>(hs2 k hk).imp (λe=>e) λe=>by omega) rfl⟩
end
section
variable {i:Nat}{p:Pl}{gz:Nat}{o:SO}{a:Arr}{H H':Heap}{S S':Nat→Prop}
theorem d_corrupt(h:Ses i p gz o a H S)(hi:i≤18){Bq:Nat}(q:AgP){y:Arg}(hy:ArgV H Bq q y)(hB:∀k,TW gz S o k→k<Bq){n m:Int}{nr:List Int}(hn:y.ns=n::m::nr){t:By}{tr:List By}(ht:y.ts=t::tr):Spec prog 102 #[ptr gz 0,.agg (agL q y).toArray] H (TW gz S o) (DoR i p gz (TW gz S o) H (dskR (Dk.acorruptE a n m t.length) (Dk.acorrupted a n m (Tp.S t)) o)):=by
 have hsm:Sm (40000*i) (Dk.acorrupted a n m (Tp.S t)):=h.sm.corrupted n m _
 have hds:(Dk.acorrupted a n m (Tp.S t)).ds.length=a.ds.length:=acorrupted_ds a n m _
 have her:Er (Dk.acorruptE a n m t.length):=er_acorrupt _ _ _ _
 have hc:=λ{X:Heap} (hX:PaH p a X S)=>s_acorrupt n m t (h.sm.mono (by omega)) hX
 generalize (Dk.acorrupted a n m (Tp.S t))=a2 at hsm hds hc⊢
 generalize (Dk.acorruptE a n m t.length)=e at her hc⊢
 obtain⟨ba,of,had,hcel,hbb⟩:=row_get hy.n (j:=0) (v:=.int .i64 n) (by rw[hn];rfl)
 obtain⟨ba',of',had',hcel',_⟩:=row_get hy.n (j:=1) (v:=.int .i64 m) (by rw[hn];rfl)
 obtain⟨bt,ot,hat,hcelt,hbt⟩:=row_get hy.t (j:=0) (v:=.string (Tp.S t)) (by rw[ht];rfl)
 have hnl:1<y.ns.length:=by rw[hn];simp
 have htl:0<y.ts.length:=by rw[ht];simp
 obtain⟨qta,qtc,qna,qnc,qka,qkc⟩:=q
 dsimp only at had had' hat
 have hbo:(⟨ba',of',none⟩:Addr)=⟨ba,of,none⟩:=by rw[had] at had';injection had' with h;exact h.symm
 cases hbo
 subst had hat
 have hse:=λ{X X1:Heap} {S1:Nat→Prop} (F:Frm nob H X) (F1:Frm S X X1) (ha:PaH p a2 X1 S1) (hs:Sub S1 S X)=>(h.q F).dsk F1 ha hs hsm hds
 have fin:∀{X:Heap} {S1:Nat→Prop} {u:Value},Ses i p gz o a2 X S1→Sub S1 S H→u=.string (Tp.S (saidV e [okW]))→DoR i p gz (TW gz S o) H (dskR e a2 o) u X:=λhX hs hu=>⟨hu,o,_,rfl,hX.up (by omega),TW_sub hs⟩
 have hnS:∀k,Bq≤k→¬S k:=λk hk e=>by have:=hB k (.inl (Ses.sub k e));omega
 have hgS:¬S gz:=λe=>h.out (Ses.sub gz e)
 refine spx func102 ?_
 conv=>whnf
 intro H1 b1 f1 _
 have F:=f1.e
 have hbS:¬S b1:=λe=>by have:=h.arr.lt b1 e;have:=f1.1;omega
 conv=>whnf
 refine .p S (.take 0 (.take 1 (.take 2 (.take 3 (.take 4 (.take 5 (.take 6 (.take 7 (.take 8 (.take 9 (.take 10 (.take 11 (.take 12 (.take 13 (.take 14 (.take 15 (.two 16 (.one 17 (.one 18 (.take 19 .done))) 17 (.one 16 (.one 18 (.take 19 .done)))))))))))))))))))) (λk hk=>.inl (.inl (Ses.sub k hk))) (by kernel_rfl) ?_
 conv=>whnf
 refine⟨hgS,_,cel_of (F.blk h.ses) rfl,?_⟩
 conv=>whnf
 refine⟨hbS,_,f1.cel rfl,?_⟩
 conv=>whnf
 refine⟨0,rfl,by omega,?_⟩
 conv=>whnf
 refine⟨hnS _ hbb,_,F.cel hcel,?_⟩
 conv=>whnf
 refine⟨hbS,_,f1.cel rfl,?_⟩
 conv=>whnf
 refine⟨1,rfl,hnl,?_⟩
 conv=>whnf
 refine⟨hnS _ hbb,_,F.cel hcel',?_⟩
 conv=>whnf
 refine⟨hbS,_,f1.cel rfl,?_⟩
 conv=>whnf
 refine⟨0,rfl,htl,?_⟩
 conv=>whnf
 refine⟨hnS _ hbt,_,F.cel hcelt,?_⟩
 conv=>whnf
 refine⟨?_,?_⟩
 ·conv=>whnf
  refine .t (hc (h.q F).arr) (λk hk=>.inl hk) ?_
  rintro _ HB ⟨rfl,S2,ha2,hs2⟩ eB _
  have zF:=F.1
  have hX:=hse F eB ha2 hs2
  conv=>whnf
  refine⟨rfl,?_⟩
  conv=>whnf
  intro HC bC fC _
  conv=>whnf
  refine .q (said_ok (hX.gl.q fC.e) e her.b.1 her.b.2 fC.at) ?_
  rintro _ HD rfl eD _
  conv=>whnf
  exact⟨fin (hX.q (fC.e.trans eD)) (λk hk=>(hs2 k hk).imp (λe=>e) λe=>by omega) rfl⟩
 ·conv=>whnf
  refine⟨rfl,?_⟩
  conv=>whnf
  intro HB bB fB _
  have F2:=F.trans fB.e
  have zF:=F2.1
  conv=>whnf
  refine .t (hc (h.q F2).arr) (λk hk=>.inl hk) ?_
  rintro _ HC ⟨rfl,S2,ha2,hs2⟩ eC _
  have hX:=hse F2 eC ha2 hs2
  have hbB:=eC.blkT fB.at (λe=>by have:=h.arr.lt bB e;have:=fB.1;have:=F.1;omega)
  conv=>whnf
  refine .q (said_ok hX.gl e her.b.1 her.b.2 hbB) ?_
  rintro _ HD rfl eD _
  conv=>whnf
  exact⟨fin (hX.q eD) (λk hk=>(hs2 k hk).imp (λe=>e) λe=>by omega) rfl⟩
def crashR(a:Arr)(bs:List Bool):By×Arr×Option St:=(saidV 0 [okW],Dk.acrashed a bs,none)
theorem d_crash(h:Ses i p gz o a H S)(hi:i≤18){Bq:Nat}(q:AgP){y:Arg}(hy:ArgV H Bq q y)(hB:∀k,TW gz S o k→k<Bq):Spec prog 104 #[ptr gz 0,.agg (agL q y).toArray] H (TW gz S o) (DoR i p gz (TW gz S o) H (crashR a y.ks)):=by
 have hsm:Sm (40000*i) (Dk.acrashed a y.ks):=h.sm.crashed y.ks
 have hds:(Dk.acrashed a y.ks).ds.length=a.ds.length:=acrashed_ds a y.ks
 have hc:=λ{X:Heap} (hk:Own X Bq 4 1 (.slice q.ka y.ks.length q.kc) y.ks.length (boolV y.ks)) (hX:PaH p a X S)=>s_acrash hk (λk e hs=>by have:=(hk.ge k e).1;have:=hB k (.inl (Ses.sub k hs));omega) hX
 have hr:crashR a y.ks=(saidV 0 [okW],Dk.acrashed a y.ks,none):=rfl
 rw[hr]
 generalize (Dk.acrashed a y.ks)=a2 at hsm hds hc⊢
 have hnS:∀k,Bq≤k→¬S k:=λk hk e=>by have:=hB k (.inl (Ses.sub k e));omega
 have hgS:¬S gz:=λe=>h.out (Ses.sub gz e)
 have hgB:=hB gz (.inr rfl)
 have hgl:=h.lt
 refine spx func104 ?_
 conv=>whnf
 intro H1 b1 f1 _
 have hbS:¬S b1:=λe=>by have:=h.arr.lt b1 e;have:=f1.1;omega
 have h1:=h.q f1.e
 conv=>whnf
 refine .k ([ptr p.ga 0,.pointer none]) (h1.ses) (.inl (.inr rfl)) rfl rfl ?_
 intro H2 u2 _
 have h2:=h1.shut u2
 have hk2:Own H2 Bq 4 1 (.slice q.ka y.ks.length q.kc) y.ks.length (boolV y.ks):=(hy.q f1.e).k.frm u2.e λk hk (e:k=gz)=>by have:=(hy.k.ge k hk).1;omega
 have hb2:H2[b1]? =some (.cells (agL q y).toArray 119 (0,0)):=(u2.2.2 b1 (λe=>by have:=f1.1;omega)).trans f1.at
 have z1:=f1.e.1
 have z2:=u2.2.1
 have hse:=λ{X X1:Heap} {S1:Nat→Prop} (F:Frm nob H2 X) (F1:Frm S X X1) (ha:PaH p a2 X1 S1) (hs:Sub S1 S X)=>(h2.q F).dsk F1 ha hs hsm hds
 have fin:∀{X:Heap} {S1:Nat→Prop} {u:Value},Ses i p gz none a2 X S1→Sub S1 S H→u=.string (Tp.S (saidV 0 [okW]))→DoR i p gz (TW gz S o) H (saidV 0 [okW],a2,none) u X:=λhX hs hu=>⟨hu,none,_,rfl,hX.up (by omega),λk hk=>hk.elim (λe=>(hs k e).imp (λe=>.inl (Ses.sub k e)) id) λe=>.inl (.inr e)⟩
 have F:Frm nob H2 H2:=Frm.refl _ _
 conv=>whnf
 refine .p S (.take 0 (.take 1 (.take 2 (.take 3 (.take 4 (.take 5 (.two 6 (.one 7 (.one 8 (.take 9 .done))) 7 (.one 6 (.one 8 (.take 9 .done)))))))))) (λk hk=>.inl (.inl (Ses.sub k hk))) (by kernel_rfl) ?_
 conv=>whnf
 refine⟨hgS,_,cel_of h2.ses rfl,?_⟩
 conv=>whnf
 refine⟨hbS,_,cel_of hb2 rfl,?_⟩
 conv=>whnf
 refine⟨?_,?_⟩
 ·conv=>whnf
  refine .t (hc hk2 h2.arr) (λk hk=>.inl hk) ?_
  rintro _ HB ⟨rfl,S2,ha2,hs2⟩ eB _
  have hX:=hse F eB ha2 hs2
  conv=>whnf
  refine⟨rfl,?_⟩
  conv=>whnf
  intro HC bC fC _
  conv=>whnf
  refine .q (said_ok (hX.gl.q fC.e) 0 er0.b.1 er0.b.2 fC.at) ?_
  rintro _ HD rfl eD _
  conv=>whnf
  exact⟨fin (hX.q (fC.e.trans eD)) (λk hk=>(hs2 k hk).imp (λe=>e) λe=>by omega) rfl⟩
 ·conv=>whnf
  refine⟨rfl,?_⟩
  conv=>whnf
  intro HB bB fB _
  have F2:=F.trans fB.e
  have zF:=F2.1
  conv=>whnf
  refine .t (hc (hk2.q F2) (h2.q F2).arr) (λk hk=>.inl hk) ?_
  rintro _ HC ⟨rfl,S2,ha2,hs2⟩ eC _
  have hX:=hse F2 eC ha2 hs2
  have hbB:=eC.blkT fB.at (λe=>by have:=h2.arr.lt bB e;have:=fB.1;omega)
  conv=>whnf
  refine .q (said_ok hX.gl 0 er0.b.1 er0.b.2 hbB) ?_
  rintro _ HD rfl eD _
  conv=>whnf
  exact⟨fin (hX.q eD) (λk hk=>(hs2 k hk).imp (λe=>e) λe=>by omega) rfl⟩
end
def isP:Value→Bool
 | .pointer _=>true
 |_=>false
theorem rowB_lt{H:Heap}{k:Nat}(h:rowB H k=true):k<H.size:=by
 unfold rowB at h
 rcases YE k H.size with hl|hl
 ·exact hl
 ·rw[ZX hl] at h
  cases h
theorem RwO.ptr{W:Nat→Prop}{H H':Heap}{v:Value}{ls:List (List Value)}{g:Nat}{cs:List Value}{t:TypeId}{fz:Nat×Nat}(h:RwO W H v ls)(hl:∀l∈ls,∃y r,l=y::r∧isP y=false)(hg:H[g]? =some (.cells cs.toArray t fz))(hp:∀y∈cs,isP y=true)(hF:Frm (λk=>k=g) H H')(ht:rowT t=false:=by decide):RwO W H' v ls:=by
 refine⟨?_,λhn k hk=>⟨(h.2 hn k hk).1,rowB_frm (h.2 hn k hk).2 hF (rowB_lt (h.2 hn k hk).2) (rowB_ne (h.2 hn k hk).2 hg ht)⟩⟩
 rcases h.1 with h1|⟨b,o,cap,rfl,hc,hx⟩
 ·exact .inl h1
 ·refine .inr ⟨b,o,cap,rfl,hc,?_⟩
  cases ls with
  |nil=>trivial
  |cons l r=>
   obtain⟨y,r2,rfl,hy⟩:=hl l (Qs ..)
   refine cells_keep hF (λ(e:b=g)=>?_) hx
   have hc1:cel H ⟨b,o,none⟩=some y:=hx.1
   rw[e] at hc1
   unfold cel World.cell? mkw at hc1
   dsimp only at hc1
   rw[hg] at hc1
   have hc2:cs[o]? =some y:=by simpa using hc1
   have:=hp y (Qj hc2)
   rw[hy] at this
   cases this
theorem SS.ptr{B:Nat}{Q:Int}{N:Nat}{p:Pl}{x:Sp}{s:St}{a:Arr}{H H':Heap}{S:Nat→Prop}{g:Nat}{cs:List Value}{fz:Nat×Nat}(h:SS B Q N p x s a H S)(hg:H[g]? =some (.cells cs.toArray 110 fz))(hp:∀y∈cs,isP y=true)(hn:¬TS x S g)(hF:Frm (λk=>k=g) H H'):SS B Q N p x s a H' S:=by
 refine⟨hF.blkT h.st (λ(e:x.gs=g)=>hn (.inr e.symm)),h.lv.frm1 hg (λe=>hn (.inl (.inl (.inl e)))) (by decide) (by decide) (by decide) hF,h.out,h.pr.ptr (λl hl=>?_) hg hp hF,?_,h.ok⟩
 ·obtain⟨q,_,rfl⟩:=Qw.1 hl
  exact⟨_,_,rfl,rfl⟩
 ·obtain⟨vs,h1,h2,h3⟩:=h.wt
  refine⟨vs,h1.ptr (λl hl=>?_) hg hp hF,h2,λi y w hy hw=>(h3 i y w hy hw).ptr (λl hl=>?_) hg hp hF⟩
  ·obtain⟨q,hq,rfl⟩:=Qw.1 hl
   refine⟨q,[],rfl,?_⟩
   obtain⟨j,hj,rfl⟩:=List.mem_iff_getElem.1 hq
   rcases(h3 j _ (s.ws[j]'(by omega)) (Qc hj) (Qc _)).1 with ⟨e,_⟩|⟨_,_,_,e,_⟩<;>rw[e]<;>rfl
  ·obtain⟨q,_,rfl⟩:=Qw.1 hl
   exact⟨_,_,rfl,rfl⟩
section
variable {i:Nat}{p:Pl}{gz:Nat}{o:SO}{a:Arr}{H H':Heap}{S S':Nat→Prop}
theorem gzP{o:SO}:∀y∈[ptr p.ga 0,stP o],isP y=true:=λy hy=>by
 simp only[QB,Zj,Z1] at hy
 rcases hy with rfl|rfl
 ·rfl
 ·cases o<;>rfl
theorem Ses.open0{H1 H2:Heap}{a':Arr}(h:Ses i p gz o a H S)(hF:Frm S H H1)(ha:PaH p a' H1 S')(hs:Sub S' S H)(u:Upd H1 H2 gz (.cells #[ptr p.ga 0,.pointer none] 110 (0,0)))(hm:Sm (40000*(i+1)) a')(hd:a'.ds.length≤6):Ses (i+1) p gz none a' H2 S':=by
 have hlt:=h.lt
 have hn:¬S' gz:=λe=>(hs gz e).elim (λe=>h.out (Ses.sub gz e)) λe=>by omega
 refine⟨u.1,ha.frm u.e (λk hk (e:k=gz)=>hn (e▸hk)),hn,hm,hd,trivial,λk hk=>hk.elim (λe=>(hs k e).elim (λe=>h.lo k (.inl (Ses.sub k e))) λe=>by have:=h.sz;omega) (λe=>h.lo k (.inr e)),by have:=hF.1;have:=h.sz;have:=u.2.1;omega,(h.gl.frm hF λk hk=>h.lo k (.inl (Ses.sub k hk))).frm u.e λk (hk:k=gz)=>h.lo k (.inr hk)⟩
theorem Ses.open1{H1 H2:Heap}{a':Arr}{x:Sp×St}{B:Nat}{Q:Int}{N:Nat}(h:Ses i p gz o a H S)(hF:Frm S H H1)(hss:SS B Q N p x.1 x.2 a' H1 S')(hs:Sub (TS x.1 S') S H)(u:Upd H1 H2 gz (.cells #[ptr p.ga 0,ptr x.1.gs 0] 110 (0,0)))(hB:B≤40000*(i+1))(hQ:Q≤eMax+1+4000*(i+1))(hN:N≤i+1):Ses (i+1) p gz (some x) a' H2 S':=by
 have hlt:=h.lt
 have hn:¬TS x.1 S' gz:=λe=>(hs gz e).elim (λe=>h.out (Ses.sub gz e)) λe=>by omega
 have hg1:H1[gz]? =some (.cells [ptr p.ga 0,stP o].toArray 110 (0,0)):=hF.blkT h.ses (λe=>h.out (Ses.sub gz e))
 have hs2:=hss.ptr hg1 gzP hn u.e
 refine⟨u.1,hs2.lv.al.av.arr,hn,hs2.lv.vo.sm.mono hB,hs2.lv.vo.nd,hs2.mono hB (by omega) hN,λk hk=>hk.elim (λe=>(hs k e).elim (λe=>h.lo k (.inl (Ses.sub k e))) λe=>by have:=h.sz;omega) (λe=>h.lo k (.inr e)),by have:=hF.1;have:=h.sz;have:=u.2.1;omega,(h.gl.frm hF λk hk=>h.lo k (.inl (Ses.sub k hk))).frm u.e λk (hk:k=gz)=>h.lo k (.inr hk)⟩
def openR(t:(Option St×Int)×Arr):By×Arr×Option St:=(saidV t.1.2 [okW],t.2,t.1.1)
theorem d_open(h:Ses i p gz o a H S)(hi:i≤17)(q:AgP)(y:Arg):Spec prog 99 #[ptr gz 0,.agg (agL q y).toArray] H (TW gz S o) (DoR i p gz (TW gz S o) H (openR (stOpenV a 1))):=by
 have hop:=λ{X:Heap} (e:Frm nob H X)=>s_stopen (h.q e).arr h.sm (by omega) h.nd 1 (by decide)
 have her:=er_stopen a 1
 have heq:=λs=>@stopen_eq a 1 s
 have hgS:¬S gz:=λe=>h.out (Ses.sub gz e)
 generalize stOpenV a 1=t at hop her heq⊢
 obtain⟨⟨o2,e⟩,a2⟩:=t
 dsimp only at her heq
 cases o2 with
 |none=>
  refine spx func99 ?_
  conv=>whnf
  intro H1 b1 f1 _
  have h1:=h.q f1.e
  conv=>whnf
  refine⟨_,cel_of h1.ses rfl,?_⟩
  conv=>whnf
  refine .t (hop f1.e) (λk hk=>.inl (.inl (Ses.sub k hk))) ?_
  rintro _ H2 ⟨rfl,hm,hd,S2,ha2,hs2⟩ e2 _
  have hg2:=e2.blkT h1.ses hgS
  conv=>whnf
  refine .k ([ptr p.ga 0,.pointer none]) (hg2) (.inl (.inr rfl)) rfl rfl ?_
  intro H3 u3 _
  have hse:=h1.open0 e2 ha2 hs2 u3 (hm.mono (by omega)) hd
  conv=>whnf
  refine⟨rfl,?_⟩
  conv=>whnf
  intro HC bC fC _
  conv=>whnf
  refine .q (said_ok (hse.gl.q fC.e) e her.b.1 her.b.2 fC.at) ?_
  rintro _ HD rfl eD _
  conv=>whnf
  have z1:=f1.e.1
  exact⟨rfl,none,S2,rfl,hse.q (fC.e.trans eD),λk hk=>hk.elim (λe=>(hs2 k e).elim (λe=>.inl (.inl (Ses.sub k e))) λe=>.inr (by omega)) λe=>.inl (.inr e)⟩
 |some s2=>
  have he0:e=0:=heq s2 rfl
  subst he0
  refine spx func99 ?_
  conv=>whnf
  intro H1 b1 f1 _
  have h1:=h.q f1.e
  conv=>whnf
  refine⟨_,cel_of h1.ses rfl,?_⟩
  conv=>whnf
  refine .t (hop f1.e) (λk hk=>.inl (.inl (Ses.sub k hk))) ?_
  rintro _ H2 ⟨x2,S2,rfl,hS2,hs2⟩ e2 _
  have hg2:=e2.blkT h1.ses hgS
  conv=>whnf
  refine .k ([ptr p.ga 0,ptr x2.gs 0]) (hg2) (.inl (.inr rfl)) rfl rfl ?_
  intro H3 u3 _
  have hse:=h1.open1 (x:=(x2,s2)) e2 hS2 hs2 u3 (by omega) (by omega) (by omega)
  conv=>whnf
  refine⟨rfl,?_⟩
  conv=>whnf
  intro HC bC fC _
  conv=>whnf
  refine .q (said_ok (hse.gl.q fC.e) 0 er0.b.1 er0.b.2 fC.at) ?_
  rintro _ HD rfl eD _
  conv=>whnf
  have z1:=f1.e.1
  exact⟨rfl,some (x2,s2),S2,rfl,hse.q (fC.e.trans eD),λk hk=>hk.elim (λe=>(hs2 k e).elim (λe=>.inl (.inl (Ses.sub k e))) λe=>.inr (by omega)) λe=>.inl (.inr e)⟩
end
theorem splitB_le(sep:ByteArray)(n:Nat):∀(k:Nat) (s:ByteArray),s.size≤n→∀x∈Lib.splitB sep 0 k s,x.size≤n
 |0,s,h,x,hx=>by
  rw[Q4.1 hx];exact h
 |k+1,s,h,x,hx=>by
  unfold Lib.splitB at hx
  split at hx
  ·rw[Q4.1 hx];exact h
  ·rcases QB.1 hx with rfl|hx
   ·rw[ByteArray.size_extract];omega
   ·exact splitB_le sep n k _ (by rw[ByteArray.size_extract];omega) x hx
theorem splitW_le(s:By):(∀w∈splitW s,w.length≤s.length)∧(splitW s).length≤s.length+1:=by
 unfold splitW
 refine⟨λw hw=>?_,?_⟩
 ·obtain⟨x,hx,rfl⟩:=Qw.1 hw
  rw[L_length]
  exact splitB_le (S [32]) s.length _ (S s) (by rw[S_size];exact Qd _) x hx
 ·rw[Qv]
  have h1:=Lib.splitB_length_le (S [32]) 0 (Lib.countB (S s) (S [32])) (S s)
  have h2:=Lib.countB_le (S [32]) (by decide) s.length (S s) (by rw[S_size];exact Qd _)
  rw[S_size] at h2
  omega
theorem unqF_len:∀(q:Nat) (s acc b:By),unqF q s acc=some b→b.length≤acc.length+s.length
 |q,[],acc,b,h=>by
  have:some acc=some b:=by cases q<;>exact h
  cases this;simp
 |0,_::_,_,_,h=>by cases h
 |q+1,c::r,acc,b,h=>by
  unfold unqF at h
  split at h
  ·have:=unqF_len q r _ b h
   simp at this⊢;omega
  ·split at h
   ·cases h
   ·split at h
    ·cases h
    ·have:=unqF_len q (r.drop 2) _ b h
     simp at this⊢;omega
section
attribute [local semireducible] unqV
theorem unqV_len(s:By):(unqV s).1.length≤s.length:=by
 unfold unqV
 split
 ·simp
 ·split
  ·simp
  ·rename_i b hb
   have:=unqF_len _ _ _ _ hb
   split
   ·simp
   ·simpa using this
end
theorem readF_ok{B:Nat}:∀{zs:List (UInt8×By)} {x y:Arg},(∀z∈zs,z.2.length≤B)→(∀t∈x.ts,t.length≤B)→(∀n∈x.ns,n≤9223372036854775807)→readF zs x=some y→(∀t∈y.ts,t.length≤B)∧(∀n∈y.ns,n≤9223372036854775807)∧y.ts.length≤x.ts.length+zs.length
 |[],x,y,_,h1,h2,h=>by
  unfold readF at h
  cases h
  exact⟨h1,h2,by simp⟩
 |(c,w)::r,x,y,hz,h1,h2,h=>by
  have hr:∀z∈r,z.2.length≤B:=λz hz'=>hz z (Qu _ hz')
  have hw:w.length≤B:=hz (c,w) (Qs ..)
  unfold readF at h
  simp only[Qo]
  split at h
  ·split at h
   ·cases h
   ·have:=readF_ok hr (x:=⟨x.ts++[(unqV w).1],x.ns,x.ks⟩) (λt ht=>(Qz.1 ht).elim (h1 t) λe=>by rw[Q4.1 e];exact Qb (unqV_len w) hw) h2 h
    exact⟨this.1,this.2.1,by have:=this.2.2;simp at this;omega⟩
  ·split at h
   ·split at h
    ·cases h
    ·have:=readF_ok hr (x:=⟨x.ts,x.ns++[atoiV w],x.ks⟩) h1 (λn hn=>(Qz.1 hn).elim (h2 n) λe=>by rw[Q4.1 e];exact atoiV_le w) h
     exact⟨this.1,this.2.1,by have:=this.2.2;simp at this;omega⟩
   ·split at h
    ·split at h
     ·cases h
     ·have:=readF_ok hr (x:=⟨x.ts,x.ns,x.ks++w.map λb=>decide (b=49)⟩) h1 h2 h
      exact⟨this.1,this.2.1,by have:=this.2.2;simp at this;omega⟩
    ·have:=readF_ok hr h1 h2 h
     exact⟨this.1,this.2.1,by omega⟩
theorem readV_ok{B:Nat}{sh:By}{ws:List By}{y:Arg}(h:readV sh ws=some y)(hw:∀w∈ws,w.length≤B):(∀t∈y.ts,t.length≤B)∧(∀n∈y.ns,n≤9223372036854775807)∧y.ts.length≤ws.length:=by
 unfold readV at h
 split at h
 ·cases h
 ·have:=readF_ok (B:=B) (λz hz=>hw z.2 (List.of_mem_zip (show(z.1,z.2)∈sh.zip ws from hz)).2) (by simp) (by simp) h
  exact⟨this.1,this.2.1,by have:=this.2.2;simp at this;omega⟩
theorem readV_T{ws:List By}{y:Arg}(h:readV [84] ws=some y):∃t,y.ts=[t]:=by
 unfold readV at h
 split at h
 ·cases h
 ·rename_i hl
  match ws,hl with
  |[w],_=>
   simp only[List.zip_cons_cons,List.zip_nil_right,readF,if_pos] at h
   split at h
   ·cases h
   ·cases h;exact⟨_,rfl⟩
  |[],hl=>simp at hl
  |_::_::_,hl=>simp at hl
theorem readV_N{ws:List By}{y:Arg}(h:readV [78] ws=some y):∃n,y.ns=[n]:=by
 unfold readV at h
 split at h
 ·cases h
 ·rename_i hl
  match ws,hl with
  |[w],_=>
   simp only[List.zip_cons_cons,List.zip_nil_right,readF] at h
   rw[if_neg (by decide),if_pos trivial] at h
   split at h
   ·cases h
   ·cases h;exact⟨_,rfl⟩
  |[],hl=>simp at hl
  |_::_::_,hl=>simp at hl
theorem readV_NNT{ws:List By}{y:Arg}(h:readV [78,78,84] ws=some y):∃n m t,y.ns=[n,m]∧y.ts=[t]:=by
 unfold readV at h
 split at h
 ·cases h
 ·rename_i hl
  match ws,hl with
  |[w1,w2,w3],_=>
   simp only[List.zip_cons_cons,List.zip_nil_right,readF] at h
   rw[if_neg (by decide),if_pos trivial] at h
   split at h
   ·cases h
   ·rw[if_neg (by decide),if_pos trivial] at h
    split at h
    ·cases h
    ·rw[if_pos trivial] at h
     split at h
     ·cases h
     ·cases h;exact⟨_,_,_,rfl,rfl⟩
  |[],hl=>simp at hl
  |[_],hl=>simp at hl
  |[_,_],hl=>simp at hl
  |_::_::_::_::_,hl=>simp at hl
def doV(f:Nat)(a:Arr)(o:Option St)(x:Arg):By×Arr×Option St:=
 if f=99 then openR (stOpenV a 1) else
 if f=100 then(saidV (if Dk.noDisk a (x.ns.headD 0) then 1 else 0) [okW],Dk.afaild a (x.ns.headD 0),o) else
 if f=101 then(saidV (if Dk.noDisk a (x.ns.headD 0) then 1 else 0) [okW],Dk.areplaced a (x.ns.headD 0),o) else
 if f=102 then(saidV (Dk.acorruptE a (x.ns.headD 0) (x.ns.getD 1 0) (x.ts.headD []).length) [okW],Dk.acorrupted a (x.ns.headD 0) (x.ns.getD 1 0) (Tp.S (x.ts.headD [])),o) else
 if f=103 then(saidV (if x.ns.headD 0<0 then 1 else 0) [okW],Dk.fused a (x.ns.headD 0),o) else
 if f=104 then crashR a x.ks else match o with
 |none=>([],a,none)
 |some s=>
  if f=91 then updR a (updV s (putP x.ts)) else if f=92 then updR a (updV s (delP x.ts)) else if f=93 then getR a s (x.ts.headD []) else if f=94 then listR a s else
  if f=95 then closeR (syncV a s).2.1 (syncV a s).2.2 (syncV a s).1 else if f=96 then closeR (mergeV a s).2.1 (mergeV a s).2.2 (mergeV a s).1 else if f=97 then statR a s else scrubR s (scrubV a s.v)
section
variable {i:Nat}{p:Pl}{gz:Nat}{o:SO}{a:Arr}{H:Heap}{S:Nat→Prop}
theorem wideV_id{s:By}(h1:s≠[43])(h2:s≠[42])(h3:s≠[63])(n:Nat):wideV s n=s:=by
 unfold wideV
 rw[if_neg h1,if_neg h2,if_neg h3]
theorem s_do(h:Ses i p gz o a H S)(hi:i≤17){c:Cmd}{key:By}(hc:(key,c)∈cmds){Bq n:Nat}(q:AgP){y:Arg}(hy:ArgV H Bq q y)(hB:∀k,TW gz S o k→k<Bq){ws:List By}(hr:readV (wideV c.shape n) ws=some y)(hw:∀w∈ws,w.length≤65535)(hwn:ws.length≤100000)(hne:c.needs=true→o≠none):
  Spec prog c.fn #[ptr gz 0,.agg (agL q y).toArray] H (TW gz S o) (DoR i p gz (TW gz S o) H (doV c.fn a (o.map (·.2)) y)):=by
 have hok:=readV_ok hr hw
 have hi':i≤18:=by omega
 simp only[cmds,QB,Zj,Z1,Prod.mk.injEq] at hc
 rcases hc with ⟨-,rfl⟩|⟨-,rfl⟩|⟨-,rfl⟩|⟨-,rfl⟩|⟨-,rfl⟩|⟨-,rfl⟩|⟨-,rfl⟩|⟨-,rfl⟩|⟨-,rfl⟩|⟨-,rfl⟩|⟨-,rfl⟩|⟨-,rfl⟩|⟨-,rfl⟩|⟨-,rfl⟩
 all_goals dsimp only at hr hne⊢
 ·cases o with
  |none=>exact absurd rfl (hne rfl)
  |some x=>exact d_put h hi' q hy hok.1 (Qb hok.2.2 hwn)
 ·cases o with
  |none=>exact absurd rfl (hne rfl)
  |some x=>exact d_del h hi' q hy hok.1 (Qb hok.2.2 hwn)
 ·cases o with
  |none=>exact absurd rfl (hne rfl)
  |some x=>
   rw[wideV_id (by decide) (by decide) (by decide)] at hr
   obtain⟨t,ht⟩:=readV_T hr
   have:=d_get h hi' q hy ht
   show Spec prog 93 _ H _ (DoR i p gz _ H (getR a x.2 (y.ts.headD [])))
   rw[ht]
   exact this
 ·cases o with
  |none=>exact absurd rfl (hne rfl)
  |some x=>exact d_list h hi' q y
 ·cases o with
  |none=>exact absurd rfl (hne rfl)
  |some x=>exact d_sync h hi' q y
 ·cases o with
  |none=>exact absurd rfl (hne rfl)
  |some x=>exact d_merge h hi q y
 ·cases o with
  |none=>exact absurd rfl (hne rfl)
  |some x=>exact d_stat h hi' q y
 ·cases o with
  |none=>exact absurd rfl (hne rfl)
  |some x=>exact d_scrub h hi' q y
 ·exact d_open h hi q y
 ·rw[wideV_id (by decide) (by decide) (by decide)] at hr
  obtain⟨n,hn⟩:=readV_N hr
  have:=d_fail h hi' q hy hB hn
  show Spec prog 100 _ H _ (DoR i p gz _ H (saidV (if Dk.noDisk a (y.ns.headD 0) then 1 else 0) [okW],Dk.afaild a (y.ns.headD 0),o.map (·.2)))
  rw[hn]
  exact this
 ·rw[wideV_id (by decide) (by decide) (by decide)] at hr
  obtain⟨n,hn⟩:=readV_N hr
  have:=d_replace h hi' q hy hB hn
  show Spec prog 101 _ H _ (DoR i p gz _ H (saidV (if Dk.noDisk a (y.ns.headD 0) then 1 else 0) [okW],Dk.areplaced a (y.ns.headD 0),o.map (·.2)))
  rw[hn]
  exact this
 ·rw[wideV_id (by decide) (by decide) (by decide)] at hr
  obtain⟨n,m,t,hn,ht⟩:=readV_NNT hr
  have:=d_corrupt h hi' q hy hB hn ht
  show Spec prog 102 _ H _ (DoR i p gz _ H (saidV (Dk.acorruptE a (y.ns.headD 0) (y.ns.getD 1 0) (y.ts.headD []).length) [okW],Dk.acorrupted a (y.ns.headD 0) (y.ns.getD 1 0) (Tp.S (y.ts.headD [])),o.map (·.2)))
  rw[hn,ht]
  exact this
 ·rw[wideV_id (by decide) (by decide) (by decide)] at hr
  obtain⟨n,hn⟩:=readV_N hr
  have:=d_fuse h hi' q hy hB hn (hok.2.1 n (by rw[hn];simp))
  show Spec prog 103 _ H _ (DoR i p gz _ H (saidV (if y.ns.headD 0<0 then 1 else 0) [okW],Dk.fused a (y.ns.headD 0),o.map (·.2)))
  rw[hn]
  exact this
 ·exact d_crash h hi' q hy hB
end
end Go.Proofs.YtjambljmnifknaaGreatDoor.Vc
