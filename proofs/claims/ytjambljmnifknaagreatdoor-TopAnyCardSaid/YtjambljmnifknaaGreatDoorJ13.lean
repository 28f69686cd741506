/- Part 13 of the proof of TopAny: gen.Make, gen.Decoder · rs: even, spread, Encode, Decode · rs.Decode · stripe.Join · A map of intents, by stripe; ring.Newest's parts. -/
import Derived.Test.YtjambljmnifknaaGreatDoorJ12
import Derived.Maps.RangeRun
set_option maxRecDepth 100000
set_option maxHeartbeats 80000000
set_option linter.all false
open Go.Proofs.Tryz
namespace Go.Proofs.YtjambljmnifknaaGreatDoor.Vc
open Go Go.RowKit Tp
theorem raw_xor{c:Ctx}{ρ:Operand→Value}{o:Oper}{H:Heap}{K:KK}{x y:Operand}{ty:TypeId}(a b:Nat)(ho:o.op=.binOp .xor 3 x y ty)(hx:ρ x=.int .i64 (a:Int))(hy:ρ y=.int .i64 (b:Int))(ha:a<65536)(hb:b<65536)(hF:Frm c.S c.H0 H)(hk:K (.int .i64 ((a^^^b:Nat):Int)) H):RawVC c ρ o H K:=by
 refine⟨λw hw=>⟨.int .i64 ((a^^^b:Nat):Int),w,.inl ?_,Amb.refl w,by rw[hw];exact hF,by rw[hw];exact hk⟩⟩
 unfold execOp
 rw[ho]
 refine val_run ?_
 rw[hx,hy,run_bind (eqGuard_run (λ_ _ h=>by cases h) (λh=>by cases h) w)]
 simp only[binOp,Op.intBits,ne_eq,not_true_eq_false,YU]
 exact Qf (λz=>Result.ok (Value.int .i64 z) w) (Gf.bits_i64 a b ha hb)
def parR(k i:Nat):By:=(List.range k).map λj=>ginv (UInt8.ofNat ((k+i)^^^j))
def genV(k m:Nat):List By:=unitL k++(List.range m).map (parR k)
theorem s_parity(k i:Nat)(hk:k≤255)(hi:i≤255){g:Nat}{H:Heap}(hg:cel H ⟨g,0,none⟩=some (.int .i64 (k:Int))):Spec prog 245 #[.int .i64 (i:Int),ptr g 0] H nob λu _=>u=.string (S (parR k i)):=by
 obtain⟨f,hf⟩:∃f:Nat→Value,∀j,f j=byteV (ginv (UInt8.ofNat ((k+i)^^^j))):=⟨_,λ_=>rfl⟩
 have hfin:mixL k k f (λ_=>.int .u8 0)=bytesV (parR k i):=mixL_all (by simp[bytesV,parR]) (λj v hv=>by
  rw[hf]
  have hj:=(Qe.1 hv).1
  simp[bytesV,parR] at hj
  simp[bytesV,parR,hj] at hv⊢
  exact hv.symm)
 have hpl:(parR k i).length=k:=by simp[parR]
 refine spx func245 ?_
 conv=>whnf
 refine⟨_,hg,?_⟩
 conv=>whnf
 refine⟨k,k,rfl,rfl,Qd _,by omega,by show 1*k≤_;omega,rfl,?_⟩
 intro H1 b f1 _
 have hbs:b=H.size:=f1.size.2
 have hb1:H1[b]? =some (.cells (mixL k 0 f (λ_=>.int .u8 0)).toArray 5 (0,0)):=by rw[mixL_zero];exact f1.at
 conv=>whnf
 refine⟨Nat,λj=>[(10,.int .i64 (j:Int))],λj H'=>j≤k∧H'[b]? =some (.cells (mixL k j f (λ_=>.int .u8 0)).toArray 5 (0,0))∧Frm nob H H',λj=>k-j,
  ⟨0,⟨rfl,trivial⟩,Qk _,hb1,f1.e⟩,?_⟩
 rintro j H2 junk ⟨hj,hb2,hF⟩ F
 conv=>whnf
 refine⟨rfl,λh=>?_,λh=>?_⟩
 ·have h':j<k:=by have:(j:Int)<(k:Int):=h;omega
  have hxl:(k+i)^^^j<65536:=Zg (n:=16) (by omega) (by omega)
  conv=>whnf
  refine⟨_,hF.cel hg,?_⟩
  conv=>whnf
  refine⟨rfl,((k+i:Nat):Int),(wr64 (x:=(k:Int)+(i:Int)) (by omega) (by omega)).trans (by omega),?_⟩
  conv=>whnf
  refine raw_xor (k+i) j rfl rfl rfl (by omega) (by omega) ?_ ?_
  ·assumption
  have hw:IntKind.u8.wrap (((k+i)^^^j:Nat):Int)=((UInt8.ofNat ((k+i)^^^j)).toNat:Int):=by
   have hm:(UInt8.ofNat ((k+i)^^^j)).toNat=((k+i)^^^j)%256:=UInt8.toNat_ofNat'
   rw[IntKind.wrap_u8,hm]
   omega
  conv=>whnf
  refine⟨_,hw,?_⟩
  conv=>whnf
  refine .q (s_inv (UInt8.ofNat ((k+i)^^^j)) _) ?_
  rintro _ H3 rfl e3 _
  conv=>whnf
  refine⟨j,rfl,h',?_⟩
  conv=>whnf
  refine .one (v:=byteV (ginv (UInt8.ofNat ((k+i)^^^j)))) j (e3.blk hb2) (.inr (by show H.size≤b;omega)) (Qr j) rfl rfl (by rw[mixL_len];exact h') ?_
  intro H4 u4 _
  rw[mixL_set h' (hf j).symm] at u4
  conv=>whnf
  refine⟨rfl,((j+1:Nat):Int),wr64 (by omega) (by omega),?_⟩
  exact⟨j+1,⟨rfl,trivial⟩,⟨h',u4.1,(hF.trans e3).upd u4 (by omega)⟩,by show k-(j+1)<k-j;omega⟩
 ·have hn:j=k:=by have:¬(j:Int)<(k:Int):=h;omega
  rw[hn,hfin] at hb2
  conv=>whnf
  refine⟨parR k i,hpl,CellsAt.at hb2,?_⟩
  exact⟨rfl⟩
def makeV(k m:Int):List By×Int:=if mayKM k m=true then(genV k.toNat m.toNat,0) else([],1)
theorem mayKM.b{k m:Int}(h:mayKM k m=true):1≤k∧0≤m∧k≤255∧m≤255-k:=by
 unfold mayKM at h
 exact Zl h
theorem Own.low{H:Heap}{a b n sz:Nat}{e:TypeId}{v:Value}{xs:List Value}(h:Own H a e sz v n xs)(hab:b≤a):Own H b e sz v n xs:=
 ⟨h.1,h.2.elim .inl λ⟨g,cap,cur,h1,h2,h3⟩=>.inr ⟨g,cap,cur,h1,Qb hab h2,h3⟩⟩
theorem s_make(k m:Int)(H:Heap):Spec prog 192 #[.int .i64 k,.int .i64 m] H nob λu H'=>∃v,u=.tuple #[v,.int .i64 (makeV k m).2]∧Own H' H.size 9 1 v (makeV k m).1.length (strV (makeV k m).1):=by
 have hrd:makeV k m=if mayKM k m=true then(genV k.toNat m.toNat,0) else([],1):=rfl
 generalize makeV k m=rd at hrd⊢
 by_cases hm:mayKM k m=true
 case neg=>
  rw[if_neg hm] at hrd
  subst hrd
  have hmay:=λH=>s_may k m H
  rw[YX] at hm
  rw[hm] at hmay
  refine spx func192 ?_
  conv=>whnf
  intro H1 g f1 _
  conv=>whnf
  refine⟨_,f1.cel rfl,?_⟩
  conv=>whnf
  refine .q (hmay _) ?_
  rintro _ H2 rfl e2 _
  exact⟨_,rfl,Own.nil _ _ _ _⟩
 rw[if_pos hm] at hrd
 subst hrd
 have hmay:=λH=>s_may k m H
 rw[hm] at hmay
 have hb:=mayKM.b hm
 obtain⟨k,rfl⟩:=QW (by omega:0≤k)
 obtain⟨m,rfl⟩:=QW (by omega:0≤m)
 have hid:=λH=>s_ident (k:Int) (by omega) H
 rw[if_pos (by omega),if_pos (by omega),if_pos (by omega)] at hid
 simp only[Qn] at hid⊢
 have hul:(unitL k).length=k:=by simp[unitL]
 refine spx func192 ?_
 conv=>whnf
 intro H1 g f1 _
 have hg1:cel H1 ⟨g,0,none⟩=some (.int .i64 (k:Int)):=f1.cel rfl
 conv=>whnf
 refine⟨_,hg1,?_⟩
 conv=>whnf
 refine .q (hmay _) ?_
 rintro _ H2 rfl e2 _
 conv=>whnf
 refine⟨_,e2.cel hg1,?_⟩
 conv=>whnf
 refine .q (hid _) ?_
 rintro _ H3 ⟨v,rfl,ho⟩ e3 _
 have hF3:Frm nob H H3:=(f1.e.trans e2).trans e3
 replace ho:=ho.low (Qb (Z8 f1.size.1.symm) e2.1)
 have hg3:=e3.cel (e2.cel hg1)
 have hgl:g=H.size:=f1.size.2
 conv=>whnf
 refine⟨Nat×Value,λx=>[(21,.int .i64 (x.1:Int)),(6,x.2)],λx H'=>x.1≤m∧Own H' (g+1) 9 1 x.2 (k+x.1) (strV (unitL k++(List.range x.1).map (parR k)))∧cel H' ⟨g,0,none⟩=some (.int .i64 (k:Int))∧Frm nob H H',λx=>m-x.1,
  ⟨(0,v),⟨rfl,rfl,trivial⟩,Qk _,by rw[List.range_zero,YG,QT];exact ho,hg3,hF3⟩,?_⟩
 rintro⟨i,v⟩ H4 junk ⟨hi,ho4,hg4,hF4⟩ F
 dsimp only at hi ho4
 conv=>whnf
 refine⟨rfl,λh=>?_,λh=>?_⟩
 ·have h':i<m:=by have:(i:Int)<(m:Int):=h;omega
  conv=>whnf
  refine .q (s_parity k i (by omega) (by omega) hg4) ?_
  rintro _ H5 rfl e5 _
  conv=>whnf
  refine⟨rfl,?_⟩
  intro H6 r f6 _
  have ho6:=(ho4.q e5).q f6.e
  have h04:=hF4.1
  conv=>whnf
  refine .el [.string (S (parR k i))] (by kernel_rfl) ho6 (CellsAt.new (cs:=[.string _]) f6) rfl (by simp[oneCell]) (by omega) (by have:=f6.e.1;have:=e5.1;have:=cel_lt hg4;show g+1≤H6.size;dsimp only at this;omega) (λk hk=>.inr (by have:=(ho6.ge k hk).1;show H.size≤k;omega)) ?_
  intro v7 H7 ho7 e7 _
  have hg6:=f6.e.cel (e5.cel hg4)
  have hg7:cel H7 ⟨g,0,none⟩=some (.int .i64 (k:Int)):=e7.celT hg6 (λhk=>by
   have:=(ho6.ge g hk).1
   omega)
  conv=>whnf
  refine⟨rfl,((i+1:Nat):Int),wr64 (by omega) (by omega),?_⟩
  refine⟨(i+1,v7),⟨rfl,rfl,trivial⟩,⟨h',?_,hg7,((hF4.trans e5).trans f6.e).then e7 (λk hk=>.inr (by have:=(ho6.ge k hk).1;omega))⟩,by show m-(i+1)<m-i;omega⟩
  dsimp only
  rw[ZC,Qy,←Qt]
  unfold strV at ho7⊢
  rw[Qy]
  exact ho7
 ·have hn:i=m:=by have:¬(i:Int)<(m:Int):=h;omega
  subst hn
  refine⟨v,rfl,?_⟩
  have hl:(genV k i).length=k+i:=by simp[genV,unitL]
  show Own _ H.size 9 1 v (genV k i).length (strV (genV k i))
  rw[hl]
  exact ho4.low (by omega)
def incOk(top:Int):Int→List Int→Bool
 |_,[]=>true
 |last,h::r=>if h≤last then false else if top≤h then false else incOk top h r
def decV(k m:Int)(hv:List Int):List By×Int:=
 if(makeV k m).2≠0 then([],(makeV k m).2) else if incOk (k+m) (-1) hv=false then([],1) else if(hv.length:Int)<k then([],3) else invV (pickV (makeV k m).1 (hv.take k.toNat)).1
theorem makeV_e(k m:Int):(makeV k m).2=if mayKM k m=true then 0 else 1:=by unfold makeV;split<;>rfl
theorem makeV_l(k m:Int):(makeV k m).1.length≤255:=by
 unfold makeV
 split
 ·have hb:=mayKM.b ‹_›
  simp[genV,unitL]
  omega
 ·simp
theorem pickV_l(a:List By)(r:List Int):(pickV a r).1.length≤r.length:=by
 unfold pickV
 split
 ·simp
 ·simp
attribute [irreducible] makeV
attribute [local irreducible] pickV
theorem Rd.ints{H:Heap}{v:Value}{l:List Int}(h:Rd H v (intV l)):∃ad cap,v=.slice ad l.length cap∧l.length≤cap∧∀i x,l[i]? =some x→∃b o,ad=some ⟨b,o,none⟩∧cel H ⟨b,o+i,none⟩=some (.int .i64 x):=by
 rcases h with ⟨rfl,h⟩|⟨b,o,cap,rfl,hc,hx⟩
 ·have:l=[]:=by simpa [intV] using h
  subst this
  exact⟨none,0,rfl,Qd _,λi s hi=>by simp at hi⟩
 ·exact⟨some ⟨b,o,none⟩,cap,by simp[intV],by simpa [intV] using hc,λi s hi=>⟨b,o,rfl,hx.get (by simp[intV,hi])⟩⟩
theorem s_decoder(k m:Int)(hv:List Int){v:Value}{H:Heap}(hr:Rd H v (intV hv))(hl:hv.length≤1000000)(hk: -1000000≤k∧k≤1000000∧ -1000000≤m∧m≤1000000):
  Spec prog 253 #[.int .i64 k,.int .i64 m,v] H nob λu H'=>∃w,u=.tuple #[w,.int .i64 (decV k m hv).2]∧Own H' H.size 9 1 w (decV k m hv).1.length (strV (decV k m hv).1):=by
 have hrd:decV k m hv=if(makeV k m).2≠0 then([],(makeV k m).2) else if incOk (k+m) (-1) hv=false then([],1) else if(hv.length:Int)<k then([],3) else invV (pickV (makeV k m).1 (hv.take k.toNat)).1:=rfl
 generalize decV k m hv=rd at hrd⊢
 have hmk:=λH=>s_make k m H
 have hml:=makeV_l k m
 have hme:=makeV_e k m
 obtain⟨ad,cap,rfl,hcap,hget⟩:=hr.ints
 clear hr
 generalize hI0:incOk (k+m) (-1) hv=I0 at hrd
 by_cases hm:mayKM k m=true
 case neg=>
  rw[if_neg hm] at hme
  rw[if_pos (by rw[hme];decide)] at hrd
  rw[hme] at hmk hrd
  subst hrd
  refine spx func253 ?_
  conv=>whnf
  refine .q (hmk _) ?_
  rintro _ H1 ⟨w,rfl,ho⟩ e1 _
  conv=>whnf
  refine⟨rfl,λ_=>?_,λh=>absurd h (by decide)⟩
  exact⟨_,rfl,Own.nil _ _ _ _⟩
 rw[if_pos hm] at hme
 rw[if_neg (λh=>h hme)] at hrd
 rw[hme] at hmk
 have hb:=mayKM.b hm
 refine spx func253 ?_
 conv=>whnf
 refine .q (hmk _) ?_
 rintro _ H1 ⟨w,rfl,ho⟩ e1 _
 conv=>whnf
 refine⟨rfl,λh=>absurd rfl h,λ_=>?_⟩
 conv=>whnf
 refine⟨Nat×Int×List Int,λx=>[(26,.int .i64 (x.1:Int)),(10,.int .i64 x.2.1)],λx H'=>x.1+x.2.2.length=hv.length∧hv.drop x.1=x.2.2∧incOk (k+m) x.2.1 x.2.2=I0∧Own H' H.size 9 1 w (makeV k m).1.length (strV (makeV k m).1)∧Frm nob H H',λx=>x.2.2.length,
  ⟨(0, -1,hv),⟨rfl,rfl,trivial⟩,by simp,rfl,hI0,ho,e1⟩,?_⟩
 rintro⟨i,last,r⟩ H2 junk ⟨hi,hd,hinc,ho2,hF⟩ F
 dsimp only at hi hd hinc
 conv=>whnf
 refine⟨rfl,λh=>?_,λh=>?_⟩
 ·have h':i<hv.length:=by have:(i:Int)<(hv.length:Int):=h;omega
  cases r with
  |nil=>simp at hi;omega
  |cons y r=>
   have hy:hv[i]? =some y:=by
    have:=Qf (·[0]?) hd
    simpa using this
   have hd':hv.drop (i+1)=r:=by
    have:=Qf List.tail hd
    simpa using this
   have hc:=hget i y hy
   unfold incOk at hinc
   refine Qh hc λb hc=>Qh hc λo hc=>?_
   have hc1:=hc.1
   subst hc1
   conv=>whnf
   refine⟨i,rfl,h',?_⟩
   conv=>whnf
   refine⟨_,hF.cel hc.2,?_⟩
   conv=>whnf
   refine⟨rfl,λh2=>?_,λh2=>?_⟩
   ·rw[if_pos h2] at hinc
    rw[if_pos hinc.symm] at hrd
    subst hrd
    exact⟨_,rfl,Own.nil _ _ _ _⟩
   rw[if_neg h2] at hinc
   conv=>whnf
   refine⟨rfl,k+m,wr64 (by omega) (by omega),?_⟩
   conv=>whnf
   refine⟨rfl,λh3=>?_,λh3=>?_⟩
   ·rw[if_pos h3] at hinc
    rw[if_pos hinc.symm] at hrd
    subst hrd
    exact⟨_,rfl,Own.nil _ _ _ _⟩
   rw[if_neg h3] at hinc
   conv=>whnf
   refine⟨rfl,((i+1:Nat):Int),wr64 (by omega) (by omega),?_⟩
   exact⟨(i+1,y,r),⟨rfl,rfl,trivial⟩,⟨by simp at hi⊢;omega,hd',hinc,ho2,hF⟩,by show r.length<r.length+1;omega⟩
 ·have hr0:r=[]:=Qm (by have:¬(i:Int)<(hv.length:Int):=h;omega)
  rw[hr0] at hinc
  unfold incOk at hinc
  rw[if_neg (by rw[←hinc];decide)] at hrd
  conv=>whnf
  refine⟨rfl,λh4=>?_,λh4=>?_⟩
  ·rw[if_pos h4] at hrd
   subst hrd
   exact⟨_,rfl,Own.nil _ _ _ _⟩
  rw[if_neg h4] at hrd
  have h4':¬(hv.length:Int)<k:=h4
  have hx0:=hget 0 (hv.getD 0 0) (gD (by omega))
  have hint:∀{X:Heap} {b o:Nat},Frm nob H X→ad=some ⟨b,o,none⟩→Rd X (.slice (some ⟨b,o,none⟩) k.toNat cap) (intV (hv.take k.toNat)):=λ{X b o} hX had=>by
   refine .inr ⟨b,o,cap,by simp[intV];omega,by simp[intV];omega,CellsAt.of λj v hj=>?_⟩
   have hjl:=(Qe.1 hj).1
   simp[intV] at hjl
   have hjx:hv[j]? =some (hv.getD j 0):=gD (by omega)
   obtain⟨b',o',q1,q2⟩:=hget j _ hjx
   rw[had] at q1
   cases q1
   have:v=.int .i64 (hv.getD j 0):=by
    simp only[intV,Qp,QZ,hjx] at hj
    rw[if_pos (by omega)] at hj
    exact(QS hj).symm
   rw[this]
   exact hX.cel q2
  refine Qh hx0 λb hx0=>Qh hx0 λo hx0=>?_
  have hx1:=hx0.1
  have hint2:=hint hF hx1
  clear hint hget
  subst hx1
  have hpk:=s_pick (makeV k m).1 (hv.take k.toNat) ho2.rd.1 hint2 (by omega) (by simp;omega)
  have hpl:=pickV_l (makeV k m).1 (hv.take k.toNat)
  generalize pickV (makeV k m).1 (hv.take k.toNat)=pk at hpk hpl hrd
  have hc0:(0==cap)=false:=by have:0≠cap:=(by omega);simpa using this
  have hinv:=λ{X:Heap} {v:Value} (hv:Rd X v (strV pk.1))=>s_invert pk.1 hv (by simp at hpl;omega)
  generalize invV pk.1=iv at hrd hinv
  conv=>whnf
  refine⟨0,k.toNat,rfl,⟨.i64,by rw[QL (by omega)];rfl⟩,Qk _,by omega,k.toNat,o,cap,rfl,rfl,by rw[hc0];rfl,?_⟩
  conv=>whnf
  refine .q (hpk) ?_
  rintro _ H3 ⟨w3,rfl,ho3⟩ e3 _
  conv=>whnf
  refine .q (hinv ho3.rd.1) ?_
  rintro _ H4 ⟨w4,rfl,ho4⟩ e4 _
  subst hrd
  exact⟨w4,rfl,ho4.low (by have:=hF.1;have:=e3.1;omega)⟩
attribute [irreducible] decV
end Go.Proofs.YtjambljmnifknaaGreatDoor.Vc
namespace Go.Proofs.YtjambljmnifknaaGreatDoor.Vc
open Go Go.RowKit Tp
def idxF(p:By→Bool):List By→Nat→Int
 |[],_=> -1
 |x::r,i=>if p x=true then(i:Int) else idxF p r (i+1)
theorem s_idxf(g:FuncId)(q:Value)(p:By→Bool)(l:List By){v:Value}{H:Heap}(hl:Rd H v (strV l))(hn:l.length≤1000000)(hf:∀H' s,s∈l→Frm nob H H'→Spec prog g #[.string (S s),q] H' nob λu _=>u=.bool (p s)):
  Spec prog 294 #[v,.func (.func g) #[] #[q]] H nob λu _=>u=.int .i64 (idxF p l 0):=by
 obtain⟨al,cl,rfl,hw⟩:=hl.strs
 clear hl
 obtain⟨R,hR⟩:∃R,idxF p l 0=R:=⟨_,rfl⟩
 rw[hR]
 refine spx func294 ?_
 conv=>whnf
 refine⟨Nat×List By,λx=>[(8,.int .i64 (x.1:Int))],λx H'=>x.1+x.2.length=l.length∧l.drop x.1=x.2∧idxF p x.2 x.1=R∧Frm nob H H',λx=>x.2.length,⟨(0,l),⟨rfl,trivial⟩,by simp,rfl,hR,Frm.refl _ _⟩,?_⟩
 rintro⟨i,r⟩ H2 junk ⟨hi,hd,hx,hF⟩ F
 dsimp only at hi hd hx
 conv=>whnf
 refine⟨rfl,λh=>?_,λh=>?_⟩
 ·have h':i<l.length:=by have:(i:Int)<(l.length:Int):=h;omega
  cases r with
  |nil=>simp at hi;omega
  |cons y r=>
   have hy:l[i]? =some y:=by
    have:=Qf (·[0]?) hd
    simpa using this
   have hd':l.drop (i+1)=r:=by
    have:=Qf List.tail hd
    simpa using this
   have hc:=hw i y hy
   unfold idxF at hx
   have hcall:=λH' hF'=>hf H' y (Qj hy) hF'
   refine Qh hc λb hc=>Qh hc λo hc=>?_
   have hc1:=hc.1
   subst hc1
   conv=>whnf
   refine⟨i,rfl,h',?_⟩
   conv=>whnf
   refine⟨_,hF.cel hc.2,?_⟩
   by_cases hp:p y=true
   ·rw[hp] at hcall
    rw[if_pos hp] at hx
    conv=>whnf
    refine .q (hcall _ hF) ?_
    rintro _ H3 rfl e3 _
    exact⟨Qf (Value.int .i64) hx⟩
   ·rw[if_neg hp] at hx
    rw[YX] at hp
    rw[hp] at hcall
    conv=>whnf
    refine .q (hcall _ hF) ?_
    rintro _ H3 rfl e3 _
    conv=>whnf
    refine⟨rfl,((i+1:Nat):Int),wr64 (by omega) (by omega),?_⟩
    exact⟨(i+1,r),⟨rfl,trivial⟩,⟨by simp at hi⊢;omega,hd',hx,hF.trans e3⟩,by show r.length<r.length+1;omega⟩
 ·have hr0:r=[]:=Qm (by have:¬(i:Int)<(l.length:Int):=h;omega)
  rw[hr0] at hx
  exact⟨Qf (Value.int .i64) hx⟩
theorem idxF_nn(p:By→Bool):∀(l:List By) (i:Nat),0≤idxF p l i↔l.any p=true
 |[],i=>by simp[idxF]
 |x::r,i=>by
  unfold idxF
  by_cases h:p x=true
  ·rw[if_pos h];simp[h]
  ·rw[if_neg h,idxF_nn p r];simp[h]
theorem s_contf(g:FuncId)(q:Value)(p:By→Bool)(l:List By){v:Value}{H:Heap}(hl:Rd H v (strV l))(hn:l.length≤1000000)(hf:∀H' s,s∈l→Frm nob H H'→Spec prog g #[.string (S s),q] H' nob λu _=>u=.bool (p s)):
  Spec prog 247 #[v,.func (.func g) #[] #[q]] H nob λu _=>u=.bool (l.any p):=by
 have hi:=s_idxf g q p l hl hn hf
 have hnn:=idxF_nn p l 0
 generalize idxF p l 0=R at hi hnn
 generalize l.any p=B at hnn⊢
 have hb1:¬0≤R→B=false:=λh=>by cases B with
  |false=>rfl
  |true=>exact(h (hnn.2 rfl)).elim
 refine spx func247 ?_
 conv=>whnf
 refine .q (hi) ?_
 rintro _ H1 rfl e1 _
 conv=>whnf
 refine⟨rfl,λh=>?_,λh=>?_⟩
 ·exact⟨Qf Value.bool (hnn.1 h).symm⟩
 ·exact⟨Qf Value.bool (hb1 h).symm⟩
def evenV(l:List By):Bool:=!(l.any λs=>decide (s.length≠(hd l).length))
theorem s_even(l:List By){v:Value}{H:Heap}(hl:Rd H v (strV l))(hn:l.length≤1000000):Spec prog 193 #[v] H nob λu _=>u=.bool (evenV l):=by
 obtain⟨al,cl,rfl,hw⟩:=hl.strs
 have hcl:∀(g:Nat) (H':Heap) (s:By),s∈l→Frm nob H H'→cel H' ⟨g,0,none⟩=some (.slice al l.length cl)→Spec prog 248 #[.string (S s),ptr g 0] H' nob λu _=>u=.bool (decide (s.length≠(hd l).length)):=λg H' s hs hF hg=>by
  have hnz:0<l.length:=List.length_pos_of_mem hs
  obtain⟨b,o,rfl,h0⟩:=hw 0 (l.getD 0 []) (gD hnz)
  have hhd:hd l=l.getD 0 []:=by cases l with
   |nil=>simp at hnz
   |cons x r=>rfl
  have hS1:=S_size s
  have hS2:=S_size (l.getD 0 [])
  rw[hhd]
  refine spx func248 ?_
  conv=>whnf
  refine⟨_,hg,?_⟩
  conv=>whnf
  refine⟨0,rfl,hnz,?_⟩
  conv=>whnf
  refine⟨_,hF.cel h0,?_⟩
  conv=>whnf
  refine⟨rfl,λh=>?_,λh=>?_⟩
  ·exact⟨Qf Value.bool (QO (show s.length≠(l.getD 0 []).length from λe=>h (by show((S s).size:Int)=((S (l.getD 0 [])).size:Int);omega))).symm⟩
  ·exact⟨Qf Value.bool (QM (show ¬s.length≠(l.getD 0 []).length from λe=>e (by have:((S s).size:Int)=((S (l.getD 0 [])).size:Int):=h;omega))).symm⟩
 unfold evenV
 refine spx func193 ?_
 conv=>whnf
 intro H1 g f1 _
 have hg1:cel H1 ⟨g,0,none⟩=some (.slice al l.length cl):=f1.cel rfl
 have hcf:=s_contf 248 (ptr g 0) (λs=>decide (s.length≠(hd l).length)) l (hl.q f1.e) hn (λH' s hs hF=>hcl g H' s hs (f1.e.trans hF) (hF.cel hg1))
 conv=>whnf
 refine⟨_,hg1,?_⟩
 conv=>whnf
 refine .q (hcf) ?_
 rintro _ H2 rfl e2 _
 exact⟨rfl⟩
attribute [irreducible] evenV
def spreadV(rows data:List By):List By:=rows.map λrow=>(gatherV row data).1
theorem bytes_rd{H H':Heap}{b cap:Nat}{s:By}{fz:Nat×Nat}(h:Fresh H H' b (.cells (bytesC (S s) cap).toArray 5 fz))(hc:(S s).size≤cap):Rd H' (.slice (some ⟨b,0,none⟩) (S s).size cap) (bytesV s):=by
 refine .inr ⟨b,0,cap,by rw[S_size];simp[bytesV],by rw[S_size] at hc;simpa [bytesV] using hc,?_⟩
 have:=CellsAt.new h
 unfold bytesC at this
 exact(CellsAt.app.1 this).1
theorem s_spread(rows data:List By){rv dv:Value}{H:Heap}(hr:Rd H rv (strV rows))(hd:Rd H dv (strV data))(hnr:rows.length≤1000)(hnd:data.length≤1000)(hs:∀r∈data,r.length≤1000000000):
  Spec prog 194 #[rv,dv] H nob λu H'=>Own H' H.size 9 1 u rows.length (strV (spreadV rows data)):=by
 obtain⟨ar,cr,rfl,hw⟩:=hr.strs
 clear hr
 refine spx func194 ?_
 conv=>whnf
 refine⟨Nat×Value,λx=>[(12,.int .i64 (x.1:Int)),(5,x.2)],λx H'=>x.1≤rows.length∧Own H' H.size 9 1 x.2 x.1 (strV (spreadV (rows.take x.1) data))∧Frm nob H H',λx=>rows.length-x.1,⟨(0,.slice none 0 0),⟨rfl,rfl,trivial⟩,Qk _,Own.nil _ _ _ _,Frm.refl _ _⟩,?_⟩
 rintro⟨i,v⟩ H2 junk ⟨hi,ho,hF⟩ F
 dsimp only at hi ho
 conv=>whnf
 refine⟨rfl,λh=>?_,λh=>?_⟩
 ·have h':i<rows.length:=by have:(i:Int)<(rows.length:Int):=h;omega
  have hx:rows[i]? =some (rows.getD i []):=gD h'
  have hc:=hw i _ hx
  have hge:rows[i]=rows.getD i []:=by simp[h']
  refine Qh hc λb hc=>Qh hc λo hc=>?_
  have hc1:=hc.1
  subst hc1
  conv=>whnf
  refine⟨i,rfl,h',?_⟩
  conv=>whnf
  refine⟨_,hF.cel hc.2,?_⟩
  conv=>whnf
  intro cap hcap H3 q f3 _
  have hF3:=hF.trans f3.e
  conv=>whnf
  refine .q (s_gath (rows.getD i []) data (bytes_rd f3 hcap) (hd.q hF3) hnd hs) ?_
  rintro _ H4 rfl e4 _
  conv=>whnf
  refine⟨rfl,?_⟩
  intro H5 r f5 _
  have ho5:=((ho.q f3.e).q e4).q f5.e
  have h0:=hF.1
  conv=>whnf
  refine .el [.string (S (gatherV (rows.getD i []) data).1)] (by kernel_rfl) ho5 (CellsAt.new (cs:=[.string _]) f5) rfl (by simp[oneCell]) (by omega) (by have:=f5.e.1;have:=e4.1;have:=f3.e.1;omega) (λk hk=>.inr (ho5.ge k hk).1) ?_
  intro v6 H6 ho6 e6 _
  conv=>whnf
  refine⟨rfl,((i+1:Nat):Int),wr64 (by omega) (by omega),?_⟩
  refine⟨(i+1,v6),⟨rfl,rfl,trivial⟩,⟨h',?_,((hF3.trans e4).trans f5.e).then e6 (λk hk=>.inr (ho5.ge k hk).1)⟩,by show rows.length-(i+1)<rows.length-i;omega⟩
  dsimp only
  have hsp:strV (spreadV (rows.take (i+1)) data)=strV (spreadV (rows.take i) data)++[.string (S (gatherV (rows.getD i []) data).1)]:=by
   rw[Yr h',hge]
   simp[strV,spreadV]
  rw[hsp]
  exact ho6
 ·have hn':i=rows.length:=by have:¬(i:Int)<(rows.length:Int):=h;omega
  subst hn'
  rw[Zx] at ho
  exact⟨ho⟩
def encV(data:List By)(m:Int):List By×Int:=if(makeV data.length m).2≠0 then([],1) else if evenV data=false then([],1) else(spreadV (makeV data.length m).1 data,0)
theorem s_encode(data:List By)(m:Int){dv:Value}{H:Heap}(hd:Rd H dv (strV data))(hnd:data.length≤1000)(hs:∀r∈data,r.length≤1000000000):
  Spec prog 125 #[dv,.int .i64 m] H nob λu H'=>∃w,u=.tuple #[w,.int .i64 (encV data m).2]∧Own H' H.size 9 1 w (encV data m).1.length (strV (encV data m).1):=by
 have hrd:encV data m=if(makeV data.length m).2≠0 then([],1) else if evenV data=false then([],1) else(spreadV (makeV data.length m).1 data,0):=rfl
 generalize encV data m=rd at hrd⊢
 have hmk:=λH=>s_make (data.length:Int) m H
 have hml:=makeV_l data.length m
 generalize makeV data.length m=mk at hrd hmk hml
 have hev:=λ{X:Heap} (h:Frm nob H X)=>s_even data (hd.q h) (by omega)
 have hsl:(spreadV mk.1 data).length=mk.1.length:=by simp[spreadV]
 have hdv:∃ad cap,dv=.slice ad data.length cap:=by
  obtain⟨ad,cap,h,_⟩:=hd.strs
  exact⟨ad,cap,h⟩
 obtain⟨ad,cap,rfl⟩:=hdv
 generalize evenV data=ev at hrd hev
 refine spx func125 ?_
 conv=>whnf
 refine .q (hmk _) ?_
 rintro _ H1 ⟨w,rfl,ho⟩ e1 _
 conv=>whnf
 refine⟨rfl,λh=>?_,λh=>?_⟩
 ·rw[if_pos h] at hrd
  subst hrd
  exact⟨_,rfl,Own.nil _ _ _ _⟩
 rw[if_neg (λe=>e h)] at hrd
 cases ev with
 |false=>
  rw[if_pos rfl] at hrd
  subst hrd
  conv=>whnf
  refine .q (hev e1) ?_
  rintro _ H2 rfl e2 _
  exact⟨_,rfl,Own.nil _ _ _ _⟩
 |true=>
  rw[if_neg (by decide)] at hrd
  subst hrd
  conv=>whnf
  refine .q (hev e1) ?_
  rintro _ H2 rfl e2 _
  conv=>whnf
  refine .q (s_spread mk.1 data (ho.q e2).rd.1 (hd.q (e1.trans e2)) (by omega) hnd hs) ?_
  rintro w2 H3 ho3 e3 _
  refine⟨w2,rfl,?_⟩
  show Own _ H.size 9 1 w2 (spreadV mk.1 data).length (strV (spreadV mk.1 data))
  rw[hsl]
  exact ho3.low (e1.trans e2).1
theorem Own.apart{H:Heap}{a b n m s t:Nat}{e f:TypeId}{v w:Value}{xs ys:List Value}(h:Own H a e s v n xs)(k:Own H b f t w m ys)(hef:e≠f):∀i,v.ownBlock=some i→w.ownBlock≠some i:=by
 intro i hi
 rcases h.2 with ⟨rfl,_⟩|⟨g,cap,cur,rfl,_,hg,_⟩
 ·simp[Value.ownBlock] at hi
 ·simp[Value.ownBlock] at hi
  subst hi
  exact k.ne (show H[g]? =_ from hg) hef
theorem Rd.pre{H:Heap}{ad:Option Addr}{len cap k:Nat}{xs:List Value}(h:Rd H (.slice ad len cap) xs)(h0:0<k)(hk:k≤xs.length):∃b o,ad=some ⟨b,o,none⟩∧k≤cap∧(0==cap)=false∧Rd H (.slice (some ⟨b,o,none⟩) k cap) (xs.take k):=by
 rcases h with ⟨h,rfl⟩|⟨b,o,cap',h,hc,hx⟩
 ·simp at hk;omega
 ·cases h
  refine⟨b,o,rfl,by omega,?_,.inr ⟨b,o,cap,by simp;omega,by simp;omega,CellsAt.of λj v hj=>hx.get ?_⟩⟩
  ·have:0≠cap:=by omega
   simpa using this
  ·rw[QZ] at hj
   split at hj
   ·exact hj
   ·cases hj
def boolV(l:List Bool):List Value:=l.map .bool
theorem Rd.bools{H:Heap}{v:Value}{l:List Bool}(h:Rd H v (boolV l)):∃ad cap,v=.slice ad l.length cap∧∀i x,l[i]? =some x→∃b o,ad=some ⟨b,o,none⟩∧cel H ⟨b,o+i,none⟩=some (.bool x):=by
 rcases h with ⟨rfl,h⟩|⟨b,o,cap,rfl,hc,hx⟩
 ·have:l=[]:=by simpa [boolV] using h
  subst this
  exact⟨none,0,rfl,λi s hi=>by simp at hi⟩
 ·exact⟨some ⟨b,o,none⟩,cap,by simp[boolV],λi s hi=>⟨b,o,rfl,hx.get (by simp[boolV,hi])⟩⟩
def leftF:List By→List Bool→List By
 |s::r,b::bs=>if b=true then s::leftF r bs else leftF r bs
 |_,_=>[]
def numsF:Nat→List Bool→List Int
 |_,[]=>[]
 |i,b::bs=>if b=true then(i:Int)::numsF (i+1) bs else numsF (i+1) bs
def decodeV(k:Int)(sh:List By)(hv:List Bool):List By×Int:=
 if hv.length≠sh.length then([],1) else if k<1 then([],1) else if mayKM k (sh.length-k)=false then([],1) else
 if evenV (leftF sh hv)=false then([],1) else if((leftF sh hv).length:Int)<k then([],3) else
 if(decV k (sh.length-k) (numsF 0 hv)).2≠0 then([],(decV k (sh.length-k) (numsF 0 hv)).2) else(spreadV (decV k (sh.length-k) (numsF 0 hv)).1 ((leftF sh hv).take k.toNat),0)
theorem leftF_mem:∀(sh:List By) (hv:List Bool) (s:By),s∈leftF sh hv→s∈sh
 |s::r,b::bs,x,h=>by
  unfold leftF at h
  split at h
  ·rcases QB.1 h with rfl|h
   ·simp
   ·exact Qu _ (leftF_mem r bs x h)
  ·exact Qu _ (leftF_mem r bs x h)
 |[],_,x,h=>by cases h
 |_::_,[],x,h=>by cases h
theorem leftF_len:∀(sh:List By) (hv:List Bool),(leftF sh hv).length≤sh.length
 |s::r,b::bs=>by
  have:=leftF_len r bs
  unfold leftF
  split<;>simp<;>omega
 |[],_=>by simp[leftF]
 |_::_,[]=>by simp[leftF]
theorem numsF_len:∀(i:Nat) (hv:List Bool),(numsF i hv).length≤hv.length
 |_,[]=>by simp[numsF]
 |i,b::bs=>by
  have:=numsF_len (i+1) bs
  unfold numsF
  split<;>simp<;>omega
theorem swapM_len(L:List By)(r c:Nat):(swapM L r c).length=L.length:=by unfold swapM;simp
theorem scalM_len(L:List By)(c:Nat)(x:UInt8):(scalM L c x).length=L.length:=by unfold scalM;simp
theorem clrF_len(c:Nat):∀(q k:Nat) (M:List By×List By),(clrF c q k M).2.length=M.2.length
 |0,_,M=>by unfold clrF;rfl
 |q+1,k,M=>by
  unfold clrF
  rw[clrF_len c q]
  split<;>simp
theorem colF_len(n:Nat):∀(q c:Nat) (L R X:List By),colF n q c L R=some X→X.length=R.length
 |0,_,L,R,X,h=>by unfold colF at h;exact QS h▸rfl
 |q+1,c,L,R,X,h=>by
  unfold colF at h
  split at h
  ·cases h
  ·rw[colF_len n q _ _ _ X h]
   unfold colM
   rw[clrF_len,scalM_len,swapM_len]
theorem invV_l(a:List By):(invV a).1.length≤a.length:=by
 unfold invV
 split
 ·cases h:colF a.length a.length 0 a (unitL a.length) with
  |none=>simp[invR]
  |some X=>simp[invR,colF_len _ _ _ _ _ X h,unitL]
 ·simp
theorem decV_l(k m:Int)(hv:List Int)(hh:hv.length≤255):(decV k m hv).1.length≤255:=by
 unfold decV
 repeat' split
 all_goals try simp
 refine Qb (invV_l _) (Qb (pickV_l _ _) ?_)
 simp
 omega
theorem s_decode(k:Int)(sh:List By)(hv:List Bool){sv bv:Value}{H:Heap}(hs:Rd H sv (strV sh))(hb:Rd H bv (boolV hv))(hk: -65535≤k∧k≤65535)(hn:sh.length≤1000)(hnb:hv.length≤1000000)(hl:∀r∈sh,r.length≤1000000000):
  Spec prog 201 #[.int .i64 k,sv,bv] H nob λu H'=>∃w,u=.tuple #[w,.int .i64 (decodeV k sh hv).2]∧Own H' H.size 9 1 w (decodeV k sh hv).1.length (strV (decodeV k sh hv).1):=by
 unfold decodeV
 obtain⟨aa,ca,rfl,hsw⟩:=hs.strs
 obtain⟨ab,cb,rfl,hbw⟩:=hb.bools
 clear hs hb
 have hmay:=λH=>s_may k (sh.length-k) H
 by_cases h1:hv.length=sh.length
 case neg=>
  rw[if_pos h1]
  refine spx func201 ?_
  conv=>whnf
  refine⟨rfl,λ_=>?_,λh=>absurd h (by omega)⟩
  exact⟨_,rfl,Own.nil _ _ _ _⟩
 rw[if_neg (λh=>h h1)]
 by_cases h2:k<1
 ·rw[if_pos h2]
  refine spx func201 ?_
  conv=>whnf
  refine⟨rfl,λh=>absurd (by omega) h,λ_=>?_⟩
  conv=>whnf
  refine⟨rfl,λ_=>?_,λh=>absurd h2 h⟩
  exact⟨_,rfl,Own.nil _ _ _ _⟩
 rw[if_neg h2]
 cases h3:mayKM k (sh.length-k) with
 |false=>
  rw[h3] at hmay
  rw[if_pos rfl]
  refine spx func201 ?_
  conv=>whnf
  refine⟨rfl,λh=>absurd (by omega) h,λ_=>?_⟩
  conv=>whnf
  refine⟨rfl,λh=>absurd h h2,λ_=>?_⟩
  conv=>whnf
  refine⟨rfl,(sh.length:Int)-k,wr64 (by omega) (by omega),?_⟩
  conv=>whnf
  refine .q (hmay _) ?_
  rintro _ H1 rfl e1 _
  exact⟨_,rfl,Own.nil _ _ _ _⟩
 |true=>
  rw[h3] at hmay
  rw[if_neg (by decide)]
  have hmb:=mayKM.b h3
  have hLm:=leftF_mem sh hv
  have hLl:=leftF_len sh hv
  have hNl:=numsF_len 0 hv
  generalize hLf:leftF sh hv=Lf at*
  generalize hNf:numsF 0 hv=Nf at*
  have hdl:=decV_l k (sh.length-k) Nf (by omega)
  have hdc:=λ{X:Heap} {v:Value} (h:Rd X v (intV Nf))=>s_decoder k (sh.length-k) Nf h (by omega) (by omega)
  generalize decV k (sh.length-k) Nf=dc at*
  have hev:=λ{X:Heap} {v:Value} (h:Rd X v (strV Lf))=>s_even Lf h (by omega)
  generalize evenV Lf=ev at*
  generalize hrd:((if ev=false then([],1) else if(Lf.length:Int)<k then([],3) else if dc.2≠0 then([],dc.2) else(spreadV dc.1 (Lf.take k.toNat),0)):List By×Int)=rd
  refine spx func201 ?_
  conv=>whnf
  refine⟨rfl,λh=>absurd (by omega) h,λ_=>?_⟩
  conv=>whnf
  refine⟨rfl,λh=>absurd h h2,λ_=>?_⟩
  conv=>whnf
  refine⟨rfl,(sh.length:Int)-k,wr64 (by omega) (by omega),?_⟩
  conv=>whnf
  refine .q (hmay _) ?_
  rintro _ H1 rfl e1 _
  conv=>whnf
  refine⟨Nat×(List By×List Bool)×(List By×Value)×(List Int×Value),λx=>[(34,.int .i64 (x.1:Int)),(8,x.2.2.1.2),(9,x.2.2.2.2)],λx H'=>x.1+x.2.1.1.length=sh.length∧x.2.1.2.length=x.2.1.1.length∧sh.drop x.1=x.2.1.1∧hv.drop x.1=x.2.1.2∧x.2.2.1.1++leftF x.2.1.1 x.2.1.2=Lf∧x.2.2.2.1++numsF x.1 x.2.1.2=Nf∧x.2.2.1.1.length≤x.1∧x.2.2.2.1.length≤x.1∧Own H' H.size 9 1 x.2.2.1.2 x.2.2.1.1.length (strV x.2.2.1.1)∧Own H' H.size 3 1 x.2.2.2.2 x.2.2.2.1.length (intV x.2.2.2.1)∧Frm nob H H',λx=>x.2.1.1.length,
   ⟨(0,(sh,hv),([],.slice none 0 0),([],.slice none 0 0)),⟨rfl,rfl,rfl,trivial⟩,by simp,h1,rfl,rfl,by simpa using hLf,by simpa using hNf,Qd _,Qd _,Own.nil _ _ _ _,Own.nil _ _ _ _,e1⟩,?_⟩
  rintro⟨i,⟨r,bs⟩,⟨al,v8⟩,⟨an,v9⟩⟩ H2 junk ⟨hi,hbl,hds,hdb,hLf',hNf',hal,han,ho8,ho9,hF⟩ F
  dsimp only at hi hbl hds hdb hLf' hNf' hal han ho8 ho9
  conv=>whnf
  refine⟨rfl,λh=>?_,λh=>?_⟩
  ·have h':i<sh.length:=by have:(i:Int)<(sh.length:Int):=h;omega
   cases r with
   |nil=>simp at hi;omega
   |cons y r=>
    cases bs with
    |nil=>simp at hbl
    |cons b bs=>
     have hy:sh[i]? =some y:=by
      have:=Qf (·[0]?) hds
      simpa using this
     have hz:hv[i]? =some b:=by
      have:=Qf (·[0]?) hdb
      simpa using this
     have hds':sh.drop (i+1)=r:=by
      have:=Qf List.tail hds
      simpa using this
     have hdb':hv.drop (i+1)=bs:=by
      have:=Qf List.tail hdb
      simpa using this
     have hcs:=hsw i y hy
     have hcb:=hbw i b hz
     unfold leftF at hLf'
     unfold numsF at hNf'
     refine Qh hcs λb1 hcs=>Qh hcs λo1 hcs=>?_
     refine Qh hcb λb2 hcb=>Qh hcb λo2 hcb=>?_
     have hcs1:=hcs.1
     have hcb1:=hcb.1
     subst hcs1 hcb1
     conv=>whnf
     refine⟨i,rfl,h',?_⟩
     conv=>whnf
     refine⟨_,hF.cel hcs.2,?_⟩
     conv=>whnf
     refine⟨i,rfl,by show i<hv.length;omega,?_⟩
     conv=>whnf
     refine⟨_,hF.cel hcb.2,?_⟩
     cases b with
     |false=>
      rw[if_neg (by decide)] at hLf' hNf'
      conv=>whnf
      refine⟨rfl,((i+1:Nat):Int),wr64 (by omega) (by omega),?_⟩
      exact⟨(i+1,(r,bs),(al,v8),(an,v9)),⟨rfl,rfl,rfl,trivial⟩,⟨by simp at hi⊢;omega,by simpa using hbl,hds',hdb',hLf',hNf',by dsimp only;omega,by dsimp only;omega,ho8,ho9,hF⟩,by show r.length<r.length+1;omega⟩
     |true=>
      rw[if_pos rfl] at hLf' hNf'
      have h0:=hF.1
      conv=>whnf
      refine⟨rfl,?_⟩
      intro H3 q f3 _
      have ho83:=ho8.q f3.e
      have ho93:=ho9.q f3.e
      conv=>whnf
      refine .el [.string (S y)] (by kernel_rfl) ho83 (CellsAt.new (cs:=[.string _]) f3) rfl (by simp[oneCell]) (by omega) (by have:=f3.e.1;omega) (λk hk=>.inr (ho83.ge k hk).1) ?_
      intro w8 H4 ho84 e4 _
      have ho94:=ho93.frm e4 (λk hk=>ho93.apart ho83 (by decide) k hk)
      have hF4:=(hF.trans f3.e).then e4 (λk hk=>.inr (ho83.ge k hk).1)
      conv=>whnf
      refine⟨rfl,?_⟩
      intro H5 q5 f5 _
      have ho85:=ho84.q f5.e
      have ho95:=ho94.q f5.e
      have h04:=hF4.1
      conv=>whnf
      refine .el [.int .i64 (i:Int)] (by kernel_rfl) ho95 (CellsAt.new (cs:=[.int .i64 _]) f5) rfl (by simp[oneCell]) (by omega) (by have:=f5.e.1;omega) (λk hk=>.inr (ho95.ge k hk).1) ?_
      intro w9 H6 ho96 e6 _
      have ho86:=ho85.frm e6 (λk hk=>ho85.apart ho95 (by decide) k hk)
      have hF6:=(hF4.trans f5.e).then e6 (λk hk=>.inr (ho95.ge k hk).1)
      conv=>whnf
      refine⟨rfl,((i+1:Nat):Int),wr64 (by omega) (by omega),?_⟩
      refine⟨(i+1,(r,bs),(al++[y],w8),(an++[(i:Int)],w9)),⟨rfl,rfl,rfl,trivial⟩,⟨by simp at hi⊢;omega,by simpa using hbl,hds',hdb',by simpa using hLf',by simpa using hNf',by simp;omega,by simp;omega,?_,?_,hF6⟩,by show r.length<r.length+1;omega⟩
      ·dsimp only
       rw[Qi,strV_snoc]
       exact ho86
      ·dsimp only
       rw[Qi]
       unfold intV at ho96⊢
       rw[Qy]
       exact ho96
  ·have hr0:r=[]:=Qm (by have:¬(i:Int)<(sh.length:Int):=h;omega)
   have hb0:bs=[]:=Qm (by rw[hbl,hr0];rfl)
   rw[hr0,hb0] at hLf'
   rw[hb0] at hNf'
   unfold leftF at hLf'
   unfold numsF at hNf'
   rw[QT] at hLf' hNf'
   rw[hLf'] at ho8
   rw[hNf'] at ho9
   have hr8:=ho8.rd.1
   cases ev with
   |false=>
    rw[if_pos rfl] at hrd
    subst hrd
    conv=>whnf
    refine .q (hev hr8) ?_
    rintro _ H3 rfl e3 _
    exact⟨_,rfl,Own.nil _ _ _ _⟩
   |true=>
    rw[if_neg (by decide)] at hrd
    have hv8:=hr8.strs
    refine Qh hv8 λa8 hv8=>Qh hv8 λc8 hv8=>?_
    have hv81:=hv8.1
    subst hv81
    conv=>whnf
    refine .q (hev hr8) ?_
    rintro _ H3 rfl e3 _
    conv=>whnf
    refine⟨rfl,λh4=>?_,λh4=>?_⟩
    ·rw[if_pos h4] at hrd
     subst hrd
     exact⟨_,rfl,Own.nil _ _ _ _⟩
    have h4':¬(Lf.length:Int)<k:=h4
    rw[if_neg h4'] at hrd
    conv=>whnf
    refine⟨rfl,(sh.length:Int)-k,wr64 (by omega) (by omega),?_⟩
    conv=>whnf
    refine .q (hdc (ho9.q e3).rd.1) ?_
    rintro _ H4 ⟨w4,rfl,ho4⟩ e4 _
    conv=>whnf
    refine⟨rfl,λh5=>?_,λh5=>?_⟩
    ·rw[if_pos h5] at hrd
     subst hrd
     exact⟨_,rfl,Own.nil _ _ _ _⟩
    rw[if_neg (λe=>e h5)] at hrd
    have h34:=e3.trans e4
    have hpre:=(hr8.q h34).pre (k:=k.toNat) (by omega) (by simp[strV];omega)
    refine Qh hpre λb8 hpre=>Qh hpre λo8 hpre=>?_
    have hpre1:=hpre.1
    subst hpre1
    have htk:(strV Lf).take k.toNat=strV (Lf.take k.toNat):=by simp[strV,List.map_take]
    have hr9:=hpre.2.2.2
    rw[htk] at hr9
    have hsp:=s_spread dc.1 (Lf.take k.toNat) ho4.rd.1 hr9 (by omega) (by simp;omega) (λr hr=>hl r (hLm r (Z4 hr)))
    have hsl:(spreadV dc.1 (Lf.take k.toNat)).length=dc.1.length:=by simp[spreadV]
    have hkz:Value.int .i64 k=Value.int .i64 ((k.toNat:Nat):Int):=Qf (Value.int .i64) (QL (by omega)).symm
    subst hrd
    conv=>whnf
    refine⟨0,k.toNat,rfl,⟨.i64,hkz⟩,Qk _,hpre.2.1,k.toNat,o8,c8,rfl,rfl,by rw[hpre.2.2.1];rfl,?_⟩
    conv=>whnf
    refine .q (hsp) ?_
    rintro w5 H5 ho5 e5 _
    refine⟨w5,rfl,?_⟩
    show Own _ H.size 9 1 w5 (spreadV dc.1 (Lf.take k.toNat)).length (strV (spreadV dc.1 (Lf.take k.toNat)))
    rw[hsl]
    exact ho5.low (hF.trans h34).1
theorem gatherV_len(cs:By)(l:List By)(n:Nat)(h:∀r∈l,r.length≤n):(gatherV cs l).1.length≤n:=by
 unfold gatherV
 split
 ·show(gathV cs l).length≤n
  unfold gathV vsum
  rw[Qv,Zr]
  cases l with
  |nil=>simp
  |cons x r=>exact h x (by simp)
 ·simp
theorem decodeV_row(k:Int)(sh:List By)(hv:List Bool)(n:Nat)(h:∀r∈sh,r.length≤n):∀r∈(decodeV k sh hv).1,r.length≤n:=by
 unfold decodeV
 repeat' split
 all_goals try (intro r hr;simp at hr;done)
 intro r hr
 simp only[spreadV,Qw] at hr
 obtain⟨x,_,rfl⟩:=hr
 exact gatherV_len _ _ n λs hs=>h s (leftF_mem sh hv s (Z4 hs))
theorem decodeV_l(k:Int)(sh:List By)(hv:List Bool)(hn:hv.length≤255∨sh.length≤255):(decodeV k sh hv).1.length≤255:=by
 unfold decodeV
 repeat' split
 all_goals try simp
 rename_i h1 _ _ _ _ _
 simp only[spreadV,Qv]
 have:=numsF_len 0 hv
 exact decV_l _ _ _ (by omega)
theorem decodeV_same(k:Int)(sh:List By)(hv:List Bool)(h:(decodeV k sh hv).2≠1):hv.length=sh.length:=by
 unfold decodeV at h
 by_cases h1:hv.length=sh.length
 ·exact h1
 ·rw[if_pos h1] at h
  exact(h rfl).elim
theorem flatten_le(n:Nat):∀(l:List By),(∀r∈l,r.length≤n)→l.flatten.length≤l.length*n
 |[],_=>by simp
 |x::r,h=>by
  have h1:=h x (by simp)
  have h2:=flatten_le n r λy hy=>h y (by simp[hy])
  rw[Ze,Qi,Qo,Q6]
  omega
theorem cutV_nn(s:By)(n:Nat):0≤cutV s n:=by unfold cutV;split<;>omega
def badF(c:Int):List By→List Bool→Bool
 |s::r,b::bs=>if b=true then(if(s.length:Int)≠c then true else badF c r bs) else badF c r bs
 |_,_=>false
def joinV(c:Cf)(sh:List By)(hv:List Bool):By×Int:=
 if ¬cfOk c then([],1) else if(sh.length:Int)≠cfDisks c then([],1) else
 if(decodeV c.k sh hv).2=1 then([],1) else if badF c.sh sh hv=true then([],1) else if(decodeV c.k sh hv).2≠0 then([],(decodeV c.k sh hv).2) else
 if((cutR (decodeV c.k sh hv).1.flatten 4).length:Int)<cutV (decodeV c.k sh hv).1.flatten 4 then([],5) else
 if Lib.trimB ((cutR (decodeV c.k sh hv).1.flatten 4).drop (cutV (decodeV c.k sh hv).1.flatten 4).toNat) 0≠[] then([],5) else
 ((cutR (decodeV c.k sh hv).1.flatten 4).take (cutV (decodeV c.k sh hv).1.flatten 4).toNat,0)
attribute [local irreducible] decodeV
theorem s_sjoin(c:Cf)(sh:List By)(hv:List Bool){sv bv:Value}{H:Heap}(hs:Rd H sv (strV sh))(hb:Rd H bv (boolV hv))(hn:sh.length≤255)(hnb:hv.length≤1000000)(hl:∀r∈sh,r.length≤1000000):
  Spec prog 132 #[cfV c,sv,bv] H nob λu _=>u=.tuple #[.string (S (joinV c sh hv).1),.int .i64 (joinV c sh hv).2]:=by
 have hrd:joinV c sh hv=if ¬cfOk c then([],1) else if(sh.length:Int)≠cfDisks c then([],1) else
  if(decodeV c.k sh hv).2=1 then([],1) else if badF c.sh sh hv=true then([],1) else if(decodeV c.k sh hv).2≠0 then([],(decodeV c.k sh hv).2) else
  if((cutR (decodeV c.k sh hv).1.flatten 4).length:Int)<cutV (decodeV c.k sh hv).1.flatten 4 then([],5) else
  if Lib.trimB ((cutR (decodeV c.k sh hv).1.flatten 4).drop (cutV (decodeV c.k sh hv).1.flatten 4).toNat) 0≠[] then([],5) else
  ((cutR (decodeV c.k sh hv).1.flatten 4).take (cutV (decodeV c.k sh hv).1.flatten 4).toNat,0):=rfl
 generalize joinV c sh hv=rd at hrd⊢
 have hdec:=λ{X:Heap} (hX:Frm nob H X) (hk: -65535≤c.k∧c.k≤65535)=>s_decode c.k sh hv (hs.q hX) (hb.q hX) hk (by omega) hnb (λr hr=>Qb (hl r hr) (by decide))
 have hrow:=decodeV_row c.k sh hv 1000000 hl
 have hdl:=decodeV_l c.k sh hv (.inr hn)
 have hsame:=decodeV_same c.k sh hv
 generalize decodeV c.k sh hv=dc at*
 have hfl:=flatten_le 1000000 dc.1 hrow
 have hjf:=join_flat dc.1
 have hjoin:=λ{X:Heap} {v:Value} (h:Rd X v (strV dc.1))=>s_join (H:=X) dc.1 [] h (by omega) (by rw[hjf];exact Qb hfl (by omega))
 rw[hjf] at hjoin
 have hcut:=λH=>s_cut (S dc.1.flatten) 4 (by decide) (by decide) H
 rw[L_S] at hcut
 have hcn:=cutV_nn dc.1.flatten 4
 have hcr:=cutR_len dc.1.flatten 4
 generalize cutV dc.1.flatten 4=n at*
 generalize cutR dc.1.flatten 4=rest at*
 generalize cutE dc.1.flatten 4=ce at*
 have htr:=λH=>s_trim1 (S (rest.drop n.toNat)) 0 (by decide) (by rw[S_size];simp;omega) H
 rw[L_S] at htr
 have hx1:n.toNat≤rest.length→(S rest).extract n.toNat (S rest).size=S (rest.drop n.toNat):=λ_=>by rw[extract_drop _ _ _ (Qd _),L_S]
 have hx2:(S rest).extract 0 n.toNat=S (rest.take n.toNat):=by rw[extract_take,L_S]
 have hSr:=S_size rest
 generalize Lib.trimB (rest.drop n.toNat) 0=tz at*
 obtain⟨aa,ca,rfl,hsw⟩:=hs.strs
 obtain⟨ab,cb,rfl,hbw⟩:=hb.bools
 clear hs hb
 refine spx func132 ?_
 conv=>whnf
 intro H1 g f1 _
 have hg1:H1[g]? =some (.cells (cfL c).toArray 23 (0,0)):=f1.at
 conv=>whnf
 refine⟨cfL c,rfl,CellsAt.new f1,?_⟩
 conv=>whnf
 refine .q (s_check c _) ?_
 rintro _ H2 rfl e2 _
 conv=>whnf
 refine⟨rfl,λh=>?_,λh=>?_⟩
 ·have h':¬cfOk c:=λe=>h (cfE0.2 e)
  rw[if_pos h'] at hrd
  subst hrd
  exact⟨Qf (λx=>Value.tuple #[.string (S []),.int .i64 x]) (cfE1 h')⟩
 have hok:=cfE0.1 h
 have hkb:=hok.b
 rw[if_neg (λe=>e hok)] at hrd
 have hg2:=e2.blk hg1
 conv=>whnf
 refine⟨cfL c,rfl,CellsAt.at hg2,?_⟩
 conv=>whnf
 refine .q (s_disks c _) ?_
 rintro _ H3 rfl e3 _
 conv=>whnf
 refine⟨rfl,λh1=>?_,λh1=>?_⟩
 ·rw[if_pos h1] at hrd
  subst hrd
  exact⟨rfl⟩
 rw[if_neg (λe=>e h1)] at hrd
 have hF3:=(f1.e.trans e2).trans e3
 have hg3:=e3.blk hg2
 conv=>whnf
 refine⟨_,cel_of hg3 rfl,?_⟩
 conv=>whnf
 refine .q (hdec hF3 (by omega)) ?_
 rintro _ H4 ⟨w,rfl,ho⟩ e4 _
 have hF4:=hF3.trans e4
 have hg4:=e4.blk hg3
 conv=>whnf
 refine⟨rfl,λh2=>?_,λh2=>?_⟩
 ·rw[if_pos h2] at hrd
  subst hrd
  exact⟨Qf (λx=>Value.tuple #[.string (S []),.int .i64 x]) h2⟩
 rw[if_neg h2] at hrd
 have hsm:=hsame h2
 generalize hB:badF c.sh sh hv=B at hrd
 conv=>whnf
 refine⟨Nat×List By×List Bool,λx=>[(39,.int .i64 (x.1:Int))],λx H'=>x.1+x.2.1.length=sh.length∧x.2.2.length=x.2.1.length∧sh.drop x.1=x.2.1∧hv.drop x.1=x.2.2∧badF c.sh x.2.1 x.2.2=B∧H=H∧Frm nob H4 H',λx=>x.2.1.length,
  ⟨(0,sh,hv),⟨rfl,trivial⟩,by simp,hsm,rfl,rfl,hB,rfl,Frm.refl _ _⟩,?_⟩
 rintro⟨i,r,bs⟩ H5 junk ⟨hi,hbl,hds,hdb,hbf,_,hF⟩ F
 dsimp only at hi hbl hds hdb hbf
 conv=>whnf
 refine⟨rfl,λh=>?_,λh=>?_⟩
 ·have h':i<sh.length:=by have:(i:Int)<(sh.length:Int):=h;omega
  cases r with
  |nil=>simp at hi;omega
  |cons y r=>
   cases bs with
   |nil=>simp at hbl
   |cons b bs=>
    have hy:sh[i]? =some y:=by
     have:=Qf (·[0]?) hds
     simpa using this
    have hz:hv[i]? =some b:=by
     have:=Qf (·[0]?) hdb
     simpa using this
    have hds':sh.drop (i+1)=r:=by
     have:=Qf List.tail hds
     simpa using this
    have hdb':hv.drop (i+1)=bs:=by
     have:=Qf List.tail hdb
     simpa using this
    have hcs:=hsw i y hy
    have hcb:=hbw i b hz
    unfold badF at hbf
    refine Qh hcs λb1 hcs=>Qh hcs λo1 hcs=>?_
    refine Qh hcb λb2 hcb=>Qh hcb λo2 hcb=>?_
    have hcs1:=hcs.1
    have hcb1:=hcb.1
    subst hcs1 hcb1
    conv=>whnf
    refine⟨i,rfl,h',?_⟩
    conv=>whnf
    refine⟨_,(hF4.trans hF).cel hcs.2,?_⟩
    conv=>whnf
    refine⟨i,rfl,by show i<hv.length;omega,?_⟩
    conv=>whnf
    refine⟨_,(hF4.trans hF).cel hcb.2,?_⟩
    cases b with
    |false=>
     rw[if_neg (by decide)] at hbf
     conv=>whnf
     refine⟨rfl,((i+1:Nat):Int),wr64 (by omega) (by omega),?_⟩
     exact⟨(i+1,r,bs),⟨rfl,trivial⟩,⟨by simp at hi⊢;omega,by simpa using hbl,hds',hdb',hbf,rfl,hF⟩,by show r.length<r.length+1;omega⟩
    |true=>
     rw[if_pos rfl] at hbf
     have hSy:=S_size y
     conv=>whnf
     refine⟨_,cel_of (hF.blk hg4) rfl,?_⟩
     conv=>whnf
     refine⟨rfl,λh5=>?_,λh5=>?_⟩
     ·rw[if_pos (by have h5':¬((S y).size:Int)=c.sh:=h5;omega)] at hbf
      rw[if_pos hbf.symm] at hrd
      subst hrd
      exact⟨rfl⟩
     ·rw[if_neg (by have h5':((S y).size:Int)=c.sh:=h5;omega)] at hbf
      conv=>whnf
      refine⟨rfl,((i+1:Nat):Int),wr64 (by omega) (by omega),?_⟩
      exact⟨(i+1,r,bs),⟨rfl,trivial⟩,⟨by simp at hi⊢;omega,by simpa using hbl,hds',hdb',hbf,rfl,hF⟩,by show r.length<r.length+1;omega⟩
 ·have hr0:r=[]:=Qm (by have:¬(i:Int)<(sh.length:Int):=h;omega)
  rw[hr0] at hbf
  unfold badF at hbf
  rw[if_neg (by rw[←hbf];decide)] at hrd
  conv=>whnf
  refine⟨rfl,λh6=>?_,λh6=>?_⟩
  ·rw[if_pos h6] at hrd
   subst hrd
   exact⟨rfl⟩
  rw[if_neg (λe=>e h6)] at hrd
  conv=>whnf
  refine .q (hjoin (ho.q hF).rd.1) ?_
  rintro _ H6 rfl e6 _
  conv=>whnf
  refine .q (hcut _) ?_
  rintro _ H7 rfl e7 _
  conv=>whnf
  refine⟨rfl,λh7=>?_,λh7=>?_⟩
  ·rw[if_pos (by have h7':((S rest).size:Int)<n:=h7;omega)] at hrd
   subst hrd
   exact⟨rfl⟩
  have h7':¬((S rest).size:Int)<n:=h7
  rw[if_neg (by omega)] at hrd
  have hnz:Value.int .i64 n=Value.int .i64 ((n.toNat:Nat):Int):=Qf (Value.int .i64) (QL hcn).symm
  conv=>whnf
  refine⟨n.toNat,(S rest).size,⟨.i64,hnz⟩,rfl,by omega,Qd _,_,hx1 (by omega),?_⟩
  conv=>whnf
  refine .q (htr _) ?_
  rintro _ _ ⟨rfl,rfl⟩ e8 _
  conv=>whnf
  refine⟨λh8=>?_,λh8=>?_⟩
  ·rw[if_pos (λe=>h8 (by rw[e];rfl))] at hrd
   subst hrd
   exact⟨rfl⟩
  rw[if_neg (λe=>e (by have:=Qf L (show S tz=S [] from h8);rwa[L_S,L_S] at this))] at hrd
  subst hrd
  conv=>whnf
  refine⟨0,n.toNat,rfl,⟨.i64,hnz⟩,Qk _,by omega,_,hx2,?_⟩
  exact⟨rfl⟩
attribute [irreducible] joinV
end Go.Proofs.YtjambljmnifknaaGreatDoor.Vc
namespace Go.Proofs.YtjambljmnifknaaGreatDoor.Vc
open Go Go.RowKit Tp
def entO(i:Nat)(x:It):MapEntry:={key:=.int .i64 x.stripe,val:=itV x,born:=i}
def entL:Nat→List It→List MapEntry
 |_,[]=>[]
 |i,x::l=>entO i x::entL (i+1) l
def mapO(l:List It):Obj:=.map (entL 0 l).toArray l.length
theorem entL_get:∀(i:Nat) (l:List It) (j:Nat),(entL i l)[j]? =(l[j]?).map (entO (i+j))
 |_,[],j=>by simp[entL]
 |i,x::l,0=>by simp[entL]
 |i,x::l,j+1=>by
  simp only[entL,ZV,entL_get (i+1) l j]
  rw[show i+1+j=i+(j+1) by omega]
theorem entL_app:∀(i:Nat) (l:List It) (x:It),entL i (l++[x])=entL i l++[entO (i+l.length) x]
 |i,[],x=>rfl
 |i,y::l,x=>by
  simp only[QR,entL,entL_app (i+1) l x,Qo]
  rw[show i+1+l.length=i+(l.length+1) by omega]
def findS(l:List It)(s:Int):Option (Nat×It):=match l.findIdx? λx=>decide (s=x.stripe) with
 |some i=>(l[i]?).map λx=>(i,x)
 |none=>none
def putM(l:List It)(x:It):List It:=match l.findIdx? λy=>decide (x.stripe=y.stripe) with
 |some i=>l.set i x
 |none=>l++[x]
theorem findNow_ent(s:Int):∀(l:List It) (i:Nat),Instr.findNow (.int .i64) (.int .i64 s) (entL i l) i=some ((findS l s).map λp=>(i+p.1,itV p.2))
 |[],i=>rfl
 |x::l,i=>by
  unfold entL Instr.findNow
  have hs:Instr.sameNow (.int .i64) (.int .i64 s) (entO i x).key=some (s==x.stripe):=by simp[Instr.sameNow,entO]
  rw[hs]
  unfold findS
  rw[List.findIdx?_cons]
  by_cases h:s=x.stripe
  ·have hb:(s==x.stripe)=true:=by simpa using h
   rw[hb]
   simp[h,entO]
  ·have hb:(s==x.stripe)=false:=by simpa using h
   rw[hb]
   dsimp only
   rw[findNow_ent s l (i+1)]
   unfold findS
   simp only[QD,h,YU]
   cases l.findIdx? λx=>decide (s=x.stripe) with
   |none=>rfl
   |some k=>
    simp only[ZY,ZV]
    cases l[k]? with
    |none=>rfl
    |some y=>simp;omega
theorem run_lookup_it(w:World)(b:Nat)(l:List It)(s:Int)(hb:w.heap[b]? =some (mapO l)):
  (Instr.lookup 186 (.map (some b)) (.int .i64 s) true).run prog w=.ok (.tuple #[itV (((findS l s).map (·.2)).getD it0),.bool (findS l s).isSome]) w:=by
 unfold mapO at hb
 have hu:=run_underlying underlying186
 have hu3:=run_underlying underlying3
 have hck:(Instr.checkKey (entL 0 l).toArray.isEmpty 10000 3 (.int .i64 s)).run prog w=.ok () w:=by
  rw[show(10000:Nat)=9999+1 from rfl]
  unfold Instr.checkKey
  simp[Sem.run_bind,hu3 w,Result.andThen]
 have hfk:(Instr.findKey 3 (.int .i64 s) (entL 0 l)).run prog w=.ok ((findS l s).map λp=>(0+p.1,itV p.2)) w:=by
  unfold Instr.findKey
  simp only[Sem.run_bind,hu3 w,Result.andThen]
  rw[findNow_ent]
  rfl
 have hz:(zeroValue 82).run prog w=.ok (itV it0) w:=by kernel_rfl
 unfold Instr.lookup
 simp only[Sem.run_bind,hu w,Result.andThen,getObj,Sem.run,hb]
 rw[show Sem.run prog (pure (entL 0 l).toArray) w=.ok (entL 0 l).toArray w from rfl]
 dsimp only
 rw[hck]
 dsimp only
 rw[hfk]
 cases findS l s with
 |none=>simp only[Yg];rw[Sem.run_bind,hz];rfl
 |some p=>rfl
theorem raw_lookup{c:Ctx}{ρ:Operand→Value}{o:Oper}{H:Heap}{K:KK}{m x:Operand}{b:Nat}{l:List It}{s:Int}(hP:c.P=prog)(ho:o.op=.lookup 186 m x true)(hm:ρ m=.map (some b))(hx:ρ x=.int .i64 s)
  (hb:H[b]? =some (mapO l)) (hF:Frm c.S c.H0 H) (k:K (.tuple #[itV (((findS l s).map (·.2)).getD it0),.bool (findS l s).isSome]) H):RawVC c ρ o H K:=
 ⟨λw hw=>⟨_,w,.inl (by
  have hr:=run_lookup_it w b l s (by rw[hw];exact hb)
  rw[hP]
  unfold execOp
  rw[ho]
  dsimp only
  rw[hm,hx]
  exact val_run hr),Amb.refl w,by rw[hw];exact hF,by rw[hw];exact k⟩⟩
theorem raw_makeMap{c:Ctx}{ρ:Operand→Value}{o:Oper}{H:Heap}{K:KK}{t:TypeId}(ho:o.op=.makeMap t none)(hF:Frm c.S c.H0 H)
  (k:∀H' b,Fresh H H' b (mapO [])→Frm c.S c.H0 H'→K (.map (some b)) H'):RawVC c ρ o H K:=
 ⟨λw hw=>by
  have hf:Fresh H (w.alloc (mapO [])).heap w.heap.size (mapO []):=⟨by rw[hw],by rw[←hw];rfl⟩
  have hF':=hF.trans (hf.frm _)
  refine⟨.map (some w.heap.size),w.alloc (mapO []),.inl ?_,⟨rfl,rfl,rfl⟩,hF',k _ _ hf hF'⟩
  unfold execOp
  rw[ho]
  dsimp only
  exact val_run rfl⟩
theorem modify_ent(x:It):∀(l:List It) (j i:Nat),(∀y,l[i]? =some y→x.stripe=y.stripe)→(entL j l).modify i (λe=>{e with key:=.int .i64 x.stripe,val:=itV x})=entL j (l.set i x)
 |[],_,_,_=>by simp[entL]
 |y::l,j,0,h=>by simp[entL,entO]
 |y::l,j,i+1,h=>by
  simp only[entL,List.modify_succ_cons,List.set_cons_succ]
  rw[modify_ent x l (j+1) i (λz hz=>h z (by simpa using hz))]
theorem run_update_it(w:World)(b:Nat)(l:List It)(x:It)(hb:w.heap[b]? =some (mapO l)):
  (Instr.mapUpdate 186 (.map (some b)) (.int .i64 x.stripe) (itV x)).run prog w=.ok () (w.putObj b (mapO (putM l x))):=by
 unfold mapO at hb
 have hu:=run_underlying underlying186
 have hu3:=run_underlying underlying3
 have hck:(Instr.checkKey false 10000 3 (.int .i64 x.stripe)).run prog w=.ok () w:=by
  rw[show(10000:Nat)=9999+1 from rfl]
  unfold Instr.checkKey
  simp[Sem.run_bind,hu3 w,Result.andThen]
 have hfk:(Instr.findKey 3 (.int .i64 x.stripe) (entL 0 l)).run prog w=.ok ((findS l x.stripe).map λp=>(0+p.1,itV p.2)) w:=by
  unfold Instr.findKey
  simp only[Sem.run_bind,hu3 w,Result.andThen]
  rw[findNow_ent]
  rfl
 have hso:∀o,(setObj b o).run prog w=.ok () (w.putObj b o):=λo=>by
  simp[setObj,Sem.run,hb,World.putObj]
 unfold Instr.mapUpdate
 simp only[Sem.run_bind,hu w,Result.andThen,getObj,Sem.run,hb]
 rw[hck]
 dsimp only
 rw[hfk]
 unfold findS putM
 cases hf:l.findIdx? (λy=>decide (x.stripe=y.stripe)) with
 |none=>
  dsimp only[Option.map_none]
  rw[hso,mapO,entL_app]
  simp[entO]
 |some i=>
  obtain⟨y,hy,hxy⟩:∃y,l[i]? =some y∧x.stripe=y.stripe:=by
   rw[ZD] at hf
   obtain⟨h1,h2,_⟩:=hf
   exact⟨l[i],Qc h1,by simpa using h2⟩
  have hk:((entL 0 l).toArray[i]?.map (·.key)).getD (.int .i64 x.stripe)=.int .i64 x.stripe:=by
   simp[entL_get,hy,entO,hxy]
  have hks:(Instr.keyThatStays (.int .i64 x.stripe) (.int .i64 x.stripe)).run prog w=.ok (.int .i64 x.stripe) w:=by
   unfold Instr.keyThatStays
   rw[show(10000:Nat)=9999+1 from rfl]
   simp[Instr.sameBits]
  simp only[hy,ZY,Qr]
  rw[Sem.run_bind,hk,hks]
  dsimp only[Result.andThen]
  rw[hso,mapO]
  rw[List.modify_toArray,modify_ent x l 0 i (λz hz=>by rw[hy] at hz;cases hz;exact hxy),Zb]
theorem raw_update{c:Ctx}{ρ:Operand→Value}{o:Oper}{H:Heap}{K:KK}{m k v:Operand}{b:Nat}{l:List It}(x:It)(hP:c.P=prog)(ho:o.op=.mapUpdate 186 m k v)(hm:ρ m=.map (some b))(hk:ρ k=.int .i64 x.stripe)(hv:ρ v=itV x)
  (hb:H[b]? =some (mapO l)) (hS:c.S b∨c.H0.size≤b) (hF:Frm c.S c.H0 H) (hk':∀H',Upd H H' b (mapO (putM l x))→Frm c.S c.H0 H'→K undef H'):RawVC c ρ o H K:=
 ⟨λw hw=>by
  have hr:=run_update_it w b l x (by rw[hw];exact hb)
  have hlt:b<w.heap.size:=by rw[hw];exact(Qa.1 hb).1
  have hu:Upd H (w.putObj b (mapO (putM l x))).heap b (mapO (putM l x)):=⟨World.putObj_heap_same hlt,by rw[←hw];simp,λk hk=>by rw[←hw];exact World.putObj_heap_other hk⟩
  have hF':=Frm.then hF hu.e (λk hk=>by subst hk;exact hS)
  refine⟨undef,w.putObj b (mapO (putM l x)),.inr ⟨?_,rfl⟩,⟨rfl,rfl,rfl⟩,hF',hk' _ hu hF'⟩
  rw[hP]
  unfold execOp
  rw[ho]
  dsimp only
  rw[hm,hk,hv,Sem.run_bind,hr]
  rfl⟩
end Go.Proofs.YtjambljmnifknaaGreatDoor.Vc
