/- Part 20 of the proof of TopAny: key.Unquote · frame: Check, text, Write · frame: changes · frame: Read · scan: Write. -/
import Derived.Test.YtjambljmnifknaaGreatDoorJ19
set_option maxRecDepth 100000
set_option maxHeartbeats 80000000
set_option linter.all false
open Go.Proofs.Tryz
namespace Go.Proofs.YtjambljmnifknaaGreatDoor.Vc
open Go Go.RowKit Tp
def hexs:By:=[48,49,50,51,52,53,54,55,56,57,65,66,67,68,69,70]
def hexV(c:UInt8):Int:=Lib.indexByte hexs c
def unqF:Nat→By→By→Option By
 |_,[],acc=>some acc
 |0,_::_,_=>none
 |q+1,c::r,acc=>if c≠37 then unqF q r (acc++[c]) else if r.length<2 then none else
  if hexV (r.getD 0 0)<0∨hexV (r.getD 1 0)<0 then none else unqF q (r.drop 2) (acc++[UInt8.ofNat (16*(hexV (r.getD 0 0)).toNat+(hexV (r.getD 1 0)).toNat)])
def unqV(s:By):By×Int:=if s=[37] then([],0) else match unqF s.length s [] with
 |none=>([],5)
 |some b=>if quoteV b≠s then([],5) else(b,0)
theorem hexV_le(c:UInt8): -1≤hexV c∧hexV c<16:=by
 have h:∀n:Nat,n<256→ -1≤hexV (UInt8.ofNat n)∧hexV (UInt8.ofNat n)<16:=by decide+kernel
 have:=h c.toNat c.toNat_lt
 rwa[UInt8.ofNat_toNat] at this
theorem hex_or:∀a:Nat,a<16→∀b:Nat,b<16→IntKind.u8.wrap (IntKind.i64.wrap ((BitVec.ofInt IntKind.i64.bits (IntKind.i64.wrap ((a:Int)*2^min (Int.toNat 4) IntKind.i64.bits))|||BitVec.ofInt IntKind.i64.bits (b:Int)).toNat:Int))=(((UInt8.ofNat (16*a+b)).toNat:Nat):Int):=by decide+kernel
theorem s_hex(c:UInt8)(H:Heap):Spec prog 166 #[.string ⟨#[48,49,50,51,52,53,54,55,56,57,65,66,67,68,69,70]⟩,.int .u8 (c.toNat:Int)] H nob λu H'=>u=.int .i64 (hexV c)∧H=H':=by
 have h:=s_idxb ⟨#[48,49,50,51,52,53,54,55,56,57,65,66,67,68,69,70]⟩ (c.toNat:Int) H
 rw[Qn,show c.toNat.toUInt8=c from UInt8.ofNat_toNat] at h
 exact h
attribute [local irreducible] hexV
theorem s_unquote(s:By)(hs:s.length≤1000000000)(H:Heap):Spec prog 105 #[.string (S s)] H nob λu _=>u=.tuple #[.string (S (unqV s).1),.int .i64 (unqV s).2]:=by
 obtain⟨tot,htot⟩:∃t,unqV s=t:=⟨_,rfl⟩
 rw[htot]
 unfold unqV at htot
 obtain⟨U,hU⟩:∃t,unqF s.length s []=t:=⟨_,rfl⟩
 rw[hU] at htot
 refine spx func105 ?_
 conv=>whnf
 refine⟨λh0=>?_,λh0=>?_⟩
 ·rw[if_pos (S_inj (a:=s) (b:=[37]) h0)] at htot
  subst htot
  exact⟨rfl⟩
 rw[if_neg (λe=>h0 (by rw[e];rfl))] at htot
 conv=>whnf
 intro H1 b f1 _
 have hB1:=Bld.new f1
 have hbs:=f1.size
 conv=>whnf
 refine⟨Nat×By×By,λx=>[(5,.string (S x.2.1))],λx H'=>x.2.1.length≤x.1∧unqF x.1 x.2.1 x.2.2=U∧x.2.2.length+x.2.1.length≤s.length∧Bld H' b x.2.2,λx=>x.2.1.length,
  ⟨(s.length,s,[]),⟨rfl,trivial⟩,Qd _,hU,by simp,hB1⟩,?_⟩
 rintro⟨q,l,acc⟩ H2 junk ⟨hq,ht,hal,hB⟩ F
 dsimp only at hq ht hal hB
 have hgS:∀k,TB H2 b k→nob k∨H.size≤k:=λk hk=>.inr (by have:=hk.1;omega)
 cases l with
 |nil=>
  have ht':U=some acc:=by rw[←ht];cases q<;>rfl
  rw[ht'] at htot
  have hq':=λX=>s_quote acc (by simp at hal;omega) X
  dsimp only at htot
  generalize quoteV acc=qv at htot hq'
  conv=>whnf
  refine⟨λh5=>absurd rfl h5,λh5=>?_⟩
  conv=>whnf
  refine .t (s_bstr hB) (hgS) ?_
  rintro _ H4 ⟨rfl,hB4⟩ e4 _
  conv=>whnf
  refine .q (hq' H4) ?_
  rintro _ H5 rfl e5 _
  conv=>whnf
  refine⟨λh6=>?_,λh6=>?_⟩
  ·rw[if_pos (λe=>h6 (by rw[e]))] at htot
   subst htot
   exact⟨rfl⟩
  ·rw[if_neg (λe=>e (S_inj h6))] at htot
   have hB5:=hB4.q e5
   conv=>whnf
   refine .t (s_bstr hB5) (λk hk=>.inr (by have:=hk.1;show H.size≤k;omega)) ?_
   rintro _ H6 ⟨rfl,_⟩ e6 _
   subst htot
   exact⟨rfl⟩
 |cons c l=>
  cases q with
  |zero=>simp at hq
  |succ q=>
  unfold unqF at ht
  conv=>whnf
  refine⟨λh5=>?_,λh5=>absurd (S_inj (a:=c::l) (b:=[]) h5) (by simp)⟩
  conv=>whnf
  refine⟨0,c,rfl,rfl,?_⟩
  conv=>whnf
  refine⟨rfl,λh6=>?_,λh6=>?_⟩
  ·rw[if_pos (λe=>h6 (by rw[e];rfl))] at ht
   conv=>whnf
   refine .t (s_bwb c hB (by simp at hal;omega)) (hgS) ?_
   rintro _ H4 ⟨rfl,hB4⟩ e4 _
   conv=>whnf
   refine⟨1,(S (c::l)).size,⟨_,rfl⟩,rfl,by rw[S_size];simp,Qd _,_,extract_end (c::l) 1,?_⟩
   exact⟨(q,l,acc++[c]),⟨rfl,trivial⟩,⟨by simp at hq;omega,ht,by show(acc++[c]).length+l.length≤_;simp at hal⊢;omega,hB4⟩,by show l.length<l.length+1;omega⟩
  ·have hc37:c=37:=Y1.1 (ZZ.1 h6)
   rw[if_neg (λe=>e hc37)] at ht
   conv=>whnf
   refine⟨rfl,λh7=>?_,λh7=>?_⟩
   ·have h7':((S (c::l)).size:Int)<3:=h7
    rw[S_size] at h7'
    rw[if_pos (by simp at h7';omega)] at ht
    subst ht
    subst htot
    exact⟨rfl⟩
   ·have h7':¬((S (c::l)).size:Int)<3:=h7
    rw[S_size] at h7'
    match l,hq,hal,h7',ht with
    |[],_,_,h7',_=>simp at h7'
    |[_],_,_,h7',_=>simp at h7'
    |x::y::l,hq,hal,h7',ht=>
    rw[if_neg (by simp)] at ht
    have hx:=hexV_le x
    have hy:=hexV_le y
    have hsx:=λX=>s_hex x X
    have hsy:=λX=>s_hex y X
    have ht:(if hexV x<0∨hexV y<0 then none else unqF q l (acc++[UInt8.ofNat (16*(hexV x).toNat+(hexV y).toNat)]))=U:=ht
    generalize hexV x=hx' at hx hsx ht
    generalize hexV y=hy' at hy hsy ht
    conv=>whnf
    refine .p nob (.take 0 (.take 1 (.take 3 (.take 4 (.one 2 (.one 5 (.take 6 (.take 7 .done)))))))) (λ_ h=>h.elim) (by kernel_rfl) ?_
    conv=>whnf
    refine⟨1,x,rfl,rfl,?_⟩
    conv=>whnf
    refine⟨2,y,rfl,rfl,?_⟩
    conv=>whnf
    refine .q (hsx H2) ?_
    rintro _ _ ⟨rfl,rfl⟩ _ _
    conv=>whnf
    refine .q (hsy H2) ?_
    rintro _ _ ⟨rfl,rfl⟩ _ _
    conv=>whnf
    refine⟨rfl,λh8=>?_,λh8=>?_⟩
    ·rw[if_pos (.inl h8)] at ht
     subst ht
     subst htot
     exact⟨rfl⟩
    conv=>whnf
    refine⟨rfl,λh9=>?_,λh9=>?_⟩
    ·rw[if_pos (.inr h9)] at ht
     subst ht
     subst htot
     exact⟨rfl⟩
    rw[if_neg (λe=>e.elim h8 h9)] at ht
    have hor:=hex_or hx'.toNat (by omega) hy'.toNat (by omega)
    rw[QL (by omega),QL (by omega)] at hor
    generalize UInt8.ofNat (16*hx'.toNat+hy'.toNat)=z at hor ht
    conv=>whnf
    refine⟨by decide,_,rfl,?_⟩
    conv=>whnf
    refine⟨rfl,_,rfl,?_⟩
    conv=>whnf
    refine⟨_,hor,?_⟩
    conv=>whnf
    refine .t (s_bwb z hB (by simp at hal;omega)) (hgS) ?_
    rintro _ H4 ⟨rfl,hB4⟩ e4 _
    conv=>whnf
    refine⟨3,(S (c::x::y::l)).size,⟨_,rfl⟩,rfl,by rw[S_size];simp,Qd _,_,extract_end (c::x::y::l) 3,?_⟩
    exact⟨(q,l,acc++[z]),⟨rfl,trivial⟩,⟨by simp at hq;show l.length≤q;omega,ht,by show(acc++[z]).length+l.length≤_;simp at hal⊢;omega,hB4⟩,by show l.length<l.length+1+1+1;omega⟩
attribute [irreducible] unqV
end Go.Proofs.YtjambljmnifknaaGreatDoor.Vc
namespace Go.Proofs.YtjambljmnifknaaGreatDoor.Vc
open Go Go.RowKit Tp
structure Chg where
 key:By
 value:By
 gone:Bool
deriving DecidableEq
def cgL(c:Chg):List Value:=[.string (S c.key),.string (S c.value),.bool c.gone]
def chOk(c:Chg):Prop:=c.key.length≤65535∧c.value.length≤65535
theorem Rw.at{α:Type}{H:Heap}{v:Value}{l:List α}{f:α→List Value}{sz:Nat}(hs:∀x,(f x).length=sz)(h:Rw H v (l.map f)):
  ∃ad cap,v=.slice ad l.length cap∧l.length≤cap∧∀i x,l[i]? =some x→∃b o,ad=some ⟨b,o,none⟩∧CellsAt H b (o+i*sz) (f x):=by
 rcases h with ⟨rfl,hl⟩|⟨b,o,cap,rfl,hc,h⟩
 ·have:l=[]:=by simpa using hl
  subst this
  exact⟨none,0,rfl,Qd _,λi x hx=>by simp at hx⟩
 ·rw[Qv] at hc⊢
  exact⟨_,cap,rfl,hc,λi x hx=>⟨b,o,rfl,h.nth (λy hy=>by obtain⟨z,_,rfl⟩:=Qw.1 hy;exact hs z) (by rw[Qp,hx];rfl)⟩⟩
theorem drop_cons{α:Type}{l:List α}{i:Nat}{y:α}{r:List α}(h:l.drop i=y::r):l[i]? =some y∧l.drop (i+1)=r:=by
 have h1:=Qf (·[0]?) h
 have h2:=Qf List.tail h
 exact⟨by simpa using h1,by simpa using h2⟩
def fchkF:List Chg→Int
 |[]=>0
 |c::r=>if keyE c.key≠0 then keyE c.key else if 1024<c.value.length then 12 else if c.gone=true∧c.value≠[] then 1 else fchkF r
def fchkV(l:List Chg):Int:=if 64<l.length then 12 else if fchkF l≠0 then fchkF l else if l.length=0 then 1 else 0
theorem s_fcheck{H:Heap}{v:Value}{l:List Chg}(hv:Rw H v (l.map cgL))(ho:∀c∈l,chOk c)(hl:l.length≤1000000000):Spec prog 136 #[v] H nob λu _=>u=.int .i64 (fchkV l):=by
 obtain⟨tot,htot⟩:∃t,fchkV l=t:=⟨_,rfl⟩
 rw[htot]
 unfold fchkV at htot
 obtain⟨fl,hfl⟩:∃t,fchkF l=t:=⟨_,rfl⟩
 rw[hfl] at htot
 obtain⟨ad,cap,rfl,_,hw⟩:=hv.at (f:=cgL) (sz:=3) (λ_=>rfl)
 refine spx func136 ?_
 conv=>whnf
 refine⟨rfl,λh1=>?_,λh1=>?_⟩
 ·rw[if_pos (QK.1 h1)] at htot
  subst htot
  exact⟨rfl⟩
 rw[if_neg (λe=>h1 (QK.2 e))] at htot
 conv=>whnf
 refine⟨Nat×List Chg,λx=>[(11,.int .i64 (x.1:Int))],λx H'=>x.1+x.2.length=l.length∧l.drop x.1=x.2∧fchkF x.2=fl∧Frm nob H H',λx=>x.2.length,
  ⟨(0,l),⟨rfl,trivial⟩,by simp,rfl,hfl,Frm.refl _ _⟩,?_⟩
 rintro⟨i,r⟩ H2 junk ⟨hi,hd,ht,hF⟩ F
 dsimp only at hi hd ht
 have F':H.size≤H2.size:=F.1
 conv=>whnf
 refine⟨rfl,λh5=>?_,λh5=>?_⟩
 ·have h':i<l.length:=QK.1 h5
  cases r with
  |nil=>simp at hi;omega
  |cons c r=>
   obtain⟨hy,hd'⟩:=drop_cons hd
   obtain⟨b,o,rfl,hc⟩:=hw i c hy
   have hco:=ho c (Qj hy)
   have hk:=λX=>s_kcheck c.key (by have:=hco.1;omega) X
   unfold fchkF at ht
   generalize keyE c.key=ke at hk ht
   conv=>whnf
   refine⟨i,rfl,h',?_⟩
   conv=>whnf
   refine⟨cgL c,rfl,cells_keep hF id hc,?_⟩
   conv=>whnf
   intro H3 g f3 _
   have hg3:=f3.at
   have hgs:=f3.size
   conv=>whnf
   refine .k (cgL c) (hg3) (.inr (by show H.size≤g;omega)) rfl rfl ?_
   intro H4 u4 _
   have hg4:H4[g]? =some (.cells (cgL c).toArray 158 (0,0)):=u4.1
   have hF4:Frm nob H2 H4:=f3.e.upd u4 (by omega)
   refine go ?_
   conv=>whnf
   refine .q (hk H4) ?_
   rintro _ H5 rfl e5 _
   have hg5:=e5.blk hg4
   conv=>whnf
   refine⟨rfl,λh6=>?_,λh6=>?_⟩
   ·rw[if_pos h6] at ht
    rw[←ht,if_pos h6] at htot
    subst htot
    exact⟨rfl⟩
   rw[if_neg (λe=>e h6)] at ht
   refine go ?_
   conv=>whnf
   refine⟨rfl,λh7=>?_,λh7=>?_⟩
   ·have h7':(1024:Int)<((S c.value).size:Int):=h7
    rw[S_size] at h7'
    rw[if_pos (by omega)] at ht
    rw[←ht,if_pos (by decide)] at htot
    subst htot
    exact⟨rfl⟩
   have h7':¬(1024:Int)<((S c.value).size:Int):=h7
   rw[S_size] at h7'
   rw[if_neg (by omega)] at ht
   rcases ZQ c.gone with hgn|hgn
   ·conv=>whnf
    refine⟨.bool true,(cel_of (v:=.bool c.gone) hg5 rfl).trans (by rw[hgn]),?_⟩
    refine go ?_
    conv=>whnf
    refine⟨λh8=>?_,λh8=>?_⟩
    ·rw[if_pos ⟨hgn,λe=>h8 (by rw[e];rfl)⟩] at ht
     rw[←ht,if_pos (by decide)] at htot
     subst htot
     exact⟨rfl⟩
    ·rw[if_neg (λe=>e.2 (S_inj (b:=[]) h8))] at ht
     refine go ?_
     exact⟨(i+1,r),⟨rfl,trivial⟩,⟨by simp at hi⊢;omega,hd',ht,(hF.trans hF4).trans e5⟩,by show r.length<r.length+1;omega⟩
   ·rw[if_neg (λe=>by rw[hgn] at e;cases e.1)] at ht
    conv=>whnf
    refine⟨.bool false,(cel_of (v:=.bool c.gone) hg5 rfl).trans (by rw[hgn]),?_⟩
    refine go ?_
    exact⟨(i+1,r),⟨rfl,trivial⟩,⟨by simp at hi⊢;omega,hd',ht,(hF.trans hF4).trans e5⟩,by show r.length<r.length+1;omega⟩
 ·have hl0:r=[]:=Qm (by have:¬(i:Int)<(l.length:Int):=h5;omega)
  subst hl0
  rw[←ht,if_neg (by simp[fchkF])] at htot
  conv=>whnf
  refine⟨rfl,λh6=>?_,λh6=>?_⟩
  ·rw[if_pos (ZZ.1 h6)] at htot
   subst htot
   exact⟨rfl⟩
  ·rw[if_neg (λe=>h6 (by rw[e];rfl))] at htot
   subst htot
   exact⟨rfl⟩
theorem s_ftext(s:By)(hs:s.length≤1000000000)(H:Heap):Spec prog 301 #[.string (S s)] H nob λu _=>u=.string (S (textV s)):=by
 have ht:=λX=>s_text (S s) (by rw[S_size];omega) X
 rw[L_S] at ht
 generalize textV s=t at ht⊢
 refine spx func301 ?_
 conv=>whnf
 refine .q (ht H) ?_
 rintro _ _ rfl _ _
 exact⟨rfl⟩
def fone(c:Chg):By:=if c.gone=true then 1::textV c.key else 0::(textV c.key++textV c.value)
def fbodyF:List Chg→By
 |[]=>[]
 |c::r=>fone c++fbodyF r
def putS(n:Int)(k:Nat):By:=L (putV n k)
theorem s_put'(n:Int)(k:Nat)(h1:1≤k)(h2:k≤7)(hn:n≤9223372036854775807)(H:Heap):Spec prog 123 #[.int .i64 n,.int .i64 (k:Int)] H nob λu _=>u=.tuple #[.string (S (putS n k)),.int .i64 (putE n k)]:=s_put n k h1 h2 hn H
theorem putS_len(n:Int)(k:Nat):(putS n k).length≤k:=putV_len n k
theorem fone_len{c:Chg}(h:chOk c):(fone c).length≤3000000:=by
 have h1:=textV_len c.key
 have h2:=textV_len c.value
 obtain⟨h3,h4⟩:=h
 unfold fone
 split<;>simp<;>omega
def fheadV(seq:Int)(b:By):By:=[71]++putS seq 4++putS b.length 4++b
def fwriteV(seq:Int)(l:List Chg):By×Int:=if fchkV l≠0 then([],fchkV l) else if putE seq 4≠0 then([],1) else
 (fheadV seq (fbodyF l)++putS (crcL (fheadV seq (fbodyF l))) 4,0)
theorem fchk_64{l:List Chg}(h:¬fchkV l≠0):l.length≤64:=by
 unfold fchkV at h
 split at h
 ·exact(h (by decide)).elim
 ·omega
theorem fbody_len:∀{l:List Chg},(∀c∈l,chOk c)→(fbodyF l).length≤131080*l.length
 |[],_=>by simp[fbodyF]
 |c::r,h=>by
  have h1:=fbody_len λc hc=>h c (Qu _ hc)
  have h2:=textV_len c.key
  have h3:=textV_len c.value
  obtain⟨h4,h5⟩:=h c (Qs ..)
  have h6:(fone c).length≤131080:=by unfold fone;split<;>simp<;>omega
  unfold fbodyF
  simp only[Qi,Qo]
  omega
theorem fwriteV_len{seq:Int}{l:List Chg}(h:∀c∈l,chOk c):(fwriteV seq l).1.length≤10000000:=by
 unfold fwriteV
 split
 ·simp
 ·rename_i h1
  split
  ·simp
  ·have h2:=fchk_64 h1
   have h3:=fbody_len h
   have h4:=putS_len seq 4
   have h5:=putS_len (fbodyF l).length 4
   have h6:=putS_len (crcL (fheadV seq (fbodyF l))) 4
   have h7:(fheadV seq (fbodyF l)).length≤131080*l.length+9:=by unfold fheadV;simp;omega
   rw[Qi]
   omega
attribute [irreducible] fone fchkV putS
theorem s_fwrite{H:Heap}{v:Value}{l:List Chg}(hv:Rw H v (l.map cgL))(ho:∀c∈l,chOk c)(hl:l.length≤1000000000)(seq:Int)(hq:seq≤9223372036854775807):
  Spec prog 262 #[.agg #[.int .i64 seq,v]] H nob λu _=>u=.tuple #[.string (S (fwriteV seq l).1),.int .i64 (fwriteV seq l).2]:=by
 obtain⟨tot,htot⟩:∃t,fwriteV seq l=t:=⟨_,rfl⟩
 rw[htot]
 unfold fwriteV at htot
 have hck:=λ{X:Heap} (e:Frm nob H X)=>s_fcheck (hv.q e) ho hl
 have h64:=@fchk_64 l
 generalize fchkV l=ck at htot hck h64
 have hp1:=λX=>s_put' seq 4 (by decide) (by decide) hq X
 obtain⟨fb,hfb⟩:∃t,fbodyF l=t:=⟨_,rfl⟩
 rw[hfb] at htot
 obtain⟨ad,cap,rfl,_,hw⟩:=hv.at (f:=cgL) (sz:=3) (λ_=>rfl)
 refine spx func262 ?_
 conv=>whnf
 intro H1 g f1 _
 have hg1:H1[g]? =some (.cells #[.int .i64 seq,.slice ad l.length cap] 106 (0,0)):=f1.at
 have hgs:=f1.size
 refine go ?_
 conv=>whnf
 refine .q (hck f1.e) ?_
 rintro _ H2 rfl e2 _
 have hg2:=e2.blk hg1
 conv=>whnf
 refine⟨rfl,λh1=>?_,λh1=>?_⟩
 ·rw[if_pos h1] at htot
  subst htot
  exact⟨rfl⟩
 rw[if_neg (λe=>e h1)] at htot
 refine go ?_
 conv=>whnf
 refine .q (hp1 H2) ?_
 rintro _ H3 rfl e3 _
 have hg3:=e3.blk hg2
 conv=>whnf
 refine⟨rfl,λh2=>?_,λh2=>?_⟩
 ·rw[if_pos h2] at htot
  subst htot
  exact⟨rfl⟩
 rw[if_neg (λe=>e h2)] at htot
 have hl64:=h64 (λe=>e h1)
 conv=>whnf
 intro H4 b f4 _
 have hB4:=Bld.new f4
 have hbs:=f4.size
 have hg4:=f4.e.blk hg3
 have e14:=((f1.e.trans e2).trans e3).trans f4.e
 have h14:=e14.1
 have hb0:H.size≤b:=by have:=f1.e.1;have:=e2.1;have:=e3.1;omega
 refine go ?_
 conv=>whnf
 refine⟨Nat×List Chg×By,λx=>[(32,.int .i64 (x.1:Int))],λx H'=>x.1+x.2.1.length=l.length∧l.drop x.1=x.2.1∧x.2.2++fbodyF x.2.1=fb∧x.2.2.length≤3000000*x.1∧Bld H' b x.2.2∧Frm (λk=>b≤k) H4 H',λx=>x.2.1.length,
  ⟨(0,l,[]),⟨rfl,trivial⟩,by simp,rfl,hfb,Qk _,hB4,Frm.refl _ _⟩,?_⟩
 rintro⟨i,r,acc⟩ H5 junk ⟨hi,hd,ht,hal,hB,hF⟩ F
 dsimp only at hi hd ht hal hB
 have F':H.size≤H5.size:=F.1
 have hT5:∀{X:Heap},∀k,TB X b k→nob k∨H.size≤k:=λk hk=>.inr (Qb hb0 hk.1)
 conv=>whnf
 refine⟨rfl,λh5=>?_,λh5=>?_⟩
 ·have h':i<l.length:=QK.1 h5
  cases r with
  |nil=>simp at hi;omega
  |cons c r=>
   obtain⟨hy,hd'⟩:=drop_cons hd
   obtain⟨ba,o,rfl,hc⟩:=hw i c hy
   have hco:=ho c (Qj hy)
   have hbl:=cel_lt hc.1
   have hc5:CellsAt H5 ba (o+i*3) (cgL c):=cells_keep hF (by show ¬b≤ba;dsimp only at hbl;omega) (cells_keep e14 id hc)
   have hfl:=fone_len hco
   have ht1:=λX=>s_ftext c.key (by have:=hco.1;omega) X
   have ht2:=λX=>s_ftext c.value (by have:=hco.2;omega) X
   have hk1:=textV_len c.key
   have hk2:=textV_len c.value
   have hfo:fone c=if c.gone=true then 1::textV c.key else 0::(textV c.key++textV c.value):=by unfold fone;rfl
   unfold fbodyF at ht
   rw[←Qt] at ht
   generalize textV c.key=tk at ht1 hk1 hfo
   generalize textV c.value=tv at ht2 hk2 hfo
   generalize fone c=fo at ht hfl hfo
   obtain⟨hco1,hco2⟩:=hco
   conv=>whnf
   refine⟨i,rfl,h',?_⟩
   conv=>whnf
   refine⟨cgL c,rfl,hc5,?_⟩
   conv=>whnf
   intro H6 z f6 _
   have hzs:=f6.size
   conv=>whnf
   refine .k (cgL c) (f6.at) (.inr (by show H.size≤z;omega)) rfl rfl ?_
   intro H7 u7 _
   have hz7:H7[z]? =some (.cells (cgL c).toArray 158 (0,0)):=u7.1
   have hF7:Frm nob H5 H7:=f6.e.upd u7 (by omega)
   have hB7:=hB.q hF7
   rcases ZQ c.gone with hgn|hgn
   ·rw[if_pos hgn] at hfo
    conv=>whnf
    refine⟨.bool true,(cel_of (v:=.bool c.gone) hz7 rfl).trans (by rw[hgn]),?_⟩
    conv=>whnf
    refine .t (s_bwb 1 hB7 (by omega)) (hT5) ?_
    rintro _ H8 ⟨rfl,hB8⟩ e8 _
    have hz8:=e8.blkT hz7 (hB7.ne hz7 (by decide) (by decide))
    refine go ?_
    conv=>whnf
    refine .q (ht1 H8) ?_
    rintro _ H9 rfl e9 _
    have hB9:=hB8.q e9
    conv=>whnf
    refine .t (s_bws (S tk) hB9 (by simp;omega)) (hT5) ?_
    rintro _ H10 ⟨rfl,hB10⟩ e10 _
    rw[L_S] at hB10
    refine go ?_
    exact⟨(i+1,r,acc++[1]++tk),⟨rfl,trivial⟩,⟨by simp at hi⊢;omega,hd',by rw[hfo] at ht;rw[←ht];simp,by show(acc++[1]++tk).length≤_;rw[hfo] at hfl;simp at hfl⊢;omega,hB10,
     hF.trans ((hF7.mono λ_ _ e=>e.elim).trans ((e8.mono λ_ _ e=>e.1).trans ((e9.mono λ_ _ e=>e.elim).trans (e10.mono λ_ _ e=>e.1))))⟩,by show r.length<r.length+1;omega⟩
   ·rw[if_neg (by rw[hgn];decide)] at hfo
    conv=>whnf
    refine⟨.bool false,(cel_of (v:=.bool c.gone) hz7 rfl).trans (by rw[hgn]),?_⟩
    conv=>whnf
    refine .t (s_bwb 0 hB7 (by omega)) (hT5) ?_
    rintro _ H8 ⟨rfl,hB8⟩ e8 _
    have hnz:=hB7.ne hz7 (by decide) (by decide)
    have hz8:=e8.blkT hz7 hnz
    have hnz8:=hB8.ne hz8 (by decide) (by decide)
    conv=>whnf
    refine .p (TB H8 b) (.take 0 (.take 1 (.take 3 (.take 4 (.one 2 (.one 5 (.take 6 (.one 7 .done)))))))) hT5 (by kernel_rfl) ?_
    conv=>whnf
    refine⟨hnz8,_,cel_of hz8 rfl,?_⟩
    conv=>whnf
    refine⟨hnz8,_,cel_of hz8 rfl,?_⟩
    conv=>whnf
    refine .q (ht1 H8) ?_
    rintro _ H9 rfl e9 _
    conv=>whnf
    refine .q (ht2 H9) ?_
    rintro _ H10 rfl e10 _
    conv=>whnf
    refine⟨by show(S tk).size+(S tv).size≤_;rw[S_size,S_size];omega,S (tk++tv),append_S _ _,?_⟩
    have hB10:=hB8.q (e9.trans e10)
    conv=>whnf
    refine .t (s_bws (S (tk++tv)) hB10 (by simp;omega)) (λk hk=>(YE k H8.size).elim (λh=>.inl (TB.back (e9.trans e10) hk h id)) .inr) ?_
    rintro _ H11 ⟨rfl,hB11⟩ e11 _
    rw[L_S] at hB11
    refine go ?_
    exact⟨(i+1,r,acc++[0]++(tk++tv)),⟨rfl,trivial⟩,⟨by simp at hi⊢;omega,hd',by rw[hfo] at ht;rw[←ht];simp,by show(acc++[0]++(tk++tv)).length≤_;rw[hfo] at hfl;simp at hfl⊢;omega,hB11,
     hF.trans ((hF7.mono λ_ _ e=>e.elim).trans ((e8.mono λ_ _ e=>e.1).trans (((e9.trans e10).mono λ_ _ e=>e.elim).trans (e11.mono λ_ _ e=>e.1))))⟩,by show r.length<r.length+1;omega⟩
 ·have hl0:r=[]:=Qm (by have:¬(i:Int)<(l.length:Int):=h5;omega)
  subst hl0
  have hfa:acc=fb:=by simpa [fbodyF] using ht
  have hib:i≤64:=by simp at hi;omega
  have hp2:=λX=>s_put' (acc.length:Nat) 4 (by decide) (by decide) (by omega) X
  rw[←hfa] at htot
  unfold fheadV at htot
  have hl1:=putS_len seq 4
  have hl2:=putS_len (acc.length:Nat) 4
  generalize putS seq 4=p1 at htot hl1
  generalize putS (acc.length:Nat) 4=p2 at hp2 htot hl2
  have hsm:=λX=>s_sum (S ([71]++p1++p2++acc)) (by rw[S_size];simp;omega) X
  rw[L_S] at hsm
  have hcl:=crcL_lt ([71]++p1++p2++acc)
  generalize crcL ([71]++p1++p2++acc)=cr at hsm hcl htot
  have hp3:=λX=>s_put' (cr:Int) 4 (by decide) (by decide) (by omega) X
  have hl3:=putS_len (cr:Int) 4
  generalize putS (cr:Int) 4=p3 at hp3 htot hl3
  conv=>whnf
  refine .q (s_blen hB) ?_
  rintro _ _ ⟨rfl,rfl⟩ _ _
  conv=>whnf
  refine .q (hp2 H5) ?_
  rintro _ H6 rfl e6 _
  have hB6:=hB.q e6
  conv=>whnf
  refine⟨by show(S [71]).size+(S p1).size≤_;rw[S_size,S_size];simp;omega,S ([71]++p1),append_S [71] p1,?_⟩
  conv=>whnf
  refine⟨by show(S ([71]++p1)).size+(S p2).size≤_;rw[S_size,S_size];simp;omega,S ([71]++p1++p2),append_S _ _,?_⟩
  conv=>whnf
  refine .t (s_bstr hB6) (hT5) ?_
  rintro _ H7 ⟨rfl,hB7⟩ e7 _
  conv=>whnf
  refine⟨by show(S ([71]++p1++p2)).size+(S acc).size≤_;rw[S_size,S_size];simp;omega,S ([71]++p1++p2++acc),append_S _ _,?_⟩
  conv=>whnf
  refine .q (hsm H7) ?_
  rintro _ H8 rfl e8 _
  conv=>whnf
  refine⟨_,wr64 (by omega) (by omega),?_⟩
  conv=>whnf
  refine .q (hp3 H8) ?_
  rintro _ H9 rfl e9 _
  conv=>whnf
  refine⟨by show(S ([71]++p1++p2++acc)).size+(S p3).size≤_;rw[S_size,S_size];simp;omega,S ([71]++p1++p2++acc++p3),append_S _ _,?_⟩
  subst htot
  exact⟨rfl⟩
attribute [irreducible] fwriteV
theorem s_takeC{H:Heap}{bs br:Nat}{s:By}{r:Bool}(h1:H[bs]? =some (.cells #[.string (S s)] 9 (0,0)))(h2:H[br]? =some (.cells #[.bool r] 4 (0,0))):
  Spec prog 254 #[ptr bs 0,ptr br 0] H (λk=>k=bs∨k=br) λu H'=>u=.string (S (takeT s))∧H'[bs]? =some (.cells #[.string (S (takeR s))] 9 (0,0))∧H'[br]? =some (.cells #[.bool (r&&decide (takeE s=0))] 4 (0,0)):=by
 have ht:=λX=>s_take (S s) X
 rw[L_S] at ht
 generalize takeT s=t at ht⊢
 generalize takeR s=rs at ht⊢
 generalize takeE s=e at ht⊢
 have hne:bs≠br:=λe=>by rw[e,h2] at h1;simp at h1
 refine spx func254 ?_
 refine go ?_
 conv=>whnf
 refine .q (ht H) ?_
 rintro _ H1 rfl e1 _
 have h11:=e1.blk h1
 have h21:=e1.blk h2
 have fin:∀{b:Bool},b=(r&&decide (e=0))→∀{H2 H3:Heap},Upd H1 H2 br (.cells #[.bool b] 4 (0,0))→Upd H2 H3 bs (.cells #[.string (S rs)] 9 (0,0))→H3[bs]? =some (.cells #[.string (S rs)] 9 (0,0))∧H3[br]? =some (.cells #[.bool (r&&decide (e=0))] 4 (0,0)):=λhb _ _ u2 u3=>by
  subst hb
  exact⟨u3.1,u3.e.blkT u2.1 (λe=>hne e.symm)⟩
 cases r with
 |false=>
  refine go ?_
  conv=>whnf
  refine .one (v:=.bool false) 0 h21 (.inl (.inr rfl)) rfl rfl (by kernel_rfl) (by simp) ?_
  intro H2 u2 _
  conv=>whnf
  refine .one (v:=.string (S rs)) 0 (u2.e.blkT h11 hne) (.inl (.inl rfl)) rfl rfl (by kernel_rfl) (by simp) ?_
  intro H3 u3 _
  exact⟨rfl,fin (by simp) u2 u3⟩
 |true=>
  refine go ?_
  conv=>whnf
  refine⟨rfl,λh5=>?_,λh5=>?_⟩
  ·conv=>whnf
   refine .one (v:=.bool true) 0 h21 (.inl (.inr rfl)) rfl rfl (by kernel_rfl) (by simp) ?_
   intro H2 u2 _
   conv=>whnf
   refine .one (v:=.string (S rs)) 0 (u2.e.blkT h11 hne) (.inl (.inl rfl)) rfl rfl (by kernel_rfl) (by simp) ?_
   intro H3 u3 _
   exact⟨rfl,fin (by simp[h5]) u2 u3⟩
  ·conv=>whnf
   refine .one (v:=.bool false) 0 h21 (.inl (.inr rfl)) rfl rfl (by kernel_rfl) (by simp) ?_
   intro H2 u2 _
   conv=>whnf
   refine .one (v:=.string (S rs)) 0 (u2.e.blkT h11 hne) (.inl (.inl rfl)) rfl rfl (by kernel_rfl) (by simp) ?_
   intro H3 u3 _
   exact⟨rfl,fin (by simp[h5]) u2 u3⟩
def chgsF:Nat→By→List Chg→List Chg×Bool
 |_,[],acc=>(acc,true)
 |0,_::_,acc=>(acc,true)
 |q+1,k::s,acc=>
  if k=1 then if takeE s=0 then chgsF q (takeR s) (acc++[⟨takeT s,[],true⟩]) else(acc++[⟨takeT s,[],true⟩],false) else
  if k=0 then if takeE s=0∧takeE (takeR s)=0 then chgsF q (takeR (takeR s)) (acc++[⟨takeT s,takeT (takeR s),false⟩]) else(acc++[⟨takeT s,takeT (takeR s),false⟩],false) else
  (acc++[⟨takeT s,[],false⟩],false)
def chgsV(s:By):List Chg×Bool:=chgsF s.length s []
def cgsV(l:List Chg):List Value:=(l.map cgL).flatten
theorem cgsV_app(l:List Chg)(c:Chg):cgsV (l++[c])=cgsV l++cgL c:=by simp[cgsV]
theorem oneCg(c:Chg):∀y∈cgL c,oneCell y=true:=λy hy=>by
 simp only[cgL,QB,Zj,Z1] at hy
 rcases hy with rfl|rfl|rfl<;>rfl
theorem s_changes(s:By)(hs:s.length≤1000000000)(H:Heap):Spec prog 202 #[.string (S s)] H nob λu H'=>∃v,u=.tuple #[v,.bool (chgsV s).2]∧Own H' H.size 158 3 v (chgsV s).1.length (cgsV (chgsV s).1)∧(chgsV s).1.length≤s.length∧∀c∈(chgsV s).1,chOk c:=by
 obtain⟨tot,htot⟩:∃t,chgsV s=t:=⟨_,rfl⟩
 rw[htot]
 unfold chgsV at htot
 refine spx func202 ?_
 conv=>whnf
 intro H1 bs f1 _
 have hbs1:H1[bs]? =some (.cells #[.string (S s)] 9 (0,0)):=f1.at
 have hz1:=f1.size
 conv=>whnf
 intro H2 br f2 _
 have hz2:=f2.size
 conv=>whnf
 refine .k ([.bool true]) (f2.at) (.inr (by show H.size≤br;omega)) rfl rfl ?_
 intro H3 u3 _
 have hbr3:H3[br]? =some (.cells #[.bool true] 4 (0,0)):=u3.1
 have hne:bs≠br:=by omega
 have hbs3:=u3.e.blkT (f2.e.blk hbs1) hne
 conv=>whnf
 refine⟨Nat×By×Bool×List Chg×Value,λx=>[(4,x.2.2.2.2)],λx H'=>H'[bs]? =some (.cells #[.string (S x.2.1)] 9 (0,0))∧H'[br]? =some (.cells #[.bool x.2.2.1] 4 (0,0))∧Own H' H.size 158 3 x.2.2.2.2 x.2.2.2.1.length (cgsV x.2.2.2.1)∧x.2.1.length≤x.1∧
   x.2.2.2.1.length+x.2.1.length≤s.length∧(if x.2.2.1=true then chgsF x.1 x.2.1 x.2.2.2.1 else(x.2.2.2.1,false))=tot∧∀c∈x.2.2.2.1,chOk c,λx=>x.1,
  ⟨(s.length,s,true,[],.slice none 0 0),⟨rfl,trivial⟩,hbs3,hbr3,Own.nil _ _ _ _,Qd _,by simp,htot,by simp⟩,?_⟩
 rintro⟨q,t,r,acc,v⟩ H4 junk ⟨hb,hr,how,hq,hal,hto,hch⟩ F
 dsimp only at hb hr how hq hal hto hch
 have F':H.size≤H4.size:=F.1
 have hvb:=how.ne hb (by decide)
 have hvr:=how.ne hr (by decide)
 have hgS:∀k,k=bs∨k=br→nob k∨H.size≤k:=λk hk=>.inr (by omega)
 conv=>whnf
 refine⟨_,cel_of hb rfl,?_⟩
 cases t with
 |nil=>
  conv=>whnf
  refine⟨λh5=>absurd rfl h5,λh5=>?_⟩
  conv=>whnf
  refine .q (by kernel_rfl) ?_
  conv=>whnf
  refine⟨id,_,cel_of hr rfl,?_⟩
  have hto':(acc,r)=tot:=by
   rw[←hto]
   cases r with
   |true=>rw[if_pos rfl];cases q<;>rfl
   |false=>rfl
  subst hto'
  exact⟨v,rfl,how,by simpa using hal,hch⟩
 |cons k t=>
  conv=>whnf
  refine⟨λh5=>?_,λh5=>absurd (S_inj (a:=k::t) (b:=[]) h5) (by simp)⟩
  cases r with
  |false=>
   conv=>whnf
   refine⟨_,cel_of hr rfl,?_⟩
   conv=>whnf
   refine .q (by kernel_rfl) ?_
   conv=>whnf
   refine⟨id,_,cel_of hr rfl,?_⟩
   have hto':(acc,false)=tot:=hto
   subst hto'
   exact⟨v,rfl,how,by simp at hal;show acc.length≤s.length;omega,hch⟩
  |true=>
   rw[if_pos rfl] at hto
   cases q with
   |zero=>simp at hq
   |succ q=>
   unfold chgsF at hto
   simp only[Qo] at hq hal
   have hT:=λ{X:Heap} (h1:X[bs]? =some (.cells #[.string (S t)] 9 (0,0))) (h2:X[br]? =some (.cells #[.bool true] 4 (0,0)))=>s_takeC h1 h2
   have hT2:=λ{X:Heap} {r:Bool} (h1:X[bs]? =some (.cells #[.string (S (takeR t))] 9 (0,0))) (h2:X[br]? =some (.cells #[.bool r] 4 (0,0)))=>s_takeC h1 h2
   have l1:=takeT_len t
   have l2:=takeR_len t
   have l3:=takeT_len (takeR t)
   have l4:=takeR_len (takeR t)
   generalize takeE (takeR t)=e2 at hto hT2
   generalize takeT (takeR t)=t2 at hto hT2 l3
   generalize takeR (takeR t)=t3 at hto hT2 l4
   generalize takeE t=e1 at hto hT
   generalize takeT t=t1 at hto hT l1
   generalize takeR t=tr at hto hT hT2 l2 l4
   conv=>whnf
   refine⟨_,cel_of hr rfl,?_⟩
   conv=>whnf
   refine⟨_,cel_of hb rfl,?_⟩
   conv=>whnf
   refine⟨0,k,rfl,rfl,?_⟩
   conv=>whnf
   refine⟨_,cel_of hb rfl,?_⟩
   conv=>whnf
   refine⟨1,(S (k::t)).size,⟨_,rfl⟩,rfl,by rw[S_size];simp,Qd _,_,extract_end (k::t) 1,?_⟩
   conv=>whnf
   refine .one (v:=.string (S t)) 0 hb (.inr (by show H.size≤bs;omega)) rfl rfl (by kernel_rfl) (by simp) ?_
   intro H5 u5 _
   have hr5:=u5.e.blkT hr (λe=>hne e.symm)
   have how5:=how.frm u5.e (λk hk (e:k=bs)=>hvb (e▸hk))
   conv=>whnf
   refine .t (hT u5.1 hr5) (hgS) ?_
   rintro _ H6 ⟨rfl,hb6,hr6⟩ e6 _
   have how6:=how5.frm e6 (λk hk e=>e.elim (λe=>hvb (e▸hk)) (λe=>hvr (e▸hk)))
   have h46:=e6.1
   have h45:=u5.2.1
   conv=>whnf
   refine⟨rfl,λh6=>?_,λh6=>?_⟩
   ·have hk1:k=1:=Y1.1 (ZZ.1 h6)
    rw[if_pos hk1] at hto
    conv=>whnf
    refine⟨rfl,?_⟩
    conv=>whnf
    intro H7 z f7 _
    conv=>whnf
    refine .k (cgL ⟨t1,[],true⟩) (f7.at) (.inr (by have:=f7.size;show H.size≤z;omega)) rfl rfl ?_
    intro H8 u8 _
    have hF8:Frm nob H6 H8:=f7.e.upd u8 (by have:=f7.size;omega)
    have hz9:H8[z]? =some (.cells (cgL ⟨t1,[],true⟩).toArray 158 (0,0)):=u8.1
    have hb9:=hF8.blk hb6
    have hr9:=hF8.blk hr6
    have how9:=how6.q hF8
    have hto9:(if(true&&decide (e1=0))=true then chgsF q tr (acc++[⟨t1,[],true⟩]) else(acc++[⟨t1,[],true⟩],false))=tot:=by
     rw[←hto];by_cases h:e1=0<;>simp[h]
    refine Qh (⟨_,rfl⟩:∃c:Chg,c=⟨t1,[],true⟩) λc hcc=>?_
    have hco:chOk c:=by rw[hcc];exact⟨by show t1.length≤_;omega,by simp⟩
    rw[←hcc] at hz9 hto9
    conv=>whnf
    refine⟨rfl,λh7=>absurd (h6.symm.trans h7) (by decide),λh7=>?_⟩
    conv=>whnf
    refine⟨rfl,λh8=>?_,λh8=>absurd h6 h8⟩
    have hs9:H.size≤H8.size:=by have:=hF8.1;omega
    conv=>whnf
    refine⟨cgL c,rfl,CellsAt.at hz9,?_⟩
    conv=>whnf
    refine⟨rfl,?_⟩
    intro HC w fC _
    have howC:=how9.q fC.e
    have hsC:=fC.e.1
    conv=>whnf
    refine .el2 (cgL c) (by kernel_rfl) howC (CellsAt.new (cs:=cgL c) fC) rfl (oneCg c) (by omega) (by omega) (λk hk=>.inr (howC.ge k hk).1) ?_
    intro vD HD hoD eD _ _
    have hbC:=fC.e.blk hb9
    have hrC:=fC.e.blk hr9
    exact⟨(q,tr,_,acc++[c],vD),⟨rfl,trivial⟩,⟨eD.blkT hbC (howC.ne hbC (by decide)),eD.blkT hrC (howC.ne hrC (by decide)),by show Own HD H.size 158 3 vD (acc++[c]).length (cgsV (acc++[c]));rw[Qi,cgsV_app];exact hoD,by show tr.length≤q;omega,by show(acc++[c]).length+tr.length≤_;rw[Qi];simp;omega,hto9,
     λx hx=>(Qz.1 hx).elim (hch x) λhx=>by rw[Q4.1 hx];exact hco⟩,Yt q⟩
   ·have hk1:k≠1:=λe=>h6 (by rw[e];rfl)
    rw[if_neg hk1] at hto
    conv=>whnf
    refine⟨rfl,?_⟩
    conv=>whnf
    intro H7 z f7 _
    conv=>whnf
    refine .k (cgL ⟨t1,[],false⟩) (f7.at) (.inr (by have:=f7.size;show H.size≤z;omega)) rfl rfl ?_
    intro H8 u8 _
    have hzs:=f7.size
    have hF8:Frm nob H6 H8:=f7.e.upd u8 (by omega)
    have hz8:H8[z]? =some (.cells (cgL ⟨t1,[],false⟩).toArray 158 (0,0)):=u8.1
    have hb8:=hF8.blk hb6
    have hr8:=hF8.blk hr6
    have hbz:bs<z:=by have:=(Qa.1 hb6).1;omega
    have hrz:br<z:=by have:=(Qa.1 hr6).1;omega
    have how8:=how6.q hF8
    conv=>whnf
    refine⟨rfl,λh7=>?_,λh7=>?_⟩
    ·have hk0:k=0:=Y1.1 (ZZ.1 h7)
     rw[if_pos hk0] at hto
     conv=>whnf
     refine .t (hT2 hb8 hr8) (hgS) ?_
     rintro _ HA ⟨rfl,hbA,hrA⟩ eA _
     have howA:=how8.frm eA (λk hk e=>e.elim (λe=>hvb (e▸hk)) (λe=>hvr (e▸hk)))
     have hzA:=eA.blkT hz8 (λe=>by omega)
     conv=>whnf
     refine .one (v:=.string (S t2)) 1 hzA (.inr (by show H.size≤z;omega)) rfl rfl (by kernel_rfl) (by simp[cgL]) ?_
     intro HB uB' _
     have uB:Upd HA HB z (.cells (cgL ⟨t1,t2,false⟩).toArray 158 (0,0)):=uB'
     have hz9:=uB.1
     have hb9:=uB.e.blkT hbA (λe=>by omega)
     have hr9:=uB.e.blkT hrA (λe=>by omega)
     have how9:=howA.frm uB.e (λk hk (e:k=z)=>by have:=(how6.ge k hk).2;omega)
     have hto9:(if(true&&decide (e1=0)&&decide (e2=0))=true then chgsF q t3 (acc++[⟨t1,t2,false⟩]) else(acc++[⟨t1,t2,false⟩],false))=tot:=by
      rw[←hto];by_cases h:e1=0<;>by_cases h':e2=0<;>simp[h,h']
     refine Qh (⟨_,rfl⟩:∃c:Chg,c=⟨t1,t2,false⟩) λc hcc=>?_
     have hco:chOk c:=by rw[hcc];exact⟨by show t1.length≤_;omega,by show t2.length≤_;omega⟩
     rw[←hcc] at hz9 hto9
     have hs9:H.size≤HB.size:=by have:=hF8.1;have:=eA.1;have:=uB.2.1;omega
     conv=>whnf
     refine⟨cgL c,rfl,CellsAt.at hz9,?_⟩
     conv=>whnf
     refine⟨rfl,?_⟩
     intro HC w fC _
     have howC:=how9.q fC.e
     have hsC:=fC.e.1
     conv=>whnf
     refine .el2 (cgL c) (by kernel_rfl) howC (CellsAt.new (cs:=cgL c) fC) rfl (oneCg c) (by omega) (by omega) (λk hk=>.inr (howC.ge k hk).1) ?_
     intro vD HD hoD eD _ _
     have hbC:=fC.e.blk hb9
     have hrC:=fC.e.blk hr9
     exact⟨(q,t3,_,acc++[c],vD),⟨rfl,trivial⟩,⟨eD.blkT hbC (howC.ne hbC (by decide)),eD.blkT hrC (howC.ne hrC (by decide)),by show Own HD H.size 158 3 vD (acc++[c]).length (cgsV (acc++[c]));rw[Qi,cgsV_app];exact hoD,by show t3.length≤q;omega,by show(acc++[c]).length+t3.length≤_;rw[Qi];simp;omega,hto9,
      λx hx=>(Qz.1 hx).elim (hch x) λhx=>by rw[Q4.1 hx];exact hco⟩,Yt q⟩
    ·have hk0:k≠0:=λe=>h7 (by rw[e];rfl)
     rw[if_neg hk0] at hto
     conv=>whnf
     refine⟨rfl,λh8=>absurd h8 h6,λh8=>?_⟩
     conv=>whnf
     refine .one (v:=.bool false) 0 hr8 (.inr (by show H.size≤br;omega)) rfl rfl (by kernel_rfl) (by simp) ?_
     intro HB uB' _
     have uB:Upd H8 HB br (.cells #[.bool false] 4 (0,0)):=uB'
     have hz9:=uB.e.blkT hz8 (λe=>by omega)
     have hb9:=uB.e.blkT hb8 hne
     have hr9:=uB.1
     have how9:=how8.frm uB.e (λk hk (e:k=br)=>hvr (e▸hk))
     have hto9:(if false=true then chgsF q tr (acc++[⟨t1,[],false⟩]) else(acc++[⟨t1,[],false⟩],false))=tot:=hto
     refine Qh (⟨_,rfl⟩:∃c:Chg,c=⟨t1,[],false⟩) λc hcc=>?_
     have hco:chOk c:=by rw[hcc];exact⟨by show t1.length≤_;omega,by simp⟩
     rw[←hcc] at hz9 hto9
     have hs9:H.size≤HB.size:=by have:=hF8.1;have:=uB.2.1;omega
     conv=>whnf
     refine⟨cgL c,rfl,CellsAt.at hz9,?_⟩
     conv=>whnf
     refine⟨rfl,?_⟩
     intro HC w fC _
     have howC:=how9.q fC.e
     have hsC:=fC.e.1
     conv=>whnf
     refine .el2 (cgL c) (by kernel_rfl) howC (CellsAt.new (cs:=cgL c) fC) rfl (oneCg c) (by omega) (by omega) (λk hk=>.inr (howC.ge k hk).1) ?_
     intro vD HD hoD eD _ _
     have hbC:=fC.e.blk hb9
     have hrC:=fC.e.blk hr9
     exact⟨(q,tr,_,acc++[c],vD),⟨rfl,trivial⟩,⟨eD.blkT hbC (howC.ne hbC (by decide)),eD.blkT hrC (howC.ne hrC (by decide)),by show Own HD H.size 158 3 vD (acc++[c]).length (cgsV (acc++[c]));rw[Qi,cgsV_app];exact hoD,by show tr.length≤q;omega,by show(acc++[c]).length+tr.length≤_;rw[Qi];simp;omega,hto9,
      λx hx=>(Qz.1 hx).elim (hch x) λhx=>by rw[Q4.1 hx];exact hco⟩,Yt q⟩
theorem s_changes'(s:By)(hs:s.length≤1000000000)(H:Heap):Spec prog 202 #[.string (S s)] H nob λu H'=>∃ad cap,u=.tuple #[.slice ad (chgsV s).1.length cap,.bool (chgsV s).2]∧Own H' H.size 158 3 (.slice ad (chgsV s).1.length cap) (chgsV s).1.length (cgsV (chgsV s).1)∧(chgsV s).1.length≤s.length∧∀c∈(chgsV s).1,chOk c:=
 (s_changes s hs H).imp λu H' ⟨v,h1,h2,h3⟩=>by
  obtain⟨ad,cap,rfl⟩:=h2.form
  exact⟨ad,cap,h1,h2,h3⟩
attribute [irreducible] chgsV chgsF
abbrev Grp:=Int×List Chg
def freadW(s:By)(is:Bool)(seq:Int)(f long:Int)(r2:By)(sum:Int)(left:By)(ch:List Chg×Bool)(crc:Nat):Grp×By×Int:=
 if s=[] then((0,[]),[],4) else if is=false then((0,[]),[],5) else if f≠0 then((0,[]),[],4) else if(r2.length:Int)<long+4 then((0,[]),[],4) else
 if sum≠crc then((0,[]),[],6) else if ch.2=false then((0,[]),[],5) else if fchkV ch.1≠0 then((0,[]),[],5) else((seq,ch.1),left,0)
def freadV(s:By):Grp×By×Int:=
 let r0:=Lib.trimPrefix s [71]
 let r1:=cutR r0 4
 let r2:=cutR r1 4
 let long:=cutV r1 4
 let r3:=r2.drop long.toNat
 freadW s (Lib.hasPrefix s [71]) (cutV r0 4) (cutE r1 4) long r2 (cutV r3 4) (cutR r3 4) (chgsV (r2.take long.toNat)) (crcL (s.take (9+long.toNat)))
theorem cutE_ok{s:By}{n:Nat}(h:cutE s n=0):n≤s.length∧cutR s n=s.drop n:=by
 unfold cutE at h
 split at h
 ·cases h
 ·rename_i h1
  exact⟨by omega,by unfold cutR;rw[if_neg h1]⟩
theorem cutE_two(s:By):cutE s 4=4→cutE (cutR s 4) 4=4:=by
 unfold cutE cutR
 split
 ·intro _;rfl
 ·intro h;cases h
def FrR(H:Heap)(t:Grp×By×Int)(u:Value)(H':Heap):Prop:=∃v,u=.tuple #[.agg #[.int .i64 t.1.1,v],.string (S t.2.1),.int .i64 t.2.2]∧Own H' H.size 158 3 v t.1.2.length (cgsV t.1.2)∧t.1.2.length≤1000000000∧∀c∈t.1.2,chOk c
theorem s_fread(s:By)(hs:s.length≤1000000000)(H:Heap):Spec prog 134 #[.string (S s)] H nob (FrR H (freadV s)):=by
 obtain⟨tot,htot⟩:∃t,freadV s=t:=⟨_,rfl⟩
 rw[htot]
 unfold freadV freadW at htot
 dsimp only at htot
 have hP:=λX=>s_cutp (S s) ⟨#[71]⟩ X
 rw[L_S,show L ⟨#[71]⟩=[71] from rfl] at hP
 have hpl:Lib.hasPrefix s [71]=true→s.length=(Lib.trimPrefix s [71]).length+1:=λh=>by
  have h':=h
  unfold Lib.hasPrefix at h'
  have:=(List.isPrefixOf_iff_prefix.1 h').length_le
  unfold Lib.trimPrefix
  rw[if_pos h,QV]
  simp at this⊢;omega
 have hpl2:(Lib.trimPrefix s [71]).length≤s.length:=by unfold Lib.trimPrefix;split<;>simp
 generalize Lib.hasPrefix s [71]=is at htot hP hpl
 generalize Lib.trimPrefix s [71]=r0 at htot hP hpl hpl2
 have hrl:=cutR_len (cutR r0 4) 4
 have hrl2:=cutR_len r0 4
 have hc1:=λX=>s_cut (S r0) 4 (by decide) (by decide) X
 have hc2:=λX=>s_cut (S (cutR r0 4)) 4 (by decide) (by decide) X
 rw[L_S] at hc1 hc2
 have h01:=cutE_01 r0 4
 have h02:=cutE_01 (cutR r0 4) 4
 have h03:=cutE_two r0
 have hlo:=cutV_nn (cutR r0 4) 4
 have hlh:=cutV_le (cutR r0 4) 4 (by decide)
 by_cases hz:cutE (cutR r0 4) 4=0
 ·have hz0:cutE r0 4=0:=h01.resolve_right λe=>by rw[h03 e] at hz;cases hz
  have hr1:=cutE_ok hz0
  have hr2:=cutE_ok hz
  have hlen:is=true→s.length=(cutR (cutR r0 4) 4).length+9:=λh=>by
   have:=hpl h
   rw[hr2.2,hr1.2]
   rw[hr1.2] at hr2
   simp only[QV] at*
   omega
  rw[hz0] at hc1
  rw[hz] at hc2
  rw[hz] at htot
  generalize cutV r0 4=seq at hc1 htot
  generalize cutV (cutR r0 4) 4=lo at hc2 htot hlo hlh
  generalize cutR (cutR r0 4) 4=r2 at hc2 htot hlen hrl
  generalize cutR r0 4=r1 at hc1 hc2 hrl hrl2
  obtain⟨ln,rfl⟩:=QW hlo
  rw[Qn] at htot
  have hc3:=λX=>s_cut (S (r2.drop ln)) 4 (by decide) (by decide) X
  rw[L_S] at hc3
  generalize cutV (r2.drop ln) 4=sum at hc3 htot
  generalize cutR (r2.drop ln) 4=left at hc3 htot
  have hsm:=λX=>s_sum (S (s.take (9+ln))) (by rw[S_size];simp;omega) X
  rw[L_S] at hsm
  have hcl:=crcL_lt (s.take (9+ln))
  generalize crcL (s.take (9+ln))=cr at hsm htot hcl
  have hch:=λX=>s_changes' (r2.take ln) (by rw[QC];omega) X
  generalize chgsV (r2.take ln)=ch at htot hch
  obtain⟨cl,okc⟩:=ch
  dsimp only at hch htot
  cases is with
  |false=>
   refine spx func134 ?_
   conv=>whnf
   intro H1 g f1 _
   have hg1:H1[g]? =some (.cells #[.int .i64 0,.slice none 0 0] 106 (0,0)):=f1.at
   have hgs:=f1.size
   conv=>whnf
   refine .q (hP H1) ?_
   rintro _ _ ⟨rfl,rfl⟩ _ _
   conv=>whnf
   refine⟨λh0=>?_,λh0=>?_⟩
   ·rw[if_pos (S_inj (b:=[]) h0)] at htot
    conv=>whnf
    refine⟨rfl,?_⟩
    conv=>whnf
    refine .k ([.int .i64 0,.slice none 0 0]) (hg1) (.inr (by show H.size≤g;omega)) rfl rfl ?_
    intro HE uE _
    subst htot
    refine⟨?_⟩
    conv=>whnf
    refine⟨[.int .i64 0,.slice none 0 0],rfl,CellsAt.at uE.1,?_⟩
    exact⟨_,rfl,Own.nil _ _ _ _,Qk _,λc hc=>by cases hc⟩
   ·rw[if_neg (λe=>h0 (by rw[e];rfl))] at htot
    rw[if_pos rfl] at htot
    conv=>whnf
    refine⟨rfl,?_⟩
    conv=>whnf
    refine .k ([.int .i64 0,.slice none 0 0]) (hg1) (.inr (by show H.size≤g;omega)) rfl rfl ?_
    intro HE uE _
    subst htot
    refine⟨?_⟩
    conv=>whnf
    refine⟨[.int .i64 0,.slice none 0 0],rfl,CellsAt.at uE.1,?_⟩
    exact⟨_,rfl,Own.nil _ _ _ _,Qk _,λc hc=>by cases hc⟩
  |true=>
  refine spx func134 ?_
  conv=>whnf
  intro H1 g f1 _
  have hg1:H1[g]? =some (.cells #[.int .i64 0,.slice none 0 0] 106 (0,0)):=f1.at
  have hgs:=f1.size
  conv=>whnf
  refine .q (hP H1) ?_
  rintro _ _ ⟨rfl,rfl⟩ _ _
  conv=>whnf
  refine⟨λh0=>?_,λh0=>?_⟩
  ·rw[if_pos (S_inj (b:=[]) h0)] at htot
   conv=>whnf
   refine⟨rfl,?_⟩
   conv=>whnf
   refine .k ([.int .i64 0,.slice none 0 0]) (hg1) (.inr (by show H.size≤g;omega)) rfl rfl ?_
   intro HE uE _
   subst htot
   refine⟨?_⟩
   conv=>whnf
   refine⟨[.int .i64 0,.slice none 0 0],rfl,CellsAt.at uE.1,?_⟩
   exact⟨_,rfl,Own.nil _ _ _ _,Qk _,λc hc=>by cases hc⟩
  rw[if_neg (λe=>h0 (by rw[e];rfl)),if_neg (by simp),if_neg (by simp)] at htot
  have hlen:=hlen rfl
  conv=>whnf
  refine .q (hc1 H1) ?_
  rintro _ H2 rfl e2 _
  conv=>whnf
  refine .q (hc2 H2) ?_
  rintro _ H3 rfl e3 _
  have hg3:=(e2.trans e3).blk hg1
  conv=>whnf
  refine(λh=>⟨λ_=>h,λ_=>h,rfl⟩:∀{X:Prop},X→(((0:Int)≤0→X)∧((0:Int)≤0→X)∧IntKind.i64=IntKind.i64)) ?_
  conv=>whnf
  refine⟨rfl,λh1=>absurd rfl h1,λh1=>?_⟩
  conv=>whnf
  refine⟨rfl,_,wr64 (by omega) (by omega),?_⟩
  conv=>whnf
  refine⟨rfl,λh2=>?_,λh2=>?_⟩
  ·have h2':((S r2).size:Int)<(ln:Int)+4:=h2
   rw[S_size] at h2'
   rw[if_pos h2'] at htot
   conv=>whnf
   refine⟨rfl,?_⟩
   conv=>whnf
   refine .k ([.int .i64 0,.slice none 0 0]) (hg3) (.inr (by show H.size≤g;omega)) rfl rfl ?_
   intro HE uE _
   subst htot
   refine⟨?_⟩
   conv=>whnf
   refine⟨[.int .i64 0,.slice none 0 0],rfl,CellsAt.at uE.1,?_⟩
   exact⟨_,rfl,Own.nil _ _ _ _,Qk _,λc hc=>by cases hc⟩
  have h2':¬((S r2).size:Int)<(ln:Int)+4:=h2
  rw[S_size] at h2'
  rw[if_neg h2'] at htot
  conv=>whnf
  refine⟨ln,(S r2).size,⟨_,rfl⟩,rfl,by rw[S_size];omega,Qd _,_,extract_end r2 ln,?_⟩
  conv=>whnf
  refine .q (hc3 H3) ?_
  rintro _ H4 rfl e4 _
  conv=>whnf
  refine⟨rfl,((9+ln:Nat):Int),by rw[wr64 (by omega) (by omega)];omega,?_⟩
  conv=>whnf
  refine⟨0,9+ln,rfl,⟨_,rfl⟩,Qk _,by rw[S_size];omega,S (s.take (9+ln)),extract_S s 0 (9+ln),?_⟩
  conv=>whnf
  refine .q (hsm H4) ?_
  rintro _ H5 rfl e5 _
  conv=>whnf
  refine⟨_,wr64 (by omega) (by omega),?_⟩
  have hg5:=(e4.trans e5).blk hg3
  conv=>whnf
  refine⟨rfl,λh3=>?_,λh3=>?_⟩
  ·rw[if_pos h3] at htot
   conv=>whnf
   refine⟨rfl,?_⟩
   conv=>whnf
   refine .k ([.int .i64 0,.slice none 0 0]) (hg5) (.inr (by show H.size≤g;omega)) rfl rfl ?_
   intro HE uE _
   subst htot
   refine⟨?_⟩
   conv=>whnf
   refine⟨[.int .i64 0,.slice none 0 0],rfl,CellsAt.at uE.1,?_⟩
   exact⟨_,rfl,Own.nil _ _ _ _,Qk _,λc hc=>by cases hc⟩
  rw[if_neg (λe=>e h3)] at htot
  conv=>whnf
  refine⟨0,ln,rfl,⟨_,rfl⟩,Qk _,by rw[S_size];omega,S (r2.take ln),extract_S r2 0 ln,?_⟩
  refine(ZQ okc).elim (λhb=>?_) (λhb=>?_)
  ·rw[hb] at hch htot
   conv=>whnf
   refine .q (hch H5) ?_
   rintro _ H6 ⟨ad,cap,rfl,hov,hcl',hco⟩ e6 _
   have hg6:=e6.blk hg5
   have hck:=s_fcheck (l:=cl) (hov.rw rfl (by simp)) hco (by simp at hcl';omega)
   rw[if_neg (by simp)] at htot
   refine Qh (⟨_,rfl⟩:∃c,fchkV cl=c) λck hck'=>?_
   rw[hck'] at hck htot
   conv=>whnf
   refine .q (hck) ?_
   rintro _ H7 rfl e7 _
   have hg7:=e7.blk hg6
   conv=>whnf
   refine⟨rfl,λh4=>?_,λh4=>?_⟩
   ·rw[if_pos h4] at htot
    conv=>whnf
    refine⟨rfl,?_⟩
    conv=>whnf
    refine .k ([.int .i64 0,.slice none 0 0]) (hg7) (.inr (by show H.size≤g;omega)) rfl rfl ?_
    intro HE uE _
    subst htot
    refine⟨?_⟩
    conv=>whnf
    refine⟨[.int .i64 0,.slice none 0 0],rfl,CellsAt.at uE.1,?_⟩
    exact⟨_,rfl,Own.nil _ _ _ _,Qk _,λc hc=>by cases hc⟩
   rw[if_neg (λe=>e h4)] at htot
   conv=>whnf
   refine⟨rfl,?_⟩
   conv=>whnf
   refine .k ([.int .i64 seq,.slice ad cl.length cap]) (hg7) (.inr (by show H.size≤g;omega)) rfl rfl ?_
   intro H8 u8 _
   subst htot
   refine⟨?_⟩
   conv=>whnf
   refine⟨[.int .i64 seq,.slice ad cl.length cap],rfl,CellsAt.at u8.1,?_⟩
   exact⟨_,rfl,((hov.q e7).frm u8.e (λk hk (e:k=g)=>by have:=(hov.ge k hk).1;have:=e2.1;have:=e3.1;have:=e4.1;have:=e5.1;omega)).low (by have:=e2.1;have:=e3.1;have:=e4.1;have:=e5.1;omega),by simp at hcl';show cl.length≤_;omega,hco⟩
  ·rw[hb] at hch htot
   conv=>whnf
   refine .q (hch H5) ?_
   rintro _ H6 ⟨ad,cap,rfl,hov,hcl',hco⟩ e6 _
   have hg6:=e6.blk hg5
   rw[if_pos rfl] at htot
   conv=>whnf
   refine⟨rfl,?_⟩
   conv=>whnf
   refine .k ([.int .i64 0,.slice none 0 0]) (hg6) (.inr (by show H.size≤g;omega)) rfl rfl ?_
   intro HE uE _
   subst htot
   refine⟨?_⟩
   conv=>whnf
   refine⟨[.int .i64 0,.slice none 0 0],rfl,CellsAt.at uE.1,?_⟩
   exact⟨_,rfl,Own.nil _ _ _ _,Qk _,λc hc=>by cases hc⟩
 ·have h4:cutE (cutR r0 4) 4=4:=h02.resolve_left hz
  rw[if_pos hz] at htot
  rw[h4] at hc2
  generalize cutE (cutR r0 4) 4=x at*
  generalize cutV r0 4=seq at hc1
  generalize cutV (cutR r0 4) 4=lo at hc2
  generalize cutR (cutR r0 4) 4=r2 at hc2
  generalize cutE r0 4=e0 at hc1 h01
  generalize cutR r0 4=r1 at hc1 hc2
  cases is with
  |false=>
   refine spx func134 ?_
   conv=>whnf
   intro H1 g f1 _
   have hg1:H1[g]? =some (.cells #[.int .i64 0,.slice none 0 0] 106 (0,0)):=f1.at
   have hgs:=f1.size
   conv=>whnf
   refine .q (hP H1) ?_
   rintro _ _ ⟨rfl,rfl⟩ _ _
   conv=>whnf
   refine⟨λh0=>?_,λh0=>?_⟩
   ·rw[if_pos (S_inj (b:=[]) h0)] at htot
    conv=>whnf
    refine⟨rfl,?_⟩
    conv=>whnf
    refine .k ([.int .i64 0,.slice none 0 0]) (hg1) (.inr (by show H.size≤g;omega)) rfl rfl ?_
    intro HE uE _
    subst htot
    refine⟨?_⟩
    conv=>whnf
    refine⟨[.int .i64 0,.slice none 0 0],rfl,CellsAt.at uE.1,?_⟩
    exact⟨_,rfl,Own.nil _ _ _ _,Qk _,λc hc=>by cases hc⟩
   ·rw[if_neg (λe=>h0 (by rw[e];rfl))] at htot
    rw[if_pos rfl] at htot
    conv=>whnf
    refine⟨rfl,?_⟩
    conv=>whnf
    refine .k ([.int .i64 0,.slice none 0 0]) (hg1) (.inr (by show H.size≤g;omega)) rfl rfl ?_
    intro HE uE _
    subst htot
    refine⟨?_⟩
    conv=>whnf
    refine⟨[.int .i64 0,.slice none 0 0],rfl,CellsAt.at uE.1,?_⟩
    exact⟨_,rfl,Own.nil _ _ _ _,Qk _,λc hc=>by cases hc⟩
  |true=>
  refine spx func134 ?_
  conv=>whnf
  intro H1 g f1 _
  have hg1:H1[g]? =some (.cells #[.int .i64 0,.slice none 0 0] 106 (0,0)):=f1.at
  have hgs:=f1.size
  conv=>whnf
  refine .q (hP H1) ?_
  rintro _ _ ⟨rfl,rfl⟩ _ _
  conv=>whnf
  refine⟨λh0=>?_,λh0=>?_⟩
  ·rw[if_pos (S_inj (b:=[]) h0)] at htot
   conv=>whnf
   refine⟨rfl,?_⟩
   conv=>whnf
   refine .k ([.int .i64 0,.slice none 0 0]) (hg1) (.inr (by show H.size≤g;omega)) rfl rfl ?_
   intro HE uE _
   subst htot
   refine⟨?_⟩
   conv=>whnf
   refine⟨[.int .i64 0,.slice none 0 0],rfl,CellsAt.at uE.1,?_⟩
   exact⟨_,rfl,Own.nil _ _ _ _,Qk _,λc hc=>by cases hc⟩
  rw[if_neg (λe=>h0 (by rw[e];rfl))] at htot
  conv=>whnf
  refine .q (hc1 H1) ?_
  rintro _ H2 rfl e2 _
  conv=>whnf
  refine .q (hc2 H2) ?_
  rintro _ H3 rfl e3 _
  have hg3:=(e2.trans e3).blk hg1
  conv=>whnf
  refine⟨λ_=>?_,λh'=>?_,rfl⟩
  ·conv=>whnf
   refine⟨rfl,λh1=>?_,λh1=>absurd h1 (by decide)⟩
   rw[if_neg (by simp)] at htot
   conv=>whnf
   refine⟨rfl,?_⟩
   conv=>whnf
   refine .k ([.int .i64 0,.slice none 0 0]) (hg3) (.inr (by show H.size≤g;omega)) rfl rfl ?_
   intro HE uE _
   subst htot
   refine⟨?_⟩
   conv=>whnf
   refine⟨[.int .i64 0,.slice none 0 0],rfl,CellsAt.at uE.1,?_⟩
   exact⟨_,rfl,Own.nil _ _ _ _,Qk _,λc hc=>by cases hc⟩
  ·conv=>whnf
   refine⟨rfl,λh1=>?_,λh1=>absurd h1 (by omega)⟩
   rw[if_neg (by simp)] at htot
   conv=>whnf
   refine⟨rfl,?_⟩
   conv=>whnf
   refine .k ([.int .i64 0,.slice none 0 0]) (hg3) (.inr (by show H.size≤g;omega)) rfl rfl ?_
   intro HE uE _
   subst htot
   refine⟨?_⟩
   conv=>whnf
   refine⟨[.int .i64 0,.slice none 0 0],rfl,CellsAt.at uE.1,?_⟩
   exact⟨_,rfl,Own.nil _ _ _ _,Qk _,λc hc=>by cases hc⟩
attribute [irreducible] freadV
def rowT(t:TypeId):Bool:=t==156||t==104||t==158
def rowB(H:Heap)(k:Nat):Bool:=match H[k]? with
 |some (.cells _ t _)=>rowT t
 |_=>false
def RwO(W:Nat→Prop)(H:Heap)(v:Value)(ls:List (List Value)):Prop:=Rw H v ls∧(ls≠[]→∀k,v.ownBlock=some k→¬W k∧rowB H k=true)
theorem rowB_frm{T:Nat→Prop}{H H':Heap}{k:Nat}(h:rowB H k=true)(hF:Frm T H H')(hk:k<H.size)(hT:¬T k):rowB H' k=true:=by
 unfold rowB at h⊢
 rw[hF.2 k hk hT]
 exact h
theorem rowB_ne{H:Heap}{k g:Nat}{cs:Array Value}{t:TypeId}{fz:Nat×Nat}(h:rowB H k=true)(hg:H[g]? =some (.cells cs t fz))(ht:rowT t=false):k≠g:=λe=>by
 unfold rowB at h
 rw[e,hg] at h
 dsimp only at h
 rw[ht] at h
 cases h
def GrO(W:Nat→Prop)(H:Heap)(v:Value)(ws:List (List Chg)):Prop:=∃vs:List Value,RwO W H v (vs.map λx=>[x])∧vs.length=ws.length∧∀(i:Nat) (x:Value) (w:List Chg),vs[i]? =some x→ws[i]? =some w→RwO W H x (w.map cgL)
theorem Rw.lt{H:Heap}{v:Value}{ls:List (List Value)}(h:Rw H v ls)(hl:ls.flatten≠[]):∀k,v.ownBlock=some k→k<H.size:=by
 rcases h with ⟨rfl,rfl⟩|⟨b,o,cap,rfl,_,hc⟩
 ·exact(hl rfl).elim
 ·intro k hk
  cases hk
  cases hx:ls.flatten with
  |nil=>exact(hl hx).elim
  |cons x r=>rw[hx] at hc;exact hc.blk
theorem RwO.frm{W W' T:Nat→Prop}{H H':Heap}{v:Value}{ls:List (List Value)}(h:RwO W H v ls)(hn:ls≠[]→ls.flatten≠[])(hF:Frm T H H')(hT:∀k,k<H.size→T k→W k)(hW:∀k,k<H.size→W' k→W k):RwO W' H' v ls:=by
 by_cases hl:ls=[]
 ·subst hl
  refine⟨?_,λe=>(e rfl).elim⟩
  rcases h.1 with h1|⟨b,o,cap,rfl,hc,_⟩
  ·exact .inl h1
  ·exact .inr ⟨b,o,cap,rfl,hc,trivial⟩
 ·have hk:=h.1.lt (hn hl)
  exact⟨h.1.frm hF λk e hk'=>(h.2 hl k e).1 (hT k (hk k e) hk'),λ_ k e=>⟨λhk'=>(h.2 hl k e).1 (hW k (hk k e) hk'),rowB_frm (h.2 hl k e).2 hF (hk k e) λht=>(h.2 hl k e).1 (hT k (hk k e) ht)⟩⟩
theorem cg_flat{l:List Chg}(h:l.map cgL≠[]):(l.map cgL).flatten≠[]:=by
 cases l with
 |nil=>exact(h rfl).elim
 |cons c r=>simp[cgL]
theorem one_flat{l:List Value}(h:l.map (λx=>[x])≠[]):(l.map λx=>[x]).flatten≠[]:=by
 cases l with
 |nil=>exact(h rfl).elim
 |cons c r=>simp
theorem GrO.frm{W W' T:Nat→Prop}{H H':Heap}{v:Value}{ws:List (List Chg)}(h:GrO W H v ws)(hF:Frm T H H')(hT:∀k,k<H.size→T k→W k)(hW:∀k,k<H.size→W' k→W k):GrO W' H' v ws:=by
 obtain⟨vs,h1,h2,h3⟩:=h
 exact⟨vs,h1.frm one_flat hF hT hW,h2,λi x w hx hw=>(h3 i x w hx hw).frm cg_flat hF hT hW⟩
def scanWF(first:Int):Nat→List (List Chg)→By→By×Int
 |_,[],acc=>(acc,0)
 |i,l::r,acc=>if(fwriteV (first+i) l).2≠0 then([],(fwriteV (first+i) l).2) else scanWF first (i+1) r (acc++(fwriteV (first+i) l).1)
def scanWV(first:Int)(ws:List (List Chg)):By×Int:=scanWF first 0 ws []
theorem s_swrite{W:Nat→Prop}{H:Heap}{v:Value}{ws:List (List Chg)}(hv:GrO W H v ws)(ho:∀w∈ws,w.length≤1000000∧∀c∈w,chOk c)(hl:ws.length≤10000000)(first:Int)(hq:0≤first∧first≤1000000000000):
  Spec prog 214 #[.int .i64 first,v] H nob λu _=>u=.tuple #[.string (S (scanWV first ws).1),.int .i64 (scanWV first ws).2]:=by
 obtain⟨tot,htot⟩:∃t,scanWV first ws=t:=⟨_,rfl⟩
 rw[htot]
 unfold scanWV at htot
 obtain⟨vs,h1,h2,h3⟩:=hv
 obtain⟨ad,cap,rfl,_,hw⟩:=h1.1.at (f:=λx=>[x]) (sz:=1) (λ_=>rfl)
 refine spx func214 ?_
 conv=>whnf
 intro H1 b f1 _
 have hB1:=Bld.new f1
 have hbs:=f1.size
 conv=>whnf
 refine⟨Nat×List (List Chg)×By,λx=>[(13,.int .i64 (x.1:Int))],λx H'=>x.1+x.2.1.length=ws.length∧ws.drop x.1=x.2.1∧scanWF first x.1 x.2.1 x.2.2=tot∧x.2.2.length≤10000000*x.1∧Bld H' b x.2.2∧Frm (λk=>b≤k) H1 H',λx=>x.2.1.length,
  ⟨(0,ws,[]),⟨rfl,trivial⟩,by simp,rfl,htot,Qk _,hB1,Frm.refl _ _⟩,?_⟩
 rintro⟨i,r,acc⟩ H2 junk ⟨hi,hd,ht,hal,hB,hF⟩ F
 dsimp only at hi hd ht hal hB
 have F':H.size≤H2.size:=F.1
 have hT5:∀{X:Heap},∀k,TB X b k→nob k∨H.size≤k:=λk hk=>.inr (by have:=hk.1;omega)
 conv=>whnf
 refine⟨rfl,λh5=>?_,λh5=>?_⟩
 ·have h':i<ws.length:=by have:(i:Int)<(vs.length:Int):=h5;omega
  cases r with
  |nil=>simp at hi;omega
  |cons w r=>
   obtain⟨hy,hd'⟩:=drop_cons hd
   obtain⟨x,hx⟩:∃x,vs[i]? =some x:=⟨vs[i]'(by omega),Qc _⟩
   obtain⟨ba,o,rfl,hc⟩:=hw i x hx
   have hrw:=(h3 i x w hx hy).1
   obtain⟨ad2,cap2,rfl,_,_⟩:=hrw.at (f:=cgL) (sz:=3) (λ_=>rfl)
   have hwo:=ho w (Qj hy)
   have hbl:=cel_lt hc.1
   dsimp only at hbl
   have hfe:Frm nob H H2:=f1.e.then hF λk hk=>.inr (by have:b≤k:=hk;omega)
   have hfw:=s_fwrite (hrw.q hfe) hwo.2 (by omega) (first+i) (by omega)
   have hfl:=fwriteV_len (seq:=first+i) hwo.2
   unfold scanWF at ht
   generalize fwriteV (first+i) w=fw at hfw hfl ht
   conv=>whnf
   refine⟨i,rfl,by omega,?_⟩
   conv=>whnf
   refine⟨_,hfe.cel (by have:=hc.1;rw[ZI] at this;exact this),?_⟩
   conv=>whnf
   refine⟨rfl,_,wr64 (by omega) (by omega),?_⟩
   conv=>whnf
   refine⟨rfl,?_⟩
   conv=>whnf
   refine .q (hfw) ?_
   rintro _ H3 rfl e3 _
   have hB3:=hB.q e3
   conv=>whnf
   refine⟨rfl,λh6=>?_,λh6=>?_⟩
   ·rw[if_pos h6] at ht
    subst ht
    exact⟨rfl⟩
   rw[if_neg (λe=>e h6)] at ht
   conv=>whnf
   refine .t (s_bws (S fw.1) hB3 (by rw[S_size];simp at hi;omega)) (hT5) ?_
   rintro _ H4 ⟨rfl,hB4⟩ e4 _
   rw[L_S] at hB4
   refine go ?_
   exact⟨(i+1,r,acc++fw.1),⟨rfl,trivial⟩,⟨by simp at hi⊢;omega,hd',ht,by show(acc++fw.1).length≤_;rw[Qi];omega,hB4,hF.trans ((e3.mono λ_ _ e=>e.elim).trans (e4.mono λ_ _ e=>e.1))⟩,by show r.length<r.length+1;omega⟩
 ·have hl0:r=[]:=Qm (by have:¬(i:Int)<(vs.length:Int):=h5;omega)
  subst hl0
  unfold scanWF at ht
  conv=>whnf
  refine .t (s_bstr hB) (hT5) ?_
  rintro _ H7 ⟨rfl,hB7⟩ e7 _
  subst ht
  exact⟨rfl⟩
attribute [irreducible] scanWV
end Go.Proofs.YtjambljmnifknaaGreatDoor.Vc
