/- Part 25 of the proof of TopAny: shell: args.read · shell: a session; close, sync, merge · Errors are listed ones · shell: close, sync, merge, stat, scrub, get, list · shell: stat, scrub, get, list. -/
import Derived.Test.YtjambljmnifknaaGreatDoorJ24
set_option maxRecDepth 100000
set_option maxHeartbeats 80000000
set_option linter.all false
open Go.Proofs.Tryz
namespace Go.Proofs.YtjambljmnifknaaGreatDoor.Vc
open Go Go.RowKit Tp
open Dk (Arr Dsk)
def ArgAt(H:Heap)(B ab:Nat)(x:Arg):Prop:=∃tv nv kv,H[ab]? =some (.cells #[tv,nv,kv] 119 (0,0))∧Own H B 9 1 tv x.ts.length (strV x.ts)∧Own H B 3 1 nv x.ns.length (intV x.ns)∧Own H B 4 1 kv x.ks.length (boolV x.ks)
structure Rg(H0:Heap)(ab:Nat)(x:Arg)(tv nv kv:Value)(H:Heap):Prop where
 st:H[ab]? =some (.cells #[tv,nv,kv] 119 (0,0))
 t:Own H H0.size 9 1 tv x.ts.length (strV x.ts)
 n:Own H H0.size 3 1 nv x.ns.length (intV x.ns)
 k:Own H H0.size 4 1 kv x.ks.length (boolV x.ks)
 fr:Frm (λk=>k=ab) H0 H
section
variable {H0 H H':Heap}{ab:Nat}{x:Arg}{tv nv kv:Value}
theorem Rg.q(h:Rg H0 ab x tv nv kv H)(hF:Frm nob H H'):Rg H0 ab x tv nv kv H':=⟨hF.blk h.st,h.t.q hF,h.n.q hF,h.k.q hF,h.fr.trans (hF.mono λ_ _ e=>e.elim)⟩
theorem Rg.at(h:Rg H0 ab x tv nv kv H):ArgAt H H0.size ab x:=⟨tv,nv,kv,h.st,h.t,h.n,h.k⟩
theorem Rg.put{tv' nv' kv':Value}{x':Arg}(st:H[ab]? =some (.cells #[tv,nv,kv] 119 (0,0)))(fr:Frm (λk=>k=ab) H0 H)(u:Upd H H' ab (.cells #[tv',nv',kv'] 119 (0,0)))(h1:Own H H0.size 9 1 tv' x'.ts.length (strV x'.ts))(h2:Own H H0.size 3 1 nv' x'.ns.length (intV x'.ns))(h3:Own H H0.size 4 1 kv' x'.ks.length (boolV x'.ks)):Rg H0 ab x' tv' nv' kv' H':=
 ⟨u.1,h1.frm u.e λk hk (e:k=ab)=>h1.ne st (by decide) (e▸hk),h2.frm u.e λk hk (e:k=ab)=>h2.ne st (by decide) (e▸hk),h3.frm u.e λk hk (e:k=ab)=>h3.ne st (by decide) (e▸hk),fr.trans u.e⟩
theorem Rg.at1(h:Rg H0 ab x tv nv kv H)(hF:Frm (λk=>tv.ownBlock=some k) H H'):H'[ab]? =some (.cells #[tv,nv,kv] 119 (0,0))∧Own H' H0.size 3 1 nv x.ns.length (intV x.ns)∧Own H' H0.size 4 1 kv x.ks.length (boolV x.ks)∧Frm (λk=>k=ab) H0 H':=
 ⟨hF.blkT h.st (h.t.ne h.st (by decide)),h.n.frm hF λk hk e=>h.n.apart h.t (by decide) k hk e,h.k.frm hF λk hk e=>h.k.apart h.t (by decide) k hk e,h.fr.then hF λk hk=>.inr (h.t.ge k hk).1⟩
theorem Rg.at2(h:Rg H0 ab x tv nv kv H)(hF:Frm (λk=>nv.ownBlock=some k) H H'):H'[ab]? =some (.cells #[tv,nv,kv] 119 (0,0))∧Own H' H0.size 9 1 tv x.ts.length (strV x.ts)∧Own H' H0.size 4 1 kv x.ks.length (boolV x.ks)∧Frm (λk=>k=ab) H0 H':=
 ⟨hF.blkT h.st (h.n.ne h.st (by decide)),h.t.frm hF λk hk e=>h.t.apart h.n (by decide) k hk e,h.k.frm hF λk hk e=>h.k.apart h.n (by decide) k hk e,h.fr.then hF λk hk=>.inr (h.n.ge k hk).1⟩
theorem Rg.at3(h:Rg H0 ab x tv nv kv H)(hF:Frm (λk=>kv.ownBlock=some k) H H'):H'[ab]? =some (.cells #[tv,nv,kv] 119 (0,0))∧Own H' H0.size 9 1 tv x.ts.length (strV x.ts)∧Own H' H0.size 3 1 nv x.ns.length (intV x.ns)∧Frm (λk=>k=ab) H0 H':=
 ⟨hF.blkT h.st (h.k.ne h.st (by decide)),h.t.frm hF λk hk e=>h.t.apart h.k (by decide) k hk e,h.n.frm hF λk hk e=>h.n.apart h.k (by decide) k hk e,h.fr.then hF λk hk=>.inr (h.k.ge k hk).1⟩
end
theorem Own.neI{H:Heap}{base n sz:Nat}{e:TypeId}{v:Value}{xs:List Value}{g:Nat}{s:ByteArray}{q:Nat}(h:Own H base e sz v n xs)(hg:H[g]? =some (.stringIter s q)):v.ownBlock≠some g:=by
 intro hk
 rcases h.2 with ⟨rfl,_⟩|⟨k,cap,cur,rfl,hb,hk',_⟩
 ·simp[Value.ownBlock] at hk
 ·simp[Value.ownBlock] at hk
  subst hk
  have hk':H[k]? =some (.cells cur e):=hk'
  rw[hg] at hk'
  cases hk'
theorem Rg.it{H0 H H':Heap}{ab bi:Nat}{x:Arg}{tv nv kv:Value}{s:ByteArray}{q q':Nat}(h:Rg H0 ab x tv nv kv H)(hb:H[bi]? =some (.stringIter s q))(u:Upd H H' bi (.stringIter s q'))(h0:H0.size≤bi):Rg H0 ab x tv nv kv H':=
 ⟨u.e.blkT h.st (λ(e:ab=bi)=>by have:=h.st;rw[e,hb] at this;cases this),h.t.frm u.e λk hk (e:k=bi)=>h.t.neI hb (e▸hk),h.n.frm u.e λk hk (e:k=bi)=>h.n.neI hb (e▸hk),h.k.frm u.e λk hk (e:k=bi)=>h.k.neI hb (e▸hk),h.fr.then u.e λk (hk:k=bi)=>.inr (by omega)⟩
theorem boolV_snoc(l:List Bool)(b:Bool):boolV (l++[b])=boolV l++[.bool b]:=by simp[boolV]
theorem intV_snoc(l:List Int)(b:Int):intV (l++[b])=intV l++[.int .i64 b]:=by simp[intV]
theorem StoreVC.v1{c:Ctx}{H:Heap}{t:TypeId}{b o:Nat}{E:TypeId}{v':Value}{K:KK}{cs:List Value}(cs':List Value)(hi:(match c.P.info? t with|some i=>Nat.beq i.size 1|none=>false)=true)(hb:H[b]? =some (.cells cs.toArray E (0,0)))(hS:c.S b∨c.H0.size≤b)(hv:v'.cells.toList=[v']∧oneCell v'=true)(ho:o<cs.length)(hp:putL cs o [v']=cs')
  (k:∀H',Upd H H' b (.cells cs'.toArray E (0,0))→Frm c.S c.H0 H'→K undef H'):StoreVC c H t b o v' K:=
 .k cs' hb hS (stoB_one hi hv.1 hv.2 ho) (by rw[hv.1];exact hp) k
theorem atoiV_le(w:By):atoiV w≤9223372036854775807:=by
 unfold atoiV
 cases h:Lib.atoiAll w with
 |range=>
  show Lib.atoiSat w≤_
  unfold Lib.atoiSat
  split<;>decide
 |ok v=>
  show v≤_
  unfold Lib.atoiAll at h
  split at h
  ·cases h
  ·dsimp only at h
   split at h
   ·cases h
   ·cases h
   ·(repeat' split at h)<;>first|(cases h;done)|(injection h with h;omega)
 |_=>exact(by decide:(0:Int)≤9223372036854775807)
theorem u8_ne{c d:UInt8}(h:c≠d):¬((c.toNat:Int)=(d.toNat:Int)):=λe=>h (UInt8.toNat.inj (by omega))
def ReR(H0:Heap)(ab:Nat)(t:Option Arg)(u:Value)(H':Heap):Prop:=u=.bool t.isSome∧∀x,t=some x→ArgAt H' H0.size ab x
theorem s_read{H:Heap}(hG:Gl H){ab:Nat}(hab:H[ab]? =some (.cells #[.slice none 0 0,.slice none 0 0,.slice none 0 0] 119 (0,0)))(hab8:8≤ab){v:Value}{shape:By}{ws:List By}(hv:Rd H v (strV ws))(hvb:∀k,v.ownBlock=some k→k≠ab)(hw:ws.length≤100000)(hs:∀w∈ws,w.length≤100000):
  Spec prog 54 #[ptr ab 0,.string (S shape),v] H (λk=>k=ab) (ReR H ab (readV shape ws)):=by
 obtain⟨tot,htot⟩:∃t,readV shape ws=t:=⟨_,rfl⟩
 rw[htot]
 unfold readV at htot
 obtain⟨ad,cap,rfl,hcw⟩:=hv.vals
 rw[show(strV ws).length=ws.length by simp[strV]] at*
 have hne:ad.map (·.block)≠some ab:=λe=>by
  cases ad with
  |none=>cases e
  |some a=>exact hvb a.block rfl (by simpa using e)
 refine spx func54 ?_
 conv=>whnf
 refine⟨rfl,λh1=>?_,λh1=>?_⟩
 ·have h1':shape.length≠ws.length:=by
   have:¬(((S shape).size:Nat):Int)=(ws.length:Int):=h1
   rw[S_size] at this
   omega
  rw[if_pos h1'] at htot
  subst htot
  exact⟨rfl,λx hx=>by cases hx⟩
 have h1':shape.length=ws.length:=by
  have:(((S shape).size:Nat):Int)=(ws.length:Int):=h1
  rw[S_size] at this
  omega
 rw[if_neg (λe=>e h1')] at htot
 conv=>whnf
 refine .g [(0,ptr ab 0),(1,.string (S shape)),(20,.slice ad ws.length cap),(21,.int .i64 (ws.length:Int)),(22,.int .i64 0)] ⟨rfl,rfl,rfl,rfl,rfl,trivial⟩ λenv0 KL hKL=>?_
 refine⟨Nat×List (UInt8×By)×Arg×Value×Value×Value,λx=>[(22,.int .i64 (x.1:Int))],λx H'=>x.1+x.2.1.length=ws.length∧(shape.zip ws).drop x.1=x.2.1∧readF x.2.1 x.2.2.1=tot∧x.2.2.1.ts.length≤x.1∧x.2.2.1.ns.length≤x.1∧x.2.2.1.ks.length≤100000*x.1∧Rg H ab x.2.2.1 x.2.2.2.1 x.2.2.2.2.1 x.2.2.2.2.2 H',λx=>x.2.1.length,
  ⟨(0,shape.zip ws,⟨[],[],[]⟩,.slice none 0 0,.slice none 0 0,.slice none 0 0),⟨rfl,trivial⟩,by simp[h1'],rfl,htot,Qd _,Qd _,Qd _,⟨hab,Own.nil _ _ _ _,Own.nil _ _ _ _,Own.nil _ _ _ _,Frm.refl _ _⟩⟩,?_⟩
 rintro⟨i,r,x,tv,nv,kv⟩ HK junk ⟨hi,hd,hto,hlt,hln,hlk,hR⟩ F
 dsimp only at hi hd hto hlt hln hlk hR
 cases r with
 |nil=>
  conv=>whnf
  refine⟨rfl,λh5=>absurd h5 (by show ¬(i:Int)<(ws.length:Int);simp at hi;omega),λh5=>?_⟩
  refine hKL _ _ _ ?_
  conv=>whnf
  unfold readF at hto
  subst hto
  exact⟨rfl,λy hy=>by cases hy;exact hR.at⟩
 |cons y r=>
  obtain⟨c,w⟩:=y
  obtain⟨hy,hd'⟩:=drop_cons hd
  have hzl:i<(shape.zip ws).length:=(Qe.1 hy).1
  have h':i<ws.length:=by simp at hzl;omega
  have hsh:shape[i]? =some c∧ws[i]? =some w:=by
   rw[List.getElem?_zip_eq_some] at hy
   exact hy
  have hwl:=hs w (Qj hsh.2)
  obtain⟨b,o,rfl,hcel⟩:=hcw i (.string (S w)) (by simp[strV,hsh.2])
  have hcK:cel HK ⟨b,o+i,none⟩=some (.string (S w)):=hR.fr.celT hcel (λ(e:b=ab)=>hne (by simp[e]))
  have hsz:((S w).size:Int)=(w.length:Int):=by rw[S_size]
  have fin:∀{X:Heap},none=tot→ReR H ab tot (.bool false) X:=λh=>by subst h;exact⟨rfl,λx hx=>by cases hx⟩
  conv=>whnf
  refine⟨rfl,λh5=>?_,λh5=>absurd (QK.2 h') h5⟩
  conv=>whnf
  refine⟨i,rfl,h',?_⟩
  conv=>whnf
  refine⟨_,hcK,?_⟩
  conv=>whnf
  refine⟨i,c,rfl,hsh.1,?_⟩
  have hge:H.size≤HK.size:=hR.fr.1
  unfold readF at hto
  by_cases c1:c=84
  ·rw[if_pos c1] at hto
   have hun:=λX=>s_unquote w (Qb hwl (by decide)) X
   generalize unqV w=uq at hto hun
   obtain⟨ut,ue⟩:=uq
   dsimp only at hto hun
   conv=>whnf
   refine⟨rfl,λ_=>?_,λh=>absurd (by rw[c1];rfl) h⟩
   conv=>whnf
   refine .q (hun _) ?_
   rintro _ HA rfl eA _
   conv=>whnf
   refine⟨rfl,λh6=>?_,λh6=>?_⟩
   ·rw[if_pos h6] at hto
    refine hKL _ _ _ ?_
    exact⟨fin hto⟩
   rw[if_neg (λe=>e h6)] at hto
   have hA:=hR.q eA
   conv=>whnf
   refine⟨_,cel_of hA.st rfl,?_⟩
   conv=>whnf
   refine⟨rfl,?_⟩
   conv=>whnf
   intro HB q fB _
   have hB:=hA.q fB.e
   conv=>whnf
   refine .el2 [.string (S ut)] (by kernel_rfl) hB.t (CellsAt.new (cs:=[.string (S ut)]) fB) rfl (by simp[oneCell]) (by omega) (by have:=hB.fr.1;omega) (λk hk=>.inr (hB.t.ge k hk).1) ?_
   intro v10 HC ho10 e10 _ _
   have g:=hB.at1 e10
   conv=>whnf
   refine .v1 [v10,nv,kv] (by kernel_rfl) g.1 (.inl rfl) ho10.slc (by show 0<3;decide) rfl ?_
   intro HD uD _
   refine go ?_
   have hl:(x.ts++[ut]).length=x.ts.length+1:=by simp
   exact⟨(i+1,r,⟨x.ts++[ut],x.ns,x.ks⟩,v10,nv,kv),⟨rfl,trivial⟩,⟨by simp at hi⊢;omega,hd',hto,by show(x.ts++[ut]).length≤_;omega,by show x.ns.length≤_;omega,by show x.ks.length≤_;omega,
    Rg.put (x':=⟨x.ts++[ut],x.ns,x.ks⟩) g.1 g.2.2.2 uD (by show Own HC H.size 9 1 _ (x.ts++[ut]).length (strV (x.ts++[ut]));rw[hl,strV_snoc];exact ho10) g.2.1 g.2.2.1⟩,by show r.length<r.length+1;omega⟩
  rw[if_neg c1] at hto
  have hc1:=u8_ne (c:=c) (d:=84) c1
  conv=>whnf
  refine⟨rfl,λh=>absurd h hc1,λ_=>?_⟩
  by_cases c2:c=78
  ·rw[if_pos c2] at hto
   have hG':∀{X:Heap},Frm nob HK X→Gl X:=λe=>(hG.frm hR.fr λk (hk:k=ab)=>by omega).q e
   have hat:=λ{X:Heap} (e:Frm nob HK X)=>s_atoi (hG' e) w (Qb hwl (by decide))
   have hnv:numE w=if atoiB w=false then true else if atoiV w<0 then true else if 4<w.length then true else decide (itoaV (atoiV w)≠w):=rfl
   have hit:=λ{X:Heap} (e:Frm nob HK X) (h0:¬atoiV w<0) (h1:atoiV w≤9223372036854775807)=>s_itoa (hG' e) (atoiV w) (by omega) h1
   have har:atoiV w≤9223372036854775807:=atoiV_le w
   have hiv:∀{a b:By},S a=S b→a=b:=S_inj
   generalize numE w=ne at hto hnv
   generalize itoaV (atoiV w)=iv at hnv hit
   generalize atoiV w=av at hto hat hnv hit har
   conv=>whnf
   refine⟨rfl,λ_=>?_,λh=>absurd (by rw[c2];rfl) h⟩
   cases hb:atoiB w with
   |false=>
    rw[hb] at hnv
    rw[if_pos rfl] at hnv
    rw[hnv,if_pos rfl] at hto
    have hat2:=λ{X:Heap} (e:Frm nob HK X)=>(hat e).imp (R':=λu _=>∃N,u=.tuple #[.int .i64 av,.iface 285 (.pointer (some ⟨N,0,none⟩))]) λu _ h=>h.2 hb
    conv=>whnf
    refine .q (hat2 (Frm.refl _ _)) ?_
    rintro _ HA ⟨N,rfl⟩ eA FA
    conv=>whnf
    refine raw_ne1 rfl rfl rfl rfl FA ?_
    conv=>whnf
    refine hKL _ _ _ ?_
    exact⟨fin hto⟩
   |true=>
    rw[hb,if_neg (by decide)] at hnv
    have hat2:=λ{X:Heap} (e:Frm nob HK X)=>(hat e).imp (R':=λu _=>u=.tuple #[.int .i64 av,.nilIface]) λu _ h=>h.1 hb
    conv=>whnf
    refine .q (hat2 (Frm.refl _ _)) ?_
    rintro _ HA rfl eA FA
    conv=>whnf
    refine raw_ne0 rfl rfl rfl rfl FA ?_
    conv=>whnf
    refine⟨rfl,λh6=>?_,λh6=>?_⟩
    ·rw[if_pos h6] at hnv
     rw[hnv,if_pos rfl] at hto
     refine hKL _ _ _ ?_
     exact⟨fin hto⟩
    rw[if_neg h6] at hnv
    conv=>whnf
    refine⟨rfl,λh7=>?_,λh7=>?_⟩
    ·have h7':4<w.length:=by have:(4:Int)<((S w).size:Int):=h7;omega
     rw[if_pos h7'] at hnv
     rw[hnv,if_pos rfl] at hto
     refine hKL _ _ _ ?_
     exact⟨fin hto⟩
    have h7':¬4<w.length:=by have:¬(4:Int)<((S w).size:Int):=h7;omega
    rw[if_neg h7'] at hnv
    conv=>whnf
    refine .q (hit eA h6 har) ?_
    rintro _ HB rfl eB _
    conv=>whnf
    refine⟨λh8=>?_,λh8=>?_⟩
    ·have h8':iv≠w:=λe=>h8 (by rw[e])
     rw[QO h8'] at hnv
     rw[hnv,if_pos rfl] at hto
     refine hKL _ _ _ ?_
     exact⟨fin hto⟩
    have h8':¬iv≠w:=λe=>e (hiv h8)
    rw[QM h8'] at hnv
    rw[hnv,if_neg (by decide)] at hto
    have hA:=hR.q (eA.trans eB)
    conv=>whnf
    refine⟨_,cel_of hA.st rfl,?_⟩
    conv=>whnf
    refine⟨rfl,?_⟩
    conv=>whnf
    intro HB2 q fB _
    have hB:=hA.q fB.e
    conv=>whnf
    refine .el2 [.int .i64 av] (by kernel_rfl) hB.n (CellsAt.new (cs:=[.int .i64 av]) fB) rfl (by simp[oneCell]) (by omega) (by have:=hB.fr.1;omega) (λk hk=>.inr (hB.n.ge k hk).1) ?_
    intro v10 HC ho10 e10 _ _
    have g:=hB.at2 e10
    conv=>whnf
    refine .v1 [tv,v10,kv] (by kernel_rfl) g.1 (.inl rfl) ho10.slc (by show 1<3;decide) rfl ?_
    intro HD uD _
    refine go ?_
    have hl:(x.ns++[av]).length=x.ns.length+1:=by simp
    exact⟨(i+1,r,⟨x.ts,x.ns++[av],x.ks⟩,tv,v10,kv),⟨rfl,trivial⟩,⟨by simp at hi⊢;omega,hd',hto,by show x.ts.length≤_;omega,by show(x.ns++[av]).length≤_;omega,by show x.ks.length≤_;omega,
     Rg.put (x':=⟨x.ts,x.ns++[av],x.ks⟩) g.1 g.2.2.2 uD g.2.1 (by show Own HC H.size 3 1 _ (x.ns++[av]).length (intV (x.ns++[av]));rw[hl,intV_snoc];exact ho10) g.2.2.1⟩,by show r.length<r.length+1;omega⟩
  rw[if_neg c2] at hto
  have hc2:=u8_ne (c:=c) (d:=78) c2
  conv=>whnf
  refine⟨rfl,λh=>absurd h hc2,λ_=>?_⟩
  by_cases c3:c=87
  ·rw[if_pos c3] at hto
   have hke:keepE w=if w=[] then true else decide (Lib.trimS w [48,49]≠[]):=rfl
   have htr:=λX=>s_trim01 w (Qb hwl (by decide)) X
   have hta:Lib.trimS w [48,49]=[]→∀y∈w,([48,49]:By).contains y=true:=trim_all
   have hiv:∀{a b:By},S a=S b→a=b:=S_inj
   generalize keepE w=ke at hto hke
   generalize Lib.trimS w [48,49]=tw at hke htr hta
   conv=>whnf
   refine⟨rfl,λ_=>?_,λh=>absurd (by rw[c3];rfl) h⟩
   conv=>whnf
   refine⟨λh6=>?_,λh6=>?_⟩
   ·have h6':w=[]:=hiv (b:=[]) h6
    rw[if_pos h6'] at hke
    rw[hke,if_pos rfl] at hto
    refine hKL _ _ _ ?_
    exact⟨fin hto⟩
   have h6':¬w=[]:=λe=>h6 (by rw[e];rfl)
   rw[if_neg h6'] at hke
   conv=>whnf
   refine .q (htr _) ?_
   rintro _ HA rfl eA FA
   conv=>whnf
   refine⟨λh7=>?_,λh7=>?_⟩
   ·have h7':tw≠[]:=λe=>h7 (by rw[e];rfl)
    rw[QO h7'] at hke
    rw[hke,if_pos rfl] at hto
    refine hKL _ _ _ ?_
    exact⟨fin hto⟩
   have h7':tw=[]:=hiv (b:=[]) h7
   rw[QM (λe=>e h7')] at hke
   rw[hke,if_neg (by decide)] at hto
   have h01:=hta h7'
   conv=>whnf
   refine raw_range rfl rfl rfl FA ?_
   intro HB bi fB FB
   have hbi:=fB.1
   have zA:=eA.1
   have hB:=hR.q (eA.trans fB.e)
   conv=>whnf
   refine .g [(0,ptr ab 0),(1,.string (S shape)),(20,.slice (some ⟨b,o,none⟩) ws.length cap),(21,.int .i64 (ws.length:Int)),(22,.int .i64 (i:Int)),(93,ptr bi 0)] ⟨rfl,rfl,rfl,rfl,rfl,rfl,trivial⟩ λenv1 KM hKM=>?_
   refine⟨Nat×Value,λ_=>[],λz H'=>H'[bi]? =some (.stringIter (S w) z.1)∧z.1≤w.length∧Rg H ab ⟨x.ts,x.ns,x.ks++(w.take z.1).map λb=>decide (b=49)⟩ tv nv z.2 H',λz=>w.length-z.1,⟨(0,kv),trivial,fB.at,Qk _,by simpa using hB⟩,?_⟩
   rintro⟨p,kv2⟩ HC junk2 ⟨hit,hp,hRc⟩ FC
   dsimp only at hit hp hRc
   conv=>whnf
   refine raw_next rfl rfl hit (.inr (by show H.size≤bi;omega)) FC (λh=>?_) (λh=>?_)
   ·have hpe:p=w.length:=by rw[S_size] at h;omega
    subst hpe
    rw[Zx] at hRc
    refine hKM _ _ _ ?_
    refine go ?_
    exact⟨(i+1,r,⟨x.ts,x.ns,x.ks++w.map λb=>decide (b=49)⟩,tv,nv,kv2),⟨rfl,trivial⟩,⟨by simp at hi⊢;omega,hd',hto,by show x.ts.length≤_;omega,by show x.ns.length≤_;omega,by show(x.ks++w.map λb=>decide (b=49)).length≤_;simp;omega,hRc⟩,by show r.length<r.length+1;omega⟩
   ·intro HD uD FD
    have hpl:p<w.length:=by rw[S_size] at h;exact h
    obtain⟨y,hy⟩:∃y,w[p]? =some y:=⟨w[p],Qc hpl⟩
    have hdec:Utf8.decode (S w) p=(y.toNat,1):=by
     have hyw:(S w)[p]'h=y:=by
      have:=Qe.1 hy
      exact this.2
     have hy01:=h01 y (Qj hy)
     have:y=48∨y=49:=by simpa using hy01
     rw[decode_ascii (S w) p h (by rw[hyw];rcases this with rfl|rfl<;>decide),hyw]
    rw[hdec] at uD
    rw[hdec]
    have hD:=hRc.it hit uD (by omega)
    have hit':HD[bi]? =some (.stringIter (S w) (p+1)):=uD.1
    have htk:((w.take (p+1)).map λb=>decide (b=49))=((w.take p).map λb=>decide (b=49))++[decide (y=49)]:=by
     rw[List.take_succ,hy];simp
    have hmu:w.length-(p+1)<w.length-p:=by omega
    clear hdec
    conv=>whnf
    refine⟨_,cel_of hD.st rfl,?_⟩
    have key:∀bb:Bool,decide (y=49)=bb→∀{HE:Heap} {q:Nat} {HF:Heap} {v10:Value},Fresh HD HE q (.cells #[.bool bb] 4)→Own HF H.size 4 1 v10 ((x.ks++(w.take p).map λb=>decide (b=49)).length+1) (boolV (x.ks++(w.take p).map λb=>decide (b=49))++[.bool bb])→Own HF H.size 4 1 v10 (x.ks++(w.take (p+1)).map λb=>decide (b=49)).length (boolV (x.ks++(w.take (p+1)).map λb=>decide (b=49))):=λbb hbb _ _ _ _ _ ho=>by
     rw[htk,←Qt,hbb,boolV_snoc,Qi (bs:=[bb])]
     exact ho
    conv=>whnf
    refine⟨rfl,λh9=>?_,λh9=>?_⟩
    ·have hbb:decide (y=49)=true:=QO (UInt8.toNat.inj (by have:(y.toNat:Int)=49:=h9;show y.toNat=49;omega))
     conv=>whnf
     refine⟨rfl,?_⟩
     conv=>whnf
     intro HE q fE _
     have hE:=hD.q fE.e
     conv=>whnf
     refine .el2 [.bool true] (by kernel_rfl) hE.k (CellsAt.new (cs:=[.bool true]) fE) rfl (by simp[oneCell]) (by simp;omega) (by have:=hE.fr.1;omega) (λk hk=>.inr (hE.k.ge k hk).1) ?_
     intro v10 HF ho10 e10 _ _
     have g:=hE.at3 e10
     conv=>whnf
     refine .v1 [tv,nv,v10] (by kernel_rfl) g.1 (.inl rfl) ho10.slc (by show 2<3;decide) rfl ?_
     intro HG uG _
     conv=>whnf
     have hitF:HG[bi]? =some (.stringIter (S w) (p+1)):=(uG.2.2 bi (λe=>by have:=(Qa.1 hab).1;omega)).trans (e10.blkT (fE.e.blk hit') (hE.k.neI (fE.e.blk hit')))
     exact⟨(p+1,v10),trivial,⟨hitF,hpl,Rg.put (x':=⟨x.ts,x.ns,x.ks++(w.take (p+1)).map λb=>decide (b=49)⟩) g.1 g.2.2.2 uG g.2.1 g.2.2.1 (key true hbb fE ho10)⟩,hmu⟩
    ·have hbb:decide (y=49)=false:=QM (λe=>h9 (by rw[e];rfl))
     conv=>whnf
     refine⟨rfl,?_⟩
     conv=>whnf
     intro HE q fE _
     have hE:=hD.q fE.e
     conv=>whnf
     refine .el2 [.bool false] (by kernel_rfl) hE.k (CellsAt.new (cs:=[.bool false]) fE) rfl (by simp[oneCell]) (by simp;omega) (by have:=hE.fr.1;omega) (λk hk=>.inr (hE.k.ge k hk).1) ?_
     intro v10 HF ho10 e10 _ _
     have g:=hE.at3 e10
     conv=>whnf
     refine .v1 [tv,nv,v10] (by kernel_rfl) g.1 (.inl rfl) ho10.slc (by show 2<3;decide) rfl ?_
     intro HG uG _
     conv=>whnf
     have hitF:HG[bi]? =some (.stringIter (S w) (p+1)):=(uG.2.2 bi (λe=>by have:=(Qa.1 hab).1;omega)).trans (e10.blkT (fE.e.blk hit') (hE.k.neI (fE.e.blk hit')))
     exact⟨(p+1,v10),trivial,⟨hitF,hpl,Rg.put (x':=⟨x.ts,x.ns,x.ks++(w.take (p+1)).map λb=>decide (b=49)⟩) g.1 g.2.2.2 uG g.2.1 g.2.2.1 (key false hbb fE ho10)⟩,hmu⟩
  rw[if_neg c3] at hto
  have hc3:=u8_ne (c:=c) (d:=87) c3
  conv=>whnf
  refine⟨rfl,λh=>absurd h hc3,λ_=>?_⟩
  refine go ?_
  exact⟨(i+1,r,x,tv,nv,kv),⟨rfl,trivial⟩,⟨by simp at hi⊢;omega,hd',hto,by show x.ts.length≤_;omega,by show x.ns.length≤_;omega,by show x.ks.length≤_;omega,hR⟩,by show r.length<r.length+1;omega⟩
structure AgP where
 ta:Option Addr
 tc:Nat
 na:Option Addr
 nc:Nat
 ka:Option Addr
 kc:Nat
def agL(q:AgP)(x:Arg):List Value:=[.slice q.ta x.ts.length q.tc,.slice q.na x.ns.length q.nc,.slice q.ka x.ks.length q.kc]
structure ArgV(H:Heap)(B:Nat)(q:AgP)(x:Arg):Prop where
 t:Own H B 9 1 (.slice q.ta x.ts.length q.tc) x.ts.length (strV x.ts)
 n:Own H B 3 1 (.slice q.na x.ns.length q.nc) x.ns.length (intV x.ns)
 k:Own H B 4 1 (.slice q.ka x.ks.length q.kc) x.ks.length (boolV x.ks)
theorem ArgV.frm{H H':Heap}{B:Nat}{q:AgP}{x:Arg}{T:Nat→Prop}(h:ArgV H B q x)(hF:Frm T H H')(hT:∀k,T k→k<B):ArgV H' B q x:=
 ⟨h.t.frm hF λk hk e=>by have:=(h.t.ge k hk).1;have:=hT k e;omega,h.n.frm hF λk hk e=>by have:=(h.n.ge k hk).1;have:=hT k e;omega,h.k.frm hF λk hk e=>by have:=(h.k.ge k hk).1;have:=hT k e;omega⟩
theorem ArgV.q{H H':Heap}{B:Nat}{q:AgP}{x:Arg}(h:ArgV H B q x)(hF:Frm nob H H'):ArgV H' B q x:=h.frm hF λ_ e=>e.elim
theorem ArgAt.out{H:Heap}{B ab:Nat}{x:Arg}(h:ArgAt H B ab x):∃q,H[ab]? =some (.cells (agL q x).toArray 119 (0,0))∧ArgV H B q x:=by
 obtain⟨tv,nv,kv,h0,h1,h2,h3⟩:=h
 obtain⟨ta,tc,rfl⟩:=h1.form
 obtain⟨na,nc,rfl⟩:=h2.form
 obtain⟨ka,kc,rfl⟩:=h3.form
 exact⟨⟨ta,tc,na,nc,ka,kc⟩,h0,h1,h2,h3⟩
abbrev SO:=Option (Sp×St)
def stP:SO→Value
 |none=>.pointer none
 |some x=>ptr x.1.gs 0
def TO(S:Nat→Prop):SO→Nat→Prop
 |none=>S
 |some x=>TS x.1 S
def TW(gz:Nat)(S:Nat→Prop)(o:SO):Nat→Prop:=λk=>TO S o k∨k=gz
structure Ses(i:Nat)(p:Pl)(gz:Nat)(o:SO)(a:Arr)(H:Heap)(S:Nat→Prop):Prop where
 ses:H[gz]? =some (.cells #[ptr p.ga 0,stP o] 110 (0,0))
 arr:PaH p a H S
 out:¬TO S o gz
 sm:Sm (40000*i) a
 nd:a.ds.length≤6
 sto:match o with
  |none=>True
  |some x=>SS (40000*i) (eMax+1+4000*i) i p x.1 x.2 a H S
 lo:∀k,TW gz S o k→8≤k
 sz:8≤H.size
 gl:Gl H
theorem Ses.sub{S:Nat→Prop}{o:SO}(k:Nat)(h:S k):TO S o k:=by
 cases o with
 |none=>exact h
 |some x=>exact .inl (.inl (.inl h))
section
variable {i:Nat}{p:Pl}{gz:Nat}{o:SO}{a:Arr}{H H':Heap}{S S':Nat→Prop}
theorem Ses.lt(h:Ses i p gz o a H S):gz<H.size:=(Qa.1 h.ses).1
theorem Ses.ltT(h:Ses i p gz o a H S):∀k,TW gz S o k→k<H.size:=by
 rintro k (hk|hk)
 ·have hs:=h.sto
  cases o with
  |none=>exact h.arr.lt k hk
  |some x=>exact SS.ltT hs k hk
 ·rw[hk];exact h.lt
theorem Ses.q(h:Ses i p gz o a H S)(hF:Frm nob H H'):Ses i p gz o a H' S:=by
 refine⟨hF.blk h.ses,h.arr.q hF,h.out,h.sm,h.nd,?_,h.lo,Qb h.sz hF.1,h.gl.q hF⟩
 have hs:=h.sto
 cases o with
 |none=>trivial
 |some x=>exact SS.q hs hF
theorem Ses.up{j:Nat}(h:Ses i p gz o a H S)(hj:i≤j):Ses j p gz o a H S:=by
 refine⟨h.ses,h.arr,h.out,h.sm.mono (by omega),h.nd,?_,h.lo,h.sz,h.gl⟩
 have hs:=h.sto
 cases o with
 |none=>trivial
 |some x=>exact SS.mono hs (by omega) (by omega) hj
theorem Ses.dsk{a':Arr}(h:Ses i p gz o a H S)(hF:Frm S H H')(ha:PaH p a' H' S')(hs:Sub S' S H)(hm:Sm (40000*i) a')(hd:a'.ds.length=a.ds.length):Ses i p gz o a' H' S':=by
 have hlt:=h.lt
 have hsz:=h.sz
 have hfr:=hF.1
 have hT:∀k,TO S' o k→TO S o k∨H.size≤k:=by
  cases o with
  |none=>exact hs
  |some x=>exact TS_sub hs
 refine⟨hF.blkT h.ses (λe=>h.out (Ses.sub gz e)),ha,λe=>(hT gz e).elim h.out λe=>by omega,hm,by rw[hd];exact h.nd,?_,λk hk=>hk.elim (λe=>(hT k e).elim (λe=>h.lo k (.inl e)) λe=>by omega) (λe=>h.lo k (.inr e)),by omega,h.gl.frm hF λk hk=>h.lo k (.inl (Ses.sub k hk))⟩
 have hso:=h.sto
 cases o with
 |none=>trivial
 |some x=>
  have hso:SS (40000*i) (eMax+1+4000*i) i p x.1 x.2 a H S:=hso
  have hL:=hso.lv
  have hV:=hL.al.av.step hF ha hs
  exact hso.up hF (λk hk=>.inl (.inl (.inl hk))) hs (hL.other (hF.mono (S:=λk=>S k∨k=x.1.gv) λ_ _ e=>.inl e) hL.ne.1 hL.ne.2 hV ⟨hm,by rw[hd];exact hL.vo.nd,hL.vo.cf,by rw[hd];exact hL.vo.ds,hL.vo.id,hL.vo.sq⟩ hs)
theorem TW_sub(hs:Sub S' S H):Sub (TW gz S' o) (TW gz S o) H:=by
 rintro k (hk|hk)
 ·cases o with
  |none=>exact(hs k hk).imp .inl id
  |some x=>exact(TS_sub hs k hk).imp .inl id
 ·exact .inl (.inr hk)
theorem Ses.str{x x':Sp×St}{a':Arr}{B:Nat}{Q:Int}{N:Nat}{T:Nat→Prop}(h:Ses i p gz (some x) a H S)(hF:Frm T H H')(hT:∀k,T k→TS x.1 S k)(hs:SS B Q N p x'.1 x'.2 a' H' S')(hg:x'.1.gs=x.1.gs)(hsub:Sub (TS x'.1 S') (TS x.1 S) H)(hB:B≤40000*(i+1))(hQ:Q≤eMax+1+4000*(i+1))(hN:N≤i+1):
  Ses (i+1) p gz (some x') a' H' S':=by
 have hlt:=h.lt
 have hsz:=h.sz
 have hfr:=hF.1
 refine⟨?_,hs.lv.al.av.arr,λe=>(hsub gz e).elim h.out λe=>by omega,hs.lv.vo.sm.mono hB,hs.lv.vo.nd,hs.mono hB (by omega) hN,λk hk=>hk.elim (λe=>(hsub k e).elim (λe=>h.lo k (.inl e)) λe=>by omega) (λe=>h.lo k (.inr e)),by omega,h.gl.frm hF λk hk=>h.lo k (.inl (hT k hk))⟩
 have:=hF.blkT h.ses (λe=>h.out (hT gz e))
 rw[this]
 show some (Obj.cells #[ptr p.ga 0,ptr x.1.gs 0] 110)=some (Obj.cells #[ptr p.ga 0,ptr x'.1.gs 0] 110)
 rw[hg]
theorem Ses.shut(h:Ses i p gz o a H S)(u:Upd H H' gz (.cells #[ptr p.ga 0,.pointer none] 110 (0,0))):Ses i p gz none a H' S:=
 ⟨u.1,h.arr.frm u.e (λk hk (e:k=gz)=>h.out (Ses.sub gz (e▸hk))),λe=>h.out (Ses.sub gz e),h.sm,h.nd,trivial,λk hk=>hk.elim (λe=>h.lo k (.inl (Ses.sub k e))) (λe=>h.lo k (.inr e)),by have:=h.sz;rw[u.2.1];exact this,h.gl.frm u.e λk (hk:k=gz)=>h.lo k (.inr hk)⟩
end
def okW:By:=[111,107]
def DoR(i:Nat)(p:Pl)(gz:Nat)(W:Nat→Prop)(H:Heap)(r:By×Arr×Option St)(u:Value)(H':Heap):Prop:=
 u=.string (Tp.S r.1)∧∃(o':SO) (S':Nat→Prop),o'.map (·.2)=r.2.2∧Ses (i+1) p gz o' r.2.1 H' S'∧Sub (TW gz S' o') W H
theorem said_ok{H:Heap}(hG:Gl H)(e:Int)(h0: -9223372036854775808≤e)(h1:e≤9223372036854775807){b:Nat}(hb:H[b]? =some (.cells #[.string (Tp.S okW)] 9 (0,0))):Spec prog 56 #[.int .i64 e,.slice (some ⟨b,0,none⟩) 1 1] H nob λu _=>u=.string (Tp.S (saidV e [okW])):=
 s_said hG e h0 h1 (.inr ⟨b,0,1,rfl,Qd _,CellsAt.at (cs:=[.string (Tp.S okW)]) hb⟩) (by decide) (by decide)
def closeO(e:Int)(o:Option St):Option St:=if e≠0∧e≠11 then none else o
def Er(e:Int):Prop:=0≤e∧e≤14
theorem er0:Er 0:=⟨by decide,by decide⟩
theorem er1:Er 1:=⟨by decide,by decide⟩
theorem er7:Er 7:=⟨by decide,by decide⟩
theorem er8:Er 8:=⟨by decide,by decide⟩
theorem er9:Er 9:=⟨by decide,by decide⟩
theorem er10:Er 10:=⟨by decide,by decide⟩
theorem er11:Er 11:=⟨by decide,by decide⟩
theorem er12:Er 12:=⟨by decide,by decide⟩
theorem er13:Er 13:=⟨by decide,by decide⟩
theorem Er.b{e:Int}(h:Er e): -9223372036854775808≤e∧e≤9223372036854775807:=⟨by have:=h.1;omega,by have:=h.2;omega⟩
theorem er_put(n:Int)(k:Nat):Er (putE n k):=by
 unfold putE
 (repeat' split)<;>first|exact er0|exact er1|exact er12
theorem er_text(s:By):Er (textE s):=by
 unfold textE
 split<;>first|exact er0|exact er12
theorem er_first:∀{l:List Int},(∀e∈l,Er e)→Er (firstE l)
 |[],_=>er0
 |e::r,h=>by
  unfold firstE
  split
  ·exact er_first λx hx=>h x (Qu _ hx)
  ·exact h e (Qs ..)
theorem er_power(a:Arr):Er (Dk.powerE a):=by
 unfold Dk.powerE
 split
 ·exact er9
 ·exact er0
theorem er_check(m:Dsk)(n:Int)(l:Nat):Er (Dk.checkE m n l):=by
 unfold Dk.checkE
 (repeat' split)<;>first|exact er0|exact er1|exact er12|exact er8
theorem er_awrite(a:Arr)(d n:Int)(l:Nat):Er (Dk.awriteE a d n l):=by
 unfold Dk.awriteE
 (repeat' split)<;>first|exact er0|exact er1|exact er9|exact er_check _ _ _
theorem er_acorrupt(a:Arr)(d n:Int)(l:Nat):Er (Dk.acorruptE a d n l):=by
 unfold Dk.acorruptE
 split
 ·exact er1
 ·exact er_check _ _ _
section
attribute [local semireducible] sealE itE vputE shardsV putF lookE lookP vjoin vReadV splitV vwriteV wrS jF flS shS lputV keyE fchkV fwriteV scanWV vheadsV headsF vmendV
theorem er_seal(b:Blk):Er (sealE b):=er_first λe he=>by
 rcases Qz.1 he with h|h
 ·unfold errsB at h
  obtain⟨j,_,rfl⟩:=Qw.1 h
  exact er_put _ _
 ·rw[Q4.1 h];exact er_text _
theorem er_it(i:It):Er (itE i):=er_first λe he=>by
 simp only[QB,Zj,Z1] at he
 rcases he with rfl|rfl|rfl|rfl
 ·exact er0
 ·exact er_put _ _
 ·exact er_put _ _
 ·exact er_text _
theorem er_vput(a:Arr)(v:Vol)(d pl ep:Int)(t:By):Er (vputE a v d pl ep t):=by
 unfold vputE
 split
 ·exact er_seal _
 ·exact er_awrite _ _ _ _
theorem er_putF(v:Vol)(pl ep:Int)(l:List By):∀(ds:List Int) (a:Arr),Er (putF v pl ep l ds a).1
 |[],_=>er0
 |d::ds,a=>by
  unfold putF
  split
  ·exact er_vput _ _ _ _ _ _
  ·exact er_putF v pl ep l ds _
theorem er_split(c:Cf)(t:By):Er (splitV c t).2:=by
 unfold splitV
 (repeat' split)<;>first|exact er1|exact er12|skip
 unfold encV
 (repeat' split)<;>first|exact er1|exact er0
theorem er_shards(a:Arr)(v:Vol)(n ep:Int)(t:By)(ds:List Int):Er (shardsV a v n ep t ds).1:=by
 unfold shardsV
 split
 ·exact er_split _ _
 ·exact er_putF _ _ _ _ _ _
theorem er_look(a:Arr)(v:Vol)(n:Int):Er (lookE a v n):=by
 unfold lookE
 (repeat' split)<;>first|exact er0|exact er1|exact er10|exact er_power _
theorem er_join(v:Vol)(st:List (By×Int))(hv:List Bool):Er (vjoin v st hv).2:=by
 unfold vjoin
 split
 ·exact er10
 ·exact er0
theorem er_vread(a:Arr)(v:Vol)(n:Int):Er (vReadV a v n).2:=by
 unfold vReadV
 split
 ·exact er_look _ _ _
 ·exact er_join _ _ _
theorem er_jF(v:Vol)(sl:Int)(r:By):∀(l:List Int) {s:Int×Arr},Er s.1→Er (jF v sl r l s).1
 |[],_,h=>h
 |d::l,s,h=>by
  unfold jF
  refine er_jF v sl r l ?_
  split
  ·exact er_vput _ _ _ _ _ _
  ·exact h
theorem er_flS{s:Int×Arr}(h:Er s.1):Er (flS s).1:=by
 unfold flS
 split
 ·exact er_power _
 ·exact h
theorem er_shS(v:Vol)(n:Int)(t:By)(all:List Int){s:Int×Arr}(h:Er s.1):Er (shS v n t all s).1:=by
 unfold shS
 split
 ·exact er_shards _ _ _ _ _ _
 ·exact h
theorem er_vwrite(a:Arr)(v:Vol)(n:Int)(t:By):Er (vwriteV a v n t).1.1:=by
 unfold vwriteV
 (repeat' split)<;>first|exact er1|exact er12|exact er9|exact er10|skip
 unfold wrS
 exact er_flS (er_shS _ _ _ _ (er_flS (er_jF _ _ _ _ (er_it _))))
theorem er_lput(a:Arr)(v:Vol)(l:Lg)(n:Nat)(s:By):Er (lputV a v l n s).1.1:=by
 unfold lputV
 (repeat' split)<;>first|exact er0|exact er_vwrite _ _ _ _
theorem er_lputs(t:By):∀(r:List Nat) (a:Arr) (v:Vol) (l:Lg),Er (lputs t r a v l).1.1
 |[],_,_,_=>by unfold lputs;exact er0
 |n::r,a,v,l=>by
  unfold lputs
  split
  ·exact er_lput _ _ _ _ _
  ·exact er_lputs t r _ _ _
theorem er_lapp(a:Arr)(v:Vol)(l:Lg)(s:By):Er (lappV a v l s).1.1:=by
 unfold lappV
 (repeat' split)<;>first|exact er11|exact er0|exact er_lputs _ _ _ _ _
theorem er_ltrunc(a:Arr)(v:Vol)(l:Lg)(n:Nat):Er (ltruncV a v l n).1.1:=by
 unfold ltruncV
 split
 ·exact er1
 ·exact er_lputs _ _ _ _ _
theorem er_lreads(a:Arr)(v:Vol)(fr:Int):∀(r:List Nat) (acc:List By),Er (lreads a v fr r acc).2
 |[],_=>by unfold lreads;exact er0
 |n::r,acc=>by
  unfold lreads
  split
  ·exact er_vread _ _ _
  ·exact er_lreads a v fr r _
theorem er_lopen(a:Arr)(v:Vol)(fr cnt:Int):Er (lopenV a v fr cnt).2:=by
 unfold lopenV
 (repeat' split)<;>first|exact er1|exact er0|exact er_lreads _ _ _ _ _
theorem er_kbad:∀l:List Int,Er (kbadF l)
 |[]=>er0
 |r::l=>by
  unfold kbadF
  (repeat' split)<;>first|exact er7|exact er_kbad l
theorem er_key(s:By):Er (keyE s):=by
 unfold keyE
 (repeat' split)<;>first|exact er7|exact er_kbad _
theorem er_fchkF:∀l:List Chg,Er (fchkF l)
 |[]=>er0
 |c::r=>by
  unfold fchkF
  (repeat' split)<;>first|exact er12|exact er1|exact er_key _|exact er_fchkF r
theorem er_fchk(l:List Chg):Er (fchkV l):=by
 unfold fchkV
 (repeat' split)<;>first|exact er12|exact er1|exact er0|exact er_fchkF _
theorem er_fwrite(q:Int)(l:List Chg):Er (fwriteV q l).2:=by
 unfold fwriteV
 (repeat' split)<;>first|exact er1|exact er0|exact er_fchk _
theorem er_scanWF(f:Int):∀(ws:List (List Chg)) (i:Nat) (acc:By),Er (scanWF f i ws acc).2
 |[],_,_=>by unfold scanWF;exact er0
 |w::r,i,acc=>by
  unfold scanWF
  split
  ·exact er_fwrite _ _
  ·exact er_scanWF f r _ _
theorem er_scanW(f:Int)(ws:List (List Chg)):Er (scanWV f ws).2:=by
 unfold scanWV;exact er_scanWF _ _ _ _
theorem er_vmend(a:Arr)(v:Vol)(n:Int):Er (vmendV a v n).1.2:=by
 unfold vmendV
 (repeat' split)<;>first|exact er0|exact er_look _ _ _|exact er_join _ _ _|exact er_shards _ _ _ _ _ _|exact er_power _
theorem er_headsF(v:Vol)(t:By):∀(ds:List Int) (m:Nat) (a:Arr),Er (headsF v t ds m a).1.2
 |[],_,_=>er0
 |d::ds,m,a=>by
  unfold headsF
  (repeat' split)<;>first|exact er_headsF v t ds _ _|exact er_vput _ _ _ _ _ _
theorem er_vheads(a:Arr)(v:Vol):Er (vheadsV a v).1.2:=by
 unfold vheadsV
 (repeat' split)<;>first|exact er0|exact er_power _|exact er_headsF _ _ _ _ _
end
theorem er_S{e:Int}(h:Er e):Er (erS e):=by
 unfold erS
 split
 ·exact er0
 ·exact h
theorem er_scrubF(v:Vol):∀(q n:Nat) (m l:Int) (a:Arr),Er (scrubF v q n m l a).1.2
 |0,_,_,_,_=>by unfold scrubF;exact er0
 |q+1,n,m,l,a=>by
  unfold scrubF
  split
  ·exact er_S (er_vmend _ _ _)
  ·exact er_scrubF v q _ _ _ _
theorem er_scrub(a:Arr)(v:Vol):Er (scrubV a v).1.2:=by
 unfold scrubV
 split
 ·exact er_S (er_vheads _ _)
 ·exact er_scrubF _ _ _ _ _ _
theorem er_fixF(v:Vol)(al:List Int):∀(l:List It) (a:Arr),Er (fixF v al l a).1
 |[],_=>by unfold fixF;exact er0
 |x::r,a=>by
  unfold fixF
  (repeat' split)<;>first|exact er_shards _ _ _ _ _ _|exact er_fixF v al r _
theorem er_vopen(a:Arr)(id:Int):Er (vopenV a id).1.2:=by
 unfold vopenV
 split
 ·exact er9
 ·split
  ·exact er10
  ·unfold openW
   (repeat' split)<;>first|exact er0|exact er_fixF _ _ _ _|exact er_power _
theorem er_sopen(a:Arr)(v:Vol):Er (sopenV a v).1.2:=by
 unfold sopenV
 (repeat' split)<;>first|exact er10|exact er_vread _ _ _|skip
 have h:=er_lopen a v (1+((sixF (vReadV a v 0).1 [[65],[66]] 0).toNat:Int)*((v.conf.st-1).tdiv 2)) ((v.conf.st-1).tdiv 2)
 unfold lhalfV
 generalize lopenV a v _ _=t at h⊢
 obtain⟨o,e⟩:=t
 cases o with
 |none=>exact h
 |some l=>
  show Er (sopenT _ (scanV (textF l.size l.parts)) (ltruncV a v l (scanV (textF l.size l.parts)).2)).1.2
  unfold sopenT
  split
  ·exact er_ltrunc _ _ _ _
  ·exact er0
theorem er_stopen(a:Arr)(id:Int):Er (stOpenV a id).1.2:=by
 unfold stOpenV
 split
 ·exact er_vopen _ _
 ·exact er_sopen _ _
theorem er_upd(s:St)(l:List Chg):Er (updV s l).1:=by
 unfold updV
 (repeat' split)<;>first|exact er11|exact er0|exact er_fchk _|exact er_scanW _ _
theorem er_sync(a:Arr)(s:St):Er (syncV a s).1:=by
 unfold syncV syncT
 (repeat' split)<;>first|exact er0|exact er_scanW _ _|exact er_lapp _ _ _ _
theorem er_merge(a:Arr)(s:St):Er (mergeV a s).1:=by
 unfold mergeV
 split
 ·exact er_sync _ _
 have h:=er_lopen (syncV a s).2.1 (syncV a s).2.2.v (1+((1-(syncV a s).2.2.half:Nat):Int)*(((syncV a s).2.2.v.conf.st-1).tdiv 2)) (((syncV a s).2.2.v.conf.st-1).tdiv 2)
 unfold lhalfV
 generalize lopenV _ _ _ _=t at h⊢
 obtain⟨o,e⟩:=t
 cases o with
 |none=>exact h
 |some l=>
  show Er (mergeS (syncV a s).2.1 (syncV a s).2.2 (1-(syncV a s).2.2.half) (compV (syncV a s).2.2.ps).length l (scanWV 0 (compV (syncV a s).2.2.ps))).1
  unfold mergeS
  (repeat' split)<;>first|exact er_scanW _ _|exact er11|skip
  unfold mergeU
  split
  ·exact er_ltrunc _ _ _ _
  unfold mergeA
  split
  ·exact er_lapp _ _ _ _
  unfold mergeW
  split
  ·exact er_vwrite _ _ _ _
  ·exact er0
theorem sopenL_ne{a:Arr}{v:Vol}{n:Nat}:∀{t:Option Lg×Int},(t.1=none→t.2≠0)→(sopenL a v n t).1.1=none→(sopenL a v n t).1.2≠0
 |(none,e),hb,_=>hb rfl
 |(some l,e),_,h=>by
  change (sopenT n (scanV (textF l.size l.parts)) (ltruncV a v l (scanV (textF l.size l.parts)).2)).1.1=none at h
  change (sopenT n (scanV (textF l.size l.parts)) (ltruncV a v l (scanV (textF l.size l.parts)).2)).1.2≠0
  unfold sopenT at h⊢
  by_cases c:(ltruncV a v l (scanV (textF l.size l.parts)).2).1.1≠0
  ·rw[if_pos c];exact c
  ·rw[if_neg c] at h;cases h
theorem sopen_ne(a:Arr)(v:Vol)(h:(sopenV a v).1.1=none):(sopenV a v).1.2≠0:=by
 unfold sopenV at h⊢
 by_cases c1:v.conf.st<3
 ·rw[if_pos c1];exact(by decide:(10:Int)≠0)
 rw[if_neg c1] at h⊢
 by_cases c2:(vReadV a v 0).2≠0
 ·rw[if_pos c2];exact c2
 rw[if_neg c2] at h⊢
 by_cases c3:sixF (vReadV a v 0).1 [[65],[66]] 0<0
 ·rw[if_pos c3];exact(by decide:(10:Int)≠0)
 rw[if_neg c3] at h⊢
 refine sopenL_ne (λhn=>?_) h
 have hb:=λe=>@lopenV_bad a v (1+((sixF (vReadV a v 0).1 [[65],[66]] 0).toNat:Int)*((v.conf.st-1).tdiv 2)) ((v.conf.st-1).tdiv 2) e
 unfold lhalfV at hn⊢
 generalize lopenV a v _ _=t at hn hb⊢
 obtain⟨o,e⟩:=t
 cases hn
 exact hb e rfl
theorem stopen_ne(a:Arr)(id:Int):(stOpenV a id).1.1=none→(stOpenV a id).1.2≠0:=by
 have h1:=@vopenV_bad a id
 unfold stOpenV
 generalize vopenV a id=t at h1
 obtain⟨⟨o,e⟩,b⟩:=t
 cases o with
 |none=>exact λ_=>h1 rfl
 |some v=>exact sopen_ne b v
theorem sopenL_eq{a:Arr}{v:Vol}{n:Nat}{s:St}:∀{t:Option Lg×Int},(sopenL a v n t).1.1=some s→(sopenL a v n t).1.2=0
 |(none,e),h=>by cases h
 |(some l,e),h=>by
  change (sopenT n (scanV (textF l.size l.parts)) (ltruncV a v l (scanV (textF l.size l.parts)).2)).1.1=some s at h
  change (sopenT n (scanV (textF l.size l.parts)) (ltruncV a v l (scanV (textF l.size l.parts)).2)).1.2=0
  unfold sopenT at h⊢
  by_cases c:(ltruncV a v l (scanV (textF l.size l.parts)).2).1.1≠0
  ·rw[if_pos c] at h;cases h
  ·rw[if_neg c]
theorem sopen_eq(a:Arr)(v:Vol){s:St}(h:(sopenV a v).1.1=some s):(sopenV a v).1.2=0:=by
 unfold sopenV at h⊢
 by_cases c1:v.conf.st<3
 ·rw[if_pos c1] at h;cases h
 rw[if_neg c1] at h⊢
 by_cases c2:(vReadV a v 0).2≠0
 ·rw[if_pos c2] at h;cases h
 rw[if_neg c2] at h⊢
 by_cases c3:sixF (vReadV a v 0).1 [[65],[66]] 0<0
 ·rw[if_pos c3] at h;cases h
 rw[if_neg c3] at h⊢
 exact sopenL_eq h
theorem stopen_eq(a:Arr)(id:Int){s:St}:(stOpenV a id).1.1=some s→(stOpenV a id).1.2=0:=by
 unfold stOpenV
 generalize vopenV a id=t
 obtain⟨⟨o,e⟩,b⟩:=t
 cases o with
 |none=>intro h;cases h
 |some v=>exact sopen_eq b v
theorem s_close_keep{H:Heap}(hG:Gl H)(gz:Nat)(e:Int)(he:Er e)(hk:¬(e≠0∧e≠11)):Spec prog 154 #[ptr gz 0,.int .i64 e] H nob λu _=>u=.string (Tp.S (saidV e [okW])):=by
 refine spx func154 ?_
 conv=>whnf
 refine⟨rfl,λh=>?_,λh=>?_⟩
 ·conv=>whnf
  refine⟨rfl,λh2=>absurd ⟨h,h2⟩ hk,λh2=>?_⟩
  conv=>whnf
  refine⟨rfl,?_⟩
  conv=>whnf
  intro H1 b f1 _
  conv=>whnf
  refine .q (said_ok (hG.q f1.e) e he.b.1 he.b.2 f1.at) ?_
  rintro _ H2 rfl e2 _
  exact⟨rfl⟩
 ·conv=>whnf
  refine⟨rfl,?_⟩
  conv=>whnf
  intro H1 b f1 _
  conv=>whnf
  refine .q (said_ok (hG.q f1.e) e he.b.1 he.b.2 f1.at) ?_
  rintro _ H2 rfl e2 _
  exact⟨rfl⟩
theorem s_close_shut{H:Heap}(hG:Gl H){gz:Nat}{A sp:Value}(hgz:H[gz]? =some (.cells #[A,sp] 110 (0,0)))(h8:8≤gz)(e:Int)(he:Er e)(hk:e≠0∧e≠11):Spec prog 154 #[ptr gz 0,.int .i64 e] H (λk=>k=gz) λu H'=>u=.string (Tp.S (saidV e [okW]))∧H'[gz]? =some (.cells #[A,.pointer none] 110 (0,0)):=by
 refine spx func154 ?_
 conv=>whnf
 refine⟨rfl,λh=>?_,λh=>absurd h hk.1⟩
 conv=>whnf
 refine⟨rfl,λh2=>?_,λh2=>absurd h2 hk.2⟩
 conv=>whnf
 refine .k ([A,.pointer none]) (hgz) (.inl rfl) rfl rfl ?_
 intro H1 u1 _
 conv=>whnf
 refine⟨rfl,?_⟩
 conv=>whnf
 intro H2 b f2 _
 conv=>whnf
 refine .q (said_ok ((hG.frm u1.e λk (hk:k=gz)=>by omega).q f2.e) e he.b.1 he.b.2 f2.at) ?_
 rintro _ H3 rfl e3 _
 exact⟨rfl,e3.blk (f2.e.blk u1.1)⟩
section
variable {i:Nat}{p:Pl}{gz:Nat}{o:SO}{a:Arr}{H H':Heap}{S S':Nat→Prop}{x:Sp}{s:St}
theorem Ses.shutF(h:Ses i p gz o a H S)(hF:Frm (λk=>k=gz) H H')(hg:H'[gz]? =some (.cells #[ptr p.ga 0,.pointer none] 110 (0,0))):Ses i p gz none a H' S:=
 ⟨hg,h.arr.frm hF (λk hk (e:k=gz)=>h.out (Ses.sub gz (e▸hk))),λe=>h.out (Ses.sub gz e),h.sm,h.nd,trivial,λk hk=>hk.elim (λe=>h.lo k (.inl (Ses.sub k e))) (λe=>h.lo k (.inr e)),Qb h.sz hF.1,h.gl.frm hF λk (hk:k=gz)=>h.lo k (.inr hk)⟩
theorem TW_none(hs:Sub (TW gz S (some (x,s))) (TW gz S' o) H):Sub (TW gz S none) (TW gz S' o) H:=λk hk=>hs k (hk.imp (Ses.sub (o:=some (x,s)) k) id)
theorem DoR.mono{W W':Nat→Prop}{H1:Heap}{r:By×Arr×Option St}{u:Value}(h:DoR i p gz W H1 r u H')(hW:∀k,W k→W' k∨H.size≤k)(hz:H.size≤H1.size):DoR i p gz W' H r u H':=by
 obtain⟨h1,o',S',h2,h3,h4⟩:=h
 exact⟨h1,o',S',h2,h3,λk hk=>(h4 k hk).elim (hW k) λe=>.inr (Qb hz e)⟩
def closeR(a:Arr)(s:St)(e:Int):By×Arr×Option St:=(saidV e [okW],a,closeO e (some s))
theorem Ses.closed{x':Sp}{s':St}{a':Arr}{e:Int}(h:Ses (i+1) p gz (some (x',s')) a' H S')(he:Er e):Spec prog 154 #[ptr gz 0,.int .i64 e] H (λk=>k=gz) (DoR i p gz (TW gz S' (some (x',s'))) H (closeR a' s' e)):=by
 by_cases hk:e≠0∧e≠11
 ·refine⟨(s_close_shut h.gl h.ses (h.lo gz (.inr rfl)) e he hk).good,λw hw=>((s_close_shut h.gl h.ses (h.lo gz (.inr rfl)) e he hk).out w hw).mono λt w' ⟨v,h1,h2,h3,h4,h5⟩=>⟨v,h1,h2,h3,h4,none,S',?_,h.shutF h3 h5,TW_none (Sub.refl _ _)⟩⟩
  show none=closeO e (some s')
  unfold closeO
  rw[if_pos hk]
 ·refine((s_close_keep h.gl gz e he hk).wk (T':=λk=>k=gz) λk hk=>hk.elim)|>λsp=>⟨sp.good,λw hw=>((s_close_keep h.gl gz e he hk).out w hw).mono λt w' ⟨v,h1,h2,h3,h4⟩=>⟨v,h1,h2,h3.mono λ_ _ e=>e.elim,h4,some (x',s'),S',?_,h.q h3,Sub.refl _ _⟩⟩
  show some s'=closeO e (some s')
  unfold closeO
  rw[if_neg hk]
theorem d_sync(h:Ses i p gz (some (x,s)) a H S)(hi:i≤18)(q:AgP)(y:Arg):Spec prog 95 #[ptr gz 0,.agg (agL q y).toArray] H (TW gz S (some (x,s))) (DoR i p gz (TW gz S (some (x,s))) H (closeR (syncV a s).2.1 (syncV a s).2.2 (syncV a s).1)):=by
 have hss:SS (40000*i) (eMax+1+4000*i) i p x s a H S:=h.sto
 have hses:H[gz]? =some (.cells #[ptr p.ga 0,ptr x.gs 0] 110 (0,0)):=h.ses
 have hsy:=λ{X:Heap} (e:Frm nob H X)=>s_sync (hss.q e) (by omega) (by unfold eMax;omega) (by omega)
 have her:=er_sync a s
 generalize syncV a s=r at hsy her⊢
 obtain⟨re,ra,rs⟩:=r
 dsimp only at hsy her⊢
 have hlt:=h.ltT
 refine spx func95 ?_
 conv=>whnf
 intro H1 b f1 _
 conv=>whnf
 refine⟨_,cel_of (f1.e.blk hses) rfl,?_⟩
 conv=>whnf
 refine .t (hsy f1.e) (λk hk=>.inl (.inl hk)) ?_
 rintro _ H2 ⟨rfl,wv,S2,hS2,hs2⟩ e2 _
 have z1:=f1.e.1
 have hse:=(h.q f1.e).str (x':=(⟨x.gs,x.gl,x.gv,x.b,x.cap,wv,x.pv⟩,rs)) e2 (λ_ h=>h) hS2 rfl (TS_sub hs2) (by omega) (by omega) (by omega)
 have hsub:Sub (TW gz S2 (some (⟨x.gs,x.gl,x.gv,x.b,x.cap,wv,x.pv⟩,rs))) (TW gz S (some (x,s))) H:=λk hk=>hk.elim (λe=>(TS_sub hs2 k e).imp .inl λe=>by omega) λe=>.inl (.inr e)
 conv=>whnf
 refine .t (hse.closed her) (λk hk=>.inl (.inr hk)) ?_
 rintro u H3 hR e3 _
 conv=>whnf
 exact⟨hR.mono hsub (by have:=e2.1;omega)⟩
theorem d_merge(h:Ses i p gz (some (x,s)) a H S)(hi:i≤17)(q:AgP)(y:Arg):Spec prog 96 #[ptr gz 0,.agg (agL q y).toArray] H (TW gz S (some (x,s))) (DoR i p gz (TW gz S (some (x,s))) H (closeR (mergeV a s).2.1 (mergeV a s).2.2 (mergeV a s).1)):=by
 have hss:SS (40000*i) (eMax+1+4000*i) i p x s a H S:=h.sto
 have hses:H[gz]? =some (.cells #[ptr p.ga 0,ptr x.gs 0] 110 (0,0)):=h.ses
 have hsy:=λ{X:Heap} (e:Frm nob H X)=>s_merge (hss.q e) (by omega) (by unfold eMax;omega) (by omega)
 have her:=er_merge a s
 generalize mergeV a s=r at hsy her⊢
 obtain⟨re,ra,rs⟩:=r
 dsimp only at hsy her⊢
 have hlt:=h.ltT
 refine spx func96 ?_
 conv=>whnf
 intro H1 b f1 _
 conv=>whnf
 refine⟨_,cel_of (f1.e.blk hses) rfl,?_⟩
 conv=>whnf
 refine .t (hsy f1.e) (λk hk=>.inl (.inl hk)) ?_
 rintro _ H2 ⟨rfl,x',S2,hx',hS2,hs2⟩ e2 _
 have z1:=f1.e.1
 have hse:=(h.q f1.e).str (x':=(x',rs)) e2 (λ_ h=>h) hS2 hx' hs2 (by omega) (by omega) (by omega)
 have hsub:Sub (TW gz S2 (some (x',rs))) (TW gz S (some (x,s))) H:=λk hk=>hk.elim (λe=>(hs2 k e).imp .inl λe=>by omega) λe=>.inl (.inr e)
 conv=>whnf
 refine .t (hse.closed her) (λk hk=>.inl (.inr hk)) ?_
 rintro u H3 hR e3 _
 conv=>whnf
 exact⟨hR.mono hsub (by have:=e2.1;omega)⟩
end
theorem inter_le(B:Nat):∀ws:List By,(∀w∈ws,w.length≤B)→(List.intersperse [(32:UInt8)] ws).flatten.length≤ws.length*(B+1)
 |[],_=>by simp
 |[a],h=>by
  have:=h a (by simp)
  simp
  omega
 |a::b::r,h=>by
  have h1:=h a (by simp)
  have h2:=inter_le B (b::r) λw hw=>h w (by simp only[QB] at hw⊢;exact .inr hw)
  simp only[List.intersperse,Ze,Qi,Qo,Q0] at h2⊢
  have e:(r.length+1+1)*(B+1)=(r.length+1)*(B+1)+(B+1):=Q6 _ _
  omega
theorem join_le(B:Nat){ws:List By}(h:∀w∈ws,w.length≤B):(Lib.join ws [32]).length≤ws.length*(B+1):=by
 unfold Lib.join List.intercalate
 exact inter_le B ws h
def usedW:By:=[117,115,101,100]
def pendW:By:=[112,101,110,100,105,110,103]
def mendW:By:=[109,101,110,100,101,100]
def lostW:By:=[108,111,115,116]
theorem said4{H:Heap}(hG:Gl H)(e:Int)(he:Er e)(w1 w2 w3 w4:By)(h1:w1.length≤100)(h2:w2.length≤100)(h3:w3.length≤100)(h4:w4.length≤100){b:Nat}(hb:H[b]? =some (.cells #[.string (Tp.S w1),.string (Tp.S w2),.string (Tp.S w3),.string (Tp.S w4)] 9 (0,0))):
  Spec prog 56 #[.int .i64 e,.slice (some ⟨b,0,none⟩) 4 4] H nob λu _=>u=.string (Tp.S (saidV e [w1,w2,w3,w4])):=
 s_said hG e he.b.1 he.b.2 (.inr ⟨b,0,4,rfl,Qd _,CellsAt.at (cs:=[.string (Tp.S w1),.string (Tp.S w2),.string (Tp.S w3),.string (Tp.S w4)]) hb⟩) (by show 4≤140737488355328;decide)
  (Qb (join_le 100 (ws:=[w1,w2,w3,w4]) λw hw=>by
   simp only[QB,Zj,Z1] at hw
   rcases hw with rfl|rfl|rfl|rfl<;>assumption) (by show 4*(100+1)≤_;decide))
section
variable {i:Nat}{p:Pl}{gz:Nat}{a:Arr}{H H':Heap}{S S':Nat→Prop}{x:Sp}{s:St}
def statR(a:Arr)(s:St):By×Arr×Option St:=(saidV 0 [usedW,itoaV ((textF s.l.size s.l.parts).length:Nat),pendW,itoaV (s.ws.length:Nat)],a,some s)
theorem d_stat(h:Ses i p gz (some (x,s)) a H S)(hi:i≤18)(q:AgP)(y:Arg):Spec prog 97 #[ptr gz 0,.agg (agL q y).toArray] H (TW gz S (some (x,s))) (DoR i p gz (TW gz S (some (x,s))) H (statR a s)):=by
 have hss:SS (40000*i) (eMax+1+4000*i) i p x s a H S:=h.sto
 have hses:H[gz]? =some (.cells #[ptr p.ga 0,ptr x.gs 0] 110 (0,0)):=h.ses
 have hus:=λ{X:Heap} (e:Frm nob H X)=>s_stused (hss.q e)
 have hpe:=λ{X:Heap} (e:Frm nob H X)=>s_stpend (hss.q e)
 have htl:=hss.lv.lo.text
 have hwn:=hss.ok.wn
 have end':∀{X:Heap},Frm nob H X→DoR i p gz (TW gz S (some (x,s))) H (statR a s) (.string (Tp.S (statR a s).1)) X:=λe=>⟨rfl,some (x,s),S,rfl,(h.q e).up (by omega),Sub.refl _ _⟩
 have hG:=λ{X:Heap} (e:Frm nob H X)=>h.gl.q e
 have hst:(statR a s).1=saidV 0 [usedW,itoaV ((textF s.l.size s.l.parts).length:Nat),pendW,itoaV (s.ws.length:Nat)]:=rfl
 generalize statR a s=r at end' hst⊢
 generalize (textF s.l.size s.l.parts).length=tl at hus htl hst
 generalize s.ws.length=wl at hpe hwn hst
 have hi1:=(itoaV_len (tl:Nat)).1
 have hi2:=(itoaV_len (wl:Nat)).1
 have hit1:=λ{X:Heap} (e:Frm nob H X)=>s_itoa (hG e) ((tl:Nat):Int) (by omega) (by omega)
 have hit2:=λ{X:Heap} (e:Frm nob H X)=>s_itoa (hG e) ((wl:Nat):Int) (by omega) (by omega)
 generalize itoaV (tl:Nat)=t1 at hit1 hi1 hst
 generalize itoaV (wl:Nat)=t2 at hit2 hi2 hst
 refine spx func97 ?_
 conv=>whnf
 intro H1 b f1 _
 conv=>whnf
 refine .p nob (.take 0 (.take 1 (.take 2 (.take 3 (.take 6 (.take 7 (.take 8 (.take 9 (.one 4 (.one 5 (.one 10 (.one 11 (.one 12 (.one 13 (.take 14 .done))))))))))))))) (λ_ h=>h.elim) (by kernel_rfl) ?_
 conv=>whnf
 refine⟨id,_,cel_of (f1.e.blk hses) rfl,?_⟩
 conv=>whnf
 refine⟨id,_,cel_of (f1.e.blk hses) rfl,?_⟩
 conv=>whnf
 refine .q (hus f1.e) ?_
 rintro _ H2 rfl e2 _
 have E2:=f1.e.trans e2
 conv=>whnf
 refine .q (hit1 E2) ?_
 rintro _ H3 rfl e3 _
 have E3:=E2.trans e3
 conv=>whnf
 refine .q (hpe E3) ?_
 rintro _ H4 rfl e4 _
 have E4:=E3.trans e4
 conv=>whnf
 refine .q (hit2 E4) ?_
 rintro _ H5 rfl e5 _
 have E5:=E4.trans e5
 conv=>whnf
 refine⟨rfl,?_⟩
 conv=>whnf
 intro H6 b6 f6 _
 have E6:=E5.trans f6.e
 conv=>whnf
 refine .q (said4 (hG E6) 0 er0 usedW t1 pendW t2 (by decide) (by omega) (by decide) (by omega) f6.at) ?_
 rintro _ H7 rfl e7 _
 conv=>whnf
 exact⟨by rw[←hst];exact end' (E6.trans e7)⟩
def scrubR(s:St)(t:((Int×Int)×Int)×Arr):By×Arr×Option St:=(saidV t.1.2 [mendW,itoaV t.1.1.1,lostW,itoaV t.1.1.2],t.2,some s)
theorem d_scrub(h:Ses i p gz (some (x,s)) a H S)(hi:i≤18)(q:AgP)(y:Arg):Spec prog 98 #[ptr gz 0,.agg (agL q y).toArray] H (TW gz S (some (x,s))) (DoR i p gz (TW gz S (some (x,s))) H (scrubR s (scrubV a s.v))):=by
 have hss:SS (40000*i) (eMax+1+4000*i) i p x s a H S:=h.sto
 have hses:H[gz]? =some (.cells #[ptr p.ga 0,ptr x.gs 0] 110 (0,0)):=h.ses
 have hvo:=λ{X:Heap} (e:Frm nob H X)=>s_stvol (hss.q e)
 have hsa:=λ{X:Heap} (e:Frm nob H X)=>s_sall (hss.q e).lv.al.av hss.lv.vo (by omega)
 have her:=er_scrub a s.v
 generalize scrubV a s.v=t at hsa her⊢
 obtain⟨⟨⟨tm,tl⟩,te⟩,ta⟩:=t
 dsimp only at her
 have hlt:=h.ltT
 refine spx func98 ?_
 conv=>whnf
 intro H1 b f1 _
 conv=>whnf
 refine⟨_,cel_of (f1.e.blk hses) rfl,?_⟩
 conv=>whnf
 refine .q (hvo f1.e) ?_
 rintro _ H2 rfl e2 _
 have E2:=f1.e.trans e2
 have z2:=E2.1
 conv=>whnf
 refine .t (hsa E2) (λk hk=>.inl (.inl (Ses.sub (o:=some (x,s)) k hk))) ?_
 rintro _ H3 ⟨nx,dn,rfl,hbd,hO,S3,hV3,hs3⟩ e3 _
 have hs2:=hss.q E2
 have hu3:=hs2.up e3 (λk hk=>.inl (.inl (.inl hk))) hs3 (hs2.lv.other (e3.mono (S:=λk=>S k∨k=x.gv) λ_ _ e=>.inl e) hs2.lv.ne.1 hs2.lv.ne.2 hV3 hO hs3)
 have hse:=(h.q E2).str (x':=(x,s)) e3 (λk hk=>.inl (.inl (.inl hk))) hu3 rfl (TS_sub hs3) (by omega) (by omega) (by omega)
 have hsub:Sub (TW gz S3 (some (x,s))) (TW gz S (some (x,s))) H:=λk hk=>hk.elim (λe=>(TS_sub hs3 k e).imp .inl λe=>by omega) λe=>.inl (.inr e)
 dsimp only at hbd
 have hi1:=(itoaV_len tm).1
 have hi2:=(itoaV_len tl).1
 have end':∀{X:Heap},Frm nob H3 X→DoR i p gz (TW gz S (some (x,s))) H (scrubR s (((tm,tl),te),ta)) (.string (Tp.S (saidV te [mendW,itoaV tm,lostW,itoaV tl]))) X:=λe=>⟨rfl,some (x,s),S3,rfl,hse.q e,hsub⟩
 have hG:=hse.gl
 have hit1:=λ{X:Heap} (e:Frm nob H3 X)=>s_itoa (hG.q e) tm (by omega) (by omega)
 have hit2:=λ{X:Heap} (e:Frm nob H3 X)=>s_itoa (hG.q e) tl (by omega) (by omega)
 generalize itoaV tm=t1 at hit1 hi1 end'
 generalize itoaV tl=t2 at hit2 hi2 end'
 conv=>whnf
 intro H4 r4 f4 _
 have z3:=e3.1
 conv=>whnf
 refine .k ([.int .i64 nx,.int .i64 tm,.int .i64 tl,.bool dn]) (f4.at) (.inr (by have:=f4.1;show H.size≤r4;omega)) rfl rfl ?_
 intro H5 u5 _
 have E5:Frm nob H3 H5:=f4.e.then u5.e λk hk=>.inr (by have:k=r4:=hk;have:=f4.1;omega)
 conv=>whnf
 refine .p nob (.take 0 (.take 1 (.take 2 (.take 4 (.take 5 (.one 3 (.one 6 (.one 7 (.one 8 (.take 9 .done)))))))))) (λ_ h=>h.elim) (by kernel_rfl) ?_
 conv=>whnf
 refine⟨id,_,cel_of u5.1 rfl,?_⟩
 conv=>whnf
 refine⟨id,_,cel_of u5.1 rfl,?_⟩
 conv=>whnf
 refine .q (hit1 E5) ?_
 rintro _ H6 rfl e6 _
 have E6:=E5.trans e6
 conv=>whnf
 refine .q (hit2 E6) ?_
 rintro _ H7 rfl e7 _
 have E7:=E6.trans e7
 conv=>whnf
 refine⟨rfl,?_⟩
 conv=>whnf
 intro H8 b8 f8 _
 have E8:=E7.trans f8.e
 conv=>whnf
 refine .q (said4 (hG.q E8) te her mendW t1 lostW t2 (by decide) (by omega) (by decide) (by omega) f8.at) ?_
 rintro _ H9 rfl e9 _
 conv=>whnf
 exact⟨end' (E8.trans e9)⟩
theorem quoB_len:∀s:By,(quoB s).length≤3*s.length
 |[]=>by simp[quoB]
 |c::r=>by
  have h:=quoB_len r
  have h1:(quo1 c).length≤3:=by unfold quo1;split<;>simp
  simp only[quoB,Qi,Qo]
  omega
end
section
attribute [local semireducible] quoteV
theorem quoteV_len(s:By):(quoteV s).length≤3*s.length+1:=by
 unfold quoteV
 split
 ·simp
 ·have:=quoB_len s;omega
end
section
variable {i:Nat}{p:Pl}{gz:Nat}{a:Arr}{H H':Heap}{S S':Nat→Prop}{x:Sp}{s:St}
def valW:By:=[118,97,108,117,101]
def getR(a:Arr)(s:St)(t:By):By×Arr×Option St:=((match dgetF t s.ps with|none=>saidV 13 [valW,quoteV []]|some y=>saidV 0 [valW,quoteV y]),a,some s)
theorem dgetF_mem{k y:By}:∀{l:List Pr},dgetF k l=some y→∃z∈l,z.2=y
 |p::r,h=>by
  unfold dgetF at h
  split at h
  ·cases h;exact⟨p,Qs ..,rfl⟩
  ·obtain⟨z,h1,h2⟩:=dgetF_mem h;exact⟨z,Qu _ h1,h2⟩
theorem said2{H:Heap}(hG:Gl H)(e:Int)(he:Er e)(w1 w2:By)(h1:w1.length≤1000000)(h2:w2.length≤1000000){b:Nat}(hb:H[b]? =some (.cells #[.string (Tp.S w1),.string (Tp.S w2)] 9 (0,0))):
  Spec prog 56 #[.int .i64 e,.slice (some ⟨b,0,none⟩) 2 2] H nob λu _=>u=.string (Tp.S (saidV e [w1,w2])):=
 s_said hG e he.b.1 he.b.2 (.inr ⟨b,0,2,rfl,Qd _,CellsAt.at (cs:=[.string (Tp.S w1),.string (Tp.S w2)]) hb⟩) (by show 2≤140737488355328;decide)
  (Qb (join_le 1000000 (ws:=[w1,w2]) λw hw=>by
   simp only[QB,Zj,Z1] at hw
   rcases hw with rfl|rfl<;>assumption) (by show 2*(1000000+1)≤_;decide))
theorem d_get(h:Ses i p gz (some (x,s)) a H S)(hi:i≤18){Bq:Nat}(q:AgP){y:Arg}(hy:ArgV H Bq q y){t:By}{tr:List By}(ht:y.ts=t::tr):Spec prog 93 #[ptr gz 0,.agg (agL q y).toArray] H (TW gz S (some (x,s))) (DoR i p gz (TW gz S (some (x,s))) H (getR a s t)):=by
 have hss:SS (40000*i) (eMax+1+4000*i) i p x s a H S:=h.sto
 have hses:H[gz]? =some (.cells #[ptr p.ga 0,ptr x.gs 0] 110 (0,0)):=h.ses
 have hgt:=λ{X:Heap} (e:Frm nob H X)=>s_stget (hss.q e) (by omega) t
 have hG:=λ{X:Heap} (e:Frm nob H X)=>h.gl.q e
 have end':∀{X:Heap} {w:By},Frm nob H X→w=(getR a s t).1→DoR i p gz (TW gz S (some (x,s))) H (getR a s t) (.string (Tp.S w)) X:=λe hw=>⟨by rw[hw],some (x,s),S,rfl,(h.q e).up (by omega),Sub.refl _ _⟩
 have hst:(getR a s t).1=match dgetF t s.ps with|none=>saidV 13 [valW,quoteV []]|some y=>saidV 0 [valW,quoteV y]:=rfl
 have hbd:∀z,dgetF t s.ps=some z→z.length≤65535:=λz hz=>by
  obtain⟨w,h1,rfl⟩:=dgetF_mem hz
  exact(hss.ok.po w h1).2
 generalize getR a s t=r at end' hst⊢
 obtain⟨ad,cap,hf,hw⟩:=hy.t.rd.1.vals
 have hyl:0<y.ts.length:=by rw[ht];simp
 obtain⟨ba,o,had,hcel⟩:=hw 0 (.string (Tp.S t)) (by rw[ht];rfl)
 have hta:q.ta=some ⟨ba,o,none⟩:=by injection hf with h1 h2 h3;rw[h1,had]
 obtain⟨qta,qtc,qna,qnc,qka,qkc⟩:=q
 dsimp only at hta
 subst hta
 obtain⟨g,e,hg,her,hgl,hgt2⟩:∃(g:By) (e:Int),r.1=saidV e [valW,quoteV g]∧Er e∧g.length≤65535∧∀{X:Heap},Frm nob H X→Spec prog 151 #[ptr x.gs 0,.string (Tp.S t)] X nob λu _=>u=.tuple #[.string (Tp.S g),.int .i64 e]:=by
  cases hd:dgetF t s.ps with
  |none=>rw[hd] at hst hgt;exact⟨[],13,hst,er13,by simp,hgt⟩
  |some z=>rw[hd] at hst hgt;exact⟨z,0,hst,er0,hbd z hd,hgt⟩
 have hqu:=λX=>s_quote g (by omega) X
 have hql:=quoteV_len g
 generalize quoteV g=gq at hqu hql hg
 refine spx func93 ?_
 conv=>whnf
 intro H1 b f1 _
 conv=>whnf
 refine .q (by kernel_rfl) ?_
 conv=>whnf
 refine⟨id,_,cel_of (f1.e.blk hses) rfl,?_⟩
 conv=>whnf
 refine⟨id,_,f1.cel rfl,?_⟩
 conv=>whnf
 refine⟨0,rfl,hyl,?_⟩
 conv=>whnf
 refine⟨id,_,f1.e.cel hcel,?_⟩
 conv=>whnf
 refine .q (hgt2 f1.e) ?_
 rintro _ H2 rfl e2 _
 have E2:=f1.e.trans e2
 conv=>whnf
 refine .q (hqu _) ?_
 rintro _ H3 rfl e3 _
 have E3:=E2.trans e3
 conv=>whnf
 refine⟨rfl,?_⟩
 conv=>whnf
 intro H4 b4 f4 _
 have E4:=E3.trans f4.e
 conv=>whnf
 refine .q (said2 (hG E4) e her valW gq (by decide) (by omega) f4.at) ?_
 rintro _ H5 rfl e5 _
 conv=>whnf
 exact⟨end' (E4.trans e5) hg.symm⟩
end
end Go.Proofs.YtjambljmnifknaaGreatDoor.Vc
