/- Part 17 of the proof of TopAny: volume: Mend · volume: Write, its parts · volume: Write · volume: head, Conf · ring.Newest. -/
import Derived.Test.YtjambljmnifknaaGreatDoorJ16
set_option maxRecDepth 100000
set_option maxHeartbeats 80000000
set_option linter.all false
open Go.Proofs.Tryz
namespace Go.Proofs.YtjambljmnifknaaGreatDoor.Vc
open Go Go.RowKit Tp
open Dk (Arr Dsk)
def hasB(hv:List Bool)(x:Int):Bool:=hv.getD x.toNat false
theorem s_mend1{g:Nat}{w:Value}{hv:List Bool}(x:Int){H:Heap}(hg:H[g]? =some (.cells #[w] 83 (0,0)))(hw:Rd H w (boolV hv))(h0:0≤x)(hx:x<hv.length):
  Spec prog 304 #[.int .i64 x,ptr g 0] H nob λu _=>u=.bool (hasB hv x):=by
 obtain⟨ad,cap,rfl,hb⟩:=hw.bools
 have hy:hv[x.toNat]? =some (hasB hv x):=by
  unfold hasB
  rw[Ql,Qc (by omega)];rfl
 obtain⟨b,o,rfl,hc⟩:=hb _ _ hy
 refine spx func304 ?_
 conv=>whnf
 refine⟨_,cel_of hg rfl,?_⟩
 conv=>whnf
 refine⟨x.toNat,(QL h0).symm,by omega,?_⟩
 conv=>whnf
 refine⟨_,hc,?_⟩
 exact⟨rfl⟩
def vmendV(a:Arr)(v:Vol)(n:Int):(Int×Int)×Arr:=
 if lookE a v n≠0 then((0,lookE a v n),a) else
 if(vjoin v (vstate a v n) (ofV ((vstate a v n).map (·.2)) (lookP a v n))).2≠0 then((0,(vjoin v (vstate a v n) (ofV ((vstate a v n).map (·.2)) (lookP a v n))).2),a) else
 if(shardsV a v n (lookP a v n) (vjoin v (vstate a v n) (ofV ((vstate a v n).map (·.2)) (lookP a v n))).1 (delF (hasB (ofV ((vstate a v n).map (·.2)) (lookP a v n))) (aliveL a a.ds.length))).1≠0 then
  ((0,(shardsV a v n (lookP a v n) (vjoin v (vstate a v n) (ofV ((vstate a v n).map (·.2)) (lookP a v n))).1 (delF (hasB (ofV ((vstate a v n).map (·.2)) (lookP a v n))) (aliveL a a.ds.length))).1),
   (shardsV a v n (lookP a v n) (vjoin v (vstate a v n) (ofV ((vstate a v n).map (·.2)) (lookP a v n))).1 (delF (hasB (ofV ((vstate a v n).map (·.2)) (lookP a v n))) (aliveL a a.ds.length))).2) else
 if Dk.powerE (shardsV a v n (lookP a v n) (vjoin v (vstate a v n) (ofV ((vstate a v n).map (·.2)) (lookP a v n))).1 (delF (hasB (ofV ((vstate a v n).map (·.2)) (lookP a v n))) (aliveL a a.ds.length))).2≠0 then
  ((0,Dk.powerE (shardsV a v n (lookP a v n) (vjoin v (vstate a v n) (ofV ((vstate a v n).map (·.2)) (lookP a v n))).1 (delF (hasB (ofV ((vstate a v n).map (·.2)) (lookP a v n))) (aliveL a a.ds.length))).2),
   Dk.aflushed (shardsV a v n (lookP a v n) (vjoin v (vstate a v n) (ofV ((vstate a v n).map (·.2)) (lookP a v n))).1 (delF (hasB (ofV ((vstate a v n).map (·.2)) (lookP a v n))) (aliveL a a.ds.length))).2) else
 (((delF (hasB (ofV ((vstate a v n).map (·.2)) (lookP a v n))) (aliveL a a.ds.length)).length,0),
  Dk.aflushed (shardsV a v n (lookP a v n) (vjoin v (vstate a v n) (ofV ((vstate a v n).map (·.2)) (lookP a v n))).1 (delF (hasB (ofV ((vstate a v n).map (·.2)) (lookP a v n))) (aliveL a a.ds.length))).2)
section
variable {p:Pl}{gv:Nat}{v:Vol}{a:Arr}{H:Heap}{U:Nat→Prop}
theorem s_vmend(h:AV p gv v a H U){B:Nat}(hB:Sm B a)(hBB:B≤900000)(n:Int)(hnd:a.ds.length≤255)(hc:cfOk v.conf)(hid:v.id≤9223372036854775807):
  Spec prog 268 #[ptr gv 0,.int .i64 n] H U λu H'=>u=.tuple #[.int .i64 (vmendV a v n).1.1,.int .i64 (vmendV a v n).1.2]∧∃S',PaH p (vmendV a v n).2 H' S'∧Sub S' U H:=by
 have hb:=hc.b
 obtain⟨tot,htot⟩:∃t,vmendV a v n=t:=⟨_,rfl⟩
 rw[htot]
 unfold vmendV at htot
 have hlk:=(s_vlook h hB n (by omega)).imp λu H' hh=>hh.out
 have hsr:=vstate_row a v n
 have hsl:=vstate_len a v n
 have hle:=lookP_le a v n
 generalize vstate a v n=st at*
 generalize lookP a v n=lp at*
 generalize lookE a v n=le at*
 have hrw:∀x∈st,x.1.length≤1024:=λx hx=>by
  rcases hsr x hx with h|h
  ·rw[h];simp
  ·omega
 have hhl:(ofV (st.map (·.2)) lp).length=a.ds.length:=by rw[ofV_len];simp;omega
 generalize ofV (st.map (·.2)) lp=hv at*
 have hjo:=λ{X:Heap} (hX:X[gv]? =some (.cells (volL p.ga v).toArray 70 (0,0))) {u1 u2 w:Value} (h1:Rd X u1 (strV (st.map (·.1)))) (h2:Rd X w (boolV hv))=>s_vjoin (u2:=u2) hX st hv h1 h2 (by omega) (by omega) (λx hx=>by have:=hrw x hx;omega)
 have hjl:=vjoin_len v st hv (by omega) hrw
 have hjd:=λh=>vjoin_disks (v:=v) (st:=st) (hv:=hv) h
 obtain⟨j,hj⟩:∃t,vjoin v st hv=t:=⟨_,rfl⟩
 rw[hj] at htot hjo hjl hjd
 have hal:=λ{X:Heap} {V:Nat→Prop} (hX:AV p gv v a X V)=>s_valive' hX (a.ds.length:Int) (by omega)
 have hall:=aliveL_len a a.ds.length
 have halm:=λ{x:Int} (h:x∈aliveL a a.ds.length)=>aliveL_mem h
 generalize aliveL a a.ds.length=al at htot hal hall halm
 have hdm:∀{x:Int},x∈delF (hasB hv) al→x∈al:=λhx=>(Yz.1 hx).1
 have hdl:=delF_len (hasB hv) al
 have hde:=λ{X:Heap} {gg:Nat} {w vv:Value} {m:Nat} (hg:X[gg]? =some (.cells #[w] 83 (0,0))) (hw:Rd X w (boolV hv)) (hne:∀k,vv.ownBlock=some k→w.ownBlock≠some k∧k≠gg) (ho:Own X m 3 1 vv al.length (intV al))=>
  s_delF 304 (ptr gg 0) (hasB hv) al ho (by omega) (λH' x hx hF=>s_mend1 x (hF.blkT hg (λe=>(hne _ e).2 rfl)) (hw.frm hF (λk hk e=>(hne k e).1 hk)) (halm hx).1 (by have:=(halm hx).2.2;omega))
 generalize delF (hasB hv) al=lk at htot hdm hdl hde
 have hsh:=λ{X:Heap} {V:Nat→Prop} (hX:AV p gv v a X V) {dv:Value} {base:Nat} (hd:Own X base 3 1 dv lk.length (intV lk)) (hda:∀k,dv.ownBlock=some k→¬V k) (hz:j.2=0)=>s_vshards hX hB n lp j.1 (by omega) (by unfold eMax at hle;omega) hid hd hda (λd hd=>by
  have h1:=halm (hdm hd)
  have h2:=hjd hz
  omega) (by omega)
 have hsm:=shardsV_sm v n lp j.1 lk hB
 generalize shardsV a v n lp j.1 lk=sh at htot hsh hsm
 have hfl:=λ{X:Heap} {V:Nat→Prop} (hX:PaH p sh.2 X V)=>s_aflush (hsm.mono (show B+lk.length≤1000000 by omega)) hX
 generalize Dk.powerE sh.2=pw at htot hfl
 generalize Dk.aflushed sh.2=a9 at htot hfl
 refine spx func268 ?_
 conv=>whnf
 refine .t (hlk) (λk h=>.inl h) ?_
 rintro _ H1 ⟨ad1,n1,c1,ad2,n2,c2,w,rfl,hwc,S1,ha1,hsb1,hof⟩ e1 _
 have h1:=h.step e1 ha1 hsb1
 have h12:=e1.1
 conv=>whnf
 intro H2 g f2 _
 have hgs:=f2.size
 conv=>whnf
 intro H3 g' f3 _
 have hgs':=f3.size
 have hg2:H3[g]? =some (.cells #[.slice none 0 0,.slice none 0 0] 79 (0,0)):=f3.e.blk f2.at
 have hg3:H3[g']? =some (.cells #[.slice none 0 0] 83 (0,0)):=f3.at
 have h23:H2.size=H1.size+1:=by rw[f2.2,Array.size_push]
 have hsz:g=H1.size∧g'=H1.size+1:=⟨f2.1,f3.1.trans h23⟩
 have h3:=(h1.q f2.e).q f3.e
 conv=>whnf
 refine .k ([.slice ad1 n1 c1,.slice ad2 n2 c2]) (hg2) (.inr (by show H.size≤g;omega)) rfl rfl ?_
 intro H4 u4 _
 have h4:AV p gv v a H4 S1:=h3.frm u4.e (λk hk (e:k=g)=>by have:=ha1.lt k hk;omega) (λ(e:gv=g)=>by have:=h1.lt;omega)
 conv=>whnf
 refine .var (by kernel_rfl) (u4.e.blkT hg3 (λ(e:g'=g)=>by omega)) (.inr (by show H.size≤g';omega)) hwc ?_
 intro H5 u5' _
 have u5:Upd H4 H5 g' (.cells #[w] 83 (0,0)):=u5'
 have h5:AV p gv v a H5 S1:=h4.frm u5.e (λk hk (e:k=g')=>by have:=ha1.lt k hk;omega) (λ(e:gv=g')=>by have:=h1.lt;omega)
 have hg5:H5[g]? =some (.cells #[.slice ad1 n1 c1,.slice ad2 n2 c2] 79 (0,0)):=u5.e.blkT u4.1 (λ(e:g=g')=>by omega)
 conv=>whnf
 refine⟨rfl,λh6=>?_,λh6=>?_⟩
 ·have h6':le≠0:=h6
  rw[if_pos h6'] at htot
  subst htot
  exact⟨rfl,S1,h5.arr,hsb1⟩
 have h6':¬le≠0:=λe=>e h6
 rw[if_neg h6'] at htot
 have hof2:=hof h6
 have ho1:=hof2.1
 have how:=hof2.2.2.1
 have hws:=hof2.2.2.2.2.2
 have hne:∀{e:TypeId} {sz nn:Nat} {vv:Value} {xs:List Value},Own H1 H.size e sz vv nn xs→Own H5 H.size e sz vv nn xs:=λho=>(((ho.q f2.e).q f3.e).frm u4.e (λk hk (e:k=g)=>by have:=(ho.ge k hk).2;omega)).frm u5.e (λk hk (e:k=g')=>by have:=(ho.ge k hk).2;omega)
 conv=>whnf
 refine⟨[.slice ad1 n1 c1,.slice ad2 n2 c2],rfl,CellsAt.at hg5,?_⟩
 conv=>whnf
 refine⟨_,cel_of u5.1 rfl,?_⟩
 conv=>whnf
 refine .q (hjo h5.vol (hne ho1).rd.1 (hne how).rd.1) ?_
 rintro _ H6 rfl e6 _
 have h6:=h5.q e6
 conv=>whnf
 refine⟨rfl,λhj7=>?_,λhj7=>?_⟩
 ·rw[if_pos hj7] at htot
  subst htot
  exact⟨rfl,S1,h6.arr,hsb1⟩
 rw[if_neg (λe=>e hj7)] at htot
 conv=>whnf
 refine⟨_,cel_of h6.vol rfl,?_⟩
 conv=>whnf
 refine .t (s_adisks h6.arr) (hsb1) ?_
 rintro _ H7 ⟨rfl,S7,ha7,hs7⟩ e7 _
 have h7:=h6.step e7 ha7 hs7
 have hH1:H.size≤H6.size:=by have:=u4.2.1;have:=u5.2.1;have:=e6.1;omega
 have s7:Sub S7 U H:=hs7.up hsb1 hH1
 conv=>whnf
 refine .t (hal h7) (s7) ?_
 rintro _ H8 ⟨wad,wcap,rfl,hol,S8,ha8,hs8,hn8⟩ e8 _
 have h8:=h7.step e8 ha8 hs8
 have hH2:H.size≤H7.size:=by have:=e7.1;omega
 have s8:Sub S8 U H:=hs8.up s7 hH2
 have hgl5:g'<H5.size:=(Qa.1 u5.1).1
 have hn1:¬S1 g':=λe=>by have:=ha1.lt g' e;omega
 have hn7:¬S7 g':=λe=>(hs7 g' e).elim hn1 (λe=>by have:=e6.1;omega)
 have hg8:H8[g']? =some (.cells #[w] 83 (0,0)):=e8.blkT (e7.blkT (e6.blk u5.1) hn1) hn7
 have how5:=(hne how).q e6
 have how7:=how5.past hws e7 hs7
 have how8:=how7.1.frm e8 how7.2
 have hwl:∀k,(Value.slice wad al.length wcap).ownBlock=some k→w.ownBlock≠some k∧k≠g':=λk hk=>⟨λe=>by have:=(hol.ge k hk).1;have:=(how7.1.ge k e).2;omega,λe=>by have:=(hol.ge k hk).1;have:=e6.1;have:=e7.1;omega⟩
 have hwS:∀k,(Value.slice wad al.length wcap).ownBlock=some k→(nob k∨H.size≤k):=λk hk=>.inr (by have:=(hol.ge k hk).1;omega)
 have hoH:=hol.low (b:=0) (Qk _)
 conv=>whnf
 refine .t (hde hg8 how8.rd.1 hwl hoH) ((λk hk=>.inr (by show H.size≤k;have:=(hol.ge k hk).1;omega))) ?_
 rintro _ H9 ⟨lad,lcap,rfl,hlo,hlb⟩ e9 _
 have h9:AV p gv v a H9 S8:=h8.frm e9 (λk hk e=>hn8 k e hk) (λe=>by have:=(hol.ge gv e).1;have:=h7.lt;omega)
 conv=>whnf
 refine .t (hsh h9 hlo (λk hk e=>hn8 k (hlb k hk) e) hj7) (s8) ?_
 rintro _ HA ⟨rfl,SA,haA,hsA⟩ eA _
 have hA:=h9.step eA haA hsA
 have sA:Sub SA U H:=hsA.up s8 (by have:=e9.1;have:=e8.1;omega)
 conv=>whnf
 refine⟨rfl,λh8=>?_,λh8=>?_⟩
 ·rw[if_pos h8] at htot
  subst htot
  exact⟨rfl,SA,haA,sA⟩
 rw[if_neg (λe=>e h8)] at htot
 conv=>whnf
 refine⟨_,cel_of hA.vol rfl,?_⟩
 conv=>whnf
 refine .t (hfl haA) (sA) ?_
 rintro _ HB ⟨rfl,SB,haB,hsB⟩ eB _
 have sB:Sub SB U H:=hsB.up sA (by have:=eA.1;have:=e9.1;have:=e8.1;omega)
 conv=>whnf
 refine⟨rfl,λh9=>?_,λh9=>?_⟩
 ·rw[if_pos h9] at htot
  subst htot
  exact⟨rfl,SB,haB,sB⟩
 rw[if_neg (λe=>e h9)] at htot
 subst htot
 exact⟨rfl,SB,haB,sB⟩
end
attribute [irreducible] vmendV
theorem DrawVC.g{c:Ctx}{ops:Array Oper}{env:Env}{H:Heap}{K:Env→Heap→Prop}{α:Type}(E:α→List (Nat×Value))(Q:α→Heap→Prop)
  (h:∀K':Env→Heap→Prop,(∀x e H',EnvHas e (E x)→Q x H'→K' e H')→DrawVC c ops env H K') (hK:∀x e0 H',Q x H'→K (over (E x) [] e0 e0) H'):DrawVC c ops env H K:=
 h K λx e H' he hq=>by
  have:=hK x e H' hq
  rwa[over_self (ws:=[]) he λ_ _=>rfl] at this
theorem s_try(g:FuncId)(A B:List Value){ge:Nat}{e y:Int}{H:Heap}{T:Nat→Prop}{R:Heap→Prop}(hge:H[ge]? =some (.cells #[.int .i64 e] 29 (0,0)))(hT:¬T ge)
  (hc:e=0→Spec prog g (A++[]++B).toArray H T λu H'=>u=.int .i64 y∧R H'):
  Spec prog 143 #[.func (.func g) A.toArray B.toArray,ptr ge 0] H (λk=>T k∨k=ge) λ_ H'=>H'[ge]? =some (.cells #[.int .i64 (if e=0 then y else e)] 29 (0,0))∧(if e=0 then ∃H1,R H1∧Frm T H H1∧Frm (λk=>k=ge) H1 H' else H=H'):=by
 by_cases h0:e=0
 ·subst h0
  have hc:=hc rfl
  refine spx func143 ?_
  conv=>whnf
  refine⟨_,cel_of hge rfl,?_⟩
  conv=>whnf
  refine⟨rfl,λh=>?_,λh=>absurd rfl h⟩
  conv=>whnf
  refine .t (hc) ((λk hk=>.inl (.inl hk))) ?_
  rintro _ H1 ⟨rfl,hR⟩ e1 _
  conv=>whnf
  refine .k ([.int .i64 y]) (e1.blkT hge hT) (.inl (.inr rfl)) rfl rfl ?_
  intro H2 u2 _
  exact⟨u2.1,H1,hR,e1,u2.e⟩
 ·simp only[if_neg h0]
  refine spx func143 ?_
  conv=>whnf
  refine⟨_,cel_of hge rfl,?_⟩
  conv=>whnf
  refine⟨rfl,λh=>absurd h h0,λh=>?_⟩
  exact⟨hge,rfl⟩
theorem s_wput{p:Pl}{gv b0 b1 b2:Nat}{v:Vol}{a:Arr}{H:Heap}{U:Nat→Prop}(h:AV p gv v a H U){B:Nat}(hB:Sm B a)(hBB:B≤999999)(d:Int)(r:By)(h0:H[b0]? =some (.cells #[ptr gv 0] 51 (0,0)))(h1:H[b1]? =some (.cells #[.int .i64 d] 3 (0,0)))(h2:H[b2]? =some (.cells #[.string (S r)] 9 (0,0)))
  (u0:¬U b0) (u1:¬U b1) (u2:¬U b2)
  (hb:blkB (vputB v d (cfSlot v.conf v.seq) v.seq r)):
  Spec prog 145 #[ptr b0 0,ptr b1 0,ptr b2 0] H U λu H'=>u=.int .i64 (vputE a v d (cfSlot v.conf v.seq) v.seq r)∧∃S',PaH p (vputA a v d (cfSlot v.conf v.seq) v.seq r) H' S'∧Sub S' U H:=by
 have hsl:=λH=>s_slot v.conf v.seq H
 have hpu:=λ{X:Heap} {V:Nat→Prop} (hX:AV p gv v a X V)=>s_vput hX (hB.mono (by omega)) d (cfSlot v.conf v.seq) v.seq r hb
 generalize cfSlot v.conf v.seq=sl at hsl hpu⊢
 generalize vputE a v d sl v.seq r=pe at hpu⊢
 generalize vputA a v d sl v.seq r=pa at hpu⊢
 refine spx func145 ?_
 conv=>whnf
 refine .p U (.take 0 (.take 1 (.take 2 (.take 3 (.take 4 (.take 5 (.take 6 (.take 7 (.take 8 (.take 9 (.take 11 (.take 12 (.take 13 (.take 14 (.take 15 (.one 10 (.one 16 (.take 17 .done)))))))))))))))))) (λ_ h=>.inl h) (by kernel_rfl) ?_
 conv=>whnf
 refine⟨u0,_,cel_of h0 rfl,?_⟩
 conv=>whnf
 refine⟨u1,_,cel_of h1 rfl,?_⟩
 conv=>whnf
 refine⟨u0,_,cel_of h0 rfl,?_⟩
 conv=>whnf
 refine⟨h.out,cfL v.conf,rfl,by simp[cfL],h.cf,?_⟩
 conv=>whnf
 refine⟨u0,_,cel_of h0 rfl,?_⟩
 conv=>whnf
 refine⟨h.out,_,cel_of h.vol rfl,?_⟩
 conv=>whnf
 refine⟨u0,_,cel_of h0 rfl,?_⟩
 conv=>whnf
 refine⟨h.out,_,cel_of h.vol rfl,?_⟩
 conv=>whnf
 refine⟨u2,_,cel_of h2 rfl,?_⟩
 conv=>whnf
 refine .q (hsl _) ?_
 rintro _ H1 rfl e1 _
 conv=>whnf
 refine .t (hpu (h.q e1)) (λk h=>.inl h) ?_
 rintro _ H2 ⟨rfl,S2,ha2,hs2⟩ e2 _
 exact⟨rfl,S2,ha2,λk hk=>(hs2 k hk).imp id λe=>by have:=e1.1;omega⟩
theorem s_wshards{p:Pl}{gv b0 b1 b2 b3:Nat}{v:Vol}{a:Arr}{H:Heap}{U:Nat→Prop}(h:AV p gv v a H U){B:Nat}(hB:Sm B a)(n:Int)(t:By){ad:Option Addr}{cap:Nat}{ds:List Int}{base:Nat}(h0:H[b0]? =some (.cells #[ptr gv 0] 51 (0,0)))(h1:H[b1]? =some (.cells #[.int .i64 n] 3 (0,0)))(h2:H[b2]? =some (.cells #[.string (S t)] 9 (0,0)))
  (h3:H[b3]? =some (.cells #[.slice ad ds.length cap] 71 (0,0))) (hd:Own H base 3 1 (.slice ad ds.length cap) ds.length (intV ds)) (hda:∀k,(Value.slice ad ds.length cap).ownBlock=some k→¬U k)
  (u0:¬U b0) (u1:¬U b1) (u2:¬U b2) (u3:¬U b3) (ht:t.length≤1000000) (hsq:0≤v.seq∧v.seq≤1000000000000000000) (hid:v.id≤9223372036854775807) (hds:∀d∈ds,0≤d∧d<cfDisks v.conf) (hBl:B+ds.length≤1000000):
  Spec prog 146 #[ptr b0 0,ptr b1 0,ptr b2 0,ptr b3 0] H U λu H'=>u=.int .i64 (shardsV a v n (v.seq+1) t ds).1∧∃S',PaH p (shardsV a v n (v.seq+1) t ds).2 H' S'∧Sub S' U H:=by
 have hsh:=s_vshards h hB n (v.seq+1) t ht (by omega) hid hd hda hds hBl
 generalize shardsV a v n (v.seq+1) t ds=sh at hsh⊢
 refine spx func146 ?_
 conv=>whnf
 refine .p U (.take 0 (.take 1 (.take 2 (.take 3 (.take 4 (.take 5 (.take 6 (.take 7 (.take 8 (.one 9 (.take 10 .done))))))))))) (λ_ h=>.inl h) (by kernel_rfl) ?_
 conv=>whnf
 refine⟨u0,_,cel_of h0 rfl,?_⟩
 conv=>whnf
 refine⟨u1,_,cel_of h1 rfl,?_⟩
 conv=>whnf
 refine⟨u0,_,cel_of h0 rfl,?_⟩
 conv=>whnf
 refine⟨h.out,_,cel_of h.vol rfl,?_⟩
 conv=>whnf
 refine⟨rfl,_,wr64 (by omega) (by omega),?_⟩
 conv=>whnf
 refine⟨u2,_,cel_of h2 rfl,?_⟩
 conv=>whnf
 refine⟨u3,_,cel_of h3 rfl,?_⟩
 conv=>whnf
 refine .t (hsh) (λk h=>.inl h) ?_
 rintro _ H2 ⟨rfl,S2,ha2,hs2⟩ e2 _
 exact⟨rfl,S2,ha2,hs2⟩
def Kp:List (Nat×Obj)→Heap→(Nat→Prop)→Prop
 |[],_,_=>True
 |(b,o)::l,H,S=>(H[b]? =some o∧¬S b)∧Kp l H S
theorem Kp.frm{T S:Nat→Prop}{H H':Heap}(hF:Frm T H H'):∀{l:List (Nat×Obj)},Kp l H S→(∀x∈l,¬T x.1)→Kp l H' S
 |[],_,_=>trivial
 |_::_,⟨h,k⟩,hT=>⟨⟨hF.blkT h.1 (hT _ (Qs ..)),h.2⟩,Kp.frm hF k λx hx=>hT x (Qu _ hx)⟩
theorem Kp.q{S:Nat→Prop}{H H':Heap}{l:List (Nat×Obj)}(h:Kp l H S)(hF:Frm nob H H'):Kp l H' S:=h.frm hF λ_ _=>id
theorem Kp.step{S S':Nat→Prop}{H H':Heap}(hF:Frm S H H')(hs:Sub S' S H):∀{l:List (Nat×Obj)},Kp l H S→Kp l H' S'
 |[],_=>trivial
 |(b,o)::l,⟨h,k⟩=>⟨⟨hF.blkT h.1 h.2,λe=>(hs b e).elim h.2 λe=>by have:=(Qa.1 h.1).1;omega⟩,Kp.step hF hs k⟩
theorem Kp.lt{S:Nat→Prop}{H:Heap}:∀{l:List (Nat×Obj)},Kp l H S→∀x∈l,x.1<H.size
 |[],_,_,hx=>by cases hx
 |(b,o)::l,⟨h,k⟩,x,hx=>by
  rcases QB.1 hx with rfl|hx
  ·exact(Qa.1 h.1).1
  ·exact k.lt x hx
theorem Kp.upd{S:Nat→Prop}{H H':Heap}{b:Nat}{o:Obj}{l:List (Nat×Obj)}(h:Kp l H S)(hu:Upd H H' b o)(hb:∀x∈l,x.1≠b):Kp l H' S:=h.frm hu.e hb
def jF(v:Vol)(sl:Int)(r:By):List Int→Int×Arr→Int×Arr
 |[],s=>s
 |d::l,s=>jF v sl r l (if s.1=0 then(vputE s.2 v d sl v.seq r,vputA s.2 v d sl v.seq r) else s)
def flS(s:Int×Arr):Int×Arr:=if s.1=0 then(Dk.powerE s.2,Dk.aflushed s.2) else s
def shS(v:Vol)(n:Int)(t:By)(all:List Int)(s:Int×Arr):Int×Arr:=if s.1=0 then shardsV s.2 v n (v.seq+1) t all else s
def wrS(a:Arr)(v:Vol)(n:Int)(t:By):Int×Arr:=
 flS (shS v n t (aliveL a a.ds.length) (flS (jF v (cfSlot v.conf v.seq) (itW ⟨v.seq,n,t⟩) (aliveL a (v.conf.m+1)) (itE ⟨v.seq,n,t⟩,a))))
def volUp(v:Vol)(e:Int):Vol:=if e=0 then⟨v.conf,v.id,v.seq+1⟩ else v
def vwriteV(a:Arr)(v:Vol)(n:Int)(t:By):(Int×Arr)×Vol:=
 if n<0 then((1,a),v) else if v.conf.st≤n then((1,a),v) else if cfCap v.conf<t.length then((12,a),v) else if a.down=true then((9,a),v) else
 if((aliveL a a.ds.length).length:Int)<v.conf.k then((10,a),v) else if((aliveL a (v.conf.m+1)).length:Int)=0 then((10,a),v) else
 (wrS a v n t,volUp v (wrS a v n t).1)
theorem jF_sm(v:Vol)(sl:Int)(r:By):∀(l:List Int) {s:Int×Arr} {B:Nat},Sm B s.2→Sm (B+l.length) (jF v sl r l s).2
 |[],_,_,h=>h
 |d::l,s,B,h=>by
  unfold jF
  have:Sm (B+1) (if s.1=0 then(vputE s.2 v d sl v.seq r,vputA s.2 v d sl v.seq r) else s).2:=by
   split
   ·exact vputA_sm h v d sl v.seq r
   ·exact h.mono (by omega)
  exact(jF_sm v sl r l this).mono (by simp;omega)
theorem flS_sm{s:Int×Arr}{B:Nat}(h:Sm B s.2):Sm B (flS s).2:=by
 unfold flS
 split
 ·exact h.flushed
 ·exact h
theorem shS_sm(v:Vol)(n:Int)(t:By)(all:List Int){s:Int×Arr}{B:Nat}(h:Sm B s.2):Sm (B+all.length) (shS v n t all s).2:=by
 unfold shS
 split
 ·exact shardsV_sm v n _ t all h
 ·exact h.mono (by omega)
theorem textV_len(s:By):(textV s).length≤s.length+2:=by
 unfold textV
 split
 ·simp[Tp.putL];omega
 ·simp
theorem itW_len(i:It):(itW i).length≤i.text.length+20:=by
 unfold itW itH
 have h1:=putV_len i.seq 7
 have h2:=putV_len i.stripe 2
 have h3:=textV_len i.text
 split
 ·simp only[Qi,mINT,Qo,Q0];omega
 ·simp
structure WJ(p:Pl)(gv:Nat)(v:Vol)(U:Nat→Prop)(H:Heap)(m:Nat)(s1 s2:Value)(l1 l2:List Int)(ge:Nat)(L:List (Nat×Obj))(s:Int×Arr)(S:Nat→Prop)(X:Heap):Prop where
 av:AV p gv v s.2 X S
 sub:Sub S U H
 lo:H.size≤X.size
 o1:Own X m 3 1 s1 l1.length (intV l1)
 o2:Own X m 3 1 s2 l2.length (intV l2)
 n1:∀k,s1.ownBlock=some k→¬S k
 n2:∀k,s2.ownBlock=some k→¬S k
 hg:X[ge]? =some (.cells #[.int .i64 s.1] 29 (0,0))
 ng:¬S ge
 kp:Kp L X S
section
variable {p:Pl}{gv:Nat}{v:Vol}{U:Nat→Prop}{H:Heap}{m:Nat}{s1 s2:Value}{l1 l2:List Int}{ge:Nat}{L:List (Nat×Obj)}{s:Int×Arr}{S:Nat→Prop}{X:Heap}
theorem WJ.tr(h:WJ p gv v U H m s1 s2 l1 l2 ge L s S X)(hL:∀x∈L,x.1≠ge)(hgv:gv≠ge){y:Int}{a':Arr}{Y:Heap}(hg:Y[ge]? =some (.cells #[.int .i64 (if s.1=0 then y else s.1)] 29 (0,0)))
  (hr:if s.1=0 then ∃H1,(∃S2,PaH p a' H1 S2∧Sub S2 S X)∧Frm S X H1∧Frm (λk=>k=ge) H1 Y else X=Y):∃S',WJ p gv v U H m s1 s2 l1 l2 ge L (if s.1=0 then(y,a') else s) S' Y:=by
 by_cases h0:s.1=0
 ·rw[if_pos h0] at hg hr⊢
  obtain⟨H1,⟨S2,ha,hs⟩,hF,hG⟩:=hr
  have k1:=h.kp.step hF hs
  have p1:=h.o1.past h.n1 hF hs
  have p2:=h.o2.past h.n2 hF hs
  have hng:¬S2 ge:=λe=>(hs ge e).elim h.ng λe=>by have:=(Qa.1 h.hg).1;omega
  have hge1:=hF.blkT h.hg h.ng
  exact⟨S2,(h.av.step hF ha hs).frm hG (λk hk e=>hng (e▸hk)) hgv,hs.up h.sub h.lo,Qb h.lo (Qb hF.1 hG.1),p1.1.frm hG (λk hk e=>p1.1.ne hge1 (by decide) (e▸hk)),p2.1.frm hG (λk hk e=>p2.1.ne hge1 (by decide) (e▸hk)),p1.2,p2.2,hg,hng,k1.frm hG hL⟩
 ·rw[if_neg h0] at hg hr⊢
  subst hr
  exact⟨S,h⟩
theorem WJ.q(h:WJ p gv v U H m s1 s2 l1 l2 ge L s S X){Y:Heap}(hF:Frm nob X Y):WJ p gv v U H m s1 s2 l1 l2 ge L s S Y:=
 ⟨h.av.q hF,h.sub,Qb h.lo hF.1,h.o1.q hF,h.o2.q hF,h.n1,h.n2,hF.blk h.hg,h.ng,h.kp.q hF⟩
theorem WJ.put(h:WJ p gv v U H m s1 s2 l1 l2 ge L s S X){Y:Heap}{b:Nat}{o:Obj}(hu:Upd X Y b o)(hb:¬S b)(hgv:gv≠b)(hge:ge≠b)(h1:∀k,s1.ownBlock=some k→k≠b)(h2:∀k,s2.ownBlock=some k→k≠b)(hL:∀x∈L,x.1≠b):WJ p gv v U H m s1 s2 l1 l2 ge L s S Y:=
 ⟨h.av.frm hu.e (λk hk e=>hb (e▸hk)) hgv,h.sub,Qb h.lo hu.e.1,h.o1.frm hu.e h1,h.o2.frm hu.e h2,h.n1,h.n2,hu.e.blkT h.hg hge,h.ng,h.kp.upd hu hL⟩
end
section
variable {p:Pl}{gv:Nat}{v:Vol}{a:Arr}{H:Heap}{U:Nat→Prop}
theorem s_vwrite(h:AV p gv v a H U){B:Nat}(hB:Sm B a)(hBB:B≤900000)(n:Int)(t:By)(ht:t.length≤1000000)(hn:n≤9223372036854775807)(hnd:a.ds.length≤255)(hc:cfOk v.conf)(hds:(a.ds.length:Int)=cfDisks v.conf)(hid:v.id≤9223372036854775807)(hsq:0≤v.seq∧v.seq≤100000000000000000):
  Spec prog 89 #[ptr gv 0,.int .i64 n,.string (S t)] H (λk=>U k∨k=gv) λu H'=>u=.int .i64 (vwriteV a v n t).1.1∧∃S',AV p gv (vwriteV a v n t).2 (vwriteV a v n t).1.2 H' S'∧Sub S' U H:=by
 have hb:=hc.b
 obtain⟨tot,htot⟩:∃x,vwriteV a v n t=x:=⟨_,rfl⟩
 rw[htot]
 unfold vwriteV at htot
 have hcap:=λH=>s_capa v.conf H
 generalize cfCap v.conf=cp at hcap htot
 have hal:=λ{X:Heap} {V:Nat→Prop} (hX:AV p gv v a X V)=>s_valive' hX (a.ds.length:Int) (by omega)
 have hjl:=λ{X:Heap} {V:Nat→Prop} (hX:AV p gv v a X V)=>s_valive' hX (v.conf.m+1) (by omega)
 have hall:=aliveL_len a a.ds.length
 have halj:=aliveL_len a (v.conf.m+1)
 have halm:=λ{x:Int} (h:x∈aliveL a a.ds.length)=>aliveL_mem h
 have haljm:=λ{x:Int} (h:x∈aliveL a (v.conf.m+1))=>aliveL_mem h
 obtain⟨w,hw⟩:∃x,wrS a v n t=x:=⟨_,rfl⟩
 rw[hw] at htot
 unfold wrS at hw
 generalize aliveL a a.ds.length=al at htot hal hall halm hw
 generalize aliveL a (v.conf.m+1)=jl at htot hjl halj haljm hw
 have hiw:=λH=>s_iwrite ⟨v.seq,n,t⟩ ⟨by show v.seq≤_;omega,hn,by show t.length≤_;omega⟩ H
 have hrl:=itW_len ⟨v.seq,n,t⟩
 have hrl':(itW ⟨v.seq,n,t⟩).length≤1000020:=by simp at hrl;omega
 generalize itW ⟨v.seq,n,t⟩=rc at hiw hrl' hw
 generalize itE ⟨v.seq,n,t⟩=re at hiw hw
 clear hrl
 obtain⟨jr,hjr⟩:∃x,jF v (cfSlot v.conf v.seq) rc jl (re,a)=x:=⟨_,rfl⟩
 rw[hjr] at hw
 have hslb:cfSlot v.conf v.seq≤16:=by
  have:=(cfSlot_nn hc v.seq.toNat).2
  rwa[QL hsq.1] at this
 have hsmj:=jF_sm v (cfSlot v.conf v.seq) rc jl (s:=(re,a)) hB
 rw[hjr] at hsmj
 refine spx func89 ?_
 conv=>whnf
 intro H1 b0 f1 _
 conv=>whnf
 intro H2 b1 f2 _
 conv=>whnf
 intro H3 b2 f3 _
 have hz1:=f1.size
 have hz2:=f2.size
 have hz3:=f3.size
 have hgv:=h.lt
 have h3:=((h.q f1.e).q f2.e).q f3.e
 have hUl:=h.arr.lt
 have k3:Kp [(b0,.cells #[ptr gv 0] 51 (0,0)),(b1,.cells #[.int .i64 n] 3 (0,0)),(b2,.cells #[.string (S t)] 9 (0,0))] H3 U:=⟨⟨f3.e.blk (f2.e.blk f1.at),λe=>by have:=hUl b0 e;omega⟩,⟨f3.e.blk f2.at,λe=>by have:=hUl b1 e;omega⟩,⟨f3.at,λe=>by have:=hUl b2 e;omega⟩,trivial⟩
 conv=>whnf
 refine .p nob (.take 0 (.take 1 (.take 2 (.take 3 (.take 4 (.take 5 (.take 6 (.take 7 (.take 8 (.take 9 (.take 10 (.take 11 (.take 12 (.take 13 (.take 14 (.take 15 .done)))))))))))))))) (λ_ h=>h.elim) (by kernel_rfl) ?_
 conv=>whnf
 refine⟨id,_,cel_of k3.1.1 rfl,?_⟩
 conv=>whnf
 refine⟨id,_,cel_of k3.2.1.1 rfl,?_⟩
 conv=>whnf
 refine⟨rfl,λh4=>?_,λh4=>?_⟩
 ·rw[if_pos h4] at htot
  subst htot
  exact⟨rfl,U,h3,Sub.refl _ _⟩
 rw[if_neg h4] at htot
 conv=>whnf
 refine⟨id,_,cel_of k3.2.1.1 rfl,?_⟩
 conv=>whnf
 refine⟨id,_,cel_of k3.1.1 rfl,?_⟩
 conv=>whnf
 refine⟨id,_,cel_of h3.vol rfl,?_⟩
 conv=>whnf
 refine⟨rfl,λh5=>?_,λh5=>?_⟩
 ·rw[if_pos h5] at htot
  subst htot
  exact⟨rfl,U,h3,Sub.refl _ _⟩
 rw[if_neg h5] at htot
 conv=>whnf
 refine .p nob (.take 0 (.take 1 (.take 2 (.take 3 (.take 4 (.take 5 (.one 6 (.take 7 (.take 8 .done))))))))) (λ_ h=>h.elim) (by kernel_rfl) ?_
 conv=>whnf
 refine⟨id,_,cel_of k3.2.2.1.1 rfl,?_⟩
 conv=>whnf
 refine⟨id,_,cel_of k3.1.1 rfl,?_⟩
 conv=>whnf
 refine⟨id,cfL v.conf,rfl,by simp[cfL],h3.cf,?_⟩
 conv=>whnf
 refine .q (hcap _) ?_
 rintro _ H4 rfl e4 _
 conv=>whnf
 refine⟨rfl,λh6=>?_,λh6=>?_⟩
 ·have h6':cp<((S t).size:Int):=h6
  rw[S_size] at h6'
  rw[if_pos h6'] at htot
  subst htot
  exact⟨rfl,U,h3.q e4,Sub.refl _ _⟩
 have h6':¬cp<((S t).size:Int):=h6
 rw[S_size] at h6'
 rw[if_neg h6'] at htot
 have h4a:=h3.q e4
 have k4:=k3.q e4
 have hlo:H.size≤H4.size:=by have:=e4.1;omega
 conv=>whnf
 refine⟨_,cel_of k4.1.1 rfl,?_⟩
 conv=>whnf
 refine⟨_,cel_of h4a.vol rfl,?_⟩
 refine .tb (s_adown h4a.arr) (λk hk=>.inl (.inl hk)) ?_ ?_
 ·rintro hd H5 ⟨S5,ha5,hs5⟩ e5 _
  rw[if_pos hd] at htot
  subst htot
  conv=>whnf
  exact⟨rfl,S5,h4a.step e5 ha5 hs5,hs5.up (Sub.refl _ _) hlo⟩
 rintro hd H5 ⟨S5,ha5,hs5⟩ e5 _
 rw[if_neg (by rw[hd];decide)] at htot
 have h5:=h4a.step e5 ha5 hs5
 have k5:=k4.step e5 hs5
 have s5:Sub S5 U H:=hs5.up (Sub.refl _ _) hlo
 have hlo5:H.size≤H5.size:=by have:=e5.1;omega
 have hT5:∀k,S5 k→(U k∨k=gv)∨H.size≤k:=λk hk=>(s5 k hk).imp .inl id
 conv=>whnf
 refine .g (α:=Nat×(Option Addr×Nat)×(Option Addr×Nat)) (λx=>[(3,ptr b0 0),(4,ptr b1 0),(5,ptr b2 0),(6,.int .i64 0),(7,ptr x.1 0),(8,.slice x.2.2.1 jl.length x.2.2.2)])
  (λx H'=>Own H' H5.size 3 1 (.slice x.2.1.1 al.length x.2.1.2) al.length (intV al)∧Own H' H5.size 3 1 (.slice x.2.2.1 jl.length x.2.2.2) jl.length (intV jl)∧H5.size≤H'.size∧H5.size≤x.1∧
   ∃S',AV p gv v a H' S'∧Sub S' S5 H5∧(∀k,(Value.slice x.2.1.1 al.length x.2.1.2).ownBlock=some k→¬S' k)∧(∀k,(Value.slice x.2.2.1 jl.length x.2.2.2).ownBlock=some k→¬S' k)∧
    Kp [(x.1,.cells #[.slice x.2.1.1 al.length x.2.1.2] 71 (0,0)),(b0,.cells #[ptr gv 0] 51 (0,0)),(b1,.cells #[.int .i64 n] 3 (0,0)),(b2,.cells #[.string (S t)] 9 (0,0))] H' S') ?_ ?_
 ·intro K' hK'
  refine .p S5 (.take 0 (.take 1 (.take 2 (.take 3 (.take 4 (.take 7 (.take 8 (.take 9 (.take 10 (.take 11 (.take 12 (.take 13 (.two 5 (.two 6 (.two 14 (.one 15 (.one 16 (.take 17 .done))) 15 (.one 14 (.one 16 (.take 17 .done)))) 15 (.one 6 (.one 14 (.one 16 (.take 17 .done))))) 15 (.one 5 (.one 6 (.one 14 (.one 16 (.take 17 .done)))))))))))))))))) hT5 (by kernel_rfl) ?_
  conv=>whnf
  refine⟨k5.1.2,_,cel_of k5.1.1 rfl,?_⟩
  conv=>whnf
  refine⟨k5.1.2,_,cel_of k5.1.1 rfl,?_⟩
  conv=>whnf
  refine⟨h5.out,_,cel_of h5.vol rfl,?_⟩
  conv=>whnf
  refine⟨k5.1.2,_,cel_of k5.1.1 rfl,?_⟩
  conv=>whnf
  refine⟨k5.1.2,_,cel_of k5.1.1 rfl,?_⟩
  conv=>whnf
  refine⟨h5.out,_,cel_of h5.vol rfl,?_⟩
  conv=>whnf
  refine⟨rfl,_,wr64 (by omega) (by omega),?_⟩
  have hv:=h5
  have hk:=k5
  have hs:=Sub.refl S5 H5
  have hl:=Qd H5.size
  have hlt5:=k5.lt
  have hgv5:=h5.lt
  refine⟨?_,?_⟩
  ·conv=>whnf
   refine .t (s_adisks hv.arr) (hs) ?_
   rintro _ H6 ⟨rfl,S6,ha6,hs6⟩ e6 _
   have hk:=hk.step e6 hs6
   have hs:=hs6.up hs hl
   have hl:=Qb hl e6.1
   have hv:=hv.step e6 ha6 hs6
   refine⟨?_,?_⟩
   ·conv=>whnf
    refine .t (hal hv) (hs) ?_
    rintro _ H7 ⟨ad1,cap1,rfl,ho1,S7,ha7,hs7,hn1⟩ e7 _
    have hk:=hk.step e7 hs7
    have ho1:=ho1.low hl
    have hs:=hs7.up hs hl
    have hl:=Qb hl e7.1
    have hv:=hv.step e7 ha7 hs7
    refine⟨?_,?_⟩
    ·conv=>whnf
     refine .t (hjl hv) (hs) ?_
     rintro _ H8 ⟨ad2,cap2,rfl,ho2,S8,ha8,hs8,hn2⟩ e8 _
     have hk:=hk.step e8 hs8
     have hp1:=ho1.past hn1 e8 hs8
     have ho1:=hp1.1
     have hn1:=hp1.2
     have ho2:=ho2.low hl
     have hs:=hs8.up hs hl
     have hl:=Qb hl e8.1
     have hv:=hv.step e8 ha8 hs8
     conv=>whnf
     intro HA b3 fA _
     have hzA:=fA.size
     have hb3:H5.size≤b3:=by omega
     have hk3:Kp [(b3,.cells #[.slice none 0 0] 71 (0,0)),(b0,.cells #[ptr gv 0] 51 (0,0)),(b1,.cells #[.int .i64 n] 3 (0,0)),(b2,.cells #[.string (S t)] 9 (0,0))] HA S8:=⟨⟨fA.at,λe=>by have:=hv.arr.lt b3 e;omega⟩,hk.q fA.e⟩
     have hk:=hk3
     have hl:=Qb hl fA.e.1
     have hv:=hv.q fA.e
     have ho1:=ho1.q fA.e
     have ho2:=ho2.q fA.e
     conv=>whnf
     refine .k ([.slice ad1 al.length cap1]) (hk.1.1) (.inr (by show H5.size≤b3;exact hb3)) rfl rfl ?_
     intro HZ uZ _
     refine hK' (b3,(ad1,cap1),(ad2,cap2)) _ _ ⟨rfl,rfl,rfl,rfl,rfl,rfl,trivial⟩ ⟨ho1.frm uZ.e (λk hk' (e:k=b3)=>ho1.ne hk.1.1 (by decide) (e▸hk')),ho2.frm uZ.e (λk hk' (e:k=b3)=>ho2.ne hk.1.1 (by decide) (e▸hk')),Qb hl uZ.e.1,hb3,S8,hv.frm uZ.e (λk hk' (e:k=b3)=>hk.1.2 (e▸hk')) (λ(e:gv=b3)=>by omega),hs,hn1,hn2,⟨uZ.1,hk.1.2⟩,hk.2.upd uZ (λx hx e=>by have:=hlt5 x hx;omega)⟩
    ·conv=>whnf
     intro HA b3 fA _
     have hzA:=fA.size
     have hb3:H5.size≤b3:=by omega
     have hk3:Kp [(b3,.cells #[.slice none 0 0] 71 (0,0)),(b0,.cells #[ptr gv 0] 51 (0,0)),(b1,.cells #[.int .i64 n] 3 (0,0)),(b2,.cells #[.string (S t)] 9 (0,0))] HA S7:=⟨⟨fA.at,λe=>by have:=hv.arr.lt b3 e;omega⟩,hk.q fA.e⟩
     have hk:=hk3
     have hl:=Qb hl fA.e.1
     have hv:=hv.q fA.e
     have ho1:=ho1.q fA.e
     conv=>whnf
     refine .t (hjl hv) (hs) ?_
     rintro _ H8 ⟨ad2,cap2,rfl,ho2,S8,ha8,hs8,hn2⟩ e8 _
     have hk:=hk.step e8 hs8
     have hp1:=ho1.past hn1 e8 hs8
     have ho1:=hp1.1
     have hn1:=hp1.2
     have ho2:=ho2.low hl
     have hs:=hs8.up hs hl
     have hl:=Qb hl e8.1
     have hv:=hv.step e8 ha8 hs8
     conv=>whnf
     refine .k ([.slice ad1 al.length cap1]) (hk.1.1) (.inr (by show H5.size≤b3;exact hb3)) rfl rfl ?_
     intro HZ uZ _
     refine hK' (b3,(ad1,cap1),(ad2,cap2)) _ _ ⟨rfl,rfl,rfl,rfl,rfl,rfl,trivial⟩ ⟨ho1.frm uZ.e (λk hk' (e:k=b3)=>ho1.ne hk.1.1 (by decide) (e▸hk')),ho2.frm uZ.e (λk hk' (e:k=b3)=>ho2.ne hk.1.1 (by decide) (e▸hk')),Qb hl uZ.e.1,hb3,S8,hv.frm uZ.e (λk hk' (e:k=b3)=>hk.1.2 (e▸hk')) (λ(e:gv=b3)=>by omega),hs,hn1,hn2,⟨uZ.1,hk.1.2⟩,hk.2.upd uZ (λx hx e=>by have:=hlt5 x hx;omega)⟩
   ·conv=>whnf
    intro HA b3 fA _
    have hzA:=fA.size
    have hb3:H5.size≤b3:=by omega
    have hk3:Kp [(b3,.cells #[.slice none 0 0] 71 (0,0)),(b0,.cells #[ptr gv 0] 51 (0,0)),(b1,.cells #[.int .i64 n] 3 (0,0)),(b2,.cells #[.string (S t)] 9 (0,0))] HA S6:=⟨⟨fA.at,λe=>by have:=hv.arr.lt b3 e;omega⟩,hk.q fA.e⟩
    have hk:=hk3
    have hl:=Qb hl fA.e.1
    have hv:=hv.q fA.e
    conv=>whnf
    refine .t (hal hv) (hs) ?_
    rintro _ H7 ⟨ad1,cap1,rfl,ho1,S7,ha7,hs7,hn1⟩ e7 _
    have hk:=hk.step e7 hs7
    have ho1:=ho1.low hl
    have hs:=hs7.up hs hl
    have hl:=Qb hl e7.1
    have hv:=hv.step e7 ha7 hs7
    conv=>whnf
    refine .t (hjl hv) (hs) ?_
    rintro _ H8 ⟨ad2,cap2,rfl,ho2,S8,ha8,hs8,hn2⟩ e8 _
    have hk:=hk.step e8 hs8
    have hp1:=ho1.past hn1 e8 hs8
    have ho1:=hp1.1
    have hn1:=hp1.2
    have ho2:=ho2.low hl
    have hs:=hs8.up hs hl
    have hl:=Qb hl e8.1
    have hv:=hv.step e8 ha8 hs8
    conv=>whnf
    refine .k ([.slice ad1 al.length cap1]) (hk.1.1) (.inr (by show H5.size≤b3;exact hb3)) rfl rfl ?_
    intro HZ uZ _
    refine hK' (b3,(ad1,cap1),(ad2,cap2)) _ _ ⟨rfl,rfl,rfl,rfl,rfl,rfl,trivial⟩ ⟨ho1.frm uZ.e (λk hk' (e:k=b3)=>ho1.ne hk.1.1 (by decide) (e▸hk')),ho2.frm uZ.e (λk hk' (e:k=b3)=>ho2.ne hk.1.1 (by decide) (e▸hk')),Qb hl uZ.e.1,hb3,S8,hv.frm uZ.e (λk hk' (e:k=b3)=>hk.1.2 (e▸hk')) (λ(e:gv=b3)=>by omega),hs,hn1,hn2,⟨uZ.1,hk.1.2⟩,hk.2.upd uZ (λx hx e=>by have:=hlt5 x hx;omega)⟩
  ·conv=>whnf
   intro HA b3 fA _
   have hzA:=fA.size
   have hb3:H5.size≤b3:=by omega
   have hk3:Kp [(b3,.cells #[.slice none 0 0] 71 (0,0)),(b0,.cells #[ptr gv 0] 51 (0,0)),(b1,.cells #[.int .i64 n] 3 (0,0)),(b2,.cells #[.string (S t)] 9 (0,0))] HA S5:=⟨⟨fA.at,λe=>by have:=hv.arr.lt b3 e;omega⟩,hk.q fA.e⟩
   have hk:=hk3
   have hl:=Qb hl fA.e.1
   have hv:=hv.q fA.e
   conv=>whnf
   refine .t (s_adisks hv.arr) (hs) ?_
   rintro _ H6 ⟨rfl,S6,ha6,hs6⟩ e6 _
   have hk:=hk.step e6 hs6
   have hs:=hs6.up hs hl
   have hl:=Qb hl e6.1
   have hv:=hv.step e6 ha6 hs6
   conv=>whnf
   refine .t (hal hv) (hs) ?_
   rintro _ H7 ⟨ad1,cap1,rfl,ho1,S7,ha7,hs7,hn1⟩ e7 _
   have hk:=hk.step e7 hs7
   have ho1:=ho1.low hl
   have hs:=hs7.up hs hl
   have hl:=Qb hl e7.1
   have hv:=hv.step e7 ha7 hs7
   conv=>whnf
   refine .t (hjl hv) (hs) ?_
   rintro _ H8 ⟨ad2,cap2,rfl,ho2,S8,ha8,hs8,hn2⟩ e8 _
   have hk:=hk.step e8 hs8
   have hp1:=ho1.past hn1 e8 hs8
   have ho1:=hp1.1
   have hn1:=hp1.2
   have ho2:=ho2.low hl
   have hs:=hs8.up hs hl
   have hl:=Qb hl e8.1
   have hv:=hv.step e8 ha8 hs8
   conv=>whnf
   refine .k ([.slice ad1 al.length cap1]) (hk.1.1) (.inr (by show H5.size≤b3;exact hb3)) rfl rfl ?_
   intro HZ uZ _
   refine hK' (b3,(ad1,cap1),(ad2,cap2)) _ _ ⟨rfl,rfl,rfl,rfl,rfl,rfl,trivial⟩ ⟨ho1.frm uZ.e (λk hk' (e:k=b3)=>ho1.ne hk.1.1 (by decide) (e▸hk')),ho2.frm uZ.e (λk hk' (e:k=b3)=>ho2.ne hk.1.1 (by decide) (e▸hk')),Qb hl uZ.e.1,hb3,S8,hv.frm uZ.e (λk hk' (e:k=b3)=>hk.1.2 (e▸hk')) (λ(e:gv=b3)=>by omega),hs,hn1,hn2,⟨uZ.1,hk.1.2⟩,hk.2.upd uZ (λx hx e=>by have:=hlt5 x hx;omega)⟩
 rintro⟨b3,⟨ad1,cap1⟩,ad2,cap2⟩ e0 H6 ⟨ho1,ho2,hl6,hb3,S6,h6,s6,hn1,hn2,k6⟩
 dsimp only at ho1 ho2 hb3 hn1 hn2 k6
 have s6':Sub S6 U H:=s6.up s5 hlo5
 have hloH6:H.size≤H6.size:=by omega
 conv=>whnf
 refine .p nob (.take 0 (.take 1 (.take 2 (.take 3 (.take 4 (.take 5 (.take 6 (.take 7 (.take 8 (.take 9 (.take 10 (.take 11 (.take 12 .done))))))))))))) (λ_ h=>h.elim) (by kernel_rfl) ?_
 conv=>whnf
 refine⟨id,_,cel_of k6.1.1 rfl,?_⟩
 conv=>whnf
 refine⟨id,_,cel_of k6.2.1.1 rfl,?_⟩
 conv=>whnf
 refine⟨id,_,cel_of h6.vol rfl,?_⟩
 conv=>whnf
 refine⟨rfl,λh7=>?_,λh7=>?_⟩
 ·rw[if_pos h7] at htot
  subst htot
  exact⟨rfl,S6,h6,s6'⟩
 rw[if_neg h7] at htot
 conv=>whnf
 refine⟨rfl,λh8=>?_,λh8=>?_⟩
 ·rw[if_pos h8] at htot
  subst htot
  exact⟨rfl,S6,h6,s6'⟩
 rw[if_neg h8] at htot
 conv=>whnf
 intro H7 ge f7 _
 have hz7:=f7.size
 have hgS:¬S6 ge:=λe=>by have:=h6.arr.lt ge e;omega
 have k7:Kp [(ge,.cells #[.int .i64 0] 29 (0,0)),(b3,.cells #[.slice ad1 al.length cap1] 71 (0,0)),(b0,.cells #[ptr gv 0] 51 (0,0)),(b1,.cells #[.int .i64 n] 3 (0,0)),(b2,.cells #[.string (S t)] 9 (0,0))] H7 S6:=⟨⟨f7.at,hgS⟩,k6.q f7.e⟩
 have h7:=h6.q f7.e
 conv=>whnf
 refine .k ([.int .i64 0]) (k7.1.1) (.inr (by show H.size≤ge;omega)) rfl rfl ?_
 intro H8 u8 _
 have hlt6:=k6.lt
 have hne6:∀x∈[(b3,Obj.cells #[.slice ad1 al.length cap1] 71 (0,0)),(b0,.cells #[ptr gv 0] 51 (0,0)),(b1,.cells #[.int .i64 n] 3 (0,0)),(b2,.cells #[.string (S t)] 9 (0,0))],x.1≠ge:=λx hx e=>by have:=hlt6 x hx;omega
 have k8:Kp [(ge,.cells #[.int .i64 0] 29 (0,0)),(b3,.cells #[.slice ad1 al.length cap1] 71 (0,0)),(b0,.cells #[ptr gv 0] 51 (0,0)),(b1,.cells #[.int .i64 n] 3 (0,0)),(b2,.cells #[.string (S t)] 9 (0,0))] H8 S6:=⟨⟨u8.1,hgS⟩,k7.2.upd u8 hne6⟩
 have h8:AV p gv v a H8 S6:=h7.frm u8.e (λk hk (e:k=ge)=>hgS (e▸hk)) (λ(e:gv=ge)=>by have:=h6.lt;omega)
 have ho18:=(ho1.q f7.e).frm u8.e (λk hk (e:k=ge)=>by have:=(ho1.ge k hk).2;omega)
 have ho28:=(ho2.q f7.e).frm u8.e (λk hk (e:k=ge)=>by have:=(ho2.ge k hk).2;omega)
 have hl8:H6.size<H8.size:=by have:=u8.2.1;omega
 have hgv8:gv≠ge:=λe=>by have:=h6.lt;omega
 conv=>whnf
 refine .g (α:=Nat) (λx=>[(3,ptr b0 0),(4,ptr b1 0),(5,ptr b2 0),(7,ptr b3 0),(8,.slice ad2 jl.length cap2),(9,ptr ge 0),(10,.func (.func 143) #[] #[ptr ge 0]),(11,ptr x 0)])
  (λx H'=>Own H' H5.size 3 1 (.slice ad1 al.length cap1) al.length (intV al)∧Own H' H5.size 3 1 (.slice ad2 jl.length cap2) jl.length (intV jl)∧H8.size≤H'.size∧x≠ge∧AV p gv v a H' S6∧
    Kp [(x,.cells #[.string (S rc)] 9 (0,0)),(ge,.cells #[.int .i64 re] 29 (0,0)),(b3,.cells #[.slice ad1 al.length cap1] 71 (0,0)),(b0,.cells #[ptr gv 0] 51 (0,0)),(b1,.cells #[.int .i64 n] 3 (0,0)),(b2,.cells #[.string (S t)] 9 (0,0))] H' S6) ?_ ?_
 ·intro K' hK'
  refine .p (λk=>k=ge) (.take 0 (.take 1 (.take 2 (.take 3 (.take 4 (.take 5 (.take 6 (.two 7 (.take 8 (.take 9 (.take 10 (.one 11 (.one 12 (.one 13 .done)))))) 11 (.one 7 (.take 8 (.take 9 (.take 10 (.one 12 (.one 13 .done)))))))))))))) (λk hk=>.inr (by show H.size≤k;omega)) (by kernel_rfl) ?_
  have n0:b0≠ge:=hne6 (b0,_) (.tail _ (.head _))
  have n1:b1≠ge:=hne6 (b1,_) (.tail _ (.tail _ (.head _)))
  have n2:b2≠ge:=hne6 (b2,_) (.tail _ (.tail _ (.tail _ (.head _))))
  conv=>whnf
  refine⟨n0,_,cel_of k8.2.2.1.1 rfl,?_⟩
  conv=>whnf
  refine⟨hgv8,_,cel_of h8.vol rfl,?_⟩
  conv=>whnf
  refine⟨n1,_,cel_of k8.2.2.2.1.1 rfl,?_⟩
  conv=>whnf
  refine⟨n2,_,cel_of k8.2.2.2.2.1.1 rfl,?_⟩
  conv=>whnf
  refine⟨rfl,?_⟩
  have hlge:ge<H8.size:=(Qa.1 u8.1).1
  have hk:=k8
  have hv:=h8
  have ho1b:=ho1
  have ho2b:=ho2
  have ho1:=ho18
  have ho2:=ho28
  have hl:=Qd H8.size
  refine⟨?_,?_⟩
  ·conv=>whnf
   refine .q (hiw _) ?_
   rintro _ H9 rfl e9 _
   have hk:=hk.q e9
   have hv:=hv.q e9
   have ho1:=ho1.q e9
   have ho2:=ho2.q e9
   have hl:=Qb hl e9.1
   conv=>whnf
   intro HA b4 fA _
   have hzA:=fA.size
   have hb4:H8.size≤b4:=by omega
   have hbS:¬S6 b4:=λe=>by have:=hv.arr.lt b4 e;omega
   have hf:=fA.at
   have hk:=hk.q fA.e
   have hv:=hv.q fA.e
   have ho1:=ho1.q fA.e
   have ho2:=ho2.q fA.e
   have hl:=Qb hl fA.e.1
   conv=>whnf
   refine .k ([.string (S rc)]) (hf) (.inr (by show H8.size≤b4;exact hb4)) rfl rfl ?_
   intro HB uB _
   conv=>whnf
   refine .k ([.int .i64 re]) (uB.e.blkT hk.1.1 (λ(e:ge=b4)=>by omega)) (.inl rfl) rfl rfl ?_
   intro HC uC _
   refine hK' b4 _ _ ⟨rfl,rfl,rfl,rfl,rfl,rfl,rfl,rfl,trivial⟩ ⟨(ho1.frm uB.e (λk hk' (e:k=b4)=>by have:=(ho18.ge k hk').2;omega)).frm uC.e (λk hk' (e:k=ge)=>by have:=(ho1b.ge k hk').2;omega),(ho2.frm uB.e (λk hk' (e:k=b4)=>by have:=(ho28.ge k hk').2;omega)).frm uC.e (λk hk' (e:k=ge)=>by have:=(ho2b.ge k hk').2;omega),Qb hl (Qb uB.e.1 uC.e.1),λe=>by omega,
    (hv.frm uB.e (λk hk' (e:k=b4)=>hbS (e▸hk')) (λ(e:gv=b4)=>by have:=h6.lt;omega)).frm uC.e (λk hk' (e:k=ge)=>hgS (e▸hk')) hgv8,⟨uC.e.blkT uB.1 (λ(e:b4=ge)=>by omega),hbS⟩,⟨uC.1,hgS⟩,((hk.2.upd uB (λx hx e=>by have:=hlt6 x hx;omega)).upd uC hne6)⟩
  ·conv=>whnf
   intro HA b4 fA _
   have hzA:=fA.size
   have hb4:H8.size≤b4:=by omega
   have hbS:¬S6 b4:=λe=>by have:=hv.arr.lt b4 e;omega
   have hf:=fA.at
   have hk:=hk.q fA.e
   have hv:=hv.q fA.e
   have ho1:=ho1.q fA.e
   have ho2:=ho2.q fA.e
   have hl:=Qb hl fA.e.1
   conv=>whnf
   refine .q (hiw _) ?_
   rintro _ H9 rfl e9 _
   have hf:=e9.blk hf
   have hk:=hk.q e9
   have hv:=hv.q e9
   have ho1:=ho1.q e9
   have ho2:=ho2.q e9
   have hl:=Qb hl e9.1
   conv=>whnf
   refine .k ([.string (S rc)]) (hf) (.inr (by show H8.size≤b4;exact hb4)) rfl rfl ?_
   intro HB uB _
   conv=>whnf
   refine .k ([.int .i64 re]) (uB.e.blkT hk.1.1 (λ(e:ge=b4)=>by omega)) (.inl rfl) rfl rfl ?_
   intro HC uC _
   refine hK' b4 _ _ ⟨rfl,rfl,rfl,rfl,rfl,rfl,rfl,rfl,trivial⟩ ⟨(ho1.frm uB.e (λk hk' (e:k=b4)=>by have:=(ho18.ge k hk').2;omega)).frm uC.e (λk hk' (e:k=ge)=>by have:=(ho1b.ge k hk').2;omega),(ho2.frm uB.e (λk hk' (e:k=b4)=>by have:=(ho28.ge k hk').2;omega)).frm uC.e (λk hk' (e:k=ge)=>by have:=(ho2b.ge k hk').2;omega),Qb hl (Qb uB.e.1 uC.e.1),λe=>by omega,
    (hv.frm uB.e (λk hk' (e:k=b4)=>hbS (e▸hk')) (λ(e:gv=b4)=>by have:=h6.lt;omega)).frm uC.e (λk hk' (e:k=ge)=>hgS (e▸hk')) hgv8,⟨uC.e.blkT uB.1 (λ(e:b4=ge)=>by omega),hbS⟩,⟨uC.1,hgS⟩,((hk.2.upd uB (λx hx e=>by have:=hlt6 x hx;omega)).upd uC hne6)⟩
 rintro b4 e1 H9 ⟨hp1,hp2,hl9,hb4,hv9,k9⟩
 have hlt9:=k9.lt
 obtain⟨L,hLd⟩:∃L:List (Nat×Obj),L=[(b4,.cells #[.string (S rc)] 9 (0,0)),(b3,.cells #[.slice ad1 al.length cap1] 71 (0,0)),(b0,.cells #[ptr gv 0] 51 (0,0)),(b1,.cells #[.int .i64 n] 3 (0,0)),(b2,.cells #[.string (S t)] 9 (0,0))]:=⟨_,rfl⟩
 have hLne:∀x∈L,x.1≠ge:=λx hx=>by
  rw[hLd] at hx
  rcases QB.1 hx with rfl|hx
  ·exact hb4
  ·exact hne6 x hx
 have hw9:WJ p gv v U H H5.size (.slice ad1 al.length cap1) (.slice ad2 jl.length cap2) al jl ge L (re,a) S6 H9:=⟨hv9,s6',by omega,hp1,hp2,hn1,hn2,k9.2.1.1,hgS,by rw[hLd];exact⟨k9.1,k9.2.2⟩⟩
 conv=>whnf
 refine .g [(3,ptr b0 0),(4,ptr b1 0),(5,ptr b2 0),(7,ptr b3 0),(9,ptr ge 0),(10,.func (.func 143) #[] #[ptr ge 0]),(11,ptr b4 0),(85,.slice ad2 jl.length cap2),(86,.int .i64 (jl.length:Int)),(87,.int .i64 0)] ⟨rfl,rfl,rfl,rfl,rfl,rfl,rfl,rfl,rfl,rfl,trivial⟩ λenv0 KL hKL=>?_
 refine⟨Nat×List Int×(Int×Arr),λx=>[(87,.int .i64 (x.1:Int))],λx H'=>x.1+x.2.1.length=jl.length∧jl.drop x.1=x.2.1∧jF v (cfSlot v.conf v.seq) rc x.2.1 x.2.2=jr∧Sm (B+x.1) x.2.2.2∧H9.size≤H'.size∧∃S',WJ p gv v U H H5.size (.slice ad1 al.length cap1) (.slice ad2 jl.length cap2) al jl ge L x.2.2 S' H',λx=>x.2.1.length,
  ⟨(0,jl,(re,a)),⟨rfl,trivial⟩,by simp,rfl,hjr,hB,Qd _,S6,hw9⟩,?_⟩
 rintro⟨i,r,s⟩ HA junk ⟨hi,hdr,hto,hsm,hlA,SA,hA⟩ FA
 dsimp only at hi hdr hto hsm hA
 conv=>whnf
 refine⟨rfl,λh10=>?_,λh10=>?_⟩
 ·have h':i<jl.length:=by have:(i:Int)<(jl.length:Int):=h10;omega
  cases r with
  |nil=>simp at hi;omega
  |cons d r=>
   have hy:jl[i]? =some d:=by
    have:=Qf (·[0]?) hdr
    simpa using this
   have hdr':jl.drop (i+1)=r:=by
    have:=Qf List.tail hdr
    simpa using this
   have hwi:IntKind.i64.wrap ((i:Int)+1)=((i+1:Nat):Int):=by rw[wr64 (by omega) (by omega)];omega
   have hdb:=haljm (Qj hy)
   unfold jF at hto
   have hic:=hA.o2.gint
   refine Qh hic λad3 hic=>Qh hic λcap3 hic=>?_
   have hwe:=hic.1
   cases hwe
   have hic2:=hic.2 i _ hy
   refine Qh hic2 λib hic2=>Qh hic2 λio hic2=>?_
   have hic1:=hic2.1
   subst hic1
   conv=>whnf
   refine⟨i,rfl,h',?_⟩
   conv=>whnf
   refine⟨_,hic2.2,?_⟩
   conv=>whnf
   intro HB bd fB _
   have hzB:=fB.size
   have hB1:=hA.q fB.e
   have hbS:¬SA bd:=λe=>by have:=hA.av.arr.lt bd e;omega
   have hne:∀k,k<HA.size→k≠bd:=λk hk e=>by omega
   have hgeA:=(Qa.1 hA.hg).1
   have hltA:=hA.kp.lt
   conv=>whnf
   refine .k ([.int .i64 d]) (fB.at) (.inr (by show H.size≤bd;have:=hA.lo;omega)) rfl rfl ?_
   intro HC uC _
   have hC:=hB1.put uC hbS (hne gv hA.av.lt) (hne ge hgeA) (λk hk=>hne k (hA.o1.ge k hk).2) (λk hk=>hne k (hA.o2.ge k hk).2) (λx hx=>hne x.1 (hltA x hx))
   have kC:=hC.kp
   rw[hLd] at kC
   have hwp:=s_wput (b1:=bd) hC.av hsm (by omega) d rc kC.2.2.1.1 uC.1 kC.1.1 kC.2.2.1.2 hbS kC.1.2 ⟨hid,by show d≤_;omega,by show cfSlot v.conf v.seq≤_;omega,by show v.seq≤_;omega,by show rc.length≤_;omega⟩
   have hsm2:Sm (B+(i+1)) (if s.1=0 then(vputE s.2 v d (cfSlot v.conf v.seq) v.seq rc,vputA s.2 v d (cfSlot v.conf v.seq) v.seq rc) else s).2:=by
    split
    ·exact vputA_sm hsm v d _ _ rc
    ·exact hsm.mono (by omega)
   generalize vputE s.2 v d (cfSlot v.conf v.seq) v.seq rc=pe at hwp hto hsm2
   generalize vputA s.2 v d (cfSlot v.conf v.seq) v.seq rc=pa at hwp hto hsm2
   have htr:=s_try 145 [] [ptr b0 0,ptr bd 0,ptr b4 0] (y:=pe) hC.hg hC.ng (λ_=>hwp)
   conv=>whnf
   refine .t (htr) ((λk hk=>hk.elim (λhk=>(hC.sub k hk).imp .inl id) λe=>.inr (by show H.size≤k;omega))) ?_
   rintro _ HD ⟨hg',hr'⟩ eD _
   have hD:=hC.tr hLne hgv8 hg' hr'
   refine Qh hD λSD hD=>?_
   conv=>whnf
   refine⟨rfl,_,hwi,?_⟩
   exact⟨(i+1,r,_),⟨rfl,trivial⟩,⟨by simp at hi⊢;omega,hdr',hto,hsm2,by have:=uC.e.1;have:=eD.1;have:=fB.e.1;omega,SD,hD⟩,by show r.length<r.length+1;omega⟩
 ·have hr0:r=[]:=Qm (by have:¬(i:Int)<(jl.length:Int):=h10;omega)
  rw[hr0] at hto
  have hto':s=jr:=hto
  subst hto'
  have hw:flS (shS v n t al (flS s))=w:=hw
  have hsmA:=hsmj
  have hTS:∀{V:Nat→Prop},Sub V U H→∀k,V k∨k=ge→(U k∨k=gv)∨H.size≤k:=λhV k hk=>hk.elim (λhk=>(hV k hk).imp .inl id) λe=>.inr (by omega)
  have kA:=hA.kp
  rw[hLd] at kA
  refine hKL _ _ _ ?_
  conv=>whnf
  refine⟨_,cel_of kA.2.2.1.1 rfl,?_⟩
  conv=>whnf
  refine⟨_,cel_of hA.av.vol rfl,?_⟩
  have ht1:=s_try 41 [ptr p.ga 0] [] hA.hg hA.ng (λ_=>s_aflush (hsmA.mono (by omega)) hA.av.arr)
  conv=>whnf
  refine .t (ht1) (hTS hA.sub) ?_
  rintro _ HB ⟨hgB,hrB⟩ eB _
  have hB1:=hA.tr hLne hgv8 hgB hrB
  refine Qh hB1 λSB hB1=>?_
  have hsmB:=flS_sm hsmA
  have hB1:WJ p gv v U H H5.size (.slice ad1 al.length cap1) (.slice ad2 jl.length cap2) al jl ge L (flS s) SB HB:=hB1
  generalize flS s=sB at hw hsmB hB1
  have kB:=hB1.kp
  rw[hLd] at kB
  have hsh:=s_wshards (b0:=b0) (b1:=b1) (b2:=b2) (b3:=b3) hB1.av hsmB n t kB.2.2.1.1 kB.2.2.2.1.1 kB.2.2.2.2.1.1 kB.2.1.1 hB1.o1 hB1.n1 kB.2.2.1.2 kB.2.2.2.1.2 kB.2.2.2.2.1.2 kB.2.1.2 ht (by omega) hid (λd hd=>by have:=halm hd;omega) (by omega)
  have ht2:=s_try 146 [] [ptr b0 0,ptr b1 0,ptr b2 0,ptr b3 0] hB1.hg hB1.ng (λ_=>hsh)
  conv=>whnf
  refine .t (ht2) (hTS hB1.sub) ?_
  rintro _ HC ⟨hgC,hrC⟩ eC _
  have hC1:=hB1.tr hLne hgv8 hgC hrC
  refine Qh hC1 λSC hC1=>?_
  have hsmC:=shS_sm v n t al hsmB
  have hC1:WJ p gv v U H H5.size (.slice ad1 al.length cap1) (.slice ad2 jl.length cap2) al jl ge L (shS v n t al sB) SC HC:=hC1
  generalize shS v n t al sB=sC at hw hsmC hC1
  have kC:=hC1.kp
  rw[hLd] at kC
  conv=>whnf
  refine⟨_,cel_of kC.2.2.1.1 rfl,?_⟩
  conv=>whnf
  refine⟨_,cel_of hC1.av.vol rfl,?_⟩
  have ht3:=s_try 41 [ptr p.ga 0] [] hC1.hg hC1.ng (λ_=>s_aflush (hsmC.mono (by omega)) hC1.av.arr)
  conv=>whnf
  refine .t (ht3) (hTS hC1.sub) ?_
  rintro _ HD ⟨hgD,hrD⟩ eD _
  have hD1:=hC1.tr hLne hgv8 hgD hrD
  refine Qh hD1 λSD hD1=>?_
  have hD1:WJ p gv v U H H5.size (.slice ad1 al.length cap1) (.slice ad2 jl.length cap2) al jl ge L (flS sC) SD HD:=hD1
  rw[hw] at hD1
  have kD:=hD1.kp
  rw[hLd] at kD
  conv=>whnf
  refine⟨_,cel_of hD1.hg rfl,?_⟩
  conv=>whnf
  refine⟨rfl,λh11=>?_,λh11=>?_⟩
  ·have h11':w.1=0:=h11
   conv=>whnf
   refine⟨_,cel_of kD.2.2.1.1 rfl,?_⟩
   conv=>whnf
   refine⟨_,cel_of hD1.av.vol rfl,?_⟩
   conv=>whnf
   refine⟨rfl,_,wr64 (by omega) (by omega),?_⟩
   conv=>whnf
   refine .one 7 hD1.av.vol (.inl (.inr rfl)) rfl rfl (by kernel_rfl) (by simp[volL,cfL]) ?_
   intro HE uE' _
   have uE:Upd HD HE gv (.cells (volL p.ga ⟨v.conf,v.id,v.seq+1⟩).toArray 70 (0,0)):=uE'
   have hup:volUp v w.1=⟨v.conf,v.id,v.seq+1⟩:=by unfold volUp;rw[if_pos h11']
   rw[hup] at htot
   conv=>whnf
   refine⟨_,cel_of (uE.e.blkT hD1.hg (λ(e:ge=gv)=>hgv8 e.symm)) rfl,?_⟩
   subst htot
   exact⟨rfl,SD,⟨uE.1,hD1.av.arr.frm uE.e (λk hk (e:k=gv)=>hD1.av.out (e▸hk)),hD1.av.out⟩,hD1.sub⟩
  ·have hup:volUp v w.1=v:=by unfold volUp;rw[if_neg h11]
   rw[hup] at htot
   conv=>whnf
   refine⟨_,cel_of hD1.hg rfl,?_⟩
   subst htot
   exact⟨rfl,SD,hD1.av,hD1.sub⟩
theorem wrS_sm{a:Arr}{v:Vol}{B:Nat}(hB:Sm B a)(n:Int)(t:By)(hnd:a.ds.length≤6)(hm:v.conf.m≤5):Sm (B+12) (wrS a v n t).2:=by
 unfold wrS
 have h1:=aliveL_len a a.ds.length
 have h2:=aliveL_len a (v.conf.m+1)
 exact(flS_sm (shS_sm v n t (aliveL a a.ds.length) (flS_sm (jF_sm v (cfSlot v.conf v.seq) (itW ⟨v.seq,n,t⟩) (aliveL a (v.conf.m+1)) (s:=(itE ⟨v.seq,n,t⟩,a)) hB)))).mono (by omega)
theorem vwriteV_sm{a:Arr}{v:Vol}{B:Nat}(hB:Sm B a)(n:Int)(t:By)(hnd:a.ds.length≤6)(hm:v.conf.m≤5):Sm (B+12) (vwriteV a v n t).1.2:=by
 have hw:=wrS_sm hB n t hnd hm
 have ha:=hB.mono (show B≤B+12 by omega)
 unfold vwriteV
 (repeat' split)<;>first|exact ha|exact hw
end
attribute [irreducible] vwriteV wrS jF flS shS volUp
def headF(a:Arr)(v:Vol):List Int→Option Cf
 |[]=>none
 |d::r=>if(vgetV a v d 0).2=true then(if(cfRead (vgetV a v d 0).1.text).2=0 then(if cfDisks (cfRead (vgetV a v d 0).1.text).1=a.ds.length then some (cfRead (vgetV a v d 0).1.text).1 else headF a v r) else headF a v r) else headF a v r
def vheadV(a:Arr)(v:Vol):Option Cf:=headF a v (aliveL a a.ds.length)
def volC(v:Vol):Option Cf→Vol
 |none=>v
 |some c=>⟨c,v.id,v.seq⟩
section
variable {p:Pl}{gv:Nat}{v:Vol}{a:Arr}{H:Heap}{U:Nat→Prop}
theorem s_vhead(h:AV p gv v a H U){B:Nat}(hB:Sm B a)(hnd:a.ds.length≤255):
  Spec prog 32 #[ptr gv 0] H (λk=>U k∨k=gv) λu H'=>u=.bool (vheadV a v).isSome∧∃S',AV p gv (volC v (vheadV a v)) a H' S'∧Sub S' U H:=by
 obtain⟨hr,hhr⟩:∃x,vheadV a v=x:=⟨_,rfl⟩
 rw[hhr]
 unfold vheadV at hhr
 have hal:=λ{X:Heap} {V:Nat→Prop} (hX:AV p gv v a X V)=>s_valive' hX (a.ds.length:Int) (by omega)
 have hall:=aliveL_len a a.ds.length
 generalize aliveL a a.ds.length=al at hhr hal hall
 refine spx func32 ?_
 conv=>whnf
 refine⟨_,cel_of h.vol rfl,?_⟩
 conv=>whnf
 refine .t (s_adisks h.arr) ((λk hk=>.inl (.inl hk))) ?_
 rintro _ H1 ⟨rfl,S1,ha1,hs1⟩ e1 _
 have h1:=h.step e1 ha1 hs1
 conv=>whnf
 refine .t (hal h1) ((λk hk=>(hs1 k hk).imp .inl id)) ?_
 rintro _ H2 ⟨ad,cap,rfl,ho2,S2,ha2,hs2,hn2⟩ e2 _
 have h2:=h1.step e2 ha2 hs2
 have s2:Sub S2 U H:=hs2.up hs1 e1.1
 have hlo:=Qb e1.1 e2.1
 conv=>whnf
 refine .g [(0,ptr gv 0),(15,.slice ad al.length cap),(16,.int .i64 (al.length:Int)),(17,.int .i64 0)] ⟨rfl,rfl,rfl,rfl,trivial⟩ λenv0 KL hKL=>?_
 refine⟨Nat×List Int,λx=>[(17,.int .i64 (x.1:Int))],λx H'=>x.1+x.2.length=al.length∧al.drop x.1=x.2∧headF a v x.2=hr∧Own H' H1.size 3 1 (.slice ad al.length cap) al.length (intV al)∧H.size≤H'.size∧
  ∃S',AV p gv v a H' S'∧Sub S' U H∧(∀k,(Value.slice ad al.length cap).ownBlock=some k→¬S' k),λx=>x.2.length,
  ⟨(0,al),⟨rfl,trivial⟩,by simp,rfl,hhr,ho2,hlo,S2,h2,s2,hn2⟩,?_⟩
 rintro⟨i,r⟩ HA junk ⟨hi,hdr,hto,hoA,hlA,SA,hA,sA,hnA⟩ FA
 dsimp only at hi hdr hto
 conv=>whnf
 refine⟨rfl,λh5=>?_,λh5=>?_⟩
 ·have h':i<al.length:=by have:(i:Int)<(al.length:Int):=h5;omega
  cases r with
  |nil=>simp at hi;omega
  |cons d r=>
   have hy:al[i]? =some d:=by
    have:=Qf (·[0]?) hdr
    simpa using this
   have hdr':al.drop (i+1)=r:=by
    have:=Qf List.tail hdr
    simpa using this
   have hwi:IntKind.i64.wrap ((i:Int)+1)=((i+1:Nat):Int):=by rw[wr64 (by omega) (by omega)];omega
   unfold headF at hto
   have hgt:=λ{X:Heap} {V:Nat→Prop} (hX:AV p gv v a X V)=>s_vget hX hB d 0
   generalize vgetV a v d 0=gt at hto hgt
   obtain⟨bk,is⟩:=gt
   dsimp only at hto hgt
   have hcr:=λX=>s_cread (S bk.text) X
   rw[L_S] at hcr
   generalize cfRead bk.text=cr at hto hcr
   obtain⟨c,ce⟩:=cr
   dsimp only at hto hcr
   have hcd:=λX=>s_disks c X
   generalize cfDisks c=cd at hto hcd
   have hic:=hoA.gint
   refine Qh hic λad2 hic=>Qh hic λcap2 hic=>?_
   have hwe:=hic.1
   cases hwe
   have hic2:=hic.2 i _ hy
   refine Qh hic2 λib hic2=>Qh hic2 λio hic2=>?_
   have hic1:=hic2.1
   subst hic1
   conv=>whnf
   refine⟨i,rfl,h',?_⟩
   conv=>whnf
   refine⟨_,hic2.2,?_⟩
   conv=>whnf
   refine .t (hgt hA) ((λk hk=>(sA k hk).imp .inl id)) ?_
   rintro _ HB ⟨rfl,SB,haB,hsB⟩ eB _
   have hB:=hA.step eB haB hsB
   have hpB:=hoA.past hnA eB hsB
   have sB:Sub SB U H:=hsB.up sA hlA
   have hAB:=eB.1
   conv=>whnf
   intro HC gb fC _
   have hbs:=fC.size
   conv=>whnf
   refine .k ((blkL bk)) (fC.at) (.inr (by show H.size≤gb;omega)) rfl rfl ?_
   intro HD uD _
   have hD:AV p gv v a HD SB:=(hB.q fC.e).frm uD.e (λk hk (e:k=gb)=>by have:=haB.lt k hk;omega) (λ(e:gv=gb)=>by have:=hB.lt;omega)
   have howD:=(hpB.1.q fC.e).frm uD.e (λk hk (e:k=gb)=>by have:=(hpB.1.ge k hk).2;omega)
   have hSB:=hpB.2
   have hlD:H.size≤HD.size:=by have:=uD.2.1;omega
   cases is with
   |false=>
    rw[if_neg (by decide)] at hto
    conv=>whnf
    refine⟨rfl,_,hwi,?_⟩
    exact⟨(i+1,r),⟨rfl,trivial⟩,⟨by simp at hi⊢;omega,hdr',hto,howD,hlD,SB,hD,sB,hSB⟩,by show r.length<r.length+1;omega⟩
   |true=>
    rw[if_pos rfl] at hto
    conv=>whnf
    refine⟨_,cel_of uD.1 rfl,?_⟩
    conv=>whnf
    refine .q (hcr _) ?_
    rintro _ HE rfl eE _
    conv=>whnf
    intro HF gc fF _
    have hcs:=fF.size
    have hDE:=eE.1
    conv=>whnf
    refine .k ((cfL c)) (fF.at) (.inr (by show H.size≤gc;omega)) rfl rfl ?_
    intro HG uG _
    have hG:AV p gv v a HG SB:=((hD.q eE).q fF.e).frm uG.e (λk hk (e:k=gc)=>by have:=hD.arr.lt k hk;omega) (λ(e:gv=gc)=>by have:=hD.lt;omega)
    have howG:=((howD.q eE).q fF.e).frm uG.e (λk hk (e:k=gc)=>by have:=(howD.ge k hk).2;omega)
    have hlG:H.size≤HG.size:=by have:=uG.2.1;omega
    have hcS:¬SB gc:=λe=>by have:=hD.arr.lt gc e;omega
    conv=>whnf
    refine .p SB (.take 0 (.take 1 (.take 2 (.take 3 (.take 5 (.take 6 (.take 7 (.take 8 (.one 4 (.one 9 (.take 10 (.take 11 .done)))))))))))) (λk hk=>(sB k hk).imp .inl id) (by kernel_rfl) ?_
    conv=>whnf
    refine⟨rfl,λh6=>?_,λh6=>?_⟩
    ·have h6':ce=0:=h6
     rw[if_pos h6'] at hto
     conv=>whnf
     refine⟨hcS,cfL c,rfl,by simp[cfL],CellsAt.at uG.1,?_⟩
     conv=>whnf
     refine⟨hG.out,_,cel_of hG.vol rfl,?_⟩
     conv=>whnf
     refine .q (hcd _) ?_
     rintro _ HI rfl eI _
     conv=>whnf
     refine .t (s_adisks (hG.q eI).arr) ((λk hk=>.inl hk)) ?_
     rintro _ HJ ⟨rfl,SJ,haJ,hsJ⟩ eJ _
     have hJ:=(hG.q eI).step eJ haJ hsJ
     have hlI:=eI.1
     have sJ:Sub SJ U H:=hsJ.up sB (by omega)
     have hpJ:=(howG.q eI).past hSB eJ hsJ
     have hlJ:=Qb (Qb hlG hlI) eJ.1
     conv=>whnf
     refine⟨rfl,λh7=>?_,λh7=>?_⟩
     ·rw[if_pos h7] at hto
      conv=>whnf
      refine⟨cfL c,rfl,CellsAt.at (eJ.blkT (eI.blk uG.1) hcS),?_⟩
      conv=>whnf
      refine .k ((volL p.ga ⟨c,v.id,v.seq⟩)) (hJ.vol) (.inl (.inr rfl)) rfl rfl ?_
      intro HK uK _
      refine hKL _ _ _ ?_
      conv=>whnf
      rw[←hto]
      exact⟨rfl,SJ,⟨uK.1,hJ.arr.frm uK.e (λk hk (e:k=gv)=>hJ.out (e▸hk)),hJ.out⟩,sJ⟩
     ·rw[if_neg h7] at hto
      conv=>whnf
      refine⟨rfl,_,hwi,?_⟩
      exact⟨(i+1,r),⟨rfl,trivial⟩,⟨by simp at hi⊢;omega,hdr',hto,hpJ.1,hlJ,SJ,hJ,sJ,hpJ.2⟩,by show r.length<r.length+1;omega⟩
    ·have h6':¬ce=0:=h6
     rw[if_neg h6'] at hto
     conv=>whnf
     refine⟨rfl,_,hwi,?_⟩
     exact⟨(i+1,r),⟨rfl,trivial⟩,⟨by simp at hi⊢;omega,hdr',hto,howG,hlG,SB,hG,sB,hSB⟩,by show r.length<r.length+1;omega⟩
 ·have hr0:r=[]:=Qm (by have:¬(i:Int)<(al.length:Int):=h5;omega)
  rw[hr0] at hto
  refine hKL _ _ _ ?_
  conv=>whnf
  rw[←hto]
  exact⟨rfl,SA,hA,sA⟩
end
end Go.Proofs.YtjambljmnifknaaGreatDoor.Vc
namespace Go.Proofs.YtjambljmnifknaaGreatDoor.Vc
open Go Go.RowKit Tp
def newStep(m:List It)(x:It):List It:=match findS m x.stripe with
 |none=>putM m x
 |some p=>if p.2.seq<x.seq then putM m x else m
def newestM(l:List It):List It:=l.foldl newStep []
theorem putM_len(m:List It)(x:It):(putM m x).length≤m.length+1:=by
 unfold putM
 split<;>simp
theorem newStep_len(m:List It)(x:It):(newStep m x).length≤m.length+1:=by
 unfold newStep
 split
 ·exact putM_len m x
 ·split
  ·exact putM_len m x
  ·omega
theorem s_newest(R:List It→Value→Heap→Prop)(l:List It)(hl:l.length≤1000000){v:Value}{H:Heap}(hv:Rw H v (l.map itL))
  (hS:∀{X:Heap} {Bm b:Nat} {m:List It},Frm nob H X→m.length≤1000000→X[Bm]? =some (.cells #[.map (some b)] 186 (0,0))→X[b]? =some (mapO m)→Spec prog 118 #[.func (.func 190) #[] #[ptr Bm 0],.func (.func 120) #[] #[]] X nob λu H'=>R m u H'):
  Spec prog 67 #[v] H nob λu H'=>R (newestM l) u H':=by
 obtain⟨tot,htot⟩:∃t,newestM l=t:=⟨_,rfl⟩
 rw[htot]
 unfold newestM at htot
 have hi0:=hv.its
 obtain⟨ad,cap,rfl,hix⟩:=hi0
 refine spx func67 ?_
 conv=>whnf
 refine raw_makeMap rfl (Frm.refl _ _) ?_
 intro H1 b f1 _
 have hsz:=f1.size
 conv=>whnf
 refine .g [(3,.map (some b)),(9,.slice ad l.length cap),(10,.int .i64 (l.length:Int)),(11,.int .i64 0)] ⟨rfl,rfl,rfl,rfl,trivial⟩ λenv0 KL hKL=>?_
 refine⟨Nat×List It×List It,λx=>[(11,.int .i64 (x.1:Int))],λx H'=>x.1+x.2.1.length=l.length∧l.drop x.1=x.2.1∧x.2.1.foldl newStep x.2.2=tot∧x.2.2.length≤x.1∧H'[b]? =some (mapO x.2.2)∧Frm nob H H',λx=>x.2.1.length,
  ⟨(0,l,[]),⟨rfl,trivial⟩,by simp,rfl,htot,Qd _,f1.at,f1.e⟩,?_⟩
 rintro⟨i,r,m⟩ HA junk ⟨hi,hdr,hto,hm,hbA,hFA⟩ FA
 dsimp only at hi hdr hto hm hbA
 conv=>whnf
 refine⟨rfl,λh5=>?_,λh5=>?_⟩
 ·have h':i<l.length:=by have:(i:Int)<(l.length:Int):=h5;omega
  cases r with
  |nil=>simp at hi;omega
  |cons x r=>
   have hy:l[i]? =some x:=by
    have:=Qf (·[0]?) hdr
    simpa using this
   have hdr':l.drop (i+1)=r:=by
    have:=Qf List.tail hdr
    simpa using this
   have hwi:IntKind.i64.wrap ((i:Int)+1)=((i+1:Nat):Int):=by rw[wr64 (by omega) (by omega)];omega
   rw[Yh] at hto
   have hic:=hix i x hy
   refine Qh hic λib hic=>Qh hic λio hic=>?_
   have hic1:=hic.1
   subst hic1
   conv=>whnf
   refine⟨i,rfl,h',?_⟩
   conv=>whnf
   refine⟨itL x,rfl,cells_keep hFA id hic.2,?_⟩
   conv=>whnf
   intro HB q fB _
   have hqs:=fB.size
   conv=>whnf
   refine .k ((itL x)) (fB.at) (.inr (by show H.size≤q;have:=hFA.1;omega)) rfl rfl ?_
   intro HC uC _
   have hbl:b<HA.size:=(Qa.1 hbA).1
   have hbC:HC[b]? =some (mapO m):=uC.e.blkT (fB.e.blk hbA) (λ(e:b=q)=>by omega)
   have hFC:Frm nob H HC:=(hFA.trans fB.e).then uC.e (λk hk=>.inr (by have:k=q:=hk;have:=hFA.1;have:=fB.e.1;omega))
   conv=>whnf
   refine⟨_,cel_of uC.1 rfl,?_⟩
   conv=>whnf
   refine raw_lookup rfl rfl rfl rfl hbC hFC ?_
   conv=>whnf
   intro HD q' fD _
   have hqs':=fD.size
   conv=>whnf
   refine .k ((itL (((findS m x.stripe).map (·.2)).getD it0))) (fD.at) (.inr (by show H.size≤q';have:=hFC.1;omega)) rfl rfl ?_
   intro HE uE _
   have hql:q<HC.size:=(Qa.1 uC.1).1
   have hqE:HE[q]? =some (.cells (itL x).toArray 82 (0,0)):=uE.e.blkT (fD.e.blk uC.1) (λ(e:q=q')=>by omega)
   have hblC:b<HC.size:=(Qa.1 hbC).1
   have hbE:HE[b]? =some (mapO m):=uE.e.blkT (fD.e.blk hbC) (λ(e:b=q')=>by omega)
   have hFE:Frm nob H HE:=(hFC.trans fD.e).then uE.e (λk hk=>.inr (by have:k=q':=hk;have:=hFC.1;have:=fD.e.1;omega))
   have hnl:=newStep_len m x
   unfold newStep at hto
   cases hf:findS m x.stripe with
   |none=>
    rw[hf] at hto
    dsimp only at hto
    conv=>whnf
    conv=>whnf
    refine⟨_,cel_of hqE rfl,?_⟩
    conv=>whnf
    refine⟨itL x,rfl,CellsAt.at hqE,?_⟩
    conv=>whnf
    refine raw_update x rfl rfl rfl rfl rfl hbE (.inr (by show H.size≤b;omega)) hFE ?_
    intro HF uF _
    conv=>whnf
    refine⟨rfl,_,hwi,?_⟩
    exact⟨(i+1,r,putM m x),⟨rfl,trivial⟩,⟨by simp at hi⊢;omega,hdr',hto,Qb (putM_len m x) (by show m.length+1≤i+1;omega),uF.1,hFE.then uF.e (λk hk=>.inr (by have:k=b:=hk;omega))⟩,by show r.length<r.length+1;omega⟩
   |some pr=>
    rw[hf] at hto uE
    dsimp only at hto
    conv=>whnf
    refine⟨_,cel_of hqE rfl,?_⟩
    conv=>whnf
    refine⟨_,cel_of uE.1 rfl,?_⟩
    conv=>whnf
    refine⟨rfl,λh6=>?_,λh6=>?_⟩
    ·have h6':pr.2.seq<x.seq:=h6
     rw[if_pos h6'] at hto
     conv=>whnf
     refine⟨_,cel_of hqE rfl,?_⟩
     conv=>whnf
     refine⟨itL x,rfl,CellsAt.at hqE,?_⟩
     conv=>whnf
     refine raw_update x rfl rfl rfl rfl rfl hbE (.inr (by show H.size≤b;omega)) hFE ?_
     intro HF uF _
     conv=>whnf
     refine⟨rfl,_,hwi,?_⟩
     exact⟨(i+1,r,putM m x),⟨rfl,trivial⟩,⟨by simp at hi⊢;omega,hdr',hto,Qb (putM_len m x) (by show m.length+1≤i+1;omega),uF.1,hFE.then uF.e (λk hk=>.inr (by have:k=b:=hk;omega))⟩,by show r.length<r.length+1;omega⟩
    ·have h6':¬pr.2.seq<x.seq:=h6
     rw[if_neg h6'] at hto
     conv=>whnf
     refine⟨rfl,_,hwi,?_⟩
     exact⟨(i+1,r,m),⟨rfl,trivial⟩,⟨by simp at hi⊢;omega,hdr',hto,YQ hm,hbE,hFE⟩,by show r.length<r.length+1;omega⟩
 ·have hr0:r=[]:=Qm (by have:¬(i:Int)<(l.length:Int):=h5;omega)
  rw[hr0] at hto
  have hto':m=tot:=hto
  subst hto'
  refine hKL _ _ _ ?_
  conv=>whnf
  refine .q (s_mvalues b _) ?_
  rintro _ HB ⟨Bm,rfl,hBm,hB⟩ eB _
  conv=>whnf
  refine .q (hS (hFA.trans eB) (by omega) hB (eB.blk hbA)) ?_
  rintro _ HC hR eC _
  exact⟨hR⟩
end Go.Proofs.YtjambljmnifknaaGreatDoor.Vc
