/- Part 16 of the proof of TopAny: volume: look, join, Read · volume: Make · volume: Heads · slices.DeleteFunc over []int; volume: Mend · volume: bounds of what is read; Mend. -/
import Derived.Test.YtjambljmnifknaaGreatDoorJ15
set_option maxRecDepth 100000
set_option maxHeartbeats 80000000
set_option linter.all false
open Go.Proofs.Tryz
namespace Go.Proofs.YtjambljmnifknaaGreatDoor.Vc
open Go Go.RowKit Tp
open Dk (Arr Dsk)
def lookE(a:Arr)(v:Vol)(n:Int):Int:=if n<0 then 1 else if v.conf.st≤n then 1 else if Dk.powerE a≠0 then Dk.powerE a else if epV ((vstate a v n).map (·.2)) v.conf.k<0 then 10 else 0
def lookP(a:Arr)(v:Vol)(n:Int):Int:=if lookE a v n=0 then epV ((vstate a v n).map (·.2)) v.conf.k else 0
structure LookR(p:Pl)(a:Arr)(v:Vol)(n:Int)(H:Heap)(U:Nat→Prop)(u:Value)(H':Heap):Prop where
 out:∃ad1 n1 c1 ad2 n2 c2 w,u=.tuple #[.agg #[.slice ad1 n1 c1,.slice ad2 n2 c2],.int .i64 (lookP a v n),w,.int .i64 (lookE a v n)]∧(w.cells.toList=[w]∧oneCell w=true)∧
  ∃S',PaH p a H' S'∧Sub S' U H∧(lookE a v n=0→Own H' H.size 9 1 (.slice ad1 n1 c1) (vstate a v n).length (strV ((vstate a v n).map (·.1)))∧Own H' H.size 3 1 (.slice ad2 n2 c2) (vstate a v n).length (intV ((vstate a v n).map (·.2)))∧
   Own H' H.size 4 1 w (vstate a v n).length (boolV (ofV ((vstate a v n).map (·.2)) (lookP a v n)))∧(∀k,(Value.slice ad1 n1 c1).ownBlock=some k→¬S' k)∧(∀k,(Value.slice ad2 n2 c2).ownBlock=some k→¬S' k)∧(∀k,w.ownBlock=some k→¬S' k))
theorem powerE_01(a:Arr):Dk.powerE a=0∨Dk.powerE a=9:=by unfold Dk.powerE;split<;>simp
section
variable {p:Pl}{gv:Nat}{v:Vol}{a:Arr}{H:Heap}{U:Nat→Prop}
theorem s_vlook(h:AV p gv v a H U){B:Nat}(hB:Sm B a)(n:Int)(hnd:a.ds.length≤1000000):Spec prog 76 #[ptr gv 0,.int .i64 n] H U λu H'=>LookR p a v n H U u H':=by
 suffices hs:Spec prog 76 #[ptr gv 0,.int .i64 n] H U λu H'=>∃ad1 n1 c1 ad2 n2 c2 w,u=.tuple #[.agg #[.slice ad1 n1 c1,.slice ad2 n2 c2],.int .i64 (lookP a v n),w,.int .i64 (lookE a v n)]∧(w.cells.toList=[w]∧oneCell w=true)∧
  ∃S',PaH p a H' S'∧Sub S' U H∧(lookE a v n=0→Own H' H.size 9 1 (.slice ad1 n1 c1) (vstate a v n).length (strV ((vstate a v n).map (·.1)))∧Own H' H.size 3 1 (.slice ad2 n2 c2) (vstate a v n).length (intV ((vstate a v n).map (·.2)))∧
   Own H' H.size 4 1 w (vstate a v n).length (boolV (ofV ((vstate a v n).map (·.2)) (lookP a v n)))∧(∀k,(Value.slice ad1 n1 c1).ownBlock=some k→¬S' k)∧(∀k,(Value.slice ad2 n2 c2).ownBlock=some k→¬S' k)∧(∀k,w.ownBlock=some k→¬S' k)) from
  ⟨hs.good,λw hw=>(hs.out w hw).mono λe w' ⟨x,h1,h2,h3,h4⟩=>⟨x,h1,h2,h3,⟨h4⟩⟩⟩
 have hE:lookE a v n=if n<0 then 1 else if v.conf.st≤n then 1 else if Dk.powerE a≠0 then Dk.powerE a else if epV ((vstate a v n).map (·.2)) v.conf.k<0 then 10 else 0:=rfl
 have hP:lookP a v n=if lookE a v n=0 then epV ((vstate a v n).map (·.2)) v.conf.k else 0:=rfl
 generalize lookP a v n=lp at*
 generalize lookE a v n=le at*
 have hpw:=λ{X:Heap} {V:Nat→Prop} (hX:AV p gv v a X V)=>s_vpower hX
 have hp9:=powerE_01 a
 generalize Dk.powerE a=pw at hE hpw hp9
 have hst:=λ{X:Heap} {V:Nat→Prop} (hX:AV p gv v a X V)=>s_vstate hX hB n hnd
 have hsl:=vstate_len a v n
 generalize vstate a v n=st at*
 have hep:=λ{X:Heap} {u2:Value} (u1:Value) (h:Rd X u2 (intV (st.map (·.2))))=>s_sepoch u1 v.conf.k h (by simp;omega)
 generalize epV (st.map (·.2)) v.conf.k=ep at*
 have hof:=λ{X:Heap} {u2:Value} (u1:Value) (h:Rd X u2 (intV (st.map (·.2))))=>s_sof u1 ep h (by simp;omega)
 generalize cntB (ofV (st.map (·.2)) ep)=cn at hof
 refine spx func76 ?_
 conv=>whnf
 intro H1 g f1 _
 have hg1:H1[g]? =some (.cells #[.slice none 0 0,.slice none 0 0] 79 (0,0)):=f1.at
 have hgs:=f1.size
 have h1:=h.q f1.e
 have hnU:¬U g:=λe=>by have:=h.arr.lt g e;omega
 conv=>whnf
 refine⟨rfl,λh2=>?_,λh2=>?_⟩
 ·rw[if_pos h2] at hE
  rw[if_neg (by rw[hE];decide)] at hP
  subst hE hP
  conv=>whnf
  refine⟨[.slice none 0 0,.slice none 0 0],rfl,CellsAt.at hg1,?_⟩
  conv=>whnf
  refine .k ([.slice none 0 0,.slice none 0 0]) (hg1) (.inr (by show H.size≤g;omega)) rfl rfl ?_
  intro H2 u2 _
  refine⟨?_⟩
  conv=>whnf
  refine⟨[.slice none 0 0,.slice none 0 0],rfl,CellsAt.at u2.1,?_⟩
  exact⟨none,0,0,none,0,0,_,rfl,⟨rfl,rfl⟩,U,h1.arr.frm u2.e (λk hk (e:k=g)=>hnU (e▸hk)),Sub.refl _ _,λh=>absurd h (by decide)⟩
 rw[if_neg h2] at hE
 conv=>whnf
 refine⟨_,cel_of h1.vol rfl,?_⟩
 conv=>whnf
 refine⟨rfl,λh3=>?_,λh3=>?_⟩
 ·rw[if_pos h3] at hE
  rw[if_neg (by rw[hE];decide)] at hP
  subst hE hP
  conv=>whnf
  refine⟨[.slice none 0 0,.slice none 0 0],rfl,CellsAt.at hg1,?_⟩
  conv=>whnf
  refine .k ([.slice none 0 0,.slice none 0 0]) (hg1) (.inr (by show H.size≤g;omega)) rfl rfl ?_
  intro H2 u2 _
  refine⟨?_⟩
  conv=>whnf
  refine⟨[.slice none 0 0,.slice none 0 0],rfl,CellsAt.at u2.1,?_⟩
  exact⟨none,0,0,none,0,0,_,rfl,⟨rfl,rfl⟩,U,h1.arr.frm u2.e (λk hk (e:k=g)=>hnU (e▸hk)),Sub.refl _ _,λh=>absurd h (by decide)⟩
 rw[if_neg h3] at hE
 conv=>whnf
 refine .t (hpw h1) (λk h=>.inl h) ?_
 rintro _ H2 ⟨rfl,S2,ha2,hsb2⟩ e2 _
 have h2:=h1.step e2 ha2 hsb2
 have hg2:=e2.blkT hg1 hnU
 have hnS2:¬S2 g:=λe=>(hsb2 g e).elim hnU (λe=>by omega)
 have hsb2':Sub S2 U H:=λk hk=>(hsb2 k hk).imp id (λh=>by omega)
 conv=>whnf
 refine⟨rfl,λh4=>?_,λh4=>?_⟩
 ·have h4':pw≠0:=h4
  rw[if_pos h4'] at hE
  rw[if_neg (by rw[hE];exact h4')] at hP
  subst hE hP
  conv=>whnf
  refine⟨[.slice none 0 0,.slice none 0 0],rfl,CellsAt.at hg2,?_⟩
  conv=>whnf
  refine .k ([.slice none 0 0,.slice none 0 0]) (hg2) (.inr (by show H.size≤g;omega)) rfl rfl ?_
  intro H3 u3 _
  refine⟨?_⟩
  conv=>whnf
  refine⟨[.slice none 0 0,.slice none 0 0],rfl,CellsAt.at u3.1,?_⟩
  exact⟨none,0,0,none,0,0,_,rfl,⟨rfl,rfl⟩,S2,ha2.frm u3.e (λk hk (e:k=g)=>hnS2 (e▸hk)),hsb2',λh=>absurd h h4'⟩
 have h4':¬pw≠0:=λe=>e h4
 rw[if_neg h4'] at hE
 conv=>whnf
 refine .t (hst h2) (hsb2') ?_
 rintro _ H3 ⟨u1,u2,rfl,ho1,ho2,S3,ha3,hsb3,hp1,hp2⟩ e3 _
 have h3:=h2.step e3 ha3 hsb3
 have hg3:=e3.blkT hg2 hnS2
 have hgl:=(Qa.1 hg2).1
 have hnS3:¬S3 g:=λe=>(hsb3 g e).elim hnS2 (λe=>by omega)
 have hsb3':Sub S3 U H:=λk hk=>(hsb3 k hk).elim (hsb2' k) (λh=>.inr (by have:=e2.1;omega))
 obtain⟨ad1,c1,rfl⟩:=ho1.form
 obtain⟨ad2,c2,rfl⟩:=ho2.form
 have hH2:H.size≤H2.size:=by have:=e2.1;omega
 have hne1:∀k,(Value.slice ad1 st.length c1).ownBlock=some k→k≠g:=λk hk e=>by subst e;exact ho1.ne hg3 (by decide) hk
 have hne2:∀k,(Value.slice ad2 st.length c2).ownBlock=some k→k≠g:=λk hk e=>by subst e;exact ho2.ne hg3 (by decide) hk
 conv=>whnf
 refine .k ([.slice ad1 st.length c1,.slice ad2 st.length c2]) (hg3) (.inr (by show H.size≤g;omega)) rfl rfl ?_
 intro H4 u4 _
 have h4:AV p gv v a H4 S3:=h3.frm u4.e (λk hk (e:k=g)=>hnS3 (e▸hk)) (λ(e:gv=g)=>by have:=h.lt;omega)
 have ho14:=ho1.frm u4.e hne1
 have ho24:=ho2.frm u4.e hne2
 conv=>whnf
 refine .p nob (.take 0 (.take 1 (.take 2 (.take 3 (.take 4 (.take 5 (.one 6 (.take 7 .done)))))))) (λ_ h=>h.elim) (by kernel_rfl) ?_
 conv=>whnf
 refine⟨id,[.slice ad1 st.length c1,.slice ad2 st.length c2],rfl,by simp,CellsAt.at u4.1,?_⟩
 conv=>whnf
 refine⟨id,_,cel_of h4.vol rfl,?_⟩
 conv=>whnf
 refine .q (hep _ ho24.rd.1) ?_
 rintro _ H5 rfl e5 _
 have hg5:=e5.blk u4.1
 conv=>whnf
 refine⟨rfl,λh6=>?_,λh6=>?_⟩
 ·rw[if_pos h6] at hE
  rw[if_neg (by rw[hE];decide)] at hP
  subst hE hP
  conv=>whnf
  refine⟨[.slice ad1 st.length c1,.slice ad2 st.length c2],rfl,CellsAt.at hg5,?_⟩
  conv=>whnf
  refine .k ([.slice ad1 st.length c1,.slice ad2 st.length c2]) (hg5) (.inr (by show H.size≤g;omega)) rfl rfl ?_
  intro H6 u6 _
  refine⟨?_⟩
  conv=>whnf
  refine⟨[.slice ad1 st.length c1,.slice ad2 st.length c2],rfl,CellsAt.at u6.1,?_⟩
  exact⟨_,_,_,_,_,_,_,rfl,⟨rfl,rfl⟩,S3,(h4.q e5).arr.frm u6.e (λk hk (e:k=g)=>hnS3 (e▸hk)),hsb3',λh=>absurd h (by decide)⟩
 rw[if_neg h6] at hE
 rw[if_pos hE] at hP
 subst hE hP
 conv=>whnf
 refine⟨[.slice ad1 st.length c1,.slice ad2 st.length c2],rfl,CellsAt.at hg5,?_⟩
 conv=>whnf
 refine .q (hof _ (ho24.q e5).rd.1) ?_
 rintro _ H6 ⟨w,rfl,how⟩ e6 _
 have hg6:=e6.blk hg5
 have h6':=(h4.q e5).q e6
 conv=>whnf
 refine⟨[.slice ad1 st.length c1,.slice ad2 st.length c2],rfl,CellsAt.at hg6,?_⟩
 conv=>whnf
 refine .k ([.slice ad1 st.length c1,.slice ad2 st.length c2]) (hg6) (.inr (by show H.size≤g;omega)) rfl rfl ?_
 intro H7 u7 _
 refine⟨?_⟩
 conv=>whnf
 refine⟨[.slice ad1 st.length c1,.slice ad2 st.length c2],rfl,CellsAt.at u7.1,?_⟩
 rw[Qv] at how
 have h35:H3.size≤H5.size:=by have:=u4.2.1;have:=e5.1;omega
 have h23:=e3.1
 refine⟨_,_,_,_,_,_,_,rfl,how.slc,S3,h6'.arr.frm u7.e (λk hk (e:k=g)=>hnS3 (e▸hk)),hsb3',λ_=>⟨(((ho14.q e5).q e6).frm u7.e hne1).low hH2,(((ho24.q e5).q e6).frm u7.e hne2).low hH2,(how.frm u7.e (λk hk (e:k=g)=>how.ne hg6 (by decide) (e▸hk))).low (by omega),hp1,hp2,λk hk hS=>?_⟩⟩
 have:=(how.ge k hk).1
 have:=ha3.lt k hS
 omega
theorem stF_row(a:Arr)(v:Vol)(pl:Int):∀q d,∀x∈stF a v pl q d,x.1=[]∨(x.1.length:Int)=v.conf.sh
 |0,_,_,h=>by simp[stF] at h
 |q+1,d,x,h=>by
  unfold stF at h
  rcases QB.1 h with rfl|h
  ·unfold stOne
   repeat' split
   ·exact .inl rfl
   ·rename_i h;exact .inr (YR.1 h)
   ·exact .inl rfl
  ·exact stF_row a v pl q (d+1) x h
theorem vstate_row(a:Arr)(v:Vol)(n:Int):∀x∈vstate a v n,x.1=[]∨(x.1.length:Int)=v.conf.sh:=by
 unfold vstate
 exact stF_row a v _ _ _
def vjoin(v:Vol)(st:List (By×Int))(hv:List Bool):By×Int:=if(joinV v.conf (st.map (·.1)) hv).2≠0 then([],10) else((joinV v.conf (st.map (·.1)) hv).1,0)
theorem s_vjoin{X:Heap}(h:X[gv]? =some (.cells (volL p.ga v).toArray 70 (0,0)))(st:List (By×Int))(hv:List Bool){u1 u2 w:Value}(h1:Rd X u1 (strV (st.map (·.1))))(h2:Rd X w (boolV hv))(hn:st.length≤255)(hnb:hv.length≤1000000)(hr:∀x∈st,x.1.length≤1000000):
  Spec prog 77 #[ptr gv 0,.agg #[u1,u2],w] X nob λu _=>u=.tuple #[.string (S (vjoin v st hv).1),.int .i64 (vjoin v st hv).2]:=by
 have hJ:vjoin v st hv=if(joinV v.conf (st.map (·.1)) hv).2≠0 then([],10) else((joinV v.conf (st.map (·.1)) hv).1,0):=rfl
 generalize vjoin v st hv=j at hJ⊢
 have hj:=λ{Y:Heap} (hY:Frm nob X Y)=>s_sjoin v.conf (st.map (·.1)) hv (h1.q hY) (h2.q hY) (by simpa using hn) hnb (λr hr'=>by
  obtain⟨x,hx,rfl⟩:=Qw.1 hr'
  exact hr x hx)
 generalize joinV v.conf (st.map (·.1)) hv=jj at hJ hj
 have hc:CellsAt X gv 1 (cfL v.conf):=⟨cel_of h rfl,cel_of h rfl,cel_of h rfl,cel_of h rfl,cel_of h rfl,trivial⟩
 refine spx func77 ?_
 conv=>whnf
 intro H1 g f1 _
 have hg1:H1[g]? =some (.cells #[u1,u2] 79 (0,0)):=f1.at
 conv=>whnf
 refine .p nob (.take 0 (.take 1 (.take 2 (.take 3 (.take 4 (.take 5 (.take 6 (.one 7 (.take 8 (.take 9 (.take 10 (.take 11 (.take 12 .done))))))))))))) (λ_ h=>h.elim) (by kernel_rfl) ?_
 conv=>whnf
 refine⟨id,cfL v.conf,rfl,by simp[cfL],cells_keep f1.e id hc,?_⟩
 conv=>whnf
 refine⟨id,_,cel_of hg1 rfl,?_⟩
 conv=>whnf
 refine .q (hj f1.e) ?_
 rintro _ H2 rfl e2 _
 conv=>whnf
 refine⟨rfl,λh3=>?_,λh3=>?_⟩
 ·rw[if_pos h3] at hJ
  subst hJ
  exact⟨rfl⟩
 ·rw[if_neg (λe=>e h3)] at hJ
  subst hJ
  exact⟨rfl⟩
def vReadV(a:Arr)(v:Vol)(n:Int):By×Int:=if lookE a v n≠0 then([],lookE a v n) else vjoin v (vstate a v n) (ofV ((vstate a v n).map (·.2)) (lookP a v n))
theorem s_vread(h:AV p gv v a H U){B:Nat}(hB:Sm B a)(n:Int)(hnd:a.ds.length≤255)(hc:cfOk v.conf):
  Spec prog 43 #[ptr gv 0,.int .i64 n] H U λu H'=>u=.tuple #[.string (S (vReadV a v n).1),.int .i64 (vReadV a v n).2]∧∃S',PaH p a H' S'∧Sub S' U H:=by
 have hb:=hc.b
 have hR:vReadV a v n=if lookE a v n≠0 then([],lookE a v n) else vjoin v (vstate a v n) (ofV ((vstate a v n).map (·.2)) (lookP a v n)):=rfl
 generalize vReadV a v n=rv at hR⊢
 have hlk:=s_vlook h hB n (by omega)
 refine spx func43 ?_
 conv=>whnf
 refine .t (hlk) (λk h=>.inl h) ?_
 rintro _ H1 ⟨ad1,n1,c1,ad2,n2,c2,w,rfl,_,S1,ha1,hsb1,hof⟩ e1 _
 have h1:=h.step e1 ha1 hsb1
 have hsr:=vstate_row a v n
 have hsl:=vstate_len a v n
 generalize vstate a v n=st at*
 generalize lookP a v n=lp at*
 generalize lookE a v n=le at*
 conv=>whnf
 intro H2 g f2 _
 have hg2:H2[g]? =some (.cells #[.slice none 0 0,.slice none 0 0] 79 (0,0)):=f2.at
 have hgs:=f2.size
 have hnS:¬S1 g:=λe=>by have:=ha1.lt g e;omega
 have h12:=e1.1
 conv=>whnf
 refine .k ([.slice ad1 n1 c1,.slice ad2 n2 c2]) (hg2) (.inr (by show H.size≤g;omega)) rfl rfl ?_
 intro H3 u3 _
 have h3:AV p gv v a H3 S1:=(h1.q f2.e).frm u3.e (λk hk (e:k=g)=>hnS (e▸hk)) (λ(e:gv=g)=>by have:=h1.lt;omega)
 conv=>whnf
 refine⟨rfl,λh4=>?_,λh4=>?_⟩
 ·have h4':le≠0:=h4
  rw[if_pos h4'] at hR
  subst hR
  exact⟨rfl,S1,h3.arr,hsb1⟩
 ·have h4':¬le≠0:=λe=>e h4
  rw[if_neg h4'] at hR
  obtain⟨ho1,ho2,how,_⟩:=hof h4
  have hne:∀{e:TypeId} {sz nn:Nat} {vv:Value} {xs:List Value},Own H1 H.size e sz vv nn xs→Own H3 H.size e sz vv nn xs:=λho=>(ho.q f2.e).frm u3.e (λk hk (e:k=g)=>by have:=(ho.ge k hk).2;omega)
  have hrw:∀x∈st,x.1.length≤1000000:=λx hx=>by
   rcases hsr x hx with h|h
   ·rw[h];simp
   ·omega
  have hj:=s_vjoin (p:=p) (u2:=.slice ad2 n2 c2) h3.vol st (ofV (st.map (·.2)) lp) (hne ho1).rd.1 (hne how).rd.1 (by omega) (by rw[ofV_len];simp;omega) hrw
  rw[←hR] at hj
  conv=>whnf
  refine⟨[.slice ad1 n1 c1,.slice ad2 n2 c2],rfl,CellsAt.at u3.1,?_⟩
  conv=>whnf
  refine .q (hj) ?_
  rintro _ H4 rfl e4 _
  exact⟨rfl,S1,h3.arr.q e4,hsb1⟩
end
attribute [irreducible] lookE lookP vjoin vReadV
theorem Sub.up{S S' U:Nat→Prop}{A B:Heap}(h:Sub S' S B)(k:Sub S U A)(hs:A.size≤B.size):Sub S' U A:=λi hi=>(h i hi).elim (k i) λe=>.inr (Qb hs e)
theorem Spec.imp{P:Program}{f:FuncId}{args:Array Value}{H:Heap}{T:Nat→Prop}{R R':KK}(h:Spec P f args H T R)(k:∀v H',R v H'→R' v H'):Spec P f args H T R':=
 ⟨h.good,λw hw=>(h.out w hw).mono λ_ _ ⟨v,h1,h2,h3,h4⟩=>⟨v,h1,h2,h3,k _ _ h4⟩⟩
theorem s_valive'{p:Pl}{gv:Nat}{v:Vol}{a:Arr}{H:Heap}{U:Nat→Prop}(h:AV p gv v a H U)(m:Int)(hm:m≤1000000):
  Spec prog 33 #[ptr gv 0,.int .i64 m] H U λu H'=>∃ad cap,u=.slice ad (aliveL a m).length cap∧Own H' H.size 3 1 (.slice ad (aliveL a m).length cap) (aliveL a m).length (intV (aliveL a m))∧∃S',PaH p a H' S'∧Sub S' U H∧(∀k,(Value.slice ad (aliveL a m).length cap).ownBlock=some k→¬S' k):=
 (s_valive h m hm).imp λu H' ⟨ho,hr⟩=>by
  obtain⟨ad,cap,rfl⟩:=ho.form
  exact⟨ad,cap,rfl,ho,hr⟩
theorem LoopVC.g{vb:Env→Heap→KX→Prop}{ws:List Nat}{env:Env}{H:Heap}{K:KX}{S:Nat→Prop}{H0:Heap}(l:List (Nat×Value))(hl:EnvHas env l)(h:∀(env0:Env) (K':KX),(∀e env' H',K e env' H'→K' e env' H')→LoopVC vb ws (over l [] env0 env0) H K' S H0):LoopVC vb ws env H K S H0:=by
 have:=h env K λ_ _ _ h=>h
 rwa[over_self (ws:=[]) hl λ_ _=>rfl] at this
theorem CallVC.tb{c:Ctx}{g:FuncId}{args:Array Value}{H:Heap}{K:KK}{T:Nat→Prop}{b:Bool}{R:Heap→Prop}(h:Spec c.P g args H T λu H'=>u=.bool b∧R H')(hT:∀k,T k→c.S k∨c.H0.size≤k)
  (k1:b=true→∀H',R H'→Frm T H H'→Frm c.S c.H0 H'→K (.bool true) H') (k2:b=false→∀H',R H'→Frm T H H'→Frm c.S c.H0 H'→K (.bool false) H'):CallVC c g args H K:=
 .t h hT λv H' ⟨e,hr⟩ h1 h2=>by
  subst e
  cases b
  ·exact k2 rfl H' hr h1 h2
  ·exact k1 rfl H' hr h1 h2
def putC(v:Vol)(t:By):List Int→Arr→Int×Arr
 |[],a=>(0,a)
 |d::ds,a=>if vputE a v d 0 0 t≠0 then(vputE a v d 0 0 t,vputA a v d 0 0 t) else putC v t ds (vputA a v d 0 0 t)
theorem putC_sm(v:Vol)(t:By):∀(ds:List Int) {B:Nat} {a:Arr},Sm B a→Sm (B+ds.length) (putC v t ds a).2
 |[],_,_,h=>h
 |d::ds,B,a,h=>by
  unfold putC
  have h1:=vputA_sm h v d 0 0 t
  split
  ·exact h1.mono (by simp)
  ·exact(putC_sm v t ds h1).mono (by simp;omega)
def stripesF(v:Vol)(all:List Int):Nat→Nat→Arr→Int×Arr
 |0,_,a=>(0,a)
 |q+1,n,a=>if(shardsV a v n 0 [] all).1≠0 then shardsV a v n 0 [] all else stripesF v all q (n+1) (shardsV a v n 0 [] all).2
theorem stripesF_sm(v:Vol)(all:List Int):∀(q n:Nat) {B:Nat} {a:Arr},Sm B a→Sm (B+q*all.length) (stripesF v all q n a).2
 |0,_,_,_,h=>h.mono (by omega)
 |q+1,n,B,a,h=>by
  unfold stripesF
  have h1:=shardsV_sm v n 0 [] all h
  have h2:(q+1)*all.length=q*all.length+all.length:=Q6 _ _
  split
  ·exact h1.mono (by omega)
  ·exact(stripesF_sm v all q (n+1) h1).mono (by omega)
def vmakeV(a:Arr)(c:Cf)(id:Int):Int×Arr:=
 if ¬cfOk c then(1,a) else if(a.ds.length:Int)≠cfDisks c then(1,a) else if id<0 then(1,a) else if 4294967295<id then(1,a) else
 if a.down=true then(9,a) else if(aliveL a a.ds.length).length<a.ds.length then(8,a) else
 if(putC ⟨c,id,0⟩ (cfW c) (aliveL a a.ds.length) a).1≠0 then putC ⟨c,id,0⟩ (cfW c) (aliveL a a.ds.length) a else
 if(stripesF ⟨c,id,0⟩ (aliveL a a.ds.length) c.st.toNat 0 (putC ⟨c,id,0⟩ (cfW c) (aliveL a a.ds.length) a).2).1≠0 then stripesF ⟨c,id,0⟩ (aliveL a a.ds.length) c.st.toNat 0 (putC ⟨c,id,0⟩ (cfW c) (aliveL a a.ds.length) a).2 else
 (Dk.powerE (stripesF ⟨c,id,0⟩ (aliveL a a.ds.length) c.st.toNat 0 (putC ⟨c,id,0⟩ (cfW c) (aliveL a a.ds.length) a).2).2,Dk.aflushed (stripesF ⟨c,id,0⟩ (aliveL a a.ds.length) c.st.toNat 0 (putC ⟨c,id,0⟩ (cfW c) (aliveL a a.ds.length) a).2).2)
theorem putV_len(n:Int)(k:Nat):(L (putV n k)).length≤k:=by
 unfold putV
 split
 ·simp[L]
 ·rw[putB_L,L_S]
  simp[Tp.putL]
theorem cfW_len(c:Cf):(cfW c).length≤1000:=by
 unfold cfW
 split
 ·have:=λn=>putV_len n 2
  simp only[Qi,putsL,QX,YG,Ze,List.flatten_nil,Q0,put2]
  have h1:=this c.k
  have h2:=this c.m
  have h3:=this c.sh
  have h4:=this c.st
  have h5:=this c.sl
  have h6:mCONF.length=4:=rfl
  omega
 ·simp
section
variable {p:Pl}{a:Arr}{H:Heap}{U:Nat→Prop}
theorem s_vmake(h:PaH p a H U){B:Nat}(hB:Sm B a)(hBB:B≤500000)(c:Cf)(id:Int)(hnd:a.ds.length≤255):
  Spec prog 88 #[ptr p.ga 0,cfV c,.int .i64 id] H U λu H'=>∃pv,u=.tuple #[pv,.int .i64 (vmakeV a c id).1]∧∃S',PaH p (vmakeV a c id).2 H' S'∧Sub S' U H∧((vmakeV a c id).1=0→∃gv,pv=ptr gv 0∧H.size≤gv∧AV p gv ⟨c,id,0⟩ (vmakeV a c id).2 H' S')∧((vmakeV a c id).1≠0→pv=.pointer none):=by
 obtain⟨tot,htot⟩:∃t,vmakeV a c id=t:=⟨_,rfl⟩
 rw[htot]
 unfold vmakeV at htot
 obtain⟨al,hal⟩:∃l,aliveL a a.ds.length=l:=⟨_,rfl⟩
 have hall:=aliveL_len a a.ds.length
 have halm:=λ{x:Int} (h:x∈aliveL a a.ds.length)=>aliveL_mem h
 have hva:=λ{gv:Nat} {v:Vol} {X:Heap} {V:Nat→Prop} (hX:AV p gv v a X V)=>s_valive' hX (a.ds.length:Int) (by omega)
 rw[hal] at htot hall hva
 simp only[hal] at halm
 have hC:=putC_sm ⟨c,id,0⟩ (cfW c) (aliveL a a.ds.length) hB
 obtain⟨pc,hpc⟩:∃t,putC ⟨c,id,0⟩ (cfW c) (aliveL a a.ds.length) a=t:=⟨_,rfl⟩
 rw[hal] at hpc hC
 rw[hpc] at htot hC
 obtain⟨sf,hsf⟩:∃t,stripesF ⟨c,id,0⟩ al c.st.toNat 0 pc.2=t:=⟨_,rfl⟩
 have hSF:=stripesF_sm ⟨c,id,0⟩ al c.st.toNat 0 hC
 rw[hsf] at htot hSF
 have hcw:=λH=>s_cwrite c H
 have hwl:=cfW_len c
 generalize cfW c=hs at htot hcw hwl hpc
 have hdn:=λ{X:Heap} {V:Nat→Prop} (hX:PaH p a X V)=>s_adown hX
 have hdk:=λ{X:Heap} {V:Nat→Prop} (hX:PaH p a X V)=>s_adisks hX
 refine spx func88 ?_
 conv=>whnf
 intro H1 g f1 _
 have hg1:H1[g]? =some (.cells (cfL c).toArray 23 (0,0)):=f1.at
 have hgs:=f1.size
 have h1:=h.q f1.e
 have hgs':=f1.e.1
 have hnU:¬U g:=λe=>by have:=h.lt g e;omega
 conv=>whnf
 refine .p U (.take 0 (.take 1 (.take 2 (.take 3 (.one 4 (.take 5 (.take 6 (.take 7 (.take 8 (.take 10 (.one 9 (.one 11 (.take 12 (.take 13 (.take 14 (.take 15 (.take 16 (.take 17 (.take 18 (.take 19 (.take 20 (.take 21 .done)))))))))))))))))))))) (λ_ h=>.inl h) (by kernel_rfl) ?_
 conv=>whnf
 refine⟨hnU,cfL c,rfl,by simp[cfL],CellsAt.new f1,?_⟩
 conv=>whnf
 refine .q (s_check c _) ?_
 rintro _ H2 rfl e2 _
 have h2:=h1.q e2
 have hg2:=e2.blk hg1
 conv=>whnf
 refine⟨rfl,λh3=>?_,λh3=>?_⟩
 ·have hno:¬cfOk c:=λe=>h3 (cfE0.2 e)
  rw[if_pos hno] at htot
  subst htot
  conv=>whnf
  exact⟨_,rfl,U,h2,Sub.refl _ _,λe=>absurd (show(1:Int)=0 from e) (by decide),λ_=>rfl⟩
 have hok:=cfE0.1 h3
 have hb:=hok.b
 rw[if_neg (λe=>e hok)] at htot
 conv=>whnf
 refine⟨hnU,cfL c,rfl,by simp[cfL],CellsAt.at hg1,?_⟩
 conv=>whnf
 refine .t (hdk h2) (λk h=>.inl h) ?_
 rintro _ H3 ⟨rfl,S3,h3,hs3⟩ e3 _
 have hg3:=e3.blkT hg2 hnU
 have hs3':Sub S3 U H:=hs3.up (Sub.refl _ _) (by have:=f1.e.1;have:=e2.1;omega)
 conv=>whnf
 refine .q (s_disks c _) ?_
 rintro _ H4 rfl e4 _
 have h4:=h3.q e4
 have hg4:=e4.blk hg3
 have hgS3:¬S3 g:=λe=>(hs3 g e).elim hnU (λe=>by have:=e2.1;omega)
 conv=>whnf
 refine⟨rfl,λh5=>?_,λh5=>?_⟩
 ·rw[if_pos h5] at htot
  subst htot
  conv=>whnf
  exact⟨_,rfl,S3,h4,hs3',λe=>absurd (show(1:Int)=0 from e) (by decide),λ_=>rfl⟩
 have h5':¬(a.ds.length:Int)≠cfDisks c:=λe=>e h5
 rw[if_neg h5'] at htot
 conv=>whnf
 refine⟨rfl,λh6=>?_,λh6=>?_⟩
 ·rw[if_pos h6] at htot
  subst htot
  conv=>whnf
  exact⟨_,rfl,S3,h4,hs3',λe=>absurd (show(1:Int)=0 from e) (by decide),λ_=>rfl⟩
 rw[if_neg h6] at htot
 conv=>whnf
 refine⟨rfl,λh7=>?_,λh7=>?_⟩
 ·rw[if_pos h7] at htot
  subst htot
  conv=>whnf
  exact⟨_,rfl,S3,h4,hs3',λe=>absurd (show(1:Int)=0 from e) (by decide),λ_=>rfl⟩
 rw[if_neg h7] at htot
 have h5d:(a.ds.length:Int)=cfDisks c:=h5
 conv=>whnf
 refine⟨cfL c,rfl,CellsAt.at hg4,?_⟩
 conv=>whnf
 refine⟨rfl,?_⟩
 conv=>whnf
 intro H5 gv f5 _
 have hgv5:H5[gv]? =some (.cells (volL p.ga ⟨c,id,0⟩).toArray 70 (0,0)):=f5.at
 have hvs:=f5.size
 have hg5:=f5.e.blk hg4
 have hgl:=(Qa.1 hg4).1
 have h5:AV p gv ⟨c,id,0⟩ a H5 S3:=⟨hgv5,h4.q f5.e,λe=>by have:=h4.lt gv e;omega⟩
 have h15:H.size≤gv:=by omega
 have s5:Sub S3 U H:=hs3'
 conv=>whnf
 refine .t (hdk h5.arr) (s5) ?_
 rintro _ H6 ⟨rfl,S6,ha6,hs6⟩ e6 _
 have h6:=h5.step e6 ha6 hs6
 have hg6:=e6.blkT hg5 hgS3
 have hgS6:¬S6 g:=λe=>(hs6 g e).elim hgS3 (λe=>by omega)
 have s6:Sub S6 U H:=hs6.up s5 (by omega)
 conv=>whnf
 refine .t (hva h6) (s6) ?_
 rintro _ H7 ⟨wad,wcap,rfl,how,S7,ha7,hs7,hw7⟩ e7 _
 have h7:=h6.step e7 ha7 hs7
 have hg7:=e7.blkT hg6 hgS6
 have hgS7:¬S7 g:=λe=>(hs7 g e).elim hgS6 (λe=>by have:=e6.1;omega)
 have h67:H5.size≤H6.size:=e6.1
 have s7:Sub S7 U H:=hs7.up s6 (by omega)
 conv=>whnf
 refine .tb (hdn h7.arr) s7 ?_ ?_
 ·rintro hd H8 ⟨S8,ha8,hs8⟩ e8 _
  have s8:Sub S8 U H:=hs8.up s7 (by have:=e7.1;omega)
  rw[if_pos hd] at htot
  subst htot
  conv=>whnf
  exact⟨_,rfl,S8,ha8,s8,λe=>absurd (show(9:Int)=0 from e) (by decide),λ_=>rfl⟩
 ·rintro hd H8 ⟨S8,ha8,hs8⟩ e8 _
  have h77:=e7.1
  have s8:Sub S8 U H:=hs8.up s7 (by omega)
  rw[if_neg (by rw[hd];decide)] at htot
  have h8:=h7.step e8 ha8 hs8
  have hg8:=e8.blkT hg7 hgS7
  have hgS8:¬S8 g:=λe=>(hs8 g e).elim hgS7 (λe=>by omega)
  have hp8:=how.past hw7 e8 hs8
  have how8:=hp8.1
  have hw8:=hp8.2
  conv=>whnf
  refine .t (hdk h8.arr) (s8) ?_
  rintro _ H9 ⟨rfl,S9,ha9,hs9⟩ e9 _
  have h88:=e8.1
  have s9:Sub S9 U H:=hs9.up s8 (by omega)
  have h9:=h8.step e9 ha9 hs9
  have hg9:=e9.blkT hg8 hgS8
  have hgS9:¬S9 g:=λe=>(hs9 g e).elim hgS8 (λe=>by omega)
  have hp9:=how8.past hw8 e9 hs9
  have how9:=hp9.1
  have hw9:=hp9.2
  conv=>whnf
  refine⟨rfl,λh10=>?_,λh10=>?_⟩
  ·rw[if_pos (by have h10':((al.length:Nat):Int)<(a.ds.length:Int):=h10;omega)] at htot
   subst htot
   conv=>whnf
   exact⟨_,rfl,S9,ha9,s9,λe=>absurd (show(8:Int)=0 from e) (by decide),λ_=>rfl⟩
  have hlen:¬al.length<a.ds.length:=by have h10':¬((al.length:Nat):Int)<(a.ds.length:Int):=h10;omega
  rw[if_neg hlen] at htot
  conv=>whnf
  refine⟨cfL c,rfl,CellsAt.at hg9,?_⟩
  conv=>whnf
  refine .q (hcw _) ?_
  rintro _ H10 rfl e10 _
  have h10:=h9.q e10
  have hg10:=e10.blk hg9
  have how10:=how9.q e10
  have hmb:∀d∈al,0≤d∧d<cfDisks c:=λd hd=>by have:=halm hd;omega
  have hnd1:al.length≤255:=by omega
  clear hva hall halm
  have hgl10:=(Qa.1 hg10).1
  have hgvg:gv≠g:=by omega
  have hput:=λ{X:Heap} {V:Nat→Prop} {b1:Arr} {B1:Nat} (hX:AV p gv ⟨c,id,0⟩ b1 X V) (hs1:Sm B1 b1) (hB1:B1≤1000000) (d:Int) (hd:d∈al)=>s_vput hX (hs1.mono hB1) d 0 0 hs ⟨by show id≤_;omega,by show d≤_;have:=hmb d hd;omega,by show(0:Int)≤_;omega,by show(0:Int)≤_;omega,by show hs.length≤_;omega⟩
  have h9s:H.size≤H9.size:=by have:=e9.1;omega
  conv=>whnf
  refine .g [(0,ptr p.ga 0),(4,ptr g 0),(8,ptr gv 0),(9,.slice wad al.length wcap),(10,.string (S hs)),(63,.slice wad al.length wcap),(64,.int .i64 (al.length:Int)),(65,.int .i64 0)] ⟨rfl,rfl,rfl,rfl,rfl,rfl,rfl,rfl,trivial⟩ λenv0 KL hKL=>?_
  refine⟨Nat×List Int×Arr,λx=>[(65,.int .i64 (x.1:Int))],λx H'=>x.1+x.2.1.length=al.length∧al.drop x.1=x.2.1∧putC ⟨c,id,0⟩ hs x.2.1 x.2.2=pc∧Sm (B+x.1) x.2.2∧Own H' H6.size 3 1 (.slice wad al.length wcap) al.length (intV al)∧H'[g]? =some (.cells (cfL c).toArray 23 (0,0))∧
   ∃S',AV p gv ⟨c,id,0⟩ x.2.2 H' S'∧Sub S' U H∧¬S' g∧(∀k,(Value.slice wad al.length wcap).ownBlock=some k→¬S' k),λx=>x.2.1.length,
   ⟨(0,al,a),⟨rfl,trivial⟩,by simp,rfl,hpc,hB,how10,hg10,S9,h10,s9,hgS9,hw9⟩,?_⟩
  rintro⟨i,r,a1⟩ HA junk ⟨hi,hdr,hto,hB1,howA,hgA,SA,hA,sA,hgSA,hwA⟩ FA
  dsimp only at hi hdr hto hB1 hA
  conv=>whnf
  refine⟨rfl,λh3=>?_,λh3=>?_⟩
  ·have h':i<al.length:=by have:(i:Int)<(al.length:Int):=h3;omega
   cases r with
   |nil=>simp at hi;omega
   |cons d r=>
    have hy:al[i]? =some d:=by
     have:=Qf (·[0]?) hdr
     simpa using this
    have hdr':al.drop (i+1)=r:=by
     have:=Qf List.tail hdr
     simpa using this
    unfold putC at hto
    have hpu:=λ{X:Heap} {V:Nat→Prop} (hX:AV p gv ⟨c,id,0⟩ a1 X V)=>hput hX hB1 (by omega) d (Qj hy)
    have hsm:=vputA_sm hB1 ⟨c,id,0⟩ d 0 0 hs
    generalize vputE a1 ⟨c,id,0⟩ d 0 0 hs=pe at hto hpu
    generalize vputA a1 ⟨c,id,0⟩ d 0 0 hs=a2 at hto hpu hsm
    have hic:=howA.gint
    refine Qh hic λad2 hic=>Qh hic λcap2 hic=>?_
    have hwe:=hic.1
    cases hwe
    have hic2:=hic.2 i _ hy
    refine Qh hic2 λib hic2=>Qh hic2 λio hic2=>?_
    have hic1:=hic2.1
    subst hic1
    conv=>whnf
    refine⟨i,rfl,h',?_⟩
    conv=>whnf
    refine⟨_,hic2.2,?_⟩
    conv=>whnf
    refine .t (hpu hA) (sA) ?_
    rintro _ HB ⟨rfl,SB,haB,hsB⟩ eB _
    have hB:=hA.step eB haB hsB
    have hpB:=howA.past hwA eB hsB
    have sB:Sub SB U H:=hsB.up sA FA.1
    conv=>whnf
    refine⟨rfl,λh5=>?_,λh5=>?_⟩
    ·rw[if_pos h5] at hto
     have hpn:pc.1≠0:=by rw[←hto];exact h5
     rw[if_pos hpn] at htot
     refine hKL _ _ _ ?_
     conv=>whnf
     rw[←htot,←hto]
     exact⟨_,rfl,SB,haB,sB,λe=>absurd e h5,λ_=>rfl⟩
    ·rw[if_neg (λe=>e h5)] at hto
     conv=>whnf
     refine⟨rfl,((i+1:Nat):Int),wr64 (by omega) (by omega),?_⟩
     exact⟨(i+1,r,a2),⟨rfl,trivial⟩,⟨by simp at hi⊢;omega,hdr',hto,hsm.mono (by omega),hpB.1,eB.blkT hgA hgSA,SB,hB,sB,λe=>(hsB g e).elim hgSA (λe=>by have:=(Qa.1 hgA).1;omega),hpB.2⟩,by show r.length<r.length+1;omega⟩
  ·have hr0:r=[]:=Qm (by have:¬(i:Int)<(al.length:Int):=h3;omega)
   rw[hr0] at hto
   unfold putC at hto
   have hpn:¬pc.1≠0:=by rw[←hto];exact λe=>e rfl
   have hpa:a1=pc.2:=by rw[←hto]
   rw[if_neg hpn] at htot
   refine hKL _ _ _ ?_
   conv=>whnf
   refine⟨_,cel_of hgA rfl,?_⟩
   conv=>whnf
   refine .g [(0,ptr p.ga 0),(8,ptr gv 0),(9,.slice wad al.length wcap),(78,.int .i64 c.st),(79,.int .i64 0)] ⟨rfl,rfl,rfl,rfl,rfl,trivial⟩ λenv1 KM hKM=>?_
   refine⟨Nat×Arr,λx=>[(79,.int .i64 (x.1:Int))],λx H'=>x.1≤c.st.toNat∧stripesF ⟨c,id,0⟩ al (c.st.toNat-x.1) x.1 x.2=sf∧Sm (B+al.length+x.1*al.length) x.2∧Own H' H6.size 3 1 (.slice wad al.length wcap) al.length (intV al)∧
    ∃S',AV p gv ⟨c,id,0⟩ x.2 H' S'∧Sub S' U H∧(∀k,(Value.slice wad al.length wcap).ownBlock=some k→¬S' k),λx=>c.st.toNat-x.1,
    ⟨(0,a1),⟨rfl,trivial⟩,Qk _,by rw[hpa];exact hsf,by rw[hpa];exact hC.mono (by omega),howA,SA,hA,sA,hwA⟩,?_⟩
   rintro⟨n,a2⟩ HB junk2 ⟨hn,hto2,hB2,howB,SB,hB,sB,hwB⟩ FB
   dsimp only at hn hto2 hB2 hB
   conv=>whnf
   refine⟨rfl,λh4=>?_,λh4=>?_⟩
   ·have hn':n<c.st.toNat:=by have:(n:Int)<c.st:=h4;omega
    rw[show c.st.toNat-n=(c.st.toNat-(n+1))+1 by omega,stripesF] at hto2
    have hmul:n*al.length≤1000*255:=Q9 (by omega) hnd1
    have hsm:=shardsV_sm ⟨c,id,0⟩ n 0 [] al hB2
    have hmul2:(n+1)*al.length=n*al.length+al.length:=Q6 _ _
    have hsh:=s_vshards hB hB2 (n:Int) 0 [] (by simp) (by omega) (by show id≤_;omega) howB hwB hmb (by omega)
    conv=>whnf
    refine .t hsh sB ?_
    rintro _ HC ⟨rfl,SC,haC,hsC⟩ eC _
    have sC:Sub SC U H:=hsC.up sB FB.1
    have hpC:=howB.past hwB eC hsC
    conv=>whnf
    refine⟨rfl,λh5=>?_,λh5=>?_⟩
    ·rw[if_pos h5] at hto2
     have hpn2:sf.1≠0:=by rw[←hto2];exact h5
     rw[if_pos hpn2] at htot
     refine hKM _ _ _ ?_
     conv=>whnf
     rw[←htot,←hto2]
     exact⟨_,rfl,SC,haC,sC,λe=>absurd e h5,λ_=>rfl⟩
    ·rw[if_neg (λe=>e h5)] at hto2
     conv=>whnf
     refine⟨rfl,((n+1:Nat):Int),wr64 (by omega) (by omega),?_⟩
     exact⟨(n+1,_),⟨rfl,trivial⟩,⟨hn',hto2,hsm.mono (by show _≤B+al.length+(n+1)*al.length;omega),hpC.1,SC,hB.step eC haC hsC,sC,hpC.2⟩,by show c.st.toNat-(n+1)<c.st.toNat-n;omega⟩
   ·have hn':c.st.toNat-n=0:=by have:¬(n:Int)<c.st:=h4;omega
    rw[hn',stripesF] at hto2
    have hpn2:¬sf.1≠0:=by rw[←hto2];exact λe=>e rfl
    have hpa2:a2=sf.2:=by rw[←hto2]
    rw[if_neg hpn2] at htot
    have hmul:n*al.length≤1000*255:=Q9 (by omega) hnd1
    have hfl:=s_aflush (hB2.mono (by omega)) hB.arr
    have hpw:=powerE_01 a2
    refine hKM _ _ _ ?_
    conv=>whnf
    refine .t hfl sB ?_
    rintro _ HC ⟨rfl,SC,haC,hsC⟩ eC _
    have sC:Sub SC U H:=hsC.up sB FB.1
    conv=>whnf
    refine⟨rfl,λh5=>?_,λh5=>?_⟩
    ·conv=>whnf
     rw[←htot,←hpa2]
     exact⟨_,rfl,SC,haC,sC,λe=>absurd e h5,λ_=>rfl⟩
    ·conv=>whnf
     rw[←htot,←hpa2]
     exact⟨_,Qf (λx=>Value.tuple #[ptr gv 0,.int .i64 x]) (show(0:Int)=_ from(show _=(0:Int) from h5).symm),SC,haC,sC,λ_=>⟨gv,rfl,h15,hB.step eC haC hsC⟩,λe=>absurd (show Dk.powerE a2=0 from h5) e⟩
end
attribute [irreducible] vmakeV putC stripesF
def headsF(v:Vol)(t:By):List Int→Nat→Arr→(Int×Int)×Arr
 |[],m,a=>(((m:Int),0),a)
 |d::ds,m,a=>if(vgetV a v d 0).2=true∧(vgetV a v d 0).1.text=t then headsF v t ds m a else
  if vputE a v d 0 0 t≠0 then((0,vputE a v d 0 0 t),vputA a v d 0 0 t) else headsF v t ds (m+1) (vputA a v d 0 0 t)
theorem headsF_sm(v:Vol)(t:By):∀(ds:List Int) (m:Nat) {B:Nat} {a:Arr},Sm B a→Sm (B+ds.length) (headsF v t ds m a).2
 |[],_,_,_,h=>h
 |d::ds,m,B,a,h=>by
  unfold headsF
  have h1:=vputA_sm h v d 0 0 t
  split
  ·exact(headsF_sm v t ds m h).mono (by simp)
  ·split
   ·exact h1.mono (by simp)
   ·exact(headsF_sm v t ds (m+1) h1).mono (by simp;omega)
theorem vputA_ds(a:Arr)(v:Vol)(d pl ep:Int)(t:By):(vputA a v d pl ep t).ds.length=a.ds.length:=by
 unfold vputA
 split
 ·rfl
 ·unfold Dk.awrote
  repeat' split
  all_goals first|rfl|simp[Dk.withDk]
def vheadsV(a:Arr)(v:Vol):(Int×Int)×Arr:=
 if Dk.powerE a≠0 then((0,Dk.powerE a),a) else
 if(headsF v (cfW v.conf) (aliveL a a.ds.length) 0 a).1.2≠0 then((0,(headsF v (cfW v.conf) (aliveL a a.ds.length) 0 a).1.2),(headsF v (cfW v.conf) (aliveL a a.ds.length) 0 a).2) else
 if Dk.powerE (headsF v (cfW v.conf) (aliveL a a.ds.length) 0 a).2≠0 then((0,Dk.powerE (headsF v (cfW v.conf) (aliveL a a.ds.length) 0 a).2),Dk.aflushed (headsF v (cfW v.conf) (aliveL a a.ds.length) 0 a).2) else
 (((headsF v (cfW v.conf) (aliveL a a.ds.length) 0 a).1.1,0),Dk.aflushed (headsF v (cfW v.conf) (aliveL a a.ds.length) 0 a).2)
section
variable {p:Pl}{gv:Nat}{v:Vol}{a:Arr}{H:Heap}{U:Nat→Prop}
theorem s_vheads(h:AV p gv v a H U){B:Nat}(hB:Sm B a)(hBB:B≤900000)(hid:v.id≤9223372036854775807)(hnd:a.ds.length≤255):
  Spec prog 267 #[ptr gv 0] H U λu H'=>u=.tuple #[.int .i64 (vheadsV a v).1.1,.int .i64 (vheadsV a v).1.2]∧∃S',PaH p (vheadsV a v).2 H' S'∧Sub S' U H:=by
 obtain⟨tot,htot⟩:∃t,vheadsV a v=t:=⟨_,rfl⟩
 rw[htot]
 unfold vheadsV at htot
 have hpw:=λ{X:Heap} {V:Nat→Prop} (hX:AV p gv v a X V)=>s_vpower hX
 generalize Dk.powerE a=pw at htot hpw
 obtain⟨al,hal⟩:∃l,aliveL a a.ds.length=l:=⟨_,rfl⟩
 have hall:=aliveL_len a a.ds.length
 have halm:=λ{x:Int} (h:x∈aliveL a a.ds.length)=>aliveL_mem h
 have hva:=λ{X:Heap} {V:Nat→Prop} (hX:AV p gv v a X V)=>s_valive' hX (a.ds.length:Int) (by omega)
 rw[hal] at htot hall hva
 simp only[hal] at halm
 have hcw:=λH=>s_cwrite v.conf H
 have hwl:=cfW_len v.conf
 generalize cfW v.conf=hs at htot hcw hwl
 have hsmF:=headsF_sm v hs al 0 hB
 obtain⟨hf,hhf⟩:∃t,headsF v hs al 0 a=t:=⟨_,rfl⟩
 rw[hhf] at htot hsmF
 refine spx func267 ?_
 conv=>whnf
 refine .t (hpw h) (λk h=>.inl h) ?_
 rintro _ H1 ⟨rfl,S1,ha1,hs1⟩ e1 _
 have h1:=h.step e1 ha1 hs1
 conv=>whnf
 refine⟨rfl,λh2=>?_,λh2=>?_⟩
 ·have h2':pw≠0:=h2
  rw[if_pos h2'] at htot
  subst htot
  exact⟨rfl,S1,ha1,hs1⟩
 have h2':¬pw≠0:=λe=>e h2
 rw[if_neg h2'] at htot
 conv=>whnf
 refine⟨cfL v.conf,rfl,h1.cf,?_⟩
 conv=>whnf
 refine .q (hcw _) ?_
 rintro _ H2 rfl e2 _
 have h2:=h1.q e2
 have h11:=e1.1
 conv=>whnf
 refine⟨_,cel_of h2.vol rfl,?_⟩
 conv=>whnf
 refine .t (s_adisks h2.arr) (hs1) ?_
 rintro _ H3 ⟨rfl,S3,ha3,hs3⟩ e3 _
 have h3:=h2.step e3 ha3 hs3
 have s3:Sub S3 U H:=hs3.up hs1 (by have:=e2.1;omega)
 conv=>whnf
 refine .t (hva h3) (s3) ?_
 rintro _ H4 ⟨wad,wcap,rfl,how,S4,ha4,hs4,hw4⟩ e4 _
 have h4:=h3.step e4 ha4 hs4
 have h33:H.size≤H3.size:=by have:=e2.1;have:=e3.1;omega
 have s4:Sub S4 U H:=hs4.up s3 h33
 conv=>whnf
 refine .g [(0,ptr gv 0),(5,.string (S hs)),(7,.int .i64 0),(33,.slice wad al.length wcap),(34,.int .i64 (al.length:Int)),(35,.int .i64 0)] ⟨rfl,rfl,rfl,rfl,rfl,rfl,trivial⟩ λenv0 KL hKL=>?_
 refine⟨Nat×List Int×Nat×Arr,λx=>[(35,.int .i64 (x.1:Int)),(7,.int .i64 (x.2.2.1:Int))],λx H'=>x.1+x.2.1.length=al.length∧al.drop x.1=x.2.1∧x.2.2.1≤x.1∧headsF v hs x.2.1 x.2.2.1 x.2.2.2=hf∧Sm (B+x.1) x.2.2.2∧Own H' H3.size 3 1 (.slice wad al.length wcap) al.length (intV al)∧
  ∃S',AV p gv v x.2.2.2 H' S'∧Sub S' U H∧(∀k,(Value.slice wad al.length wcap).ownBlock=some k→¬S' k),λx=>x.2.1.length,
  ⟨(0,al,0,a),⟨rfl,rfl,trivial⟩,by simp,rfl,Qd _,hhf,hB,how,S4,h4,s4,hw4⟩,?_⟩
 rintro⟨i,r,m,a1⟩ HA junk ⟨hi,hdr,hm,hto,hB1,howA,SA,hA,sA,hwA⟩ FA
 dsimp only at hi hdr hm hto hB1 hA
 conv=>whnf
 refine⟨rfl,λh5=>?_,λh5=>?_⟩
 ·have h':i<al.length:=by have:(i:Int)<(al.length:Int):=h5;omega
  cases r with
  |nil=>simp at hi;omega
  |cons d r=>
   have hy:al[i]? =some d:=by
    have:=Qf (·[0]?) hdr
    simpa using this
   have hdr':al.drop (i+1)=r:=by
    have:=Qf List.tail hdr
    simpa using this
   have hwm:IntKind.i64.wrap ((m:Int)+1)=((m+1:Nat):Int):=by rw[wr64 (by omega) (by omega)];omega
   have hdb:=halm (Qj hy)
   unfold headsF at hto
   have hpu:=λ{X:Heap} {V:Nat→Prop} (hX:AV p gv v a1 X V)=>s_vput hX (hB1.mono (by omega)) d 0 0 hs ⟨hid,by show d≤_;omega,by show(0:Int)≤_;omega,by show(0:Int)≤_;omega,by show hs.length≤_;omega⟩
   have hgt:=λ{X:Heap} {V:Nat→Prop} (hX:AV p gv v a1 X V)=>s_vget hX hB1 d 0
   have hsm:=vputA_sm hB1 v d 0 0 hs
   generalize vputE a1 v d 0 0 hs=pe at hto hpu
   generalize vputA a1 v d 0 0 hs=a2 at hto hpu hsm
   generalize vgetV a1 v d 0=gt at hto hgt
   obtain⟨bk,is⟩:=gt
   dsimp only at hto hgt
   have hic:=howA.gint
   refine Qh hic λad2 hic=>Qh hic λcap2 hic=>?_
   have hwe:=hic.1
   cases hwe
   have hic2:=hic.2 i _ hy
   refine Qh hic2 λib hic2=>Qh hic2 λio hic2=>?_
   have hic1:=hic2.1
   subst hic1
   conv=>whnf
   refine⟨i,rfl,h',?_⟩
   conv=>whnf
   refine⟨_,hic2.2,?_⟩
   conv=>whnf
   refine .t (hgt hA) (sA) ?_
   rintro _ HB ⟨rfl,SB,haB,hsB⟩ eB _
   have hB:=hA.step eB haB hsB
   have hpB:=howA.past hwA eB hsB
   have sB:Sub SB U H:=hsB.up sA FA.1
   conv=>whnf
   intro HC gb fC _
   have hbC:HC[gb]? =some (.cells (blkL blk0).toArray 130 (0,0)):=fC.at
   have hbs:=fC.size
   have hHA:H.size≤HA.size:=FA.1
   have hAB:=eB.1
   conv=>whnf
   refine .k ((blkL bk)) (hbC) (.inr (by show H.size≤gb;omega)) rfl rfl ?_
   intro HD uD _
   have hD:AV p gv v a1 HD SB:=(hB.q fC.e).frm uD.e (λk hk (e:k=gb)=>by have:=haB.lt k hk;omega) (λ(e:gv=gb)=>by have:=hB.lt;omega)
   have howD:=(hpB.1.q fC.e).frm uD.e (λk hk (e:k=gb)=>by have:=(hpB.1.ge k hk).2;omega)
   have hSB:=hpB.2
   cases is with
   |false=>
    rw[if_neg (λe=>by cases e.1)] at hto
    conv=>whnf
    conv=>whnf
    refine .t (hpu hD) (sB) ?_
    rintro _ HE ⟨rfl,SE,haE,hsE⟩ eE _
    have hE:=hD.step eE haE hsE
    have hpE:=howD.past hSB eE hsE
    have sE:Sub SE U H:=hsE.up sB (by have:=uD.2.1;have:=fC.e.1;omega)
    conv=>whnf
    refine⟨rfl,λh7=>?_,λh7=>?_⟩
    ·rw[if_pos h7] at hto
     have hpn:hf.1.2≠0:=by rw[←hto];exact h7
     rw[if_pos hpn] at htot
     refine hKL _ _ _ ?_
     conv=>whnf
     rw[←htot,←hto]
     exact⟨rfl,SE,haE,sE⟩
    ·rw[if_neg (λe=>e h7)] at hto
     conv=>whnf
     refine⟨rfl,_,hwm,?_⟩
     conv=>whnf
     refine⟨rfl,((i+1:Nat):Int),wr64 (by omega) (by omega),?_⟩
     exact⟨(i+1,r,m+1,a2),⟨rfl,rfl,trivial⟩,⟨by simp at hi⊢;omega,hdr',by show m+1≤i+1;omega,hto,hsm.mono (by omega),hpE.1,SE,hE,sE,hpE.2⟩,by show r.length<r.length+1;omega⟩
   |true=>
    conv=>whnf
    refine⟨_,cel_of uD.1 rfl,?_⟩
    conv=>whnf
    refine⟨λh6=>?_,λh6=>?_⟩
    ·rw[if_pos ⟨rfl,S_inj h6⟩] at hto
     conv=>whnf
     refine⟨rfl,((i+1:Nat):Int),wr64 (by omega) (by omega),?_⟩
     exact⟨(i+1,r,m,a1),⟨rfl,rfl,trivial⟩,⟨by simp at hi⊢;omega,hdr',YQ hm,hto,hB1.mono (by omega),howD,SB,hD,sB,hSB⟩,by show r.length<r.length+1;omega⟩
    ·rw[if_neg (λe=>h6 (by rw[e.2]))] at hto
     conv=>whnf
     refine .t (hpu hD) (sB) ?_
     rintro _ HE ⟨rfl,SE,haE,hsE⟩ eE _
     have hE:=hD.step eE haE hsE
     have hpE:=howD.past hSB eE hsE
     have sE:Sub SE U H:=hsE.up sB (by have:=uD.2.1;have:=fC.e.1;omega)
     conv=>whnf
     refine⟨rfl,λh7=>?_,λh7=>?_⟩
     ·rw[if_pos h7] at hto
      have hpn:hf.1.2≠0:=by rw[←hto];exact h7
      rw[if_pos hpn] at htot
      refine hKL _ _ _ ?_
      conv=>whnf
      rw[←htot,←hto]
      exact⟨rfl,SE,haE,sE⟩
     ·rw[if_neg (λe=>e h7)] at hto
      conv=>whnf
      refine⟨rfl,_,hwm,?_⟩
      conv=>whnf
      refine⟨rfl,((i+1:Nat):Int),wr64 (by omega) (by omega),?_⟩
      exact⟨(i+1,r,m+1,a2),⟨rfl,rfl,trivial⟩,⟨by simp at hi⊢;omega,hdr',by show m+1≤i+1;omega,hto,hsm.mono (by omega),hpE.1,SE,hE,sE,hpE.2⟩,by show r.length<r.length+1;omega⟩
 ·have hr0:r=[]:=Qm (by have:¬(i:Int)<(al.length:Int):=h5;omega)
  rw[hr0] at hto
  unfold headsF at hto
  have hpn:¬hf.1.2≠0:=by rw[←hto];exact λe=>e rfl
  rw[if_neg hpn] at htot
  have hpa:a1=hf.2:=by rw[←hto]
  have hfl:=s_aflush (hB1.mono (by omega)) hA.arr
  have hm1:(m:Int)=hf.1.1:=by rw[←hto]
  rw[←hpa,←hm1] at htot
  refine hKL _ _ _ ?_
  conv=>whnf
  refine⟨_,cel_of hA.vol rfl,?_⟩
  refine .t hfl sA ?_
  rintro _ HC ⟨rfl,SC,haC,hsC⟩ eC _
  have sC:Sub SC U H:=hsC.up sA FA.1
  conv=>whnf
  refine⟨rfl,λh7=>?_,λh7=>?_⟩
  ·have h7':Dk.powerE a1≠0:=h7
   rw[if_pos h7'] at htot
   conv=>whnf
   rw[←htot]
   exact⟨rfl,SC,haC,sC⟩
  ·have h7':¬Dk.powerE a1≠0:=λe=>e h7
   rw[if_neg h7'] at htot
   conv=>whnf
   rw[←htot]
   exact⟨rfl,SC,haC,sC⟩
end
attribute [irreducible] vheadsV headsF
def idxI(p:Int→Bool):List Int→Nat→Int
 |[],_=> -1
 |x::r,i=>if p x=true then(i:Int) else idxI p r (i+1)
theorem idxI_spec(p:Int→Bool):∀(l:List Int) (i:Nat),(idxI p l i= -1∧l.filter (λx=>!p x)=l)∨∃k:Nat,k<l.length∧idxI p l i=((i+k:Nat):Int)∧(l.take k).filter (λx=>!p x)=l.take k∧∀x,l[k]? =some x→p x=true
 |[],_=>.inl ⟨rfl,rfl⟩
 |x::r,i=>by
  unfold idxI
  by_cases h:p x=true
  ·exact .inr ⟨0,by simp,by rw[if_pos h];simp,by simp,by simp[h]⟩
  ·rw[if_neg h]
   have h':(!p x)=true:=by simpa using h
   rcases idxI_spec p r (i+1) with ⟨h1,h2⟩|⟨k,h1,h2,h3,h4⟩
   ·exact .inl ⟨h1,by rw[List.filter_cons,if_pos h',h2]⟩
   ·exact .inr ⟨k+1,by simp;omega,by rw[h2];omega,by rw[List.take_succ_cons,List.filter_cons,if_pos h',h3],by simpa using h4⟩
theorem s_idxI(g:FuncId)(q:Value)(p:Int→Bool)(l:List Int){v:Value}{H:Heap}(hl:Rd H v (intV l))(hn:l.length≤1000000)(hf:∀H' x,x∈l→Frm nob H H'→Spec prog g #[.int .i64 x,q] H' nob λu _=>u=.bool (p x)):
  Spec prog 323 #[v,.func (.func g) #[] #[q]] H nob λu _=>u=.int .i64 (idxI p l 0):=by
 obtain⟨al,cl,rfl,_,hw⟩:=hl.ints
 clear hl
 obtain⟨R,hR⟩:∃R,idxI p l 0=R:=⟨_,rfl⟩
 rw[hR]
 refine spx func323 ?_
 conv=>whnf
 refine⟨Nat×List Int,λx=>[(8,.int .i64 (x.1:Int))],λx H'=>x.1+x.2.length=l.length∧l.drop x.1=x.2∧idxI p x.2 x.1=R∧Frm nob H H',λx=>x.2.length,⟨(0,l),⟨rfl,trivial⟩,by simp,rfl,hR,Frm.refl _ _⟩,?_⟩
 rintro⟨i,r⟩ H2 junk ⟨hi,hd,hx,hF⟩ F
 dsimp only at hi hd hx
 conv=>whnf
 refine⟨rfl,λh=>?_,λh=>?_⟩
 ·have h':i<l.length:=by have:(i:Int)<(l.length:Int):=h;omega
  cases r with
  |nil=>simp at hi;omega
  |cons y r=>
   have hy:l[i]? =some y:=by
    have:=Qf (·[0]?) hd
    simpa using this
   have hd':l.drop (i+1)=r:=by
    have:=Qf List.tail hd
    simpa using this
   have hc:=hw i y hy
   unfold idxI at hx
   have hcall:=λH' hF'=>hf H' y (Qj hy) hF'
   refine Qh hc λb hc=>Qh hc λo hc=>?_
   have hc1:=hc.1
   subst hc1
   conv=>whnf
   refine⟨i,rfl,h',?_⟩
   conv=>whnf
   refine⟨_,hF.cel hc.2,?_⟩
   by_cases hp:p y=true
   ·rw[hp] at hcall
    rw[if_pos hp] at hx
    conv=>whnf
    refine .q (hcall _ hF) ?_
    rintro _ H3 rfl e3 _
    exact⟨Qf (Value.int .i64) hx⟩
   ·rw[if_neg hp] at hx
    rw[YX] at hp
    rw[hp] at hcall
    conv=>whnf
    refine .q (hcall _ hF) ?_
    rintro _ H3 rfl e3 _
    conv=>whnf
    refine⟨rfl,((i+1:Nat):Int),wr64 (by omega) (by omega),?_⟩
    exact⟨(i+1,r),⟨rfl,trivial⟩,⟨by simp at hi⊢;omega,hd',hx,hF.trans e3⟩,by show r.length<r.length+1;omega⟩
 ·have hr0:r=[]:=Qm (by have:¬(i:Int)<(l.length:Int):=h;omega)
  rw[hr0] at hx
  exact⟨Qf (Value.int .i64) hx⟩
theorem raw_clear{c:Ctx}{ρ:Operand→Value}{o:Oper}{H:Heap}{K:KK}{cl:Call}{b off n cp:Nat}{cs:List Value}(hP:c.P=prog)(ho:o.op=.call cl)(hc:cl.callee=.builtin .clear)(ha:cl.args.toList.map ρ=[.slice (some ⟨b,off,none⟩) n cp])(ht:cl.argTypes.toList=[71])
  (hb:H[b]? =some (.cells cs.toArray 3 (0,0))) (hl:off+n≤cs.length) (hS:c.S b∨c.H0.size≤b) (hF:Frm c.S c.H0 H)
  (k:∀(cs':List Value) H',cs'.length=cs.length→cs'.take off=cs.take off→Upd H H' b (.cells cs'.toArray 3 (0,0))→Frm c.S c.H0 H'→K (.tuple #[]) H'):RawVC c ρ o H K:=by
 refine⟨λw hw=>?_⟩
 have hat:cl.argTypes=#[71]:=by apply Zq;rw[ht]
 have hgo:∀v w',(Builtin.clear_ cl.argTypes o.type (cl.args.toList.map ρ).toArray).run c.P w=.ok v w'→(execOp ρ o).run c.P w=.ok (.value v) w':=λv w' h=>builtin_run ho hc w λcs=>by
  simp only[builtin]
  exact val_run h
 have hbw:w.heap[b]? =some (.cells cs.toArray 3 (0,0)):=by rw[hw];exact hb
 by_cases h0:n=0
 ·subst h0
  have hu:Upd H H b (.cells cs.toArray 3 (0,0)):=⟨hb,rfl,λ_ _=>rfl⟩
  refine⟨_,w,.inl (hgo (.tuple #[]) w ?_),Amb.refl w,by rw[hw];exact hF,by rw[hw];exact k cs H rfl rfl hu hF⟩
  rw[hat,ha]
  simp[Builtin.clear_,hP,run_underlying underlying71]
 ·obtain⟨w',hr,hamb,hat',hsz,hoth⟩:=storeCells_run (P:=c.P) b off 3 (List.replicate n (Value.int .i64 0)) 0 cs.toArray w hbw (by simpa using hl) (λv hv=>by rw[(Yi.1 hv).2];rfl)
  rw[ZK] at hat'
  have hpl:(Vc.putL cs off (List.replicate n (Value.int .i64 0))).length=cs.length∧(Vc.putL cs off (List.replicate n (Value.int .i64 0))).take off=cs.take off:=by
   have:∀(cs:List Value) (off:Nat) (vs:List Value),(Vc.putL cs off vs).length=cs.length∧(Vc.putL cs off vs).take off=cs.take off:=by
    intro cs
    induction cs with
    |nil=>intro off vs;cases vs<;>simp[Vc.putL]
    |cons x r ih=>
     intro off vs
     cases vs with
     |nil=>simp[Vc.putL]
     |cons v vs=>
      cases off with
      |zero=>simp[Vc.putL,(ih 0 vs).1]
      |succ off=>simp[Vc.putL,(ih off (v::vs)).1,(ih off (v::vs)).2]
   exact this _ _ _
  have hu:Upd H w'.heap b (.cells (Vc.putL cs off (List.replicate n (Value.int .i64 0))).toArray 3 (0,0)):=⟨hat',by rw[hsz,hw],λk hk=>by rw[hoth k hk,hw]⟩
  have hF':=Frm.then hF hu.e (λk hk=>by subst hk;exact hS)
  refine⟨_,w',.inl (hgo (.tuple #[]) w' ?_),hamb,hF',k _ _ hpl.1 hpl.2 hu hF'⟩
  rw[hat,ha,hP]
  rw[hP] at hr
  have hzv:(zeroValue 3).run prog w=.ok (.int .i64 0) w:=by kernel_rfl
  have hzc:(Builtin.zeroCells (Value.int .i64 0).cells n).toList=List.replicate n (Value.int .i64 0):=by
   unfold Builtin.zeroCells
   refine QQ λj=>?_
   by_cases h:j<n
   ·simp[h,YP,Value.cells]
   ·simp[h,Value.cells]
  simp[Builtin.clear_,run_underlying underlying71,hzv,hzc,hr]
def delF(p:Int→Bool)(l:List Int):List Int:=l.filter λx=>!p x
theorem delF_len(p:Int→Bool)(l:List Int):(delF p l).length≤l.length:=List.length_filter_le _ _
theorem Own.blk{H:Heap}{base n sz:Nat}{e:TypeId}{v:Value}{xs:List Value}(h:Own H base e sz v n xs):(v=.slice none 0 0∧n=0)∨∃g cap,∃cs:List Value,v=.slice (some ⟨g,0,none⟩) n cap∧base≤g∧H[g]? =some (.cells cs.toArray e (0,0))∧n≤cap∧cap≤maxLen∧cs.length=cap*sz∧cs.take (n*sz)=xs:=by
 rcases h.2 with h2|⟨g,cap,cur,rfl,hb,hg,hn,hm,hcs,ht⟩
 ·exact .inl h2
 ·exact .inr ⟨g,cap,cur.toList,rfl,hb,hg,hn,hm,by simpa using hcs,ht⟩
theorem Own.of{H:Heap}{base n sz g cap:Nat}{e:TypeId}{cs xs:List Value}(hg:H[g]? =some (.cells cs.toArray e (0,0)))(hb:base≤g)(hn:n≤cap)(hm:cap≤maxLen)(hcs:cs.length=cap*sz)(hxs:xs.length=n*sz)(ht:cs.take (n*sz)=xs):Own H base e sz (.slice (some ⟨g,0,none⟩) n cap) n xs:=
 ⟨hxs,.inr ⟨g,cap,cs.toArray,rfl,hb,hg,hn,hm,by simpa using hcs,by simpa using ht⟩⟩
theorem s_delF(g:FuncId)(q:Value)(p:Int→Bool)(l:List Int){v:Value}{H:Heap}{m:Nat}(ho:Own H m 3 1 v l.length (intV l))(hn:l.length≤1000000)
  (hf:∀H' x,x∈l→Frm (λk=>v.ownBlock=some k) H H'→Spec prog g #[.int .i64 x,q] H' nob λu _=>u=.bool (p x)):
  Spec prog 303 #[v,.func (.func g) #[] #[q]] H (λk=>v.ownBlock=some k) λu H'=>∃ad cap,u=.slice ad (delF p l).length cap∧Own H' m 3 1 (.slice ad (delF p l).length cap) (delF p l).length (intV (delF p l))∧∀k,(Value.slice ad (delF p l).length cap).ownBlock=some k→v.ownBlock=some k:=by
 have hix:=s_idxI g q p l ho.rd.1 hn λH' x hx hF=>hf H' x hx (hF.mono λ_ _ h=>h.elim)
 have hsp:=idxI_spec p l 0
 generalize idxI p l 0=ix at hix hsp
 have hfm:=ho.form
 obtain⟨ad0,cap0,hv0⟩:=hfm
 obtain⟨T,hT⟩:∃T:Nat→Prop,(λk=>v.ownBlock=some k)=T:=⟨_,rfl⟩
 have hTv:∀k,v.ownBlock=some k→T k:=λk hk=>by rw[←hT];exact hk
 rw[hT] at hf⊢
 refine spx func303 ?_
 subst hv0
 conv=>whnf
 refine .q (hix) ?_
 rintro _ H1 rfl e1 _
 have ho1:=ho.q e1
 rcases hsp with ⟨rfl,hfl⟩|⟨k,hk,rfl,htk,hlk⟩
 ·conv=>whnf
  refine⟨rfl,λh2=>?_,λh2=>absurd rfl h2⟩
  have hd:delF p l=l:=hfl
  rw[hd]
  exact⟨ad0,cap0,rfl,ho1,λk hk=>hk⟩
 ·conv=>whnf
  refine⟨rfl,λh2=>absurd (show((0+k:Nat):Int)= -1 from h2) (by omega),λh2=>?_⟩
  rw[Qr]
  clear h2
  have hbk:=ho1.blk
  rcases hbk with ⟨h3,h4⟩|⟨b,cap,cs,h3,hb,hg,hnc,hmx,hcs,hcx⟩
  ·omega
  cases h3
  have hTb:T b:=hTv b rfl
  have hwk:IntKind.i64.wrap ((k:Int)+1)=((k+1:Nat):Int):=by rw[wr64 (by omega) (by omega)];omega
  conv=>whnf
  refine⟨rfl,_,hwk,?_⟩
  have hlk':delF p l=l.take k++delF p (l.drop (k+1)):=by
   have hx:l[k]? =some l[k]:=Qc hk
   have hp:=hlk _ hx
   have hl:l=l.take k++(l[k]::l.drop (k+1)):=by simp
   unfold delF
   rw[hl,List.filter_append,htk,List.filter_cons]
   simp[hp]
  have hl1:(intV l).length=l.length:=by simp[intV]
  conv=>whnf
  refine⟨List Int×List Int×Nat,λx=>[(6,.int .i64 (x.2.2:Int)),(5,.int .i64 (x.1.length:Int))],λx H'=>x.2.2+x.2.1.length=l.length∧l.drop x.2.2=x.2.1∧delF p l=x.1++delF p x.2.1∧x.1.length<x.2.2∧
   Frm T H H'∧∃cs:List Value,H'[b]? =some (.cells cs.toArray 3 (0,0))∧cs.length=cap0∧cs.take x.1.length=intV x.1∧∀t y,x.2.2≤t→l[t]? =some y→cs[t]? =some (.int .i64 y),λx=>x.2.1.length,
   ⟨(l.take k,l.drop (k+1),k+1),⟨rfl,by rw[QC,Zi (Yn hk)];rfl,trivial⟩,by simp;omega,rfl,hlk',by simp;omega,e1.mono λ_ _ h=>h.elim,cs,hg,by omega,?_,?_⟩,?_⟩
  ·have:=Qf (List.take k) hcx
   rw[Z2,ZI,Zi (Yn hk)] at this
   rw[QC,Zi (Yn hk),this]
   simp[intV,List.map_take]
  ·intro t y _ hy
   have ht:t<l.length:=(Qe.1 hy).1
   have h7:=Qf (·[t]?) hcx
   rw[QZ,if_pos (by omega)] at h7
   rw[h7]
   simp only[intV,Qp,hy]
   rfl
  rintro⟨acc,r,j⟩ H2 junk ⟨hj,hdr,hde,haj,hF2,cs2,hg2,hc2,hta,hrs⟩ F
  dsimp only at hj hdr hde haj hta hrs
  conv=>whnf
  refine⟨rfl,λh5=>?_,λh5=>?_⟩
  ·have h':j<l.length:=by have:(j:Int)<(l.length:Int):=h5;omega
   cases r with
   |nil=>simp at hj;omega
   |cons y r=>
    have hy:l[j]? =some y:=by
     have:=Qf (·[0]?) hdr
     simpa using this
    have hdr':l.drop (j+1)=r:=by
     have:=Qf List.tail hdr
     simpa using this
    have hjl:r.length+1=l.length-j:=by simp at hj;omega
    have hwj:IntKind.i64.wrap ((j:Int)+1)=((j+1:Nat):Int):=by rw[wr64 (by omega) (by omega)];omega
    have hwa:IntKind.i64.wrap ((acc.length:Int)+1)=((acc++[y]).length:Int):=by rw[wr64 (by omega) (by omega)];simp
    conv=>whnf
    refine⟨j,rfl,h',?_⟩
    conv=>whnf
    refine⟨_,cel_of hg2 (by rw[Qr,Qq];exact hrs j y (Qd _) hy),?_⟩
    have hcall:=hf H2 y (Qj hy) hF2
    cases hp:p y with
    |true=>
     rw[hp] at hcall
     conv=>whnf
     refine .q (hcall) ?_
     rintro _ H3 rfl e3 _
     conv=>whnf
     refine⟨rfl,_,hwj,?_⟩
     refine⟨(acc,r,j+1),⟨rfl,rfl,trivial⟩,⟨by show j+1+r.length=_;omega,hdr',?_,by show acc.length<j+1;omega,hF2.trans (e3.mono λ_ _ h=>h.elim),cs2,e3.blk hg2,hc2,hta,λt z ht hz=>hrs t z (by dsimp only at ht;omega) hz⟩,by show r.length<r.length+1;omega⟩
     rw[hde]
     simp[delF,hp]
    |false=>
     rw[hp] at hcall
     conv=>whnf
     refine .q (hcall) ?_
     rintro _ H3 rfl e3 _
     conv=>whnf
     refine⟨acc.length,rfl,by omega,?_⟩
     conv=>whnf
     refine .one acc.length (e3.blk hg2) (.inl hTb) (Qr _) rfl (by kernel_rfl) (by omega) ?_
     intro H4 u4' hF4
     have u4:Upd H3 H4 b (.cells (cs2.set acc.length (.int .i64 y)).toArray 3 (0,0)):=u4'
     conv=>whnf
     refine⟨rfl,_,hwa,?_⟩
     conv=>whnf
     refine⟨rfl,_,hwj,?_⟩
     refine⟨(acc++[y],r,j+1),⟨rfl,rfl,trivial⟩,⟨by show j+1+r.length=_;omega,hdr',?_,by show(acc++[y]).length<j+1;simp;omega,(hF2.trans (e3.mono λ_ _ h=>h.elim)).trans (u4.e.mono λi _ hi=>by cases hi;exact hTb),_,u4.1,by rw[Zb];exact hc2,?_,λt z ht hz=>?_⟩,by show r.length<r.length+1;omega⟩
     ·rw[hde]
      simp[delF,hp]
     ·have:acc.length<cs2.length:=by omega
      simp only[Qi,List.length_singleton]
      rw[ZE,List.take_set_of_le (Qd _),hta]
      simp[intV,this]
     ·dsimp only at ht
      rw[Zf (by omega)]
      exact hrs t z (by omega) hz
  ·have hr0:r=[]:=Qm (by have:¬(j:Int)<(l.length:Int):=h5;omega)
   rw[hr0] at hde
   have hda:delF p l=acc:=by simpa [delF] using hde
   rw[hda]
   have hne:(acc.length==cap0)=false:=by simp;omega
   conv=>whnf
   refine⟨acc.length,l.length,⟨_,rfl⟩,rfl,by omega,hnc,l.length-acc.length,acc.length,cap0-acc.length,rfl,rfl,by rw[hne];exact(Qr _).trans ((mulS_eq _ _).trans (ZI _)),?_⟩
   conv=>whnf
   refine raw_clear rfl rfl rfl rfl rfl hg2 (by omega) (.inl hTb) F ?_
   intro cs' H3 hc3 ht3 u3 F3
   conv=>whnf
   refine⟨0,acc.length,rfl,⟨_,rfl⟩,Qk _,by omega,acc.length,0,cap0,rfl,rfl,by rw[show(0==cap0)=false by simp;omega];rfl,?_⟩
   refine⟨_,_,rfl,Own.of u3.1 hb (by omega) hmx (by omega) (by simp[intV]) (by rw[ZI,ht3,hta]),λk hk=>hk⟩
def eMax:Int:=72057594037927935
section
attribute [local semireducible] vgetV vstate blkOwn blkOpen
theorem openV_ep(s r:By)(is:Bool):0≤(openV s r is).1.epoch∧(openV s r is).1.epoch≤eMax:=by
 unfold openV
 (repeat' split)<;>first|exact⟨QJ _,show(0:Int)≤eMax by decide⟩|skip
 show 0≤cutV _ 7∧cutV _ 7≤_
 exact⟨cutV_nn _ _,cutV_le _ _ (Qd _)⟩
theorem vget_ep(a:Arr)(v:Vol)(d pl:Int):0≤(vgetV a v d pl).1.epoch∧(vgetV a v d pl).1.epoch≤eMax:=by
 unfold vgetV
 split
 ·exact⟨QJ _,by decide⟩
 ·show 0≤(ownV _ _ _ _).1.epoch∧(ownV _ _ _ _).1.epoch≤_
  unfold ownV
  (repeat' split)<;>first|exact⟨QJ _,show(0:Int)≤eMax by decide⟩|exact openV_ep _ _ _
theorem stF_ep(a:Arr)(v:Vol)(pl:Int):∀q d,∀x∈stF a v pl q d, -1≤x.2∧x.2≤eMax
 |0,_,x,h=>by cases h
 |q+1,d,x,h=>by
  unfold stF at h
  rcases QB.1 h with rfl|h
  ·have:=vget_ep a v d pl
   unfold stOne
   (repeat' split)<;>first|exact⟨by decide,by decide⟩|exact⟨Yo (by decide) this.1,this.2⟩
  ·exact stF_ep a v pl q _ x h
theorem vstate_ep(a:Arr)(v:Vol)(n:Int):∀x∈(vstate a v n).map (·.2), -1≤x∧x≤eMax:=by
 intro x hx
 obtain⟨y,hy,rfl⟩:=Qw.1 hx
 exact stF_ep a v _ _ _ y hy
end
theorem epF_mem(l:List Int)(k:Int):∀(r:List Int) (b:Int),epF l k r b=b∨epF l k r b∈r
 |[],b=>.inl rfl
 |e::r,b=>by
  unfold epF
  rcases epF_mem l k r (if b<e then(if k≤(cntB (ofV l e):Nat) then e else b) else b) with h|h
  ·rw[h]
   (repeat' split)<;>simp
  ·exact .inr (Qu _ h)
theorem epV_le{l:List Int}(k:Int)(h:∀x∈l, -1≤x∧x≤eMax): -1≤epV l k∧epV l k≤eMax:=by
 unfold epV
 rcases epF_mem l k l (-1) with e|e
 ·rw[e];exact⟨QJ _,by decide⟩
 ·exact h _ e
section
attribute [local semireducible] lookP vjoin
theorem lookP_le(a:Arr)(v:Vol)(n:Int): -1≤lookP a v n∧lookP a v n≤eMax:=by
 unfold lookP
 split
 ·exact epV_le _ (vstate_ep a v n)
 ·decide
theorem flat_le(n:Nat):∀l:List By,(∀r∈l,r.length≤n)→l.flatten.length≤l.length*n
 |[],_=>by simp
 |r::l,h=>by
  have h1:=h r (Qs ..)
  have h2:=flat_le n l λx hx=>h x (Qu _ hx)
  simp only[Ze,Qi,Qo]
  rw[Nat.add_mul]
  omega
theorem joinV_len(c:Cf)(sh:List By)(hv:List Bool)(hn:sh.length≤255)(h:∀r∈sh,r.length≤1024):(joinV c sh hv).1.length≤261120:=by
 have h1:=flat_le 1024 _ (decodeV_row c.k sh hv 1024 h)
 have h2:=decodeV_l c.k sh hv (.inr hn)
 have h3:(decodeV c.k sh hv).1.flatten.length≤261120:=by
  have:=QY 1024 h2
  omega
 unfold joinV
 generalize decodeV c.k sh hv=dc at h3⊢
 have h4:(cutR dc.1.flatten 4).length≤261120:=by
  unfold cutR
  split
  ·simp
  ·rw[QV];omega
 (repeat' split)<;>first|exact Qk _|(rw[QC];omega)
theorem joinV_disks{c:Cf}{sh:List By}{hv:List Bool}(h:(joinV c sh hv).2=0):cfOk c∧(sh.length:Int)=cfDisks c:=by
 unfold joinV at h
 split at h
 ·cases h
 ·split at h
  ·cases h
  ·exact⟨Zm ‹_›,Zm ‹_›⟩
theorem vjoin_len(v:Vol)(st:List (By×Int))(hv:List Bool)(hn:st.length≤255)(h:∀x∈st,x.1.length≤1024):(vjoin v st hv).1.length≤261120:=by
 unfold vjoin
 split
 ·simp
 ·exact joinV_len _ _ _ (by simpa using hn) λr hr=>by
   obtain⟨x,hx,rfl⟩:=Qw.1 hr
   exact h x hx
theorem vjoin_disks{v:Vol}{st:List (By×Int)}{hv:List Bool}(h:(vjoin v st hv).2=0):cfOk v.conf∧(st.length:Int)=cfDisks v.conf:=by
 unfold vjoin at h
 split at h
 ·cases h
 ·rename_i h2
  have:=joinV_disks (Zm h2)
  simpa using this
end
end Go.Proofs.YtjambljmnifknaaGreatDoor.Vc
