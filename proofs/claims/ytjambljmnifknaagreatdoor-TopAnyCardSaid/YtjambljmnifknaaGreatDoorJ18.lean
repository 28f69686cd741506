/- Part 18 of the proof of TopAny: slices.SortFunc of intents by stripe · ring.Newest, whole · volume: intents · volume: Open · volume: Open, its walk · volume: what intents hold; Open without premises; Conf. -/
import Derived.Test.YtjambljmnifknaaGreatDoorJ17
import Derived.Shelf.SlSortCmp.NoneTotal
import Derived.Ground.SlsfProg
set_option maxRecDepth 100000
set_option maxHeartbeats 80000000
set_option linter.all false
open Go.Proofs.Tryz
namespace Go.Proofs
open Go.Shelf Go.RowKit Go.Lib Go.Sort
def Tryz.sortIt_ren:Go.Shelf.Ren:=⟨λ|6=>189|15=>243|14=>242|28=>289|29=>290|20=>281|21=>282|22=>283|23=>284|24=>285|25=>286|26=>287|27=>288|46=>312|47=>313|48=>314|49=>315|50=>316|57=>326|n=>n,λ|22=>74|24=>82|25=>141|3=>3|39=>228|0=>0|53=>262|55=>293|4=>4|46=>342|45=>341|50=>160|5=>5|9=>9|66=>374|70=>180|76=>388|77=>389|n=>n,λ|n=>n⟩
theorem Tryz.sortIt:Go.Proofs.SlLaysF0.n6 prog Tryz.sortIt_ren:=by
 constructor<;>first|(intros;kernel_rfl)|decide|skip
 exact⟨Tryz.f189.name,by decide,by kernel_rfl⟩
 exact⟨Tryz.f242.name,by decide,by kernel_rfl⟩
 exact⟨Tryz.f281.name,by decide,by kernel_rfl⟩
 exact⟨Tryz.f282.name,by decide,by kernel_rfl⟩
 exact⟨Tryz.f283.name,by decide,by kernel_rfl⟩
 exact⟨Tryz.f284.name,by decide,by kernel_rfl⟩
 exact⟨Tryz.f285.name,by decide,by kernel_rfl⟩
 exact⟨Tryz.f286.name,by decide,by kernel_rfl⟩
 exact⟨Tryz.f287.name,by decide,by kernel_rfl⟩
 exact⟨Tryz.f288.name,by decide,by kernel_rfl⟩
 exact⟨Tryz.f312.name,by decide,by kernel_rfl⟩
 exact⟨Tryz.f315.name,by decide,by kernel_rfl⟩
 exact⟨Tryz.f316.name,by decide,by kernel_rfl⟩
 exact⟨Tryz.f326.name,by decide,by kernel_rfl⟩
namespace YtjambljmnifknaaGreatDoor.Vc
open Tp
instance:Inhabited It:=⟨it0⟩
def cfS(x y:It):Int:=Lib.compareInt x.stripe y.stripe
theorem ltS(x y:It):ltOf cfS x y=decide (x.stripe<y.stripe):=by
 unfold ltOf cfS Lib.compareInt
 by_cases h1:x.stripe<y.stripe
 ·simp[h1]
 ·by_cases h2:y.stripe<x.stripe<;>simp[h1,h2]
theorem swoS:SWO (ltOf cfS):={
 irrefl:=λx=>by rw[ltS];simp
 trans:=λx y z h1 h2=>by rw[ltS] at*;simp at*;omega
 ntrans:=λx y z h1 h2=>by rw[ltS] at*;simp at*;omega}
theorem closure120(x y:It)(W:World):Calls prog 120 #[.agg #[.int .i64 x.seq,.int .i64 x.stripe,.string (S x.text)],.agg #[.int .i64 y.seq,.int .i64 y.stripe,.string (S y.text)]] W λe w'=>e=.returned (.int .i64 (cfS x y))∧∃q os',w'=grow (W.drewN q) os':=by
 have hcon:=λW'=>Tryz.cmp_Compare_int x.stripe y.stripe W'
 unfold cfS
 generalize Lib.compareInt x.stripe y.stripe=r at hcon⊢
 go_enter func120,ntmps120
 go_wp2_with (go_at_call 70;refine(hcon _).mono ?_;rintro e w' ⟨rfl,rfl⟩)
 go_ret
 exact⟨rfl,0,_,by rw[alloc_eq_grow,alloc_eq_grow,grow_grow];rfl⟩
theorem flat3:∀(l:List It) (j:Nat) (v:Value),(itsV l)[j]? =some v→∃x,l[j/3]? =some x∧(itL x)[j%3]? =some v
 |[],j,v,h=>by simp[itsV] at h
 |x::l,j,v,h=>by
  have e:itsV (x::l)=itL x++itsV l:=by simp[itsV]
  rw[e,Yx] at h
  have hl:(itL x).length=3:=rfl
  by_cases hj:j<3
  ·rw[if_pos (by omega)] at h
   exact⟨x,by rw[ZT hj];rfl,by rw[Zc hj];exact h⟩
  ·rw[if_neg (by omega),hl] at h
   obtain⟨y,h1,h2⟩:=flat3 l (j-3) v h
   refine⟨y,?_,?_⟩
   ·rw[show j/3=(j-3)/3+1 by omega];simpa using h1
   ·rw[show j%3=(j-3)%3 by omega];exact h2
theorem holdsK_cells{w:World}{b:Nat}{l:List It}(h:HoldsK itL 3 w b 0 l.toArray):CellsAt w.heap b 0 (itsV l):=
 CellsAt.of λj v hj=>by
  obtain⟨x,h1,h2⟩:=flat3 l j v hj
  have hl:=(Qe.1 h1).1
  have hj3:j<l.length*3:=by omega
  have:=(h j (by simpa using hj3)).1
  rw[get_flatK _ _ _ _ (by simpa using hj3)] at this
  have hx:(l.toArray[j/3]! :It)=x:=by simp[h1]
  rw[hx] at this
  have hv:(itL x)[j%3]! =v:=by simp[h2]
  rw[hv] at this
  rw[cel_w] at*
  exact this
theorem holdsK_of{w:World}{b:Nat}{l:List It}{cs:List Value}(hb:w.heap[b]? =some (.cells cs.toArray 82 (0,0)))(hc:CellsAt w.heap b 0 (itsV l)):HoldsK itL 3 w b 0 l.toArray:=by
 intro j hj
 have hj3:j<l.length*3:=by simpa using hj
 refine⟨?_,?_⟩
 ·rw[get_flatK _ _ _ _ (by simpa using hj3)]
  have hlen:(itsV l).length=l.length*3:=by
   unfold itsV
   rw[List.length_flatten,ZB]
   have:(l.map (List.length∘itL))=List.replicate l.length 3:=by rw[List.map_eq_replicate_iff];intro x _;rfl
   rw[this];simp
  obtain⟨v,hv⟩:∃v,(itsV l)[j]? =some v:=⟨_,Qc (by omega)⟩
  obtain⟨x,h1,h2⟩:=flat3 l j v hv
  have hx:(l.toArray[j/3]! :It)=x:=by simp[h1]
  rw[hx]
  have hv2:(itL x)[j%3]! =v:=by simp[h2]
  rw[hv2]
  exact hc.get hv
 ·simp[World.frozen?,hb]
theorem sortW_frm{w:World}{b n:Nat}{d:Array It}{os:Array Obj}:Vc.Amb w (sortWorldK itL 3 w b 0 n d os)∧Frm (λk=>k=b) w.heap (sortWorldK itL 3 w b 0 n d os).heap:=by
 refine⟨⟨rfl,rfl,rfl⟩,?_⟩
 unfold sortWorldK grow putRowK putRow mapBlock
 refine⟨by simp[Sort.ahead],λk hk hne=>?_⟩
 dsimp only[Sort.ahead]
 rw[Z7 (by simpa using hk),ZM,if_neg (λe=>hne e.symm)]
theorem s_sortf{v:Value}{H:Heap}{m:Nat}(l:List It)(ho:Own H m 82 3 v l.length (itsV l))(hl:l.length≤1000000):
  Vc.Spec prog 189 #[v,.func (.func 120) #[] #[]] H (λk=>v.ownBlock=some k) λ_ H'=>∃l':List It,l'.Perm l∧l'.Pairwise (λa b=>a.stripe≤b.stripe)∧Rw H' v (l'.map itL):=by
 refine⟨by kernel_rfl,λw hw=>?_⟩
 have eg:∀args w,(callFunc 120 args).run prog w=.ok (.enter 120 args) w:=enters_of func120 (by kernel_rfl) rfl
 rcases ho.blk with ⟨rfl,h0⟩|⟨b,cap,cs,rfl,hmb,hg,hnc,hmx,hcs,hcx⟩
 ·have hl0:l=[]:=Qm h0
  subst hl0
  have hcon:=AnyF.slices_SortFunc_none Tryz.sortIt none 0 (.func (.func 120) #[] #[]) w
  refine(show Calls prog 189 _ _ _ from hcon).mono ?_
  rintro e w' ⟨rfl,rfl⟩
  exact⟨_,rfl,Vc.Amb.refl _,by rw[hw];exact Frm.refl _ _,[],Y7 _,List.Pairwise.nil,.inl ⟨rfl,rfl⟩⟩
 ·have hrw:=ho.rw (ls:=l.map itL) rfl (by simp)
  have hc:CellsAt w.heap b 0 (itsV l):=by
   rw[hw]
   rcases hrw with ⟨h,_⟩|⟨b',o',cap',h,_,hc⟩
   ·cases h
   ·injection h with h1 _ _
    cases h1
    exact hc
  have hb:w.heap[b]? =some (.cells cs.toArray 82 (0,0)):=by rw[hw];exact hg
  have hcon:=AnyQ.slices_SortFunc Tryz.sortIt 3 (λw=>by kernel_rfl) (λw=>by kernel_rfl) itL (λ_=>rfl) (λx v hv=>by simp[itL] at hv;rcases hv with rfl|rfl|rfl<;>rfl) cfS swoS 120 #[] b 0 cap l.toArray w eg
   (λ_ _ _ _ x y=>closure120 x y _) (holdsK_of hb hc) (Qa.1 hb).1 (by simp;omega)
  refine(show Calls prog 189 _ _ _ from hcon).mono ?_
  rintro e w' ⟨rfl,d',n,os,hp,hs,rfl⟩
  have hH:=holdsK_sortWorldK_c itL 3 w b 0 l.toArray d' n os (holdsK_of hb hc) (Qa.1 hb).1 hp.1
  have hF:=sortW_frm (w:=w) (b:=b) (n:=n) (d:=d') (os:=os)
  have hpl:d'.toList.Perm l:=by
   have h3:=hp.2.2
   have e1:d'.extract 0 l.toArray.size=d':=by rw[←hp.1];simp
   have e2:l.toArray.extract 0 l.toArray.size=l.toArray:=by simp
   rw[e1,e2] at h3
   exact h3
  have hlen:d'.toList.length=l.length:=hpl.length_eq
  refine⟨_,rfl,hF.1,by rw[←hw];exact hF.2.mono (λk _ hk=>by have:k=b:=hk;subst this;rfl),d'.toList,hpl,?_,.inr ⟨b,0,cap,by simp[hlen],by simp[hlen];omega,?_⟩⟩
  ·rw[YN]
   intro i j hi hj hij
   have h4:=hs i j (Qk _) hij (by simpa using(by simpa [hlen] using hj:j<l.length))
   rw[ltS] at h4
   have hi':i<d'.size:=by simpa using hi
   have hj':j<d'.size:=by simpa using hj
   rw[getElem!_pos d' j hj',getElem!_pos d' i hi'] at h4
   simp at h4⊢
   exact h4
  ·have:=holdsK_cells (l:=d'.toList) hH
   exact this
end YtjambljmnifknaaGreatDoor.Vc
end Go.Proofs
namespace Go.Proofs.YtjambljmnifknaaGreatDoor.Vc
open Go Go.RowKit Tp
theorem putM_nodup{m:List It}(x:It)(h:(m.map (·.stripe)).Nodup):((putM m x).map (·.stripe)).Nodup:=by
 unfold putM
 cases hf:m.findIdx? (λy=>decide (x.stripe=y.stripe)) with
 |some i=>
  dsimp only
  rw[ZD] at hf
  obtain⟨h1,h2,_⟩:=hf
  have h2':x.stripe=m[i].stripe:=by simpa using h2
  have:(m.set i x).map (·.stripe)=m.map (·.stripe):=by
   rw[ZO,h2']
   refine QQ λj=>?_
   rw[ZF]
   split
   ·rename_i e;subst e;simp[h1]
   ·rfl
  rw[this]
  exact h
 |none=>
  dsimp only
  rw[YO] at hf
  rw[Qy,List.nodup_append]
  refine⟨h,by simp,λa ha b hb e=>?_⟩
  simp at hb
  obtain⟨y,hy,rfl⟩:=Qw.1 ha
  have:=hf y hy
  simp at this
  omega
theorem newStep_nodup{m:List It}(x:It)(h:(m.map (·.stripe)).Nodup):((newStep m x).map (·.stripe)).Nodup:=by
 unfold newStep
 split
 ·exact putM_nodup x h
 ·split
  ·exact putM_nodup x h
  ·exact h
theorem foldl_nodup:∀(l:List It) {m:List It},(m.map (·.stripe)).Nodup→((l.foldl newStep m).map (·.stripe)).Nodup
 |[],_,h=>h
 |x::l,_,h=>foldl_nodup l (newStep_nodup x h)
theorem newestM_nodup(l:List It):((newestM l).map (·.stripe)).Nodup:=foldl_nodup l (by simp)
theorem putM_mem{m:List It}{x y:It}(h:y∈putM m x):y=x∨y∈m:=by
 unfold putM at h
 split at h
 ·exact(Zy h).symm
 ·rcases Qz.1 h with h|h
  ·exact .inr h
  ·exact .inl (by simpa using h)
theorem foldl_mem:∀(l m:List It) {y:It},y∈l.foldl newStep m→y∈m∨y∈l
 |[],_,_,h=>.inl h
 |x::l,m,y,h=>by
  rcases foldl_mem l _ h with h|h
  ·unfold newStep at h
   have hp:y∈putM m x→y∈m∨y∈x::l:=λh=>(putM_mem h).elim (λe=>.inr (by simp[e])) .inl
   split at h
   ·exact hp h
   ·split at h
    ·exact hp h
    ·exact .inl h
  ·exact .inr (Qu _ h)
theorem newestM_mem{l:List It}{y:It}(h:y∈newestM l):y∈l:=(foldl_mem l [] h).elim (λh=>by cases h) id
theorem sorted_eq:∀{l m:List It},l.Perm m→(l.map (·.stripe)).Nodup→l.Pairwise (λa b=>a.stripe≤b.stripe)→m.Pairwise (λa b=>a.stripe≤b.stripe)→l=m
 |[],m,h,_,_,_=>(List.Perm.nil_eq h)
 |a::l,m,h,hn,h1,h2=>by
  cases m with
  |nil=>exact absurd h.length_eq (by simp)
  |cons b m=>
   have hab:a=b:=by
    have ha:a∈b::m:=h.subset (Qs ..)
    have hb:b∈a::l:=h.symm.subset (Qs ..)
    rcases QB.1 ha with e|ha
    ·exact e
    ·rcases QB.1 hb with e|hb
     ·exact e.symm
     ·have h3:=(ZL.1 h1).1 b hb
      have h4:=(ZL.1 h2).1 a ha
      have h5:a.stripe=b.stripe:=by omega
      rw[QX,List.nodup_cons] at hn
      exact absurd (h5▸List.mem_map_of_mem hb) hn.1
   subst hab
   rw[sorted_eq (List.Perm.cons_inv h) (by rw[QX,List.nodup_cons] at hn;exact hn.2) (ZL.1 h1).2 (ZL.1 h2).2]
def insI(x:It):List It→List It
 |[]=>[x]
 |y::r=>if x.stripe≤y.stripe then x::y::r else y::insI x r
def sortI:List It→List It
 |[]=>[]
 |x::r=>insI x (sortI r)
theorem insI_perm(x:It):∀l,(insI x l).Perm (x::l)
 |[]=>Y7 _
 |y::r=>by
  unfold insI
  split
  ·exact Y7 _
  ·exact((insI_perm x r).cons y).trans (List.Perm.swap x y r)
theorem insI_sorted(x:It):∀l:List It,l.Pairwise (λa b=>a.stripe≤b.stripe)→(insI x l).Pairwise (λa b=>a.stripe≤b.stripe)
 |[],_=>by simp[insI]
 |y::r,h=>by
  obtain⟨h1,h2⟩:=ZL.1 h
  unfold insI
  split
  ·rename_i hxy
   exact ZL.2 ⟨λb hb=>(QB.1 hb).elim (λe=>e▸hxy) λhb=>Yo hxy (h1 b hb),h⟩
  ·exact ZL.2 ⟨λb hb=>(QB.1 ((insI_perm x r).subset hb)).elim (λe=>by subst e;omega) (h1 b),insI_sorted x r h2⟩
theorem sortI_perm:∀l,(sortI l).Perm l
 |[]=>Y7 _
 |x::r=>(insI_perm x _).trans ((sortI_perm r).cons x)
theorem sortI_sorted:∀l:List It,(sortI l).Pairwise (λa b=>a.stripe≤b.stripe)
 |[]=>List.Pairwise.nil
 |x::r=>insI_sorted x _ (sortI_sorted r)
def newestV(l:List It):List It:=sortI (newestM l)
theorem newestV_perm(l:List It):(newestV l).Perm (newestM l):=sortI_perm _
theorem newestV_of{l l':List It}(hp:l'.Perm (newestM l))(hs:l'.Pairwise (λa b=>a.stripe≤b.stripe)):l'=newestV l:=
 sorted_eq (hp.trans (newestV_perm l).symm) ((hp.map (·.stripe)).nodup_iff.2 (newestM_nodup l)) hs (sortI_sorted _)
theorem newestV_mem{l:List It}{y:It}(h:y∈newestV l):y∈l:=newestM_mem ((newestV_perm l).subset h)
theorem s_sortedf{X:Heap}{Bm b:Nat}{m:List It}(hm:m.length≤1000000)(hBm:X[Bm]? =some (.cells #[.map (some b)] 186 (0,0)))(hb:X[b]? =some (mapO m)):
  Spec prog 118 #[.func (.func 190) #[] #[ptr Bm 0],.func (.func 120) #[] #[]] X nob λu H'=>∃l':List It,l'.Perm m∧l'.Pairwise (λa b=>a.stripe≤b.stripe)∧Rw H' u (l'.map itL)∧∀k,u.ownBlock=some k→X.size≤k∧k<H'.size:=by
 have hc:=s_collect Bm b m hm hBm hb
 refine spx func118 ?_
 conv=>whnf
 refine .q (hc) ?_
 rintro u H1 ⟨xs,hp,ho⟩ e1 _
 have hs:=s_sortf xs ho (by rw[hp.length_eq];exact hm)
 have hge:=λk hk=>(ho.ge k hk).1
 have hgl:=λk hk=>(ho.ge k hk).2
 conv=>whnf
 refine .t (hs) ((λk hk=>.inr (hge k hk))) ?_
 rintro _ H2 ⟨l',hp',hst,hr⟩ e2 _
 exact⟨l',hp'.trans hp,hst,hr,λk hk=>⟨hge k hk,QH (hgl k hk) e2.1⟩⟩
theorem s_rnewest(l:List It)(hl:l.length≤1000000){v:Value}{H:Heap}(hv:Rw H v (l.map itL)):
  Spec prog 67 #[v] H nob λu H'=>Rw H' u ((newestV l).map itL)∧∀k,u.ownBlock=some k→H.size≤k∧k<H'.size:=
 (s_newest (λm u H'=>∃l':List It,l'.Perm m∧l'.Pairwise (λa b=>a.stripe≤b.stripe)∧Rw H' u (l'.map itL)∧∀k,u.ownBlock=some k→H.size≤k∧k<H'.size) l hl hv
  (λhF hm hBm hb=>(s_sortedf hm hBm hb).imp λu H' ⟨l',h1,h2,h3,h4⟩=>⟨l',h1,h2,h3,λk hk=>⟨Qb hF.1 (h4 k hk).1,(h4 k hk).2⟩⟩)).imp λu H' ⟨l',h1,h2,h3,h4⟩=>by
  rw[newestV_of h1 h2] at h3
  exact⟨h3,h4⟩
attribute [irreducible] newestV
end Go.Proofs.YtjambljmnifknaaGreatDoor.Vc
namespace Go.Proofs.YtjambljmnifknaaGreatDoor.Vc
open Go Go.RowKit Tp
open Dk (Arr Dsk)
theorem AppendVC.own{c:Ctx}{H:Heap}{t e:TypeId}{v x:Value}{K:KK}{base base' n m sz:Nat}{xs ys:List Value}(hb:elB c.P t e sz=true)(hown:Own H base e sz v n xs)(hx:Own H base' e sz x m ys)(h1:∀y∈ys,oneCell y=true)(hn:n+m≤1000000000000)(hbase:base≤H.size)
  (hS:∀k,v.ownBlock=some k→c.S k∨c.H0.size≤k) (hF:Frm c.S c.H0 H) (k:∀v' H',Own H' base e sz v' (n+m) (xs++ys)→Frm (λk=>v.ownBlock=some k) H H'→Frm c.S c.H0 H'→(∀k,v'.ownBlock=some k→v.ownBlock=some k∨H.size≤k)→K v' H'):AppendVC c H t v x K:=by
 unfold elB at hb
 cases he:elemI c.P t with
 |none=>rw[he] at hb;cases hb
 |some p=>
  obtain⟨e',i,z⟩:=p
  rw[he] at hb
  simp only[QA,Nat.blt_eq,Nat.ble_eq] at hb
  obtain⟨⟨⟨⟨q1,q2⟩,hz⟩,h0⟩,hby⟩:=hb
  obtain rfl:=QF q1
  obtain rfl:=QF q2
  replace hz:=QF hz
  rcases hx.blk with ⟨rfl,rfl⟩|⟨g,cap,cs,rfl,_,hg,hnc,_,hcs,hcx⟩
  ·have hys:ys=[]:=Qm (by have:=hx.1;simpa using this)
   subst hys
   obtain⟨ad,cp,rfl⟩:=hown.form
   refine⟨.inl ⟨e',i,z,he,.inr ⟨rfl,ad,n,cp,rfl,?_,?_⟩⟩⟩
   ·rcases hown.blk with ⟨h,h2⟩|⟨_,_,_,h,_,_,h3,_⟩
    ·omega
    ·injection h with _ _ h5;omega
   ·exact k _ H (by simpa using hown) (Frm.refl _ _) hF λk hk=>.inl hk
  ·have hl:ys.length=m*i.size:=hx.1
   refine AppendVC.k2 ys he hown (CellsAt.of λj v hj=>cel_of hg ?_) (by simp[hz,h0]) hl h1 (by omega) (Qb (YB _ hby) (by omega)) hbase hS k
   have hjl:=(Qe.1 hj).1
   rw[←hcx,QZ] at hj
   split at hj
   ·rw[Qr,Qq];exact hj
   ·cases hj
section
attribute [local semireducible] gath
theorem gath_len{c:Cf}(hc:cfOk c)(ar di:Int)(sec:List By):(gath c ar di sec).length≤16:=by
 unfold gath
 rw[if_pos hc]
 have:=gathF_le c ar di sec c.sl.toNat 0
 have:=hc.b
 omega
end
def rowsV(v:Vol)(a:Arr)(d:Int):List By:=(List.range (cfSectors v.conf).toNat).map λj=>aR a d ((j:Nat):Int)
def intF(v:Vol)(a:Arr):List Int→List It
 |[]=>[]
 |d::r=>gath v.conf v.id d (rowsV v a d)++intF v a r
def vintsV(a:Arr)(v:Vol):List It:=newestV (intF v a (aliveL a (v.conf.m+1)))
theorem oneCell_its(l:List It):∀y∈itsV l,oneCell y=true:=by
 intro y hy
 unfold itsV at hy
 rw[List.mem_flatten] at hy
 obtain⟨r,hr,hy⟩:=hy
 obtain⟨x,_,rfl⟩:=Qw.1 hr
 simp[itL] at hy
 rcases hy with rfl|rfl|rfl<;>rfl
section
variable {p:Pl}{gv:Nat}{v:Vol}{a:Arr}{H:Heap}{U:Nat→Prop}
theorem s_vints(h:AV p gv v a H U){B:Nat}(hB:Sm B a)(hc:cfOk v.conf):
  Spec prog 35 #[ptr gv 0] H U λu H'=>Rw H' u ((vintsV a v).map itL)∧∃S',PaH p a H' S'∧Sub S' U H∧(∀k,u.ownBlock=some k→H.size≤k∧k<H'.size∧¬S' k):=by
 have hb:=hc.b
 obtain⟨fin,hfin⟩:∃x,vintsV a v=x:=⟨_,rfl⟩
 rw[hfin]
 unfold vintsV at hfin
 have hal:=λ{X:Heap} {V:Nat→Prop} (hX:AV p gv v a X V)=>s_valive' hX (v.conf.m+1) (by omega)
 have hall:=aliveL_len a (v.conf.m+1)
 generalize aliveL a (v.conf.m+1)=al at hfin hal hall
 have hsec:=λH=>s_sectors v.conf H
 have hsb:0≤cfSectors v.conf∧cfSectors v.conf≤1017:=by unfold cfSectors;rw[if_pos hc];omega
 obtain⟨n,hn⟩:∃n:Nat,cfSectors v.conf=(n:Int):=⟨_,(QL hsb.1).symm⟩
 have hrows:∀d,rowsV v a d=(List.range n).map λj=>aR a d ((j:Nat):Int):=λd=>by unfold rowsV;rw[hn];rfl
 rw[hn] at hsec hsb
 obtain⟨tot,htot⟩:∃x,intF v a al=x:=⟨_,rfl⟩
 rw[htot] at hfin
 refine spx func35 ?_
 conv=>whnf
 refine⟨_,cel_of h.vol rfl,?_⟩
 conv=>whnf
 refine⟨rfl,_,wr64 (by omega) (by omega),?_⟩
 conv=>whnf
 refine .t (hal h) ((λk hk=>.inl hk)) ?_
 rintro _ H1 ⟨ad,cap,rfl,ho1,S1,ha1,hs1,hn1⟩ e1 _
 have h1:=h.step e1 ha1 hs1
 conv=>whnf
 refine .g [(0,ptr gv 0),(15,.slice ad al.length cap),(16,.int .i64 (al.length:Int)),(17,.int .i64 0),(3,.slice none 0 0)] ⟨rfl,rfl,rfl,rfl,rfl,trivial⟩ λenv0 KL hKL=>?_
 refine⟨Nat×List Int×List It×Value,λx=>[(17,.int .i64 (x.1:Int)),(3,x.2.2.2)],λx H'=>x.1+x.2.1.length=al.length∧al.drop x.1=x.2.1∧x.2.2.1++intF v a x.2.1=tot∧x.2.2.1.length≤16*x.1∧Own H' H.size 3 1 (.slice ad al.length cap) al.length (intV al)∧Own H' H.size 82 3 x.2.2.2 x.2.2.1.length (itsV x.2.2.1)∧H.size≤H'.size∧
  ∃S',AV p gv v a H' S'∧Sub S' U H∧(∀k,(Value.slice ad al.length cap).ownBlock=some k→¬S' k)∧(∀k,x.2.2.2.ownBlock=some k→¬S' k),λx=>x.2.1.length,
  ⟨(0,al,[],.slice none 0 0),⟨rfl,rfl,trivial⟩,by simp,rfl,htot,Qd _,ho1,Own.nil _ _ _ _,e1.1,S1,h1,hs1,hn1,λk hk=>by cases hk⟩,?_⟩
 rintro⟨i,r,acc,u⟩ HA junk ⟨hi,hdr,hto,hac,hoA,huA,hlA,SA,hA,sA,hnA,hnu⟩ FA
 dsimp only at hi hdr hto hac huA hnu
 conv=>whnf
 refine⟨rfl,λh5=>?_,λh5=>?_⟩
 ·have h':i<al.length:=by have:(i:Int)<(al.length:Int):=h5;omega
  cases r with
  |nil=>simp at hi;omega
  |cons d r=>
   have hy:al[i]? =some d:=by
    have:=Qf (·[0]?) hdr
    simpa using this
   have hdr':al.drop (i+1)=r:=by
    have:=Qf List.tail hdr
    simpa using this
   have hwi:IntKind.i64.wrap ((i:Int)+1)=((i+1:Nat):Int):=by rw[wr64 (by omega) (by omega)];omega
   unfold intF at hto
   rw[hrows] at hto
   have hic:=hoA.gint
   refine Qh hic λad2 hic=>Qh hic λcap2 hic=>?_
   have hwe:=hic.1
   cases hwe
   have hic2:=hic.2 i _ hy
   refine Qh hic2 λib hic2=>Qh hic2 λio hic2=>?_
   have hic1:=hic2.1
   subst hic1
   conv=>whnf
   refine⟨i,rfl,h',?_⟩
   conv=>whnf
   refine⟨_,hic2.2,?_⟩
   conv=>whnf
   refine⟨cfL v.conf,rfl,hA.cf,?_⟩
   conv=>whnf
   refine .q (hsec _) ?_
   rintro _ HB rfl eB _
   conv=>whnf
   refine⟨n,n,rfl,rfl,Qd _,by omega,by show 16*n≤_;omega,rfl,?_⟩
   intro HC bs fC _
   have hbs:=fC.size
   have hAB:=eB.1
   obtain⟨f,hf⟩:∃f:Nat→Value,f=λj=>.string (S (aR a d ((j:Nat):Int))):=⟨_,rfl⟩
   have hC0:HC[bs]? =some (.cells (mixL n 0 f (λ_=>.string (S []))).toArray 9 (0,0)):=by rw[mixL_zero];exact fC.at
   have hC:=(hA.q eB).q fC.e
   have hoC:=(hoA.q eB).q fC.e
   have huC:=(huA.q eB).q fC.e
   have hnb:¬SA bs:=λe=>by have:=hA.arr.lt bs e;omega
   conv=>whnf
   refine .g [(0,ptr gv 0),(3,u),(5,.int .i64 d),(6,.slice (some ⟨bs,0,none⟩) n n),(15,.slice (some ⟨ib,io,none⟩) al.length cap),(16,.int .i64 (al.length:Int)),(17,.int .i64 (i:Int)),(28,.int .i64 (n:Int)),(29,.int .i64 0)] ⟨rfl,rfl,rfl,rfl,rfl,rfl,rfl,rfl,rfl,trivial⟩ λenv1 KM hKM=>?_
   refine⟨Nat,λj=>[(29,.int .i64 (j:Int))],λj H'=>j≤n∧H'[bs]? =some (.cells (mixL n j f (λ_=>.string (S []))).toArray 9 (0,0))∧Own H' H.size 3 1 (.slice (some ⟨ib,io,none⟩) al.length cap) al.length (intV al)∧Own H' H.size 82 3 u acc.length (itsV acc)∧H.size≤H'.size∧
    ∃S',AV p gv v a H' S'∧Sub S' U H∧(∀k,(Value.slice (some ⟨ib,io,none⟩) al.length cap).ownBlock=some k→¬S' k)∧(∀k,u.ownBlock=some k→¬S' k)∧¬S' bs,λj=>n-j,
    ⟨0,⟨rfl,trivial⟩,Qk _,hC0,hoC,huC,by omega,SA,hC,sA,hnA,hnu,hnb⟩,?_⟩
   rintro j HD junk2 ⟨hj,hD0,hoD,huD,hlD,SD,hD,sD,hnD,hnuD,hnbD⟩ FD
   conv=>whnf
   refine⟨rfl,λh6=>?_,λh6=>?_⟩
   ·have h6':j<n:=by have:(j:Int)<(n:Int):=h6;omega
    have hwj:IntKind.i64.wrap ((j:Int)+1)=((j+1:Nat):Int):=by rw[wr64 (by omega) (by omega)];omega
    conv=>whnf
    refine⟨_,cel_of hD.vol rfl,?_⟩
    conv=>whnf
    refine .t (s_aread d (j:Int) hD.arr) ((λk hk=>sD k hk)) ?_
    rintro _ HE ⟨rfl,SE,haE,hsE⟩ eE _
    have hE:=hD.step eE haE hsE
    have hpo:=hoD.past hnD eE hsE
    have hpu:=huD.past hnuD eE hsE
    have hE0:=eE.blkT hD0 hnbD
    have hbl:=(Qa.1 hD0).1
    have hnbE:¬SE bs:=λe=>(hsE bs e).elim hnbD λe=>by omega
    conv=>whnf
    refine⟨j,rfl,h6',?_⟩
    conv=>whnf
    refine .one (v:=.string (S (aR a d ((j:Nat):Int)))) j hE0 (.inr (by show H.size≤bs;omega)) (Qr j) rfl (by kernel_rfl) (by rw[mixL_len];exact h6') ?_
    intro HF uF' _
    have uF:Upd HE HF bs (.cells (mixL n (j+1) f (λ_=>.string (S []))).toArray 9 (0,0)):=by
     rw[←mixL_set h6' (v:=.string (S (aR a d ((j:Nat):Int)))) (by rw[hf])]
     exact uF'
    conv=>whnf
    refine⟨rfl,_,hwj,?_⟩
    exact⟨j+1,⟨rfl,trivial⟩,⟨h6',uF.1,hpo.1.frm uF.e (λk hk (e:k=bs)=>hpo.1.ne hE0 (by decide) (e▸hk)),hpu.1.frm uF.e (λk hk (e:k=bs)=>hpu.1.ne hE0 (by decide) (e▸hk)),Qb hlD (Qb eE.1 uF.e.1),SE,
     hE.frm uF.e (λk hk (e:k=bs)=>hnbE (e▸hk)) (λ(e:gv=bs)=>by have:=hE.vol;rw[e,hE0] at this;simp at this),hsE.up sD hlD,hpo.2,hpu.2,hnbE⟩,by show n-(j+1)<n-j;omega⟩
   ·have hjn:j=n:=by have:¬(j:Int)<(n:Int):=h6;omega
    subst hjn
    refine hKM _ _ _ ?_
    have hrd:Rd HD (.slice (some ⟨bs,0,none⟩) j j) (strV ((List.range j).map λj=>aR a d ((j:Nat):Int))):=by
     have hm:mixL j j f (λ_=>.string (S []))=strV ((List.range j).map λj=>aR a d ((j:Nat):Int)):=mixL_all (by simp[strV]) λt v ht=>by
      simp[strV] at ht
      obtain⟨q,q1,q2⟩:=ht
      obtain⟨_,q3⟩:=Qe.1 q1
      rw[Yj] at q3
      subst q3
      rw[hf,←q2]
     rw[hm] at hD0
     exact .inr ⟨bs,0,j,by simp[strV],by simp[strV],CellsAt.at hD0⟩
    have hga:=λ{X:Heap} (e:Frm nob HD X)=>s_gather v.conf v.id d _ (hrd.q e) (λs hs=>by
     obtain⟨t,_,rfl⟩:=Qw.1 hs
     exact Qb (aread_len hB d _) (by omega))
    have hgl:=gath_len hc v.id d ((List.range j).map λj=>aR a d ((j:Nat):Int))
    generalize gath v.conf v.id d ((List.range j).map λj=>aR a d ((j:Nat):Int))=gl at hto hga hgl
    have hgu:¬u.ownBlock=some gv:=huD.ne hD.vol (by decide)
    conv=>whnf
    refine .p (λk=>u.ownBlock=some k) (.take 0 (.take 1 (.take 2 (.take 3 (.take 4 (.take 5 (.take 6 (.take 7 (.take 8 (.take 9 (.take 10 (.one 11 (.one 12 (.take 13 .done)))))))))))))) (λk hk=>.inr (by show H.size≤k;exact(huD.ge k hk).1)) (by kernel_rfl) ?_
    conv=>whnf
    refine⟨hgu,cfL v.conf,rfl,by simp[cfL],hD.cf,?_⟩
    conv=>whnf
    refine⟨hgu,_,cel_of hD.vol rfl,?_⟩
    conv=>whnf
    refine .q (hga (Frm.refl _ _)) ?_
    rintro x HE hox eE _
    have huE:=huD.q eE
    conv=>whnf
    refine .own (by kernel_rfl) huE hox (oneCell_its _) (by omega) (by have:=eE.1;omega) (λk hk=>.inl hk) (eE.mono λ_ _ h=>h.elim) ?_
    intro u2 HF hu2 eF _ hbk
    have hE:=hD.q eE
    have hF:AV p gv v a HF SD:=hE.frm eF (λk hk e=>hnuD k e hk) hgu
    have hoF:=(hoD.q eE).frm eF (λk hk e=>Own.apart huE (hoD.q eE) (by decide) k e hk)
    conv=>whnf
    refine⟨rfl,_,hwi,?_⟩
    refine⟨(i+1,r,acc++gl,u2),⟨rfl,rfl,trivial⟩,⟨by simp at hi⊢;omega,hdr',by rw[Qt];exact hto,by simp;omega,hoF,?_,Qb hlD (Qb eE.1 eF.1),SD,hF,sD,hnD,λk hk e=>?_⟩,by show r.length<r.length+1;omega⟩
    ·rw[Qi,show itsV (acc++gl)=itsV acc++itsV gl by simp[itsV]]
     exact hu2
    ·rcases hbk k hk with h|h
     ·exact hnuD k h e
     ·have:=hE.arr.lt k e;omega
 ·have hr0:r=[]:=Qm (by have:¬(i:Int)<(al.length:Int):=h5;omega)
  rw[hr0] at hto
  have hto':acc=tot:=by simpa [intF] using hto
  subst hto'
  have hrn:=s_rnewest acc (by omega) (huA.rw (ls:=acc.map itL) rfl (by simp))
  rw[hfin] at hrn
  refine hKL _ _ _ ?_
  conv=>whnf
  refine .q (hrn) ?_
  rintro _ HB ⟨hR,hge⟩ eB _
  exact⟨hR,SA,hA.arr.q eB,sA,λk hk=>⟨Qb hlA (hge k hk).1,(hge k hk).2,λe=>by have:=hA.arr.lt k e;have:=(hge k hk).1;omega⟩⟩
end
attribute [irreducible] vintsV intF rowsV
theorem s_max{v:Value}{H:Heap}{l:List Int}(h:Rd H v (intV l))(h0:l≠[])(hn:l.length≤1000000):Spec prog 37 #[v] H nob λu H'=>u=.int .i64 (Lib.maxOf l)∧H=H':=by
 have hl:0<l.length:=List.length_pos_iff.2 h0
 rcases h with ⟨rfl,h⟩|⟨b,o,cap,rfl,hc,hx⟩
 ·have:l=[]:=by simpa [intV] using h
  exact absurd this h0
 ·have hil:(intV l).length=l.length:=by simp[intV]
  rw[hil] at hc⊢
  refine spec_same (by kernel_rfl) λw hw=>?_
  have:=Tryz.slices_Max_int b o l.length cap l w hl (Qd _) (by omega) (λj hj=>by
   rw[cel_w,hw]
   exact hx.get (by simp[intV,hj]))
  rw[Zx] at this
  exact this
def seqF(a:Arr)(v:Vol):Nat→Nat→Int→Int
 |0,_,s=>s
 |q+1,n,s=>seqF a v q (n+1) (max s (Lib.maxOf ((vstate a v (n:Int)).map (·.2))))
def fixF(v:Vol)(al:List Int):List It→Arr→Int×Arr
 |[],a=>(0,a)
 |x::r,a=>
  if x.seq+1<Lib.maxOf ((vstate a v x.stripe).map (·.2)) then fixF v al r a else
  if(cntB (ofV ((vstate a v x.stripe).map (·.2)) (x.seq+1)):Int)=al.length then fixF v al r a else
  if(shardsV a v x.stripe (x.seq+1) x.text al).1≠0 then shardsV a v x.stripe (x.seq+1) x.text al else fixF v al r (shardsV a v x.stripe (x.seq+1) x.text al).2
def vol0(c:Cf)(id:Int):Vol:=⟨c,id,0⟩
def openW(a:Arr)(v:Vol):(Option Vol×Int)×Arr:=
 if(fixF v (aliveL a a.ds.length) (vintsV a v) a).1≠0 then((none,(fixF v (aliveL a a.ds.length) (vintsV a v) a).1),(fixF v (aliveL a a.ds.length) (vintsV a v) a).2) else
 if Dk.powerE (fixF v (aliveL a a.ds.length) (vintsV a v) a).2≠0 then((none,Dk.powerE (fixF v (aliveL a a.ds.length) (vintsV a v) a).2),Dk.aflushed (fixF v (aliveL a a.ds.length) (vintsV a v) a).2) else
 ((some ⟨v.conf,v.id,seqF a v v.conf.st.toNat 0 (nextSeq (vintsV a v))⟩,0),Dk.aflushed (fixF v (aliveL a a.ds.length) (vintsV a v) a).2)
def vopenV(a:Arr)(id:Int):(Option Vol×Int)×Arr:=
 if a.down=true then((none,9),a) else match vheadV a ⟨cf0,id,0⟩ with
 |none=>((none,10),a)
 |some c=>openW a (vol0 c id)
section
attribute [local semireducible] vstate vgetV vintsV intF rowsV
theorem stOne_seq(a:Arr)(v:Vol)(s pl d:Int):stOne a ⟨v.conf,v.id,s⟩ pl d=stOne a v pl d:=rfl
theorem stF_seq(a:Arr)(v:Vol)(s pl:Int):∀q d,stF a ⟨v.conf,v.id,s⟩ pl q d=stF a v pl q d
 |0,_=>rfl
 |q+1,d=>by unfold stF;rw[stF_seq a v s pl q,stOne_seq]
theorem vstate_seq(a:Arr)(v:Vol)(s:Int)(n:Int):vstate a ⟨v.conf,v.id,s⟩ n=vstate a v n:=stF_seq a v s _ _ _
end
theorem vhead_ok{a:Arr}{v:Vol}{c:Cf}(h:vheadV a v=some c):cfOk c∧cfDisks c=a.ds.length:=by
 unfold vheadV at h
 have:∀l:List Int,headF a v l=some c→cfOk c∧cfDisks c=a.ds.length:=by
  intro l
  induction l with
  |nil=>intro h;cases h
  |cons d r ih=>
   intro h
   unfold headF at h
   split at h
   ·split at h
    ·split at h
     ·rename_i h1 h2
      injection h with h
      subst h
      refine⟨?_,h2⟩
      unfold cfRead at h1⊢
      split at h1
      ·rename_i h3
       rw[if_pos h3]
       exact h3.2.2
      ·cases h1
     ·exact ih h
    ·exact ih h
   ·exact ih h
 exact this _ h
theorem fixF_sm(v:Vol)(al:List Int):∀(l:List It) {B:Nat} {a:Arr},Sm B a→Sm (B+l.length*al.length) (fixF v al l a).2
 |[],_,_,h=>h.mono (by omega)
 |x::r,B,a,h=>by
  unfold fixF
  have h1:=shardsV_sm v x.stripe (x.seq+1) x.text al h
  have e:(r.length+1)*al.length=r.length*al.length+al.length:=Q6 _ _
  simp only[Qo,e]
  split
  ·exact(fixF_sm v al r h).mono (by omega)
  ·split
   ·exact(fixF_sm v al r h).mono (by omega)
   ·split
    ·exact h1.mono (by omega)
    ·exact(fixF_sm v al r h1).mono (by omega)
section
attribute [local semireducible] shardsV putF vputE vputA
theorem putF_ds(v:Vol)(pl ep:Int)(l:List By):∀(ds:List Int) (a:Arr),(putF v pl ep l ds a).2.ds.length=a.ds.length
 |[],_=>rfl
 |d::ds,a=>by
  unfold putF
  split
  ·exact vputA_ds _ _ _ _ _ _
  ·rw[putF_ds v pl ep l ds];exact vputA_ds _ _ _ _ _ _
theorem shardsV_ds(a:Arr)(v:Vol)(n ep:Int)(t:By)(ds:List Int):(shardsV a v n ep t ds).2.ds.length=a.ds.length:=by
 unfold shardsV
 split
 ·rfl
 ·exact putF_ds _ _ _ _ _ _
theorem putF_seq(v:Vol)(s pl ep:Int)(l:List By):∀(ds:List Int) (a:Arr),putF ⟨v.conf,v.id,s⟩ pl ep l ds a=putF v pl ep l ds a
 |[],_=>rfl
 |d::ds,a=>by
  unfold putF
  rw[putF_seq v s pl ep l ds]
  rfl
theorem shardsV_seq(a:Arr)(v:Vol)(s n ep:Int)(t:By)(ds:List Int):shardsV a ⟨v.conf,v.id,s⟩ n ep t ds=shardsV a v n ep t ds:=by
 unfold shardsV
 rw[putF_seq]
end
theorem s_vstate'{p:Pl}{gv:Nat}{v:Vol}{a:Arr}{H:Heap}{U:Nat→Prop}(h:AV p gv v a H U){B:Nat}(hB:Sm B a)(n:Int)(hnd:a.ds.length≤1000000):
  Spec prog 38 #[ptr gv 0,.int .i64 n] H U λu H'=>∃ad1 c1 ad2 c2,u=.agg #[.slice ad1 (vstate a v n).length c1,.slice ad2 (vstate a v n).length c2]∧Own H' H.size 9 1 (.slice ad1 (vstate a v n).length c1) (vstate a v n).length (strV ((vstate a v n).map (·.1)))∧Own H' H.size 3 1 (.slice ad2 (vstate a v n).length c2) (vstate a v n).length (intV ((vstate a v n).map (·.2)))∧
   ∃S',PaH p a H' S'∧Sub S' U H∧(∀k,(Value.slice ad1 (vstate a v n).length c1).ownBlock=some k→¬S' k)∧(∀k,(Value.slice ad2 (vstate a v n).length c2).ownBlock=some k→¬S' k):=
 (s_vstate h hB n hnd).imp λu H' ⟨u1,u2,h0,h1,h2,h3⟩=>by
  obtain⟨ad1,c1,rfl⟩:=h1.form
  obtain⟨ad2,c2,rfl⟩:=h2.form
  exact⟨ad1,c1,ad2,c2,h0,h1,h2,h3⟩
theorem s_vints'{p:Pl}{gv:Nat}{v:Vol}{a:Arr}{H:Heap}{U:Nat→Prop}(h:AV p gv v a H U){B:Nat}(hB:Sm B a)(hc:cfOk v.conf):
  Spec prog 35 #[ptr gv 0] H U λu H'=>∃ad cap,u=.slice ad (vintsV a v).length cap∧Rw H' (.slice ad (vintsV a v).length cap) ((vintsV a v).map itL)∧∃S',PaH p a H' S'∧Sub S' U H∧(∀k,(Value.slice ad (vintsV a v).length cap).ownBlock=some k→H.size≤k∧k<H'.size∧¬S' k):=
 (s_vints h hB hc).imp λu H' ⟨h1,h2⟩=>by
  obtain⟨ad,cap,rfl,_⟩:=h1.its
  exact⟨ad,cap,rfl,h1,h2⟩
section
variable {p:Pl}{a:Arr}{H:Heap}{U:Nat→Prop}
theorem s_vopen(h:PaH p a H U){B:Nat}(hB:Sm B a)(hBB:B≤700000)(hnd:a.ds.length≤6)(id:Int)(hid:id≤9223372036854775807)
  (hits:∀c x,vheadV a ⟨cf0,id,0⟩=some c→x∈vintsV a (vol0 c id)→x.text.length≤65535∧0≤x.seq∧x.seq≤eMax) (hil:∀c,vheadV a ⟨cf0,id,0⟩=some c→(vintsV a (vol0 c id)).length≤3000):
  Spec prog 20 #[ptr p.ga 0,.int .i64 id] H U λu H'=>match(vopenV a id).1.1 with
   |none=>u=.tuple #[.pointer none,.int .i64 (vopenV a id).1.2]∧∃S',PaH p (vopenV a id).2 H' S'∧Sub S' U H
   |some v=>∃gv,u=.tuple #[ptr gv 0,.int .i64 0]∧H.size≤gv∧∃S',AV p gv v (vopenV a id).2 H' S'∧Sub S' U H:=by
 obtain⟨tot,htot⟩:∃x,vopenV a id=x:=⟨_,rfl⟩
 rw[htot]
 unfold vopenV at htot
 have hhd:=λ{gv:Nat} {X:Heap} {V:Nat→Prop} (hX:AV p gv ⟨cf0,id,0⟩ a X V)=>s_vhead hX hB (Qb hnd (by decide))
 have hok:=λc=>vhead_ok (a:=a) (v:=⟨cf0,id,0⟩) (c:=c)
 obtain⟨hd,hhd0⟩:∃x,vheadV a ⟨cf0,id,0⟩=x:=⟨_,rfl⟩
 rw[hhd0] at htot hhd hok hits hil
 cases hd with
 |none=>
  dsimp only at htot
  refine spx func20 ?_
  conv=>whnf
  refine⟨rfl,?_⟩
  conv=>whnf
  intro H1 gv f1 _
  have hgs:=f1.size
  have hg1:H1[gv]? =some (.cells (volL p.ga ⟨cf0,id,0⟩).toArray 70 (0,0)):=f1.at
  have h1:AV p gv ⟨cf0,id,0⟩ a H1 U:=⟨hg1,h.q f1.e,λe=>by have:=h.lt gv e;omega⟩
  refine .tb (s_adown h1.arr) (λk hk=>.inl hk) ?_ ?_
  ·rintro hdn H2 ⟨S2,ha2,hs2⟩ e2 _
   rw[if_pos hdn] at htot
   subst htot
   conv=>whnf
   exact⟨rfl,S2,ha2,hs2.up (Sub.refl _ _) f1.e.1⟩
  rintro hdn H2 ⟨S2,ha2,hs2⟩ e2 _
  rw[if_neg (by rw[hdn];decide)] at htot
  have h2:=h1.step e2 ha2 hs2
  have s2:Sub S2 U H:=hs2.up (Sub.refl _ _) f1.e.1
  have hl2:H.size≤H2.size:=Qb f1.e.1 e2.1
  conv=>whnf
  refine .t (hhd h2) ((λk hk=>hk.elim (s2 k) λe=>.inr (by show H.size≤k;omega))) ?_
  rintro _ H3 ⟨rfl,S3,h3,hs3⟩ e3 _
  subst htot
  exact⟨rfl,S3,h3.arr,hs3.up s2 hl2⟩
 |some c=>
  dsimp only at htot
  have hcf:=hok c rfl
  have hits:=λx=>hits c x rfl
  have hil:=hil c rfl
  have hb:=hcf.1.b
  have hV0:volC ⟨cf0,id,0⟩ (some c)=vol0 c id:=rfl
  rw[hV0] at hhd
  unfold openW at htot
  obtain⟨V,hV⟩:∃V,vol0 c id=V:=⟨_,rfl⟩
  have hVc:V.conf=c:=by rw[←hV];rfl
  have hVi:V.id=id:=by rw[←hV];rfl
  have hVs:V.seq=0:=by rw[←hV];rfl
  rw[hV] at htot hits hil hhd
  have hal:=λ{gv:Nat} {X:Heap} {W:Nat→Prop} (hX:AV p gv V a X W)=>s_valive' hX (a.ds.length:Int) (by omega)
  have hall:=aliveL_len a a.ds.length
  have halm:=λ{x:Int} (h:x∈aliveL a a.ds.length)=>aliveL_mem h
  generalize aliveL a a.ds.length=al at htot hal hall halm
  have hin:=λ{gv:Nat} {X:Heap} {W:Nat→Prop} (hX:AV p gv V a X W)=>s_vints' hX hB (by rw[hVc];exact hcf.1)
  generalize vintsV a V=nw at htot hits hil hin
  have hnx:=λ{v:Value} {X:Heap} (hv:Rw X v (nw.map itL))=>s_next nw hv (by omega) (λx hx=>by have:=hits x hx;unfold eMax at this;omega)
  generalize nextSeq nw=ns at htot hnx
  obtain⟨sq,hsq⟩:∃s,seqF a V V.conf.st.toNat 0 ns=s:=⟨_,rfl⟩
  rw[hsq] at htot
  obtain⟨fx,hfx⟩:∃s,fixF V al nw a=s:=⟨_,rfl⟩
  rw[hfx] at htot
  have hsmF:=fixF_sm V al nw hB
  rw[hfx] at hsmF
  have hmul:nw.length*al.length≤3000*6:=Q9 hil (by omega)
  refine spx func20 ?_
  conv=>whnf
  refine⟨rfl,?_⟩
  conv=>whnf
  intro H1 gv f1 _
  have hgs:=f1.size
  have hg1:H1[gv]? =some (.cells (volL p.ga ⟨cf0,id,0⟩).toArray 70 (0,0)):=f1.at
  have h1:AV p gv ⟨cf0,id,0⟩ a H1 U:=⟨hg1,h.q f1.e,λe=>by have:=h.lt gv e;omega⟩
  refine .tb (s_adown h1.arr) (λk hk=>.inl hk) ?_ ?_
  ·rintro hdn H2 ⟨S2,ha2,hs2⟩ e2 _
   rw[if_pos hdn] at htot
   subst htot
   conv=>whnf
   exact⟨rfl,S2,ha2,hs2.up (Sub.refl _ _) f1.e.1⟩
  rintro hdn H2 ⟨S2,ha2,hs2⟩ e2 _
  rw[if_neg (by rw[hdn];decide)] at htot
  have h2:=h1.step e2 ha2 hs2
  have s2:Sub S2 U H:=hs2.up (Sub.refl _ _) f1.e.1
  have hl2:H.size≤H2.size:=Qb f1.e.1 e2.1
  conv=>whnf
  refine .t (hhd h2) ((λk hk=>hk.elim (s2 k) λe=>.inr (by show H.size≤k;omega))) ?_
  rintro _ H3 ⟨rfl,S3,h3,hs3⟩ e3 _
  have s3:Sub S3 U H:=hs3.up s2 hl2
  have hl3:=Qb hl2 e3.1
  conv=>whnf
  refine .t (s_adisks h3.arr) ((λk hk=>s3 k hk)) ?_
  rintro _ H4 ⟨rfl,S4,ha4,hs4⟩ e4 _
  have h4:=h3.step e4 ha4 hs4
  have s4:Sub S4 U H:=hs4.up s3 hl3
  have hl4:=Qb hl3 e4.1
  conv=>whnf
  refine .t (hal h4) ((λk hk=>s4 k hk)) ?_
  rintro _ H5 ⟨wad,wcap,rfl,how,S5,ha5,hs5,hn5⟩ e5 _
  have h5:=h4.step e5 ha5 hs5
  have s5:Sub S5 U H:=hs5.up s4 hl4
  have hl5:=Qb hl4 e5.1
  conv=>whnf
  refine .t (hin h5) ((λk hk=>s5 k hk)) ?_
  rintro _ H6 ⟨nad,ncap,rfl,hnv,S6,ha6,hs6,hn6⟩ e6 _
  have h6:=h5.step e6 ha6 hs6
  have s6:Sub S6 U H:=hs6.up s5 hl5
  have hp6:=(how.low hl4).past hn5 e6 hs6
  have hl6:=Qb hl5 e6.1
  conv=>whnf
  refine .q (hnx hnv) ?_
  rintro _ H7 rfl e7 _
  have h7:=h6.q e7
  conv=>whnf
  refine .one 7 h7.vol (.inr (by show H.size≤gv;omega)) rfl rfl (by kernel_rfl) (by simp[volL,cfL]) ?_
  intro H8 u8' _
  have u8:Upd H7 H8 gv (.cells (volL p.ga ⟨V.conf,V.id,ns⟩).toArray 70 (0,0)):=u8'
  have h8:AV p gv ⟨V.conf,V.id,ns⟩ a H8 S6:=⟨u8.1,h7.arr.frm u8.e (λk hk (e:k=gv)=>h7.out (e▸hk)),h7.out⟩
  have how7:=hp6.1.q e7
  have how8:=how7.frm u8.e (λk hk (e:k=gv)=>how7.ne h7.vol (by decide) (e▸hk))
  have hvlt:∀k,(Value.slice nad nw.length ncap).ownBlock=some k→k<H8.size:=λk hk=>QH (hn6 k hk).2.1 (Qb e7.1 u8.e.1)
  have hngv:∀k,(Value.slice nad nw.length ncap).ownBlock=some k→k≠gv:=λk hk e=>by have:=(hn6 k hk).1;have:=h5.lt;omega
  have hnv8:=(hnv.q e7).frm u8.e (λk hk (e:k=gv)=>hngv k hk e)
  have hl8:=Qb hl6 (Qb e7.1 u8.e.1)
  conv=>whnf
  refine⟨_,cel_of h8.vol rfl,?_⟩
  conv=>whnf
  refine .g [(0,ptr p.ga 0),(6,ptr gv 0),(7,.slice wad al.length wcap),(8,(.slice nad nw.length ncap)),(46,.int .i64 V.conf.st),(47,.int .i64 0)] ⟨rfl,rfl,rfl,rfl,rfl,rfl,trivial⟩ λenv0 KL hKL=>?_
  refine⟨Nat×Int,λx=>[(47,.int .i64 (x.1:Int))],λx H'=>x.1≤V.conf.st.toNat∧seqF a V (V.conf.st.toNat-x.1) x.1 x.2=sq∧Own H' H.size 3 1 (.slice wad al.length wcap) al.length (intV al)∧Rw H' (.slice nad nw.length ncap) (nw.map itL)∧H8.size≤H'.size∧
   ∃S',AV p gv ⟨V.conf,V.id,x.2⟩ a H' S'∧Sub S' U H∧(∀k,(Value.slice wad al.length wcap).ownBlock=some k→¬S' k)∧(∀k,(Value.slice nad nw.length ncap).ownBlock=some k→¬S' k),λx=>V.conf.st.toNat-x.1,
   ⟨(0,ns),⟨rfl,trivial⟩,Qk _,hsq,how8,hnv8,Qd _,S6,h8,s6,hp6.2,λk hk=>(hn6 k hk).2.2⟩,?_⟩
  rintro⟨n,s⟩ HA junk ⟨hn,hto,hoA,hvA,hlA,SA,hA,sA,hnA,hnvA⟩ FA
  dsimp only at hn hto hA
  have hlA8:=hlA
  have hlA:=Qb hl8 hlA8
  conv=>whnf
  refine⟨rfl,λh9=>?_,λh9=>?_⟩
  ·have h':n<V.conf.st.toNat:=by have:(n:Int)<V.conf.st:=h9;omega
   have hwn:IntKind.i64.wrap ((n:Int)+1)=((n+1:Nat):Int):=by rw[wr64 (by omega) (by rw[hVc] at h';omega)];omega
   rw[show V.conf.st.toNat-n=(V.conf.st.toNat-(n+1))+1 by omega,seqF] at hto
   have hst:=s_vstate hA hB (n:Int) (by omega)
   rw[vstate_seq] at hst
   have hsl:=vstate_len a V n
   generalize vstate a V n=st at hto hst hsl
   have hne:st.map (·.2)≠[]:=λe=>by
    have:st=[]:=by simpa using e
    rw[this] at hsl
    have:=hcf.2
    unfold cfDisks at this
    rw[if_pos hcf.1] at this
    simp at hsl
    omega
   conv=>whnf
   refine .p2 (λk=>SA k) (λk=>SA k∨k=gv) (λi=>Nat.beq i 13) (.take 0 (.take 1 (.take 2 (.take 3 (.take 4 (.take 5 (.take 6 (.one 7 (.take 8 (.one 9 (.take 10 (.take 11 (.take 12 (.sw (.one 13 .done))))))))))))))) (λk=>.inl) (λk hk=>hk.elim (λe=>sA k e) λe=>.inr (by show H.size≤k;omega)) (by kernel_rfl) ?_
   conv=>whnf
   refine⟨hA.out,_,cel_of hA.vol rfl,?_⟩
   conv=>whnf
   refine .t (hst) ((λk hk=>.inl hk)) ?_
   rintro _ HB ⟨u1,u2,rfl,ho1,ho2,SB,haB,hsB,hq1,hq2⟩ eB _
   have hB1:=hA.step eB haB hsB
   conv=>whnf
   refine .q (s_max ho2.rd.1 hne (by simp;omega)) ?_
   rintro _ HC ⟨rfl,rfl⟩ eC _
   have hpB:=hoA.past hnA eB hsB
   have hvB:=hvA.frm eB hnvA
   have hvS:∀k,(Value.slice nad nw.length ncap).ownBlock=some k→¬SB k:=λk hk e=>(hsB k e).elim (hnvA k hk) λe=>by have:=(hn6 k hk).1;have:=hvlt k hk;omega
   obtain⟨mx,hmxd⟩:∃m,Lib.maxOf (st.map (·.2))=m:=⟨_,rfl⟩
   rw[hmxd] at hto⊢
   conv=>whnf
   refine⟨λhle=>?_,λhle=>?_,rfl⟩
   ·have hmx:max s mx=mx:=Int.max_eq_right hle
    conv=>whnf
    refine .one 7 hB1.vol (.inl (.inr rfl)) rfl rfl (by kernel_rfl) (by simp[volL,cfL]) ?_
    intro HD uD' _
    have uD:Upd HB HD gv (.cells (volL p.ga ⟨V.conf,V.id,mx⟩).toArray 70 (0,0)):=uD'
    conv=>whnf
    refine⟨rfl,_,hwn,?_⟩
    exact⟨(n+1,mx),⟨rfl,trivial⟩,⟨h',by rw[←hto,hmx],hpB.1.frm uD.e (λk hk (e:k=gv)=>hpB.1.ne hB1.vol (by decide) (e▸hk)),hvB.frm uD.e (λk hk (e:k=gv)=>hngv k hk e),Qb hlA8 (Qb eB.1 uD.e.1),SB,
     ⟨uD.1,hB1.arr.frm uD.e (λk hk (e:k=gv)=>hB1.out (e▸hk)),hB1.out⟩,hsB.up sA hlA,hpB.2,hvS⟩,by show V.conf.st.toNat-(n+1)<V.conf.st.toNat-n;omega⟩
   ·have hmx:max s mx=s:=Int.max_eq_left hle
    conv=>whnf
    refine .one 7 hB1.vol (.inl (.inr rfl)) rfl rfl (by kernel_rfl) (by simp[volL,cfL]) ?_
    intro HD uD' _
    have uD:Upd HB HD gv (.cells (volL p.ga ⟨V.conf,V.id,s⟩).toArray 70 (0,0)):=uD'
    conv=>whnf
    refine⟨rfl,_,hwn,?_⟩
    exact⟨(n+1,s),⟨rfl,trivial⟩,⟨h',by rw[←hto,hmx],hpB.1.frm uD.e (λk hk (e:k=gv)=>hpB.1.ne hB1.vol (by decide) (e▸hk)),hvB.frm uD.e (λk hk (e:k=gv)=>hngv k hk e),Qb hlA8 (Qb eB.1 uD.e.1),SB,
     ⟨uD.1,hB1.arr.frm uD.e (λk hk (e:k=gv)=>hB1.out (e▸hk)),hB1.out⟩,hsB.up sA hlA,hpB.2,hvS⟩,by show V.conf.st.toNat-(n+1)<V.conf.st.toNat-n;omega⟩
  ·have hn0:V.conf.st.toNat-n=0:=by have:¬(n:Int)<V.conf.st:=h9;omega
   rw[hn0] at hto
   have hto':s=sq:=hto
   subst hto'
   refine hKL _ _ _ ?_
   conv=>whnf
   refine .g [(0,ptr p.ga 0),(6,ptr gv 0),(7,.slice wad al.length wcap),(64,.slice nad nw.length ncap),(65,.int .i64 (nw.length:Int)),(66,.int .i64 0)] ⟨rfl,rfl,rfl,rfl,rfl,rfl,trivial⟩ λenv1 KM hKM=>?_
   refine⟨Nat×List It×Arr,λx=>[(66,.int .i64 (x.1:Int))],λx H'=>x.1+x.2.1.length=nw.length∧nw.drop x.1=x.2.1∧fixF V al x.2.1 x.2.2=fx∧Sm (B+x.1*al.length) x.2.2∧x.2.2.ds.length=a.ds.length∧Own H' H.size 3 1 (.slice wad al.length wcap) al.length (intV al)∧Rw H' (.slice nad nw.length ncap) (nw.map itL)∧H8.size≤H'.size∧
    ∃S',AV p gv ⟨V.conf,V.id,s⟩ x.2.2 H' S'∧Sub S' U H∧(∀k,(Value.slice wad al.length wcap).ownBlock=some k→¬S' k)∧(∀k,(Value.slice nad nw.length ncap).ownBlock=some k→¬S' k),λx=>x.2.1.length,
    ⟨(0,nw,a),⟨rfl,trivial⟩,by simp,rfl,hfx,by simpa using hB,rfl,hoA,hvA,hlA8,SA,hA,sA,hnA,hnvA⟩,?_⟩
   rintro⟨i,r,a1⟩ HB junk2 ⟨hi,hdr,hto,hsm,hds,hoB,hvB,hlB8,SB,hB1,sB,hnB,hnvB⟩ FB
   dsimp only at hi hdr hto hsm hds hB1
   have hlB:=Qb hl8 hlB8
   conv=>whnf
   refine⟨rfl,λh10=>?_,λh10=>?_⟩
   ·have h':i<nw.length:=by have:(i:Int)<(nw.length:Int):=h10;omega
    cases r with
    |nil=>simp at hi;omega
    |cons x r=>
     have hy:nw[i]? =some x:=by
      have:=Qf (·[0]?) hdr
      simpa using this
     have hdr':nw.drop (i+1)=r:=by
      have:=Qf List.tail hdr
      simpa using this
     have hwi:IntKind.i64.wrap ((i:Int)+1)=((i+1:Nat):Int):=by rw[wr64 (by omega) (by omega)];omega
     have hxi:=hits x (Qj hy)
     have hxe:x.seq≤72057594037927935:=hxi.2.2
     have hwx:IntKind.i64.wrap (x.seq+1)=x.seq+1:=wr64 (by omega) (by omega)
     have hmi:i*al.length≤3000*6:=Q9 (by omega) (by omega)
     have hm1:(i+1)*al.length=i*al.length+al.length:=Q6 _ _
     unfold fixF at hto
     have hst:=λ{X:Heap} {W:Nat→Prop} (hX:AV p gv ⟨V.conf,V.id,s⟩ a1 X W)=>s_vstate' hX hsm x.stripe (by omega)
     simp only[vstate_seq] at hst
     have hsl:=vstate_len a1 V x.stripe
     generalize vstate a1 V x.stripe=st at hto hst hsl
     have hne:st.map (·.2)≠[]:=λe=>by
      have:st=[]:=by simpa using e
      rw[this] at hsl
      have:=hcf.2
      unfold cfDisks at this
      rw[if_pos hcf.1] at this
      simp at hsl
      omega
     have hsh:=λ{X:Heap} {W:Nat→Prop} (hX:AV p gv ⟨V.conf,V.id,s⟩ a1 X W) {dv:Value} {base:Nat} (hd:Own X base 3 1 dv al.length (intV al)) (hda:∀k,dv.ownBlock=some k→¬W k)=>s_vshards hX hsm x.stripe (x.seq+1) x.text (by omega) (by omega) (by rw[hVi];exact hid) hd hda (λd hd=>by
      have h1:=halm hd
      have h2:=hcf.2
      rw[hVc,h2]
      omega) (by omega)
     simp only[shardsV_seq] at hsh
     have hsmS:=shardsV_sm V x.stripe (x.seq+1) x.text al hsm
     have hdsS:=shardsV_ds a1 V x.stripe (x.seq+1) x.text al
     generalize shardsV a1 V x.stripe (x.seq+1) x.text al=sh at hto hsh hsmS hdsS
     have hic:=hvB.its
     refine Qh hic λad2 hic=>Qh hic λcap2 hic=>?_
     have hix:=hic.2 i x hy
     have hwe:=hic.1
     clear hic
     injection hwe with q1 _ _
     refine Qh hix λib hix=>Qh hix λio hix=>?_
     have hic1:=hix.1
     rw[←q1] at hic1
     subst hic1
     conv=>whnf
     refine⟨i,rfl,h',?_⟩
     conv=>whnf
     refine⟨itL x,rfl,hix.2,?_⟩
     conv=>whnf
     intro HC gx fC _
     have hxs:=fC.size
     have hgvB:=hB1.lt
     have hoBl:=λk hk=>(hoB.ge k hk).2
     have hnvl:∀k,(Value.slice (some ⟨ib,io,none⟩) nw.length ncap).ownBlock=some k→k<HB.size:=λk hk=>QH (hvlt k hk) hlB8
     conv=>whnf
     refine .k ((itL x)) (fC.at) (.inr (by show H.size≤gx;omega)) rfl rfl ?_
     intro HD uD _
     have hD:AV p gv ⟨V.conf,V.id,s⟩ a1 HD SB:=(hB1.q fC.e).frm uD.e (λk hk (e:k=gx)=>by have:=hB1.arr.lt k hk;omega) (λ(e:gv=gx)=>by omega)
     have kD:Kp [(gx,.cells (itL x).toArray 82 (0,0))] HD SB:=⟨⟨uD.1,λe=>by have:=hB1.arr.lt gx e;omega⟩,trivial⟩
     have hoD:=(hoB.q fC.e).frm uD.e (λk hk (e:k=gx)=>by have:=hoBl k hk;omega)
     have hvD:=(hvB.q fC.e).frm uD.e (λk hk (e:k=gx)=>by have:=hnvl k hk;omega)
     have hlD:HB.size≤HD.size:=Qb fC.e.1 uD.e.1
     conv=>whnf
     refine⟨_,cel_of uD.1 rfl,?_⟩
     conv=>whnf
     refine .t (hst hD) ((λk hk=>sB k hk)) ?_
     rintro _ HE ⟨ad1,c1,ad2,c2,rfl,ho1,ho2,SE,haE,hsE,hq1,hq2⟩ eE _
     have hE:=hD.step eE haE hsE
     have sE:Sub SE U H:=hsE.up sB (Qb hlB hlD)
     have kE:=kD.step eE hsE
     have hpE:=hoD.past hnB eE hsE
     have hvE:=hvD.frm eE hnvB
     have hnvE:∀k,(Value.slice (some ⟨ib,io,none⟩) nw.length ncap).ownBlock=some k→¬SE k:=λk hk e=>(hsE k e).elim (hnvB k hk) λe=>by have:=hnvl k hk;omega
     have hlE:=Qb hlD eE.1
     conv=>whnf
     intro HF gs fF _
     have hss:=fF.size
     conv=>whnf
     refine .k ([.slice ad1 st.length c1,.slice ad2 st.length c2]) (fF.at) (.inr (by show H.size≤gs;omega)) rfl rfl ?_
     intro HG uG _
     have hG:AV p gv ⟨V.conf,V.id,s⟩ a1 HG SE:=(hE.q fF.e).frm uG.e (λk hk (e:k=gs)=>by have:=hE.arr.lt k hk;omega) (λ(e:gv=gs)=>by have:=hE.lt;omega)
     have hgxl:=kE.lt
     have kG:=(kE.q fF.e).upd uG (λy hy e=>by have:=hgxl y hy;omega)
     have hoG:=(hpE.1.q fF.e).frm uG.e (λk hk (e:k=gs)=>by have:=(hpE.1.ge k hk).2;omega)
     have hvG:=(hvE.q fF.e).frm uG.e (λk hk (e:k=gs)=>by have:=hnvl k hk;omega)
     have ho2G:=(ho2.q fF.e).frm uG.e (λk hk (e:k=gs)=>by have:=(ho2.ge k hk).2;omega)
     have hlG:=Qb hlE (Qb fF.e.1 uG.e.1)
     have hof:=s_sof (.slice ad1 st.length c1) (x.seq+1) ho2G.rd.1 (by simp;omega)
     have hmax:=λ{X:Heap} (e:Frm nob HG X)=>s_max (ho2G.q e).rd.1 hne (by simp;omega)
     conv=>whnf
     refine⟨[.slice ad1 st.length c1,.slice ad2 st.length c2],rfl,CellsAt.at uG.1,?_⟩
     conv=>whnf
     refine⟨_,cel_of kG.1.1 rfl,?_⟩
     conv=>whnf
     refine⟨rfl,_,hwx,?_⟩
     conv=>whnf
     refine .q (hof) ?_
     rintro _ HI ⟨w9,rfl,_⟩ eI _
     have hI:=hG.q eI
     have kI:=kG.q eI
     have hlI:=Qb hlG eI.1
     conv=>whnf
     refine .p nob (.take 0 (.take 1 (.take 3 (.take 4 (.take 5 (.one 2 (.take 6 (.take 7 (.take 8 (.take 9 (.take 10 (.take 11 (.take 12 .done))))))))))))) (λ_ h=>h.elim) (by kernel_rfl) ?_
     conv=>whnf
     refine⟨λe=>e,_,cel_of (eI.blk uG.1) rfl,?_⟩
     conv=>whnf
     refine⟨λe=>e,_,cel_of kI.1.1 rfl,?_⟩
     conv=>whnf
     refine⟨rfl,_,hwx,?_⟩
     conv=>whnf
     refine .q (hmax eI) ?_
     rintro _ HJ ⟨rfl,rfl⟩ eJ _
     conv=>whnf
     refine⟨rfl,λh11=>?_,λh11=>?_⟩
     ·rw[if_pos h11] at hto
      conv=>whnf
      refine⟨rfl,_,hwi,?_⟩
      exact⟨(i+1,r,a1),⟨rfl,trivial⟩,⟨by simp at hi⊢;omega,hdr',hto,hsm.mono (show B+i*al.length≤B+(i+1)*al.length by omega),hds,hoG.q eI,hvG.q eI,Qb hlB8 hlI,SE,hI,sE,hpE.2,hnvE⟩,by show r.length<r.length+1;omega⟩
     rw[if_neg h11] at hto
     conv=>whnf
     refine⟨rfl,λh12=>?_,λh12=>?_⟩
     ·rw[if_pos h12] at hto
      conv=>whnf
      refine⟨rfl,_,hwi,?_⟩
      exact⟨(i+1,r,a1),⟨rfl,trivial⟩,⟨by simp at hi⊢;omega,hdr',hto,hsm.mono (show B+i*al.length≤B+(i+1)*al.length by omega),hds,hoG.q eI,hvG.q eI,Qb hlB8 hlI,SE,hI,sE,hpE.2,hnvE⟩,by show r.length<r.length+1;omega⟩
     rw[if_neg h12] at hto
     conv=>whnf
     refine⟨_,cel_of kI.1.1 rfl,?_⟩
     conv=>whnf
     refine⟨_,cel_of kI.1.1 rfl,?_⟩
     conv=>whnf
     refine⟨rfl,_,hwx,?_⟩
     conv=>whnf
     refine⟨_,cel_of kI.1.1 rfl,?_⟩
     conv=>whnf
     refine .t (hsh hI (hoG.q eI) hpE.2) ((λk hk=>sE k hk)) ?_
     rintro _ HK ⟨rfl,SK,haK,hsK⟩ eK _
     have sK:Sub SK U H:=hsK.up sE (Qb hlB hlI)
     conv=>whnf
     refine⟨rfl,λh13=>?_,λh13=>?_⟩
     ·rw[if_pos h13] at hto
      have hfn:fx.1≠0:=by rw[←hto];exact h13
      rw[if_pos hfn] at htot
      refine hKM _ _ _ ?_
      conv=>whnf
      rw[←htot,←hto]
      exact⟨rfl,SK,haK,sK⟩
     ·rw[if_neg (λe=>e h13)] at hto
      have hK:=hI.step eK haK hsK
      have hpK:=(hoG.q eI).past hpE.2 eK hsK
      have hvK:=(hvG.q eI).frm eK hnvE
      conv=>whnf
      refine⟨rfl,_,hwi,?_⟩
      exact⟨(i+1,r,sh.2),⟨rfl,trivial⟩,⟨by simp at hi⊢;omega,hdr',hto,hsmS.mono (show B+i*al.length+al.length≤B+(i+1)*al.length by omega),by rw[←hds];exact hdsS,hpK.1,hvK,Qb hlB8 (Qb hlI eK.1),SK,hK,sK,hpK.2,λk hk e=>(hsK k e).elim (hnvE k hk) λe=>by have:=hnvl k hk;omega⟩,by show r.length<r.length+1;omega⟩
   ·have hr0:r=[]:=Qm (by have:¬(i:Int)<(nw.length:Int):=h10;omega)
    rw[hr0] at hto
    have hto':(0,a1)=fx:=hto
    have hf1:¬fx.1≠0:=by rw[←hto'];exact λe=>e rfl
    have hf2:fx.2=a1:=by rw[←hto']
    rw[if_neg hf1,hf2] at htot
    have hmi:i*al.length≤3000*6:=Q9 (by omega) (by omega)
    have hfl:=s_aflush (hsm.mono (by omega)) hB1.arr
    generalize Dk.powerE a1=pw at htot hfl
    refine hKM _ _ _ ?_
    conv=>whnf
    refine .t hfl (λk hk=>sB k hk) ?_
    rintro _ HC ⟨rfl,SC,haC,hsC⟩ eC _
    have sC:Sub SC U H:=hsC.up sB hlB
    conv=>whnf
    refine⟨rfl,λh11=>?_,λh11=>?_⟩
    ·have h11':pw≠0:=h11
     rw[if_pos h11'] at htot
     conv=>whnf
     rw[←htot]
     exact⟨rfl,SC,haC,sC⟩
    ·have h11':¬pw≠0:=λe=>e h11
     rw[if_neg h11'] at htot
     conv=>whnf
     rw[←htot]
     exact⟨gv,rfl,by omega,SC,hB1.step eC haC hsC,sC⟩
end
def itOk(x:It):Prop:=x.text.length≤65535∧0≤x.seq∧x.seq≤eMax
theorem takeT_len(s:By):(takeT s).length≤65535:=by
 unfold takeT
 split
 ·rw[QC]
  have:cutV s 2≤65535:=by
   unfold cutV
   split
   ·omega
   ·rename_i h
    have:=cutN_lt (s.take 2)
    rw[QC,Zi (by omega)] at this
    omega
  omega
 ·simp
section
attribute [local semireducible] itRd gath gathF gathOne vintsV intF
theorem itRd_ok(s:By):itOk (itRd s).1:=by
 unfold itRd itRdV
 (repeat' split)<;>first|exact⟨Qk _,QJ _,show(0:Int)≤eMax by decide⟩|exact⟨takeT_len _,cutV_nn _ _,cutV_le _ _ (Qd _)⟩
theorem gathOne_ok{c:Cf}{ar di pl:Int}{s:By}{x:It}(h:x∈gathOne c ar di s pl):itOk x:=by
 unfold gathOne at h
 (repeat' split at h)<;>first|cases h;done|skip
 simp at h
 subst h
 exact itRd_ok _
theorem gathF_ok{c:Cf}{ar di:Int}{sec:List By}{x:It}:∀{q k:Nat},x∈gathF c ar di sec q k→itOk x
 |0,_,h=>by cases h
 |q+1,k,h=>by
  unfold gathF at h
  split at h
  ·cases h
  ·rcases Qz.1 h with h|h
   ·exact gathOne_ok h
   ·exact gathF_ok h
theorem gath_ok{c:Cf}{ar di:Int}{sec:List By}{x:It}(h:x∈gath c ar di sec):itOk x:=by
 unfold gath at h
 split at h
 ·exact gathF_ok h
 ·cases h
theorem intF_ok{v:Vol}{a:Arr}{x:It}:∀{l:List Int},x∈intF v a l→itOk x
 |[],h=>by cases h
 |d::l,h=>by
  unfold intF at h
  rcases Qz.1 h with h|h
  ·exact gath_ok h
  ·exact intF_ok h
theorem gathOne_st{c:Cf}(hc:cfOk c){ar di pl:Int}{s:By}{x:It}(h:x∈gathOne c ar di s pl):0≤x.stripe∧x.stripe<1000:=by
 unfold gathOne at h
 split at h
 ·cases h
 ·split at h
  ·cases h
  ·split at h
   ·cases h
   ·split at h
    ·cases h
    ·rename_i hs
     simp at h
     subst h
     unfold cfStripe at hs
     rw[if_pos hc] at hs
     have:=hc.b
     split at hs
     ·omega
     ·exact absurd (by decide) hs
theorem gathF_st{c:Cf}(hc:cfOk c){ar di:Int}{sec:List By}{x:It}:∀{q k:Nat},x∈gathF c ar di sec q k→0≤x.stripe∧x.stripe<1000
 |0,_,h=>by cases h
 |q+1,k,h=>by
  unfold gathF at h
  split at h
  ·cases h
  ·rcases Qz.1 h with h|h
   ·exact gathOne_st hc h
   ·exact gathF_st hc h
theorem intF_st{v:Vol}(hc:cfOk v.conf){a:Arr}{x:It}:∀{l:List Int},x∈intF v a l→0≤x.stripe∧x.stripe<1000
 |[],h=>by cases h
 |d::l,h=>by
  unfold intF at h
  rcases Qz.1 h with h|h
  ·unfold gath at h
   rw[if_pos hc] at h
   exact gathF_st hc h
  ·exact intF_st hc h
theorem newestV_few{l:List It}(h:∀x∈l,0≤x.stripe∧x.stripe<1000):(newestV l).length≤1000:=by
 have hn:((newestV l).map (·.stripe)).Nodup:=((newestV_perm l).map (·.stripe)).nodup_iff.2 (newestM_nodup l)
 have:=hn.length_le_of_subset (l₂:=(List.range 1000).map Int.ofNat) λs hs=>by
  obtain⟨x,hx,rfl⟩:=Qw.1 hs
  have:=h x (newestV_mem hx)
  exact Qw.2 ⟨x.stripe.toNat,Zt.2 (by omega),by show((x.stripe.toNat:Nat):Int)=_;omega⟩
 simpa using this
theorem vints_ok{a:Arr}{v:Vol}{x:It}(h:x∈vintsV a v):itOk x:=intF_ok (newestV_mem h)
theorem vints_len{a:Arr}{v:Vol}(hc:cfOk v.conf):(vintsV a v).length≤1000:=newestV_few λ_ hx=>intF_st hc hx
end
theorem s_open{p:Pl}{a:Arr}{H:Heap}{U:Nat→Prop}(h:PaH p a H U){B:Nat}(hB:Sm B a)(hBB:B≤700000)(hnd:a.ds.length≤6)(id:Int)(hid:id≤9223372036854775807):
  Spec prog 20 #[ptr p.ga 0,.int .i64 id] H U λu H'=>match(vopenV a id).1.1 with
   |none=>u=.tuple #[.pointer none,.int .i64 (vopenV a id).1.2]∧∃S',PaH p (vopenV a id).2 H' S'∧Sub S' U H
   |some v=>∃gv,u=.tuple #[ptr gv 0,.int .i64 0]∧H.size≤gv∧∃S',AV p gv v (vopenV a id).2 H' S'∧Sub S' U H:=
 s_vopen h hB hBB hnd id hid (λ_ _ _ hx=>vints_ok hx) (λc hc=>Qb (vints_len (v:=vol0 c id) (vhead_ok hc).1) (by decide))
theorem s_vconf{gv ga:Nat}{v:Vol}{H:Heap}(h:H[gv]? =some (.cells (volL ga v).toArray 70 (0,0))):Spec prog 42 #[ptr gv 0] H nob λu _=>u=cfV v.conf:=by
 have hc:CellsAt H gv 1 (cfL v.conf):=⟨cel_of h rfl,cel_of h rfl,cel_of h rfl,cel_of h rfl,cel_of h rfl,trivial⟩
 refine spx func42 ?_
 conv=>whnf
 intro H1 g f1 _
 have hgs:=f1.size
 conv=>whnf
 refine⟨cfL v.conf,rfl,cells_keep f1.e id hc,?_⟩
 conv=>whnf
 refine .k ((cfL v.conf)) (f1.at) (.inr (by show H.size≤g;omega)) rfl rfl ?_
 intro H2 u2 _
 refine⟨?_⟩
 conv=>whnf
 refine⟨cfL v.conf,rfl,CellsAt.at u2.1,?_⟩
 exact rfl
theorem openW_sm{a:Arr}{v:Vol}{B:Nat}(hB:Sm B a)(hc:cfOk v.conf)(hnd:a.ds.length≤6):Sm (B+6000) (openW a v).2:=by
 have h1:=fixF_sm v (aliveL a a.ds.length) (vintsV a v) hB
 have h2:=vints_len (a:=a) hc
 have h3:=aliveL_len a a.ds.length
 have h4:(vintsV a v).length*(aliveL a a.ds.length).length≤1000*6:=Q9 h2 (by omega)
 have h5:=h1.mono (show _≤B+6000 by omega)
 unfold openW
 generalize fixF v (aliveL a a.ds.length) (vintsV a v) a=fx at h5⊢
 (repeat' split)<;>first|exact h5|exact h5.flushed
end Go.Proofs.YtjambljmnifknaaGreatDoor.Vc
