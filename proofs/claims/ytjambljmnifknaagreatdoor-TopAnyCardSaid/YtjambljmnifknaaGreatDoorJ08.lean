/- Part 8 of the proof of TopAny: The reckoner is sound: regions in order, whole texts, calls. -/
import Derived.Test.YtjambljmnifknaaGreatDoorJ07
import Derived.Scope
import Derived.Deep.RegionHeld3
set_option maxRecDepth 100000
set_option maxHeartbeats 80000000
set_option linter.all false
namespace Go.Proofs.YtjambljmnifknaaGreatDoor.Vc
open Go
structure RelE(ds:List Deferred)(n:Nat)(a:Act)(env:Env):Prop where
 defers:a.defers=ds
 size:a.tmps.size=n
 get:∀i,a.tmps.getD i undef=env i
theorem RelE.eval{ds:List Deferred}{n:Nat}{a:Act}{env:Env}(h:RelE ds n a env):a.eval=ev env:=by
 funext x
 cases x with
 |tmp t=>exact h.get t
 |_=>rfl
theorem RelE.put{ds:List Deferred}{n:Nat}{a:Act}{env:Env}(h:RelE ds n a env){d:Option Nat}(hd:∀t,d=some t→t<n)(v:Value):RelE ds n (a.put d v) (updo env d v):=by
 cases d with
 |none=>exact h
 |some t=>
  refine⟨h.defers,by simp[Act.put,h.size],λi=>?_⟩
  have ht:=hd t rfl
  show(a.tmps.setIfInBounds t v).getD i undef=upd env t v i
  unfold upd
  by_cases e:i=t
  ·subst e
   rw[show Nat.beq i i=true from YY i]
   simp[h.size,ht]
  ·have e2:Nat.beq i t=false:=by
    cases hb:Nat.beq i t with
    |false=>rfl
    |true=>exact(e (QF hb)).elim
   rw[e2]
   rw[←h.get i]
   simp[Zs (Yu e)]
theorem want_eq{ds:List Deferred}{n:Nat}{a:Act}{env:Env}(h:RelE ds n a env)(all:List Oper)(o:Oper):Region.wanted o (yielded all.toArray a.tmps)=wantV all env o.guard:=by
 unfold Region.wanted wantV
 cases o.guard with
 |none=>rfl
 |some q=>
  obtain⟨j,want⟩:=q
  simp only[yielded,Qq]
  cases hj:all[j]? with
  |none=>rfl
  |some o'=>
   cases hd:o'.dst with
   |none=>simp only[YV,hd];rfl
   |some d=>
    simp only[YV,hd]
    have hg:=h.get d
    cases ht:a.tmps[d]? with
    |none=>
     rw[Z0,ht] at hg
     rw[←hg]
     rfl
    |some v=>
     rw[Z0,ht] at hg
     rw[←hg]
     simp only[Option.getD_some]
     cases v with
     |bool b=>cases b<;>cases want<;>rfl
     |_=>rfl
section
variable {ds:List Deferred}{c:Ctx}{n:Nat}{w0:World}
theorem op_wp{o:Oper}{H:Heap}{K:KK}{a:Act}{w:World}{next:Act→World→Prop}{Q:Exit→Act→World→Prop}(h:OpOK c a.eval o H K)(hw:w.heap=H)(hF:Frm c.S c.H0 H)(ha:Amb w0 w)
  (hn:∀v w',K v w'.heap→Amb w0 w'→Frm c.S c.H0 w'.heap→next (a.put o.dst v) w'):o.wp c.P a w next Q:=by
 unfold Oper.wp
 rcases h w hw with ⟨v,w',hr,hamb,hF',hk⟩|⟨g,args,hr,hc⟩
 ·rcases hr with hr|⟨hr,rfl⟩
  ·rw[hr];exact hn v w' hk (ha.trans hamb) hF'
  ·rw[hr];exact hn undef w' hk (ha.trans hamb) hF'
 ·rw[hr]
  obtain⟨T,R,hs,hT,hk⟩:=hc
  refine(hs.out w hw).mono ?_
  rintro e w' ⟨v,rfl,hamb,hfr,hR⟩
  have hF':=Frm.then hF hfr hT
  exact hn v w' (hk v _ hR hfr hF') (ha.trans hamb) hF'
theorem updo_other{env:Env}{d:Option Nat}{v:Value}{i:Nat}(h:d≠some i):updo env d v i=env i:=by
 cases d with
 |none=>rfl
 |some t=>
  show upd env t v i=env i
  unfold upd
  have:Nat.beq i t=false:=by
   cases hb:Nat.beq i t with
   |false=>rfl
   |true=>exact(h (by rw[QF hb])).elim
  rw[this]
theorem vcOps_sound(all:List Oper){Q:Exit→Act→World→Prop}:∀(l:List Oper) {env:Env} {H:Heap} {K:Env→Heap→Prop} {a:Act} {w:World},vcOps c all l env H K→RelE ds n a env→w.heap=H→Frm c.S c.H0 H→Amb w0 w→
  (∀o∈l,∀t,o.dst=some t→t<n)→(∀a' env' w',RelE ds n a' env'→Amb w0 w'→Frm c.S c.H0 w'.heap→(∀i,(∀o∈l,o.dst≠some i)→env' i=env i)→K env' w'.heap→Q .normal a' w')→wpList c.P all.toArray Q l a w
 |[],env,H,K,a,w,h,hr,hw,hF,hA,_,hQ=>hQ a env w hr hA (by rw[hw];exact hF) (λ_ _=>rfl) (by rw[hw];exact h)
 |o::l,env,H,K,a,w,h,hr,hw,hF,hA,hd,hQ=>by
  unfold wpList
  rw[want_eq hr all o]
  have h':(match wantV all env o.guard with
   |true=>vcOp c (ev env) H o λv H'=>vcOps c all l (updo env o.dst v) H' K
   |false=>vcOps c all l (updo env o.dst undef) H K):=h
  have hdo:∀t,o.dst=some t→t<n:=hd o (by simp)
  have hdl:∀o∈l,∀t,o.dst=some t→t<n:=λo ho=>hd o (by simp[ho])
  have hQ':∀v,∀a' env' w',RelE ds n a' env'→Amb w0 w'→Frm c.S c.H0 w'.heap→(∀i,(∀o∈l,o.dst≠some i)→env' i=updo env o.dst v i)→K env' w'.heap→Q .normal a' w':=λv a' env' w' h1 h2 h3 h4 h5=>
   hQ a' env' w' h1 h2 h3 (λi hi=>by rw[h4 i (λo ho=>hi o (by simp[ho])),updo_other (hi o (by simp))]) h5
  cases hwt:wantV all env o.guard with
  |true=>
   rw[hwt] at h'
   simp only[if_true]
   refine .inl (op_wp (K:=λv H'=>vcOps c all l (updo env o.dst v) H' K) ?_ hw hF hA λv w' hk hA' hF'=>?_)
   ·rw[hr.eval]
    exact vcOp_ok hF h'
   ·exact vcOps_sound all l hk (hr.put hdo v) rfl hF' hA' hdl (hQ' v)
  |false=>
   rw[hwt] at h'
   simp only[Yk,YU]
   exact vcOps_sound all l h' (hr.put hdo undef) hw hF hA hdl (hQ' undef)
theorem least_ex(p:Nat→Prop):∀n,p n→∃k,p k∧∀j,p j→k≤j:=λn=>by
 induction n using Nat.strongRecOn with
 |_ n ih=>
  intro h
  by_cases hx:∃j,j<n∧p j
  ·obtain⟨j,hj,hp⟩:=hx
   exact ih j hj hp
  ·exact⟨n,h,λj hj=>Nat.le_of_not_lt λhlt=>hx ⟨j,hlt,hj⟩⟩
open Classical in
noncomputable def leastN (p:Nat→Prop):Nat:=if h:∃k,p k∧∀j,p j→k≤j then h.choose else 0
theorem leastN_spec{p:Nat→Prop}(h:∃n,p n):p (leastN p)∧∀j,p j→leastN p≤j:=by
 obtain⟨n,hn⟩:=h
 have hx:=least_ex p n hn
 unfold leastN
 rw[dif_pos hx]
 exact hx.choose_spec
def dstOk(n:Nat):Code→Bool
 | .region _ ops _=>ops.toList.all λo=>match o.dst with|some t=>Nat.blt t n|none=>true
 | .seq a b=>dstOk n a&&dstOk n b
 | .cond _ a b=>dstOk n a&&dstOk n b
 | .block _ b=>dstOk n b
 | .loop b=>dstOk n b
 | .scope b=>dstOk n b
 |_=>true
def QE(ds:List Deferred)(c:Ctx)(n:Nat)(w0:World)(ws:List Nat)(env:Env)(K:KX):Exit→Act→World→Prop:=λe a' w'=>
 ∃env',RelE ds n a' env'∧Amb w0 w'∧Frm c.S c.H0 w'.heap∧(∀i,memL ws i=false→env' i=env i)∧K e env' w'.heap
theorem memL_append(a b:List Nat)(i:Nat):memL (a++b) i=(memL a i||memL b i):=by
 induction a with
 |nil=>rfl
 |cons x a ih=>
  simp only[QR,memL]
  cases Nat.beq x i
  ·exact ih
  ·rfl
theorem memL_not{ws:List Nat}{i:Nat}(h:memL ws i=false):i∉ws:=by
 induction ws with
 |nil=>simp
 |cons x a ih=>
  simp only[memL] at h
  cases hb:Nat.beq x i with
  |true=>rw[hb] at h;cases h
  |false=>
   rw[hb] at h
   intro hm
   rcases QB.1 hm with rfl|hm
   ·rw[YY] at hb;cases hb
   ·exact ih h hm
theorem EnvHas_look{env:Env}:∀{l:List (Nat×Value)} {i:Nat} {v:Value},EnvHas env l→lookL l i=some v→env i=v
 |(j,u)::r,i,v,h,hl=>by
  unfold lookL at hl
  cases hb:Nat.beq j i with
  |true=>
   rw[hb] at hl
   have:j=i:=QF hb
   subst this
   simp at hl
   rw[←hl]
   exact h.1
  |false=>
   rw[hb] at hl
   exact EnvHas_look h.2 hl
theorem over_self{l:List (Nat×Value)}{ws:List Nat}{env env':Env}(hE:EnvHas env' l)(ho:∀i,memL ws i=false→env' i=env i):over l ws env' env=env':=by
 funext i
 unfold over
 cases hl:lookL l i with
 |some v=>exact(EnvHas_look hE hl).symm
 |none=>
  cases hm:memL ws i with
  |true=>rfl
  |false=>exact(ho i hm).symm
theorem cells_keep{T:Nat→Prop}{A B:Heap}(hF:Frm T A B){b:Nat}(hT:¬T b):∀{vs:List Value} {o:Nat},CellsAt A b o vs→CellsAt B b o vs
 |[],_,_=>trivial
 |v::r,o,h=>by
  refine⟨?_,cells_keep hF hT h.2⟩
  have h1:=h.1
  unfold cel World.cell? mkw at h1⊢
  dsimp only at h1⊢
  have hb:b<A.size:=by
   rcases YE b A.size with h|h
   ·exact h
   ·rw[ZX h] at h1
    cases h1
  rw[hF.2 b hb hT]
  exact h1
theorem take_ok{P:Program}{T:Nat→Prop}{Hs:Heap}{ρ:Operand→Value}{o:Oper}{K:Value→Prop}(h:vcTake P T Hs ρ o K):∃v,K v∧∀w:World,Frm T Hs w.heap→(execOp ρ o).run P w=.ok (.value v) w:=by
 unfold vcTake at h
 split at h
 ·rename_i t a ho
  split at h
  ·rename_i b off ha
   obtain⟨hT,h⟩:=h
   have hgo:∀v,K v→(∀w:World,Frm T Hs w.heap→vcLoad ⟨P,w.heap,nob⟩ w.heap t b off (λu H'=>u=v∧H'=w.heap))→∃v,K v∧∀w:World,Frm T Hs w.heap→(execOp ρ o).run P w=.ok (.value v) w:=λv hk hl=>⟨v,hk,λw hw=>by
    exact loadOnly_run (c:=⟨P,w.heap,nob⟩) ho ha rfl (X:=λH'=>H'=w.heap) (hl w hw)⟩
   split at h
   ·rename_i hg
    obtain⟨vs,hs,_,hc,hk⟩:=h
    exact hgo _ hk λw hw=>by
     unfold vcLoad
     rw[hg]
     exact⟨vs,hs,cells_keep hw hT hc,rfl,rfl⟩
   ·rename_i hg
    obtain⟨v,hc,hk⟩:=h
    exact hgo _ hk λw hw=>by
     unfold vcLoad
     rw[hg]
     exact⟨v,(cells_keep hw hT (vs:=[v]) ⟨hc,trivial⟩).1,rfl,rfl⟩
   ·exact h.elim
  ·exact h.elim
 ·rcases vcP_ok (c:=⟨P,Hs,T⟩) h with ⟨v,hk,hr⟩|h
  ·exact⟨v,hk,λw _=>hr w⟩
  ·exact h.elim
theorem plan_ok{P:Program}{ops:Array Oper}{T:Nat→Prop}{Hs:Heap}{n:Nat}{Q:Exit→Act→World→Prop}{w0:World}{ws:List Nat}{env0:Env}{K:Env→Heap→Prop}(hn:∀ch a w,¬Q (.panic ch) a w)(hsel:Region.noSelect ops=true)(hd:∀o∈ops.toList,∀t,o.dst=some t→t<n)(hws:∀o∈ops.toList,∀t,o.dst=some t→memL ws t=true)
  (hQ:∀a env w,RelE ds n a env→Amb w0 w→Frm T Hs w.heap→(∀i,memL ws i=false→env i=env0 i)→K env w.heap→Q .normal a w):∀(pl:Plan) (f:Nat) (listed:Array Bool) {env:Env} {a:Act} {w:World},planB ops pl f listed=true→vcPlan P ops.toList T Hs pl env w.heap K→RelE ds n a env→Amb w0 w→Frm T Hs w.heap→(∀i,memL ws i=false→env i=env0 i)→
   wpAnyH P .any ops Q (λw=>Frm T Hs w.heap) f listed a w:=by
 have hout:∀{env:Env} {o:Oper} {v:Value},o∈ops.toList→(∀i,memL ws i=false→env i=env0 i)→∀i,memL ws i=false→updo env o.dst v i=env0 i:=λ{env o v} ho h i hi=>by
  rw[updo_other (λe=>by rw[hws o ho i e] at hi;cases hi)]
  exact h i hi
 have hop:∀(ih:Env→Heap→(Env→Heap→Prop)→Prop) (i:Nat) (f:Nat) (listed:Array Bool) {env:Env} {a:Act} {w:World},(∀{env:Env} {a:Act} {w:World},ih env w.heap K→RelE ds n a env→Amb w0 w→Frm T Hs w.heap→(∀i,memL ws i=false→env i=env0 i)→wpAnyH P .any ops Q (λw=>Frm T Hs w.heap) f listed a w)→
   (match ops.toList[i]? with
   |some o=>match wantV ops.toList env o.guard with
    |true=>vcOp ⟨P,Hs,T⟩ (ev env) w.heap o λv H'=>ih (updo env o.dst v) H' K
    |false=>ih (updo env o.dst undef) w.heap K
   |none=>False)→RelE ds n a env→Amb w0 w→Frm T Hs w.heap→(∀i,memL ws i=false→env i=env0 i)→
   wpOp P ops Q i (λa' w'=>Frm T Hs w'.heap∧wpAnyH P .any ops Q (λw=>Frm T Hs w.heap) f listed a' w') a w:=by
  intro ih i f listed env a w hih h hr hA hF ho
  unfold wpOp
  rw[QN] at h
  cases hoi:ops[i]? with
  |none=>rw[hoi] at h;exact h.elim
  |some o=>
   rw[hoi] at h
   have hom:o∈ops.toList:=by
    rw[←QN] at hoi
    exact Qj hoi
   dsimp only at h⊢
   have hwq:=want_eq hr ops.toList o
   rw[Z5] at hwq
   rw[hwq]
   cases hwt:wantV ops.toList env o.guard with
   |true=>
    rw[hwt] at h
    simp only[if_true]
    refine .inl (op_wp (c:=⟨P,Hs,T⟩) (w0:=w0) (K:=λv H'=>ih (updo env o.dst v) H' K) ?_ rfl hF hA λv w' hk hA' hF'=>⟨hF',?_⟩)
    ·rw[hr.eval]
     exact vcOp_ok (c:=⟨P,Hs,T⟩) hF h
    ·exact hih hk (hr.put (hd o hom) v) hA' hF' (hout hom ho)
   |false=>
    rw[hwt] at h
    simp only[Yk,YU]
    exact⟨hF,hih h (hr.put (hd o hom) undef) hA hF (hout hom ho)⟩
 intro pl
 induction pl with
 |done=>
  intro f listed env a w hb h hr hA hF ho
  have hb':(Region.ready .any ops listed).isEmpty=true:=by cases f<;>exact hb
  exact wpAnyH_done (List.isEmpty_iff.1 hb') (hQ a env w hr hA hF ho h) f
 |take i p ih=>
  intro f listed env a w hb h hr hA hF ho
  cases f with
  |zero=>cases hb
  |succ f=>
   simp only[planB,QA,QD] at hb
   obtain⟨⟨⟨hrd,hfree⟩,hlt⟩,hrest⟩:=hb
   have hi:ops[i]? =some ops[i]:=by simp[hlt]
   have h':(match ops.toList[i]? with
   |some o=>match wantV ops.toList env o.guard with
    |true=>vcTake P T Hs (ev env) o λv=>vcPlan P ops.toList T Hs p (updo env o.dst v) w.heap K
    |false=>vcPlan P ops.toList T Hs p (updo env o.dst undef) w.heap K
   |none=>False):=h
   rw[QN,hi] at h'
   dsimp only at h'
   have hom:ops[i]∈ops.toList:=by simp
   have hwq:=want_eq hr ops.toList ops[i]
   rw[Z5] at hwq
   cases hwt:wantV ops.toList env ops[i].guard with
   |true=>
    rw[hwt] at h' hwq
    obtain⟨v,hk,hrun⟩:=take_ok h'
    refine wpAnyH_take hi hsel hfree hrd (λch a w hq=>(hn ch _ w hq).elim) (v:=v) (.inl ⟨hwq,λw hw=>?_⟩) hF ?_
    ·rw[hr.eval];exact hrun w hw
    ·exact ih f _ hrest hk (hr.put (hd _ hom) v) hA hF (hout hom ho)
   |false=>
    rw[hwt] at h' hwq
    refine wpAnyH_take hi hsel hfree hrd (λch a w hq=>(hn ch _ w hq).elim) (v:=undef) (.inr ⟨hwq,rfl⟩) hF ?_
    exact ih f _ hrest h' (hr.put (hd _ hom) undef) hA hF (hout hom ho)
 |one i p ih=>
  intro f listed env a w hb h hr hA hF ho
  cases f with
  |zero=>cases hb
  |succ f=>
   simp only[planB,QA,QD,beq_iff_eq] at hb
   obtain⟨⟨hrd,hlt⟩,hrest⟩:=hb
   refine wpAnyH_all hrd (by simp) λj hj=>?_
   obtain rfl:j=i:=by simpa using hj
   exact hop (vcPlan P ops.toList T Hs p) j f _ (λh1 h2 h3 h4 h5=>ih f _ hrest h1 h2 h3 h4 h5) h hr hA hF ho
 |two i p j q ihp ihq=>
  intro f listed env a w hb h hr hA hF ho
  cases f with
  |zero=>cases hb
  |succ f=>
   simp only[planB,QA,QD,beq_iff_eq] at hb
   obtain⟨⟨⟨⟨hrd,_⟩,_⟩,hr1⟩,hr2⟩:=hb
   refine wpAnyH_all hrd (by simp) λk hk=>?_
   rcases QB.1 hk with rfl|hk
   ·exact hop (vcPlan P ops.toList T Hs p) k f _ (λh1 h2 h3 h4 h5=>ihp f _ hr1 h1 h2 h3 h4 h5) h.1 hr hA hF ho
   ·obtain rfl:k=j:=by simpa using hk
    exact hop (vcPlan P ops.toList T Hs q) k f _ (λh1 h2 h3 h4 h5=>ihq f _ hr2 h1 h2 h3 h4 h5) h.2 hr hA hF ho
theorem memL_yes{ws:List Nat}{i:Nat}(h:i∈ws):memL ws i=true:=by
 cases hm:memL ws i with
 |true=>rfl
 |false=>exact(memL_not hm h).elim
def wpAnyS(P:Program)(ops:Array Oper)(Q:Exit→Act→World→Prop)(S0 S1:World→Prop)(st:Nat→Bool):Nat→Array Bool→Act→World→Prop
 |0,listed,a,w=>Region.ready .any ops listed=[]∧Q .normal a w
 |fuel+1,listed,a,w=>
  (Region.ready .any ops listed=[]→Q .normal a w)∧
  ∀i∈Region.ready .any ops listed,wpOp P ops Q i (λa' w'=>if st i=true then S1 w'∧wpAnyH P .any ops Q S1 fuel (listed.setIfInBounds i true) a' w' else S0 w'∧wpAnyS P ops Q S0 S1 st fuel (listed.setIfInBounds i true) a' w') a w
theorem wpAny_of_S{P:Program}{ops:Array Oper}{Q:Exit→Act→World→Prop}{S0 S1:World→Prop}{st:Nat→Bool}:∀(fuel:Nat) (listed:Array Bool) (a:Act) (w:World),wpAnyS P ops Q S0 S1 st fuel listed a w→wpAny P .any ops Q fuel listed a w
 |0,_,_,_,h=>h
 |fuel+1,_,_,_,h=>⟨h.1,λi hi=>wpOp_mono (λa' w' h'=>by
   split at h'
   ·exact wpAny_of_held fuel _ a' w' h'.2
   ·exact wpAny_of_S fuel _ a' w' h'.2) (h.2 i hi)⟩
theorem wpAnyS_sw{P:Program}{ops:Array Oper}{Q:Exit→Act→World→Prop}{S0 S1:World→Prop}{st:Nat→Bool}{fuel:Nat}{listed:Array Bool}{a:Act}{w:World}(hr:(Region.ready .any ops listed).all st=true)(h:wpAnyH P .any ops Q S1 fuel listed a w):wpAnyS P ops Q S0 S1 st fuel listed a w:=by
 cases fuel with
 |zero=>exact h
 |succ fuel=>exact⟨h.1,λi hi=>wpOp_mono (λa' w' h'=>by rw[if_pos (Q7.1 hr i hi)];exact h') (h.2 i hi)⟩
theorem ready_not{ops:Array Oper}{listed:Array Bool}{i j:Nat}{oj:Oper}(hi:i∈Region.ready .any ops listed)(hj:j∈Region.ready .any ops listed)(hoj:ops[j]? =some oj):∀e∈oj.after,Region.binds .any e=true→e.on≠i:=λe he hb heq=>by
 obtain⟨_,oj',hoj',hall⟩:=mem_ready.1 hj
 rw[hoj] at hoj'
 cases hoj'
 have h1:=hall e he hb
 have h0:=(mem_ready.1 hi).1
 rw[heq] at h1
 rcases YE i listed.size with h'|h'
 ·simp[h'] at h0 h1;rw[h0] at h1;cases h1
 ·simp[ZX h'] at h1
theorem wpAnyS_first{P:Program}{ops:Array Oper}{Q:Exit→Act→World→Prop}{S0 S1:World→Prop}{st:Nat→Bool}{i:Nat}{oi:Oper}{v:Value}(hi:ops[i]? =some oi)(hst:st i=false)(hsel:∀(j:Nat) (o:Oper) cs b,ops[j]? =some o→o.op≠.select cs b)
  (hQ:∀c a w,Q (.panic c) (a.put oi.dst v) w→Q (.panic c) a w):
  ∀(fuel:Nat) (listed:Array Bool) (a:Act) (w:World),
   (∀j oj,ops[j]? =some oj→j≠i→listed.getD j true=false→(∀e∈oj.after,Region.binds .any e=true→e.on≠i)→oi.apart ops oj=true)→
   i∈Region.ready .any ops listed→(YieldsIf P ops (λw=>S0 w∨S1 w) oi v a∨(YieldsIf P ops S0 oi v a∧∀j oj,ops[j]? =some oj→st j=true→∃e∈oj.after,Region.binds .any e=true∧e.on=i))→S0 w→
   wpAnyS P ops Q S0 S1 st fuel (listed.setIfInBounds i true) (a.put oi.dst v) w→wpAnyS P ops Q S0 S1 st (fuel+1) listed a w:=by
 have hy0:∀{a},(YieldsIf P ops (λw=>S0 w∨S1 w) oi v a∨(YieldsIf P ops S0 oi v a∧∀j oj,ops[j]? =some oj→st j=true→∃e∈oj.after,Region.binds .any e=true∧e.on=i))→YieldsIf P ops S0 oi v a:=λh=>h.elim (λh=>h.imp (λ⟨a,b⟩=>⟨a,λw hw=>b w (.inl hw)⟩) id) (·.1)
 intro fuel
 induction fuel with
 |zero=>
  intro listed a w _ hr hy hS H
  refine⟨λh=>(by rw[h] at hr;cases hr),λj hj=>?_⟩
  by_cases hji:j=i
  ·subst hji;exact(hy0 hy).wpOp hi hS (by rw[if_neg (by rw[hst];decide)];exact⟨hS,H⟩)
  ·have:=ready_mono hj hji
   rw[H.1] at this
   cases this
 |succ fuel ih=>
  intro listed a w hfree hr hy hS H
  refine⟨λh=>(by rw[h] at hr;cases hr),λj hj=>?_⟩
  by_cases hji:j=i
  ·subst hji;exact(hy0 hy).wpOp hi hS (by rw[if_neg (by rw[hst];decide)];exact⟨hS,H⟩)
  ·have h1:=H.2 j (ready_mono hj hji)
   obtain⟨hjun,oj,hoj,hall⟩:=mem_ready.1 hj
   have hnot:=ready_not hr hj hoj
   have hfree':∀k ok,ops[k]? =some ok→k≠i→(listed.setIfInBounds j true).getD k true=false→
     (∀e∈ok.after,Region.binds .any e=true→e.on≠i)→oi.apart ops ok=true:=λk ok hk hki hun hno=>by
    refine hfree k ok hk hki ?_ hno
    by_cases hjk:j=k
    ·subst hjk;exact hjun
    ·rw[getD_set_ne true hjk] at hun;exact hun
   cases hsj:st j with
   |true=>
    rcases hy with hy|⟨_,hy⟩
    ·have h2:=wpOp_putIf hoj (hfree j oj hoj hji hjun hnot) (λcs b=>hsel i oi cs b hi) (λcs b=>hsel j oj cs b hoj) hQ hy h1
     refine wpOp_mono (λa' w' h3=>?_) h2
     rw[if_pos rfl]
     have h4:=h3.2
     rw[if_pos hsj] at h4
     refine⟨h4.1,wpAnyH_first (S:=S1) hi hsel hQ fuel (listed.setIfInBounds j true) a' w' hfree' (ready_mono hr (Yu hji)) (h3.1.imp (λ⟨a,b⟩=>⟨a,λw hw=>b w (.inr hw)⟩) id) h4.1 ?_⟩
     rw[Array.setIfInBounds_comm _ _ hji]
     exact h4.2
    ·obtain⟨e,he,hb,hon⟩:=hy j oj hoj hsj
     exact(hnot e he hb hon).elim
   |false=>
    have hgo:∀{S:World→Prop},YieldsIf P ops S oi v a→(∀{a'},YieldsIf P ops S oi v a'→(YieldsIf P ops (λw=>S0 w∨S1 w) oi v a'∨(YieldsIf P ops S0 oi v a'∧∀j oj,ops[j]? =some oj→st j=true→∃e∈oj.after,Region.binds .any e=true∧e.on=i)))→wpOp P ops Q j (λa' w'=>if false=true then S1 w'∧wpAnyH P .any ops Q S1 (fuel+1) (listed.setIfInBounds j true) a' w' else S0 w'∧wpAnyS P ops Q S0 S1 st (fuel+1) (listed.setIfInBounds j true) a' w') a w:=λhyS hback=>by
     have h2:=wpOp_putIf hoj (hfree j oj hoj hji hjun hnot) (λcs b=>hsel i oi cs b hi) (λcs b=>hsel j oj cs b hoj) hQ hyS h1
     refine wpOp_mono (λa' w' h3=>?_) h2
     rw[if_neg (by decide)]
     have h4:=h3.2
     rw[if_neg (by rw[hsj];decide)] at h4
     refine⟨h4.1,ih (listed.setIfInBounds j true) a' w' hfree' (ready_mono hr (Yu hji)) (hback h3.1) h4.1 ?_⟩
     rw[Array.setIfInBounds_comm _ _ hji]
     exact h4.2
    rcases hy with hy|⟨hy,hl⟩
    ·exact hgo hy .inl
    ·exact hgo hy λh=>.inr ⟨h,hl⟩
theorem take_pure{P:Program}{T:Nat→Prop}{Hs:Heap}{ρ:Operand→Value}{o:Oper}{K:Value→Prop}(hl:loadB o=false)(h:vcTake P T Hs ρ o K):∃v,K v∧∀w:World,(execOp ρ o).run P w=.ok (.value v) w:=by
 unfold vcTake at h
 split at h
 ·rename_i t a ho
  unfold loadB at hl
  rw[ho] at hl
  cases hl
 ·rcases vcP_ok (c:=⟨P,Hs,T⟩) h with ⟨v,hk,hr⟩|h
  ·exact⟨v,hk,hr⟩
  ·exact h.elim
theorem plan2_ok{P:Program}{ops:Array Oper}{T0 T1:Nat→Prop}{Hs:Heap}{st:Nat→Bool}{n:Nat}{Q:Exit→Act→World→Prop}{w0:World}{ws:List Nat}{env0:Env}{K:Env→Heap→Prop}(hn:∀ch a w,¬Q (.panic ch) a w)(h01:∀k,T0 k→T1 k)(hsel:Region.noSelect ops=true)(hd:∀o∈ops.toList,∀t,o.dst=some t→t<n)(hws:∀o∈ops.toList,∀t,o.dst=some t→memL ws t=true)
  (hQ:∀a env w,RelE ds n a env→Amb w0 w→Frm T1 Hs w.heap→(∀i,memL ws i=false→env i=env0 i)→K env w.heap→Q .normal a w):∀(pl:Plan2) (f:Nat) (listed:Array Bool) {env:Env} {a:Act} {w:World},planB2 ops st pl f listed=true→vcPlan2 P ops.toList T0 T1 Hs pl env w.heap K→RelE ds n a env→Amb w0 w→Frm T0 Hs w.heap→(∀i,memL ws i=false→env i=env0 i)→
   wpAnyS P ops Q (λw=>Frm T0 Hs w.heap) (λw=>Frm T1 Hs w.heap) st f listed a w:=by
 have hout:∀{env:Env} {o:Oper} {v:Value},o∈ops.toList→(∀i,memL ws i=false→env i=env0 i)→∀i,memL ws i=false→updo env o.dst v i=env0 i:=λ{env o v} ho h i hi=>by
  rw[updo_other (λe=>by rw[hws o ho i e] at hi;cases hi)]
  exact h i hi
 have hop:∀(ih:Env→Heap→(Env→Heap→Prop)→Prop) (i:Nat) (f:Nat) (listed:Array Bool) {env:Env} {a:Act} {w:World},st i=false→(∀{env:Env} {a:Act} {w:World},ih env w.heap K→RelE ds n a env→Amb w0 w→Frm T0 Hs w.heap→(∀i,memL ws i=false→env i=env0 i)→wpAnyS P ops Q (λw=>Frm T0 Hs w.heap) (λw=>Frm T1 Hs w.heap) st f listed a w)→
   (match ops.toList[i]? with
   |some o=>match wantV ops.toList env o.guard with
    |true=>vcOp ⟨P,Hs,T0⟩ (ev env) w.heap o λv H'=>ih (updo env o.dst v) H' K
    |false=>ih (updo env o.dst undef) w.heap K
   |none=>False)→RelE ds n a env→Amb w0 w→Frm T0 Hs w.heap→(∀i,memL ws i=false→env i=env0 i)→
   wpOp P ops Q i (λa' w'=>if st i=true then Frm T1 Hs w'.heap∧wpAnyH P .any ops Q (λw=>Frm T1 Hs w.heap) f listed a' w' else Frm T0 Hs w'.heap∧wpAnyS P ops Q (λw=>Frm T0 Hs w.heap) (λw=>Frm T1 Hs w.heap) st f listed a' w') a w:=by
  intro ih i f listed env a w hst hih h hr hA hF ho
  unfold wpOp
  rw[QN] at h
  rw[hst]
  simp only[Yk,YU]
  cases hoi:ops[i]? with
  |none=>rw[hoi] at h;exact h.elim
  |some o=>
   rw[hoi] at h
   have hom:o∈ops.toList:=by
    rw[←QN] at hoi
    exact Qj hoi
   dsimp only at h⊢
   have hwq:=want_eq hr ops.toList o
   rw[Z5] at hwq
   rw[hwq]
   cases hwt:wantV ops.toList env o.guard with
   |true=>
    rw[hwt] at h
    simp only[if_true]
    refine .inl (op_wp (c:=⟨P,Hs,T0⟩) (w0:=w0) (K:=λv H'=>ih (updo env o.dst v) H' K) ?_ rfl hF hA λv w' hk hA' hF'=>⟨hF',?_⟩)
    ·rw[hr.eval]
     exact vcOp_ok (c:=⟨P,Hs,T0⟩) hF h
    ·exact hih hk (hr.put (hd o hom) v) hA' hF' (hout hom ho)
   |false=>
    rw[hwt] at h
    simp only[Yk,YU]
    exact⟨hF,hih h (hr.put (hd o hom) undef) hA hF (hout hom ho)⟩
 intro pl
 induction pl with
 |sw p=>
  intro f listed env a w hb h hr hA hF ho
  have hb':((Region.ready .any ops listed).all st&&planB ops p f listed)=true:=by cases f<;>exact hb
  rw[QA] at hb'
  exact wpAnyS_sw hb'.1 (plan_ok (n:=n) hn hsel hd hws hQ p f listed hb'.2 h hr hA (hF.mono λk _ hk=>h01 k hk) ho)
 |take i p ih=>
  intro f listed env a w hb h hr hA hF ho
  cases f with
  |zero=>cases hb
  |succ f=>
   simp only[planB2,QA,QD,ZP] at hb
   obtain⟨⟨⟨⟨⟨hrd,hfree⟩,hlt⟩,hst⟩,htk⟩,hrest⟩:=hb
   have hi:ops[i]? =some ops[i]:=by simp[hlt]
   have h':(match ops.toList[i]? with
   |some o=>match wantV ops.toList env o.guard with
    |true=>vcTake P T0 Hs (ev env) o λv=>vcPlan2 P ops.toList T0 T1 Hs p (updo env o.dst v) w.heap K
    |false=>vcPlan2 P ops.toList T0 T1 Hs p (updo env o.dst undef) w.heap K
   |none=>False):=h
   rw[QN,hi] at h'
   dsimp only at h'
   have hom:ops[i]∈ops.toList:=by simp
   have hwq:=want_eq hr ops.toList ops[i]
   rw[Z5] at hwq
   unfold takeB2 at htk
   rw[hi,Bool.or_eq_true] at htk
   have hwait:((List.range ops.size).all λj=>!st j||(match ops[j]? with|some o=>o.after.any λe=>Region.binds .any e&&Nat.beq e.on i|none=>true))=true→∀j oj,ops[j]? =some oj→st j=true→∃e∈oj.after,Region.binds .any e=true∧e.on=i:=λhall j oj hj hs=>by
    have hjl:=(Qa.1 hj).1
    have:=Q7.1 hall j (Zt.2 hjl)
    rw[hj,hs] at this
    simp only[Bool.not_true,Bool.false_or,Array.any_eq_true'] at this
    obtain⟨e,he,h2⟩:=this
    rw[QA] at h2
    exact⟨e,he,h2.1,QF h2.2⟩
   cases hwt:wantV ops.toList env ops[i].guard with
   |true=>
    rw[hwt] at h' hwq
    rcases htk with htk|htk
    ·obtain⟨v,hk,hrun⟩:=take_pure (by simpa using htk) h'
     refine wpAnyS_first (v:=v) hi hst (Region.noSelect_spec hsel) (λch a w hq=>(hn ch _ w hq).elim) f listed a w (Region.free_spec hi hfree) (by simpa using hrd) (.inl (.inl ⟨hwq,λw _=>?_⟩)) hF ?_
     ·rw[hr.eval];exact hrun w
     ·exact ih f _ hrest hk (hr.put (hd _ hom) v) hA hF (hout hom ho)
    ·obtain⟨v,hk,hrun⟩:=take_ok h'
     refine wpAnyS_first (v:=v) hi hst (Region.noSelect_spec hsel) (λch a w hq=>(hn ch _ w hq).elim) f listed a w (Region.free_spec hi hfree) (by simpa using hrd) (.inr ⟨.inl ⟨hwq,λw hw=>?_⟩,hwait htk⟩) hF ?_
     ·rw[hr.eval];exact hrun w hw
     ·exact ih f _ hrest hk (hr.put (hd _ hom) v) hA hF (hout hom ho)
   |false=>
    rw[hwt] at h' hwq
    refine wpAnyS_first (v:=undef) hi hst (Region.noSelect_spec hsel) (λch a w hq=>(hn ch _ w hq).elim) f listed a w (Region.free_spec hi hfree) (by simpa using hrd) (.inl (.inr ⟨hwq,rfl⟩)) hF ?_
    exact ih f _ hrest h' (hr.put (hd _ hom) undef) hA hF (hout hom ho)
 |ptake i p ih=>
  intro f listed env a w hb h hr hA hF ho
  cases f with
  |zero=>cases hb
  |succ f=>
   simp only[planB2,QA,QD,ZP] at hb
   obtain⟨⟨⟨⟨hrd,hfree⟩,hlt⟩,hst⟩,hrest⟩:=hb
   have hi:ops[i]? =some ops[i]:=by simp[hlt]
   have h':(match ops.toList[i]? with
   |some o=>match wantV ops.toList env o.guard with
    |true=>vcTake P T1 Hs (ev env) o λv=>vcPlan2 P ops.toList T0 T1 Hs p (updo env o.dst v) w.heap K
    |false=>vcPlan2 P ops.toList T0 T1 Hs p (updo env o.dst undef) w.heap K
   |none=>False):=h
   rw[QN,hi] at h'
   dsimp only at h'
   have hom:ops[i]∈ops.toList:=by simp
   have hwq:=want_eq hr ops.toList ops[i]
   rw[Z5] at hwq
   cases hwt:wantV ops.toList env ops[i].guard with
   |true=>
    rw[hwt] at h' hwq
    obtain⟨v,hk,hrun⟩:=take_ok h'
    refine wpAnyS_first (v:=v) hi hst (Region.noSelect_spec hsel) (λch a w hq=>(hn ch _ w hq).elim) f listed a w (Region.free_spec hi hfree) (by simpa using hrd) (.inl (.inl ⟨hwq,λw hw=>?_⟩)) hF ?_
    ·rw[hr.eval];exact hrun w (hw.elim (λh=>h.mono λk _ hk=>h01 k hk) id)
    ·exact ih f _ hrest hk (hr.put (hd _ hom) v) hA hF (hout hom ho)
   |false=>
    rw[hwt] at h' hwq
    refine wpAnyS_first (v:=undef) hi hst (Region.noSelect_spec hsel) (λch a w hq=>(hn ch _ w hq).elim) f listed a w (Region.free_spec hi hfree) (by simpa using hrd) (.inl (.inr ⟨hwq,rfl⟩)) hF ?_
    exact ih f _ hrest h' (hr.put (hd _ hom) undef) hA hF (hout hom ho)
 |one i p ih=>
  intro f listed env a w hb h hr hA hF ho
  cases f with
  |zero=>cases hb
  |succ f=>
   simp only[planB2,QA,QD,beq_iff_eq,ZP] at hb
   obtain⟨⟨⟨hrd,hlt⟩,hst⟩,hrest⟩:=hb
   refine⟨λh0=>absurd (hrd▸h0) (by simp),λj hj=>?_⟩
   rw[hrd] at hj
   obtain rfl:j=i:=by simpa using hj
   exact hop (vcPlan2 P ops.toList T0 T1 Hs p) j f _ hst (λh1 h2 h3 h4 h5=>ih f _ hrest h1 h2 h3 h4 h5) h hr hA hF ho
 |two i p j q ihp ihq=>
  intro f listed env a w hb h hr hA hF ho
  cases f with
  |zero=>cases hb
  |succ f=>
   simp only[planB2,QA,QD,beq_iff_eq,ZP] at hb
   obtain⟨⟨⟨⟨⟨⟨hrd,_⟩,_⟩,hs1⟩,hs2⟩,hr1⟩,hr2⟩:=hb
   refine⟨λh0=>absurd (hrd▸h0) (by simp),λk hk=>?_⟩
   rw[hrd] at hk
   rcases QB.1 hk with rfl|hk
   ·exact hop (vcPlan2 P ops.toList T0 T1 Hs p) k f _ hs1 (λh1 h2 h3 h4 h5=>ihp f _ hr1 h1 h2 h3 h4 h5) h.1 hr hA hF ho
   ·obtain rfl:k=j:=by simpa using hk
    exact hop (vcPlan2 P ops.toList T0 T1 Hs q) k f _ hs2 (λh1 h2 h3 h4 h5=>ihq f _ hr2 h1 h2 h3 h4 h5) h.2 hr hA hF ho
theorem draw_any{ops:Array Oper}{env:Env}{H:Heap}{K:KX}{a:Act}{w w0:World}{ws:List Nat}{Q:Exit→Act→World→Prop}(hn:∀ch a w,¬Q (.panic ch) a w)(h:DrawVC c ops env H (λenv' H'=>K .normal env' H'))(hr:RelE ds n a env)(hw:w.heap=H)(hF:Frm c.S c.H0 H)(hA:Amb w0 w)
  (hdd:∀o∈ops.toList,∀t,o.dst=some t→t<n) (hws:∀o∈ops.toList,∀t,o.dst=some t→memL ws t=true) (hQ:∀a' env' w',RelE ds n a' env'→Amb w0 w'→Frm c.S c.H0 w'.heap→(∀i,memL ws i=false→env' i=env i)→K .normal env' w'.heap→Q .normal a' w'):wpAny c.P .any ops Q ops.size (Array.replicate ops.size false) a w:=by
 rcases h.out with ⟨T,pl,hb,hT,hp⟩|⟨T0,T1,st,pl,hb,h01,hT,hp⟩
 ·rw[QA] at hb
  refine wpAny_of_held _ _ _ _ (plan_ok (n:=n) (w0:=w0) (ws:=ws) (env0:=env) (K:=λenv' H'=>K .normal env' H') hn hb.1 hdd hws (λa' env' w' h1 h2 h3 h4 h5=>?_) pl ops.size _ hb.2 (by show vcPlan c.P ops.toList T H pl env w.heap _;rw[hw];exact hp) hr hA (by show Frm T H w.heap;rw[hw];exact Frm.refl _ _) (λ_ _=>rfl))
  exact hQ a' env' w' h1 h2 (Frm.then hF h3 hT) h4 h5
 ·rw[QA] at hb
  refine wpAny_of_S _ _ _ _ (plan2_ok (n:=n) (w0:=w0) (ws:=ws) (env0:=env) (K:=λenv' H'=>K .normal env' H') hn h01 hb.1 hdd hws (λa' env' w' h1 h2 h3 h4 h5=>?_) pl ops.size _ hb.2 (by show vcPlan2 c.P ops.toList T0 T1 H pl env w.heap _;rw[hw];exact hp) hr hA (by show Frm T0 H w.heap;rw[hw];exact Frm.refl _ _) (λ_ _=>rfl))
  exact hQ a' env' w' h1 h2 (Frm.then hF h3 hT) h4 h5
def DrawOK(ds:List Deferred)(c:Ctx)(n:Nat):Prop:=∀(w0:World) (id:Nat) (ops:Array Oper) (env:Env) (H:Heap) (K:KX) (a:Act) (w:World),vcCode c (.region id ops true) env H K→RelE ds n a env→w.heap=H→Frm c.S c.H0 H→Amb w0 w→
 dstOk n (.region id ops true)=true→(Code.region id ops true).wp c.P (QE ds c n w0 (writesC (.region id ops true)) env K) a w
theorem draw_ok(hm:c.P.follows .mixedOrders=true):DrawOK ds c n:=by
 intro w0 id ops env H K a w h hr hw hF hA hd
 have hdd:∀o∈ops.toList,∀t,o.dst=some t→t<n:=λo ho t ht=>by
  have:=Q7.1 hd o ho
  rw[ht] at this
  exact Nat.blt_eq.mp this
 refine wp_region_noPanic (wp_region_any hm (draw_any (K:=K) (w0:=w0) (ws:=writesC (.region id ops true)) (λch a w h=>?_) h hr hw hF ⟨hA.1,hA.2.1,hA.2.2⟩ hdd (λo ho t ht=>memL_yes (YI.2 ⟨o,ho,ht⟩)) λa' env' w' h1 h2 h3 h4 h5=>?_))
 ·exact h
 ·exact⟨env',h1,h2,h3,h4,h5⟩
theorem vcCode_sound(hD:DrawOK ds c n):∀(code:Code) {env:Env} {H:Heap} {K:KX} {a:Act} {w:World},vcCode c code env H K→RelE ds n a env→w.heap=H→Frm c.S c.H0 H→Amb w0 w→dstOk n code=true→
  code.wp c.P (QE ds c n w0 (writesC code) env K) a w:=by
 intro code
 induction code with
 |skip=>intro env H K a w h hr hw hF hA _;exact wp_skip ⟨env,hr,hA,by rw[hw];exact hF,λ_ _=>rfl,by rw[hw];exact h⟩
 |region id ops draw=>
  intro env H K a w h hr hw hF hA hd
  cases draw with
  |true=>exact hD w0 id ops env H K a w h hr hw hF hA hd
  |false=>
   have h':vcOps c ops.toList ops.toList env H λenv' H'=>K .normal env' H':=h
   refine wp_region_list ?_
   refine vcOps_sound ops.toList ops.toList h' hr hw hF hA (λo ho t ht=>?_) λa' env' w' h1 h2 h3 h4 h5=>⟨env',h1,h2,h3,λi hi=>h4 i (λo ho e=>?_),h5⟩
   ·have:=Q7.1 hd o ho
    rw[ht] at this
    exact Nat.blt_eq.mp this
   ·exact memL_not hi (YI.2 ⟨o,ho,e⟩)
 |seq x y ihx ihy=>
  intro env H K a w h hr hw hF hA hd
  have hd':dstOk n x=true∧dstOk n y=true:=by simpa [dstOk] using hd
  refine wp_seq (wp_mono (ihx (K:=λe env' H'=>match e with| .normal=>vcCode c y env' H' K|e=>K e env' H') h hr hw hF hA hd'.1) ?_)
  rintro e a' w' ⟨env',h1,h2,h3,h4,h5⟩
  have hout:∀i,memL (writesC (x.seq y)) i=false→env' i=env i:=λi hi=>h4 i (by
   rw[writesC,memL_append] at hi
   simp at hi
   exact hi.1)
  cases e with
  |normal=>
   refine wp_mono (ihy h5 h1 rfl h3 h2 hd'.2) ?_
   rintro e2 a2 w2 ⟨env2,k1,k2,k3,k4,k5⟩
   have hall:QE ds c n w0 (writesC (x.seq y)) env K e2 a2 w2:=⟨env2,k1,k2,k3,λi hi=>by
    rw[k4 i (by rw[writesC,memL_append] at hi;simp at hi;exact hi.2),hout i hi],k5⟩
   exact hall
  |exit id=>exact⟨env',h1,h2,h3,hout,h5⟩
  |goto l=>exact⟨env',h1,h2,h3,hout,h5⟩
  |ret=>exact⟨env',h1,h2,h3,hout,h5⟩
  |panic ch=>exact⟨env',h1,h2,h3,hout,h5⟩
  |outgrown=>exact⟨env',h1,h2,h3,hout,h5⟩
 |cond x p q ihp ihq=>
  intro env H K a w h hr hw hF hA hd
  have hd':dstOk n p=true∧dstOk n q=true:=by simpa [dstOk] using hd
  have h':(match ev env x with
   | .bool true=>vcCode c p env H K
   | .bool false=>vcCode c q env H K
   |_=>False):=h
  have he:a.eval x=ev env x:=by rw[hr.eval]
  have hmon:∀e a' w',(QE ds c n w0 (writesC p) env K e a' w'∨QE ds c n w0 (writesC q) env K e a' w')→QE ds c n w0 (writesC (.cond x p q)) env K e a' w':=by
   rintro e a' w' (⟨env',h1,h2,h3,h4,h5⟩|⟨env',h1,h2,h3,h4,h5⟩)
   ·exact⟨env',h1,h2,h3,λi hi=>h4 i (by rw[writesC,memL_append] at hi;simp at hi;exact hi.1),h5⟩
   ·exact⟨env',h1,h2,h3,λi hi=>h4 i (by rw[writesC,memL_append] at hi;simp at hi;exact hi.2),h5⟩
  split at h'
  ·rename_i hx
   exact wp_cond_true (by rw[he,hx]) (wp_mono (ihp h' hr hw hF hA hd'.1) λe a' w' q=>hmon e a' w' (.inl q))
  ·rename_i hx
   exact wp_cond_false (by rw[he,hx]) (wp_mono (ihq h' hr hw hF hA hd'.2) λe a' w' q=>hmon e a' w' (.inr q))
  ·exact h'.elim
 |block id b ih=>
  intro env H K a w h hr hw hF hA hd
  refine wp_block (wp_mono (ih (K:=λe env' H'=>match e with
   | .exit id'=>match Nat.beq id' id with
    |true=>K .normal env' H'
    |false=>K (.exit id') env' H'
   |e=>K e env' H') h hr hw hF hA hd) ?_)
  rintro e a' w' ⟨env',h1,h2,h3,h4,h5⟩
  cases e with
  |exit id'=>
   unfold Exit.inBlock
   dsimp only at h5⊢
   by_cases hid:id'=id
   ·subst hid
    rw[YY] at h5
    rw[if_pos rfl]
    exact⟨env',h1,h2,h3,h4,h5⟩
   ·have:Nat.beq id' id=false:=by
     cases hb:Nat.beq id' id with
     |false=>rfl
     |true=>exact(hid (QF hb)).elim
    rw[this] at h5
    rw[if_neg hid]
    exact⟨env',h1,h2,h3,h4,h5⟩
  |normal=>exact⟨env',h1,h2,h3,h4,h5⟩
  |goto l=>exact⟨env',h1,h2,h3,h4,h5⟩
  |ret=>exact⟨env',h1,h2,h3,h4,h5⟩
  |panic ch=>exact⟨env',h1,h2,h3,h4,h5⟩
  |outgrown=>exact⟨env',h1,h2,h3,h4,h5⟩
 |loop b ih=>
  intro env H K a w h hr hw hF hA hd
  obtain⟨α,E,I,μ,⟨x0,hx0,hI0⟩,hround⟩:=(show LoopVC (vcCode c b) (writesC b) env H K c.S c.H0 from h).out
  let good:Act→World→Nat→Prop:=λa2 w2 k=>∃x env2,RelE ds n a2 env2∧Amb w0 w2∧Frm c.S c.H0 w2.heap∧(∀i,memL (writesC b) i=false→env2 i=env i)∧EnvHas env2 (E x)∧I x w2.heap∧μ x=k
  refine wp_loop (λa2 w2=>∃k,good a2 w2 k) (λa2 w2=>leastN (good a2 w2)) ⟨_,x0,env,hr,hA,by rw[hw];exact hF,λ_ _=>rfl,hx0,by rw[hw];exact hI0,rfl⟩ ?_
  intro a2 w2 hg
  obtain⟨⟨x,env2,hr2,hA2,hF2,ho2,hE2,hI2,hm2⟩,hmin⟩:=leastN_spec hg
  have hb:=hround x w2.heap env2 hI2 hF2
  rw[over_self hE2 ho2] at hb
  refine wp_mono (ih hb hr2 rfl hF2 hA2 hd) ?_
  rintro e a3 w3 ⟨env3,h1,h2,h3,h4,h5⟩
  have hout:∀i,memL (writesC b) i=false→env3 i=env i:=λi hi=>(h4 i hi).trans (ho2 i hi)
  cases e with
  |normal=>
   obtain⟨y,hEy,hIy,hlt⟩:=h5
   have hgy:good a3 w3 (μ y):=⟨y,env3,h1,h2,h3,hout,hEy,hIy,rfl⟩
   refine⟨⟨_,hgy⟩,?_⟩
   have:=(leastN_spec ⟨_,hgy⟩).2 _ hgy
   rw[←hm2]
   exact Nat.lt_of_le_of_lt this hlt
  |exit id=>exact⟨env3,h1,h2,h3,hout,h5⟩
  |goto l=>exact⟨env3,h1,h2,h3,hout,h5⟩
  |ret=>exact⟨env3,h1,h2,h3,hout,h5⟩
  |panic ch=>exact⟨env3,h1,h2,h3,hout,h5⟩
  |outgrown=>exact⟨env3,h1,h2,h3,hout,h5⟩
 |rangeFunc=>intro env H K a w h;exact(show False from h).elim
 |exit id=>intro env H K a w h hr hw hF hA _;exact wp_exit ⟨env,hr,hA,by rw[hw];exact hF,λ_ _=>rfl,by rw[hw];exact h⟩
 |scope b ih=>
  intro env H K a w h hr hw hF hA hd
  refine wp_scope_straight (wp_mono (ih (K:=λe env' H'=>match e with
   | .goto _=>False
   |e=>K e env' H') h hr hw hF hA hd) ?_)
  rintro e a' w' ⟨env',h1,h2,h3,h4,h5⟩
  cases e with
  |normal=>exact⟨env',h1,h2,h3,h4,h5⟩
  |exit id=>exact⟨env',h1,h2,h3,h4,h5⟩
  |goto l=>exact(show False from h5).elim
  |ret=>exact⟨env',h1,h2,h3,h4,h5⟩
  |panic ch=>exact⟨env',h1,h2,h3,h4,h5⟩
  |outgrown=>exact⟨env',h1,h2,h3,h4,h5⟩
 |label l=>intro env H K a w h hr hw hF hA _;exact wp_label ⟨env,hr,hA,by rw[hw];exact hF,λ_ _=>rfl,by rw[hw];exact h⟩
 |goto=>intro env H K a w h;exact(show False from h).elim
 |ret=>intro env H K a w h hr hw hF hA _;exact wp_ret ⟨env,hr,hA,by rw[hw];exact hF,λ_ _=>rfl,by rw[hw];exact h⟩
 |refuse=>intro env H K a w h;exact(show False from h).elim
def accR(R:KK)(H:Heap)(vs:List Value):Prop:=match vs with
 |[v]=>R v H
 |vs=>R (.tuple vs.toArray) H
def ResVC(P:Program)(env:Env)(H:Heap)(R:KK)(rs:List ResultVar):List Value→Prop:=
 List.rec (motive:=λ_=>List Value→Prop) (λacc=>accR R H acc)
  (λr _ ih acc=>match r with
   | .tmp t=>ih (acc++[env t])
   | .cell t ty=>match env t with
    | .pointer (some ⟨b,o,none⟩)=>match aggO P ty with
     |some true=>∃vs:List Value,(P.info? ty).map (·.size)=some vs.length∧CellsAt H b o vs∧ih (acc++[.agg vs.toArray])
     |some false=>∃v,cel H ⟨b,o,none⟩=some v∧ih (acc++[v])
     |none=>False
    |_=>False) rs
structure FinVC(P:Program)(env:Env)(H:Heap)(R:KK)(rs:List ResultVar):Prop where
 out:ResVC P env H R rs []
def finK(P:Program)(rs:List ResultVar)(R:KK):KX:=λe env H=>match e with
 | .normal=>FinVC P env H R rs
 | .ret=>FinVC P env H R rs
 |_=>False
def args0(l:List Value):Env:=λi=>match l[i]? with|some v=>v|none=>undef
def resG(tmps:Array Value):ResultVar→Sem Value
 | .tmp t=>pure (tmps.getD t undef)
 | .cell a t=>do loadVar t (←asAddr (tmps.getD a undef))
theorem results_eq(fn:Func)(tmps:Array Value):results fn tmps=(do
  let vs←fn.results.mapM (resG tmps)
  pure (if h:vs.size=1 then vs[0] else .tuple vs)):=by
 unfold results
 congr
theorem res_run{P:Program}{env:Env}{R:KK}{w:World}{tmps:Array Value}(ht:∀i,tmps.getD i undef=env i):∀(rs:List ResultVar) (acc:List Value),ResVC P env w.heap R rs acc→
  ∃vs,(rs.mapM (resG tmps)).run P w=.ok vs w∧accR R w.heap (acc++vs)
 |[],acc,h=>⟨[],rfl,by rw[QT];exact h⟩
 | .tmp t::rs,acc,h=>by
  obtain⟨vs,h1,h2⟩:=res_run ht rs (acc++[env t]) h
  refine⟨env t::vs,?_,by simpa using h2⟩
  rw[List.mapM_cons,run_bind (x:=env t) (w':=w) (by show(Pure.pure (tmps.getD t undef):Sem Value).run P w=_;rw[ht];rfl),run_bind h1]
  rfl
 | .cell t ty::rs,acc,h=>by
  have h':(match env t with
    | .pointer (some ⟨b,o,none⟩)=>match aggO P ty with
     |some true=>∃vs:List Value,(P.info? ty).map (·.size)=some vs.length∧CellsAt w.heap b o vs∧ResVC P env w.heap R rs (acc++[.agg vs.toArray])
     |some false=>∃v,cel w.heap ⟨b,o,none⟩=some v∧ResVC P env w.heap R rs (acc++[v])
     |none=>False
    |_=>False):=h
  have hgo:∀(v:Value) (b o:Nat),env t=.pointer (some ⟨b,o,none⟩)→(loadVar ty ⟨b,o,none⟩).run P w=.ok v w→ResVC P env w.heap R rs (acc++[v])→∃vs,((ResultVar.cell t ty::rs).mapM (resG tmps)).run P w=.ok vs w∧accR R w.heap (acc++vs):=λv b o he hl hrest=>by
   obtain⟨vs,h1,h2⟩:=res_run ht rs (acc++[v]) hrest
   refine⟨v::vs,?_,by simpa using h2⟩
   rw[List.mapM_cons]
   rw[run_bind (x:=v) (w':=w),run_bind h1]
   ·rfl
   ·show(do loadVar ty (←asAddr (tmps.getD t undef)):Sem Value).run P w=_
    rw[ht t,he,run_bind (x:=(⟨b,o,none⟩:Addr)) (w':=w) rfl]
    exact hl
  split at h'
  ·rename_i b o he
   split at h'
   ·rename_i hg
    obtain⟨vs,hs,hc,hk⟩:=h'
    refine hgo _ b o he ?_ hk
    cases hi:P.info? ty with
    |none=>rw[hi] at hs;cases hs
    |some i=>
     rw[hi] at hs
     have hs':i.size=vs.length:=by simpa using hs
     unfold loadVar
     rw[run_bind (isAgg_run hg w),if_pos rfl,run_bind (sizeOf_run hi w)]
     unfold loadCells
     rw[hs',run_bind (loadCells_run w b o vs 0 #[] hc)]
     simp[pure]
   ·rename_i hg
    obtain⟨v,hc,hk⟩:=h'
    refine hgo _ b o he ?_ hk
    unfold loadVar
    rw[run_bind (isAgg_run hg w),if_neg (by decide)]
    have hc':w.cell? ⟨b,o,none⟩=some v:=hc
    simp[load,Sem.run,hc']
   ·exact h'.elim
  ·exact h'.elim
theorem bodyPost_of{P:Program}{fn:Func}{T:Nat→Prop}{H:Heap}{n:Nat}{w0:World}{ws:List Nat}{env:Env}{R:KK}{e:Exit}{a:Act}{w:World}(h:QE [] ⟨P,H,T⟩ n w0 ws env (finK P fn.results.toList R) e a w):
  bodyPost P fn (λe w'=>∃v,e=.returned v∧Amb w0 w'∧Frm T H w'.heap∧R v w'.heap) e a w:=by
 obtain⟨env',hr,hA,hF,_,hk⟩:=h
 have hgo:FinVC P env' w.heap R fn.results.toList→∃v,(results fn a.tmps).run P w=.ok v w∧R v w.heap:=λhk=>by
  obtain⟨vs,h1,h2⟩:=res_run hr.get fn.results.toList [] hk.out
  rw[results_eq,Ye]
  refine⟨if h:vs.toArray.size=1 then vs.toArray[0] else .tuple vs.toArray,?_,?_⟩
  ·rw[Sem.run_bind,Sem.run_map,h1]
   rfl
  ·rw[QI] at h2
   match vs,h2 with
   |[],h2=>exact h2
   |[v],h2=>exact h2
   |a::b::r,h2=>simpa [accR] using h2
 cases e with
 |normal=>
  obtain⟨v,h1,h2⟩:=hgo hk
  exact⟨hr.defers,v,h1,v,rfl,hA,hF,h2⟩
 |ret=>
  obtain⟨v,h1,h2⟩:=hgo hk
  exact⟨hr.defers,v,h1,v,rfl,hA,hF,h2⟩
 |_=>exact(show False from hk).elim
theorem Spec.of{P:Program}{f:FuncId}{fn:Func}{code:Code}{args:List Value}{H:Heap}{T:Nat→Prop}{R:KK}(hf:P.funcs[f]? =some fn)(hb:fn.body=some code)(hg:callB P f=true)
  (hd:dstOk (max args.length fn.ntmps) code=true) (hD:DrawOK [] ⟨P,H,T⟩ (max args.length fn.ntmps)) (h:vcCode ⟨P,H,T⟩ code (args0 args) H (finK P fn.results.toList R)):Spec P f args.toArray H T R:=by
 refine⟨hg,λw hw=>?_⟩
 refine calls_of_wp hf hb (wp_mono (vcCode_sound (w0:=w) hD code h (a:={tmps:=args.toArray++Array.replicate (fn.ntmps-args.toArray.size) undef,defers:=[]}) (w:=w) ⟨rfl,?_,?_⟩ hw (Frm.refl _ _) (Amb.refl w) hd) λe a' w' hq=>bodyPost_of hq)
 ·simp
  omega
 ·intro i
  rw[Z0]
  unfold args0
  by_cases hi:i<args.length
  ·rw[Z7 (by simpa using hi)]
   simp[hi]
  ·rw[Array.getElem?_append_right (by simp;omega),Qx (by omega)]
   rw[Array.getElem?_replicate]
   split<;>rfl
end
end Go.Proofs.YtjambljmnifknaaGreatDoor.Vc
