/- Part 7 of the proof of TopAny: The reckoner is sound: operations, one by one. -/
import Derived.Test.YtjambljmnifknaaGreatDoorJ06
import Derived.Laws.OwnMore
set_option maxRecDepth 100000
set_option maxHeartbeats 80000000
set_option linter.all false
namespace Go.Proofs.YtjambljmnifknaaGreatDoor.Vc
open Go
theorem Frm.refl(T:Nat→Prop)(H:Heap):Frm T H H:=⟨Qd _,λ_ _ _=>rfl⟩
theorem Frm.trans{T:Nat→Prop}{A B C:Heap}(h:Frm T A B)(k:Frm T B C):Frm T A C:=
 ⟨Qb h.1 k.1,λi hi hn=>(k.2 i (QH hi h.1) hn).trans (h.2 i hi hn)⟩
theorem Frm.then{S T:Nat→Prop}{A B C:Heap}(h:Frm S A B)(k:Frm T B C)(hT:∀k,T k→S k∨A.size≤k):Frm S A C:=
 ⟨Qb h.1 k.1,λi hi hn=>(k.2 i (QH hi h.1) (λe=>(hT i e).elim hn (λh=>by omega))).trans (h.2 i hi hn)⟩
theorem Frm.mono{S T:Nat→Prop}{A B:Heap}(h:Frm T A B)(hT:∀k,k<A.size→T k→S k):Frm S A B:=
 ⟨h.1,λi hi hn=>h.2 i hi (λe=>hn (hT i hi e))⟩
theorem Fresh.frm{H H':Heap}{b:Nat}{o:Obj}(h:Fresh H H' b o)(T:Nat→Prop):Frm T H H':=by
 obtain⟨rfl,rfl⟩:=h
 exact⟨by simp,λk hk _=>by simp[Je,Nat.ne_of_lt hk]⟩
theorem Fresh.at{H H':Heap}{b:Nat}{o:Obj}(h:Fresh H H' b o):H'[b]? =some o:=by
 obtain⟨rfl,rfl⟩:=h
 simp
theorem Fresh.size{H H':Heap}{b:Nat}{o:Obj}(h:Fresh H H' b o):H'.size=b+1∧b=H.size:=by
 obtain⟨rfl,rfl⟩:=h
 simp
theorem Amb.refl(w:World):Amb w w:=⟨rfl,rfl,rfl⟩
theorem Amb.trans{a b c:World}(h:Amb a b)(k:Amb b c):Amb a c:=⟨k.1.trans h.1,k.2.1.trans h.2.1,k.2.2.trans h.2.2⟩
theorem cel_w(w:World)(a:Addr):w.cell? a=cel w.heap a:=rfl
def OpOK(c:Ctx)(ρ:Operand→Value)(o:Oper)(H:Heap)(K:KK):Prop:=∀w,w.heap=H→
 (∃v w',((execOp ρ o).run c.P w=.ok (.value v) w'∨((execOp ρ o).run c.P w=.ok .skip w'∧v=undef))∧Amb w w'∧Frm c.S c.H0 w'.heap∧K v w'.heap)∨
 (∃g args,(execOp ρ o).run c.P w=.ok (.enter g args) w∧∃T R,Spec c.P g args H T R∧(∀k,T k→c.S k∨c.H0.size≤k)∧∀v H',R v H'→Frm T H H'→Frm c.S c.H0 H'→K v H')
section
variable {c:Ctx}{ρ:Operand→Value}{o:Oper}{H:Heap}{K:KK}
theorem ok_raw(h:RawVC c ρ o H K):OpOK c ρ o H K:=λw hw=>.inl (h.out w hw)
theorem ok_val(hF:Frm c.S c.H0 H){v:Value}(h:K v H)(hr:∀w,w.heap=H→(execOp ρ o).run c.P w=.ok (.value v) w):OpOK c ρ o H K:=
 λw hw=>.inl ⟨v,w,.inl (hr w hw),Amb.refl w,by rw[hw];exact hF,by rw[hw];exact h⟩
theorem ok_new(hF:Frm c.S c.H0 H){ob:Obj}{f:Nat→Value}(h:vcNew c H ob λb H'=>K (f b) H')
  (hr:∀w,w.heap=H→(execOp ρ o).run c.P w=.ok (.value (f w.heap.size)) {w with heap:=w.heap.push ob}):OpOK c ρ o H K:=λw hw=>by
 have hfr:Fresh H (w.heap.push ob) w.heap.size ob:=⟨by rw[hw],by rw[hw]⟩
 have hF':Frm c.S c.H0 (w.heap.push ob):=hF.trans (hfr.frm _)
 exact .inl ⟨_,_,.inl (hr w hw),⟨rfl,rfl,rfl⟩,hF',h _ _ hfr hF'⟩
def PureOK(P:Program)(ρ:Operand→Value)(o:Oper)(K:Value→Prop):Prop:=∃v,K v∧∀w,(execOp ρ o).run P w=.ok (.value v) w
theorem ok_pure{P:Program}{ρ:Operand→Value}{o:Oper}{K:Value→Prop}{v:Value}(h:K v)(hr:∀w,(execOp ρ o).run P w=.ok (.value v) w):PureOK P ρ o K:=⟨v,h,hr⟩
theorem PureOK.op(h:PureOK c.P ρ o λv=>K v H)(hF:Frm c.S c.H0 H):OpOK c ρ o H K:=by
 obtain⟨v,hk,hr⟩:=h
 exact ok_val hF hk λw _=>hr w
theorem isAgg_run{P:Program}{t:TypeId}{b:Bool}(h:aggO P t=some b)(w:World):(isAgg t).run P w=.ok b w:=by
 unfold aggO at h
 cases hu:P.underlying t with
 |none=>rw[hu] at h;cases h
 |some d=>
  rw[hu] at h
  unfold isAgg
  cases d<;>simp at h<;>subst h<;>simp[underlying,program,bind,Sem.bind,Sem.run,hu,pure]
theorem loadCells_run{P:Program}(w:World)(b o:Nat):∀(vs:List Value) (i:Nat) (acc:Array Value),CellsAt w.heap b (o+i) vs→
  (loadCellsFrom ⟨b,o,none⟩ i vs.length acc).run P w=.ok (acc++vs.toArray) w
 |[],i,acc,_=>by simp[loadCellsFrom,pure]
 |v::r,i,acc,h=>by
  obtain⟨h1,h2⟩:=h
  have e:(⟨b,o,none⟩:Addr).add i=⟨b,o+i,none⟩:=by
   unfold Addr.add
   by_cases h:i=0
   ·subst h;simp
   ·rw[if_neg h]
  have hc:w.cell? ((⟨b,o,none⟩:Addr).add i)=some v:=by rw[e];exact h1
  have ih:=loadCells_run (P:=P) w b o r (i+1) (acc.push v) h2
  simp only[Qo,loadCellsFrom,load,bind,Sem.bind,Sem.run,hc]
  rw[ih]
  simp
theorem sizeOf_run{P:Program}{t:TypeId}{i:TypeInfo}(h:P.info? t=some i)(w:World):(sizeOf t).run P w=.ok i.size w:=by
 simp[sizeOf,typeInfo,program,bind,Sem.bind,Sem.run,h,pure]
theorem run_bind{α β:Type}{P:Program}{s:Sem α}{f:α→Sem β}{w w':World}{x:α}(h:s.run P w=.ok x w'):(s>>=f).run P w=(f x).run P w':=by
 rw[Sem.run_bind,h]
 rfl
theorem loadOnly_run{P:Program}{t:TypeId}{a:Operand}{b off:Nat}(ho:o.op=.load t a)(ha:ρ a=.pointer (some ⟨b,off,none⟩)){w:World}{v:Value}{c:Ctx}(hP:c.P=P){X:Heap→Prop}(h:vcLoad c w.heap t b off λu H'=>u=v∧X H'):(execOp ρ o).run P w=.ok (.value v) w:=by
 subst hP
 unfold vcLoad at h
 have hr:∀(v:Value),(loadVar t ⟨b,off,none⟩).run c.P w=.ok v w→(execOp ρ o).run c.P w=.ok (.value v) w:=λv hv=>by
  unfold execOp
  rw[ho]
  simp only[Instr.loadAt,ha]
  rw[run_bind (x:=v) (w':=w)]
  ·rfl
  ·rw[run_bind (x:=(⟨b,off,none⟩:Addr)) (w':=w) rfl]
   exact hv
 split at h
 ·rename_i hg
  obtain⟨vs,hs,hc,rfl,_⟩:=h
  cases hi:c.P.info? t with
  |none=>rw[hi] at hs;cases hs
  |some i=>
   rw[hi] at hs
   have hs':i.size=vs.length:=by simpa using hs
   refine hr _ ?_
   unfold loadVar
   rw[run_bind (isAgg_run hg w),if_pos rfl,run_bind (sizeOf_run hi w)]
   unfold loadCells
   rw[hs',run_bind (loadCells_run w b off vs 0 #[] hc)]
   simp[pure]
 ·rename_i hg
  obtain⟨v,hc,rfl,_⟩:=h
  refine hr _ ?_
  unfold loadVar
  rw[run_bind (isAgg_run hg w),if_neg (by decide)]
  have hc':w.cell? ⟨b,off,none⟩=some v:=hc
  simp[load,Sem.run,hc']
 ·exact h.elim
theorem ok_load{t:TypeId}{a:Operand}{b off:Nat}(ho:o.op=.load t a)(ha:ρ a=.pointer (some ⟨b,off,none⟩))(hF:Frm c.S c.H0 H)(h:vcLoad c H t b off K):OpOK c ρ o H K:=by
 have hx:∃v,K v H∧vcLoad c H t b off λu _=>u=v∧True:=by
  unfold vcLoad at h⊢
  split at h
  ·obtain⟨vs,hs,hc,hk⟩:=h
   exact⟨_,hk,vs,hs,hc,rfl,trivial⟩
  ·obtain⟨v,hc,hk⟩:=h
   exact⟨_,hk,v,hc,rfl,trivial⟩
  ·exact h.elim
 obtain⟨v,hk,hl⟩:=hx
 exact ok_val hF hk λw hw=>loadOnly_run ho ha rfl (X:=λ_=>True) (by rw[hw];exact hl)
theorem putL_nil(l:List Value)(n:Nat):putL l n []=l:=by cases l<;>cases n<;>rfl
theorem putL_cons(v:Value)(vs:List Value):∀(l:List Value) (n:Nat),putL l n (v::vs)=putL (l.set n v) (n+1) vs
 |[],n=>by cases vs<;>simp[putL]
 |x::r,0=>by cases vs<;>simp[putL,putL_nil]
 |x::r,n+1=>by
  have ih:=putL_cons v vs r n
  cases vs with
  |nil=>simp[putL_nil] at ih⊢;simp[putL,ih]
  |cons y ys=>simp only[putL,List.set_cons_succ];rw[ih]
theorem putL_length:∀(vs l:List Value) (n:Nat),(putL l n vs).length=l.length
 |[],l,n=>by rw[putL_nil]
 |v::vs,l,n=>by rw[putL_cons,putL_length vs];simp
theorem oneCell_store{v:Value}(h:oneCell v=true){P:Program}{w:World}{a:Addr}{u:Value}(hc:w.cell? a=some u)(hf:w.frozen? a=false):(store a v).run P w=.ok () (w.setCell a v):=by
 unfold store
 cases v<;>simp[oneCell] at h<;>simp[Sem.run,hc,hf]
theorem storeCells_run{P:Program}(b off:Nat)(E:TypeId):∀(vs:List Value) (i:Nat) (cs:Array Value) (w:World),w.heap[b]? =some (.cells cs E (0,0))→off+i+vs.length≤cs.size→(∀v∈vs,oneCell v=true)→
  ∃w',(storeCells ⟨b,off,none⟩ vs i).run P w=.ok () w'∧Amb w w'∧w'.heap[b]? =some (.cells (putL cs.toList (off+i) vs).toArray E (0,0))∧w'.heap.size=w.heap.size∧∀k,k≠b→w'.heap[k]? =w.heap[k]?
 |[],i,cs,w,hb,_,_=>⟨w,by simp[storeCells,pure],Amb.refl w,by rw[putL_nil];simpa using hb,rfl,λ_ _=>rfl⟩
 |v::vs,i,cs,w,hb,hl,h1=>by
  have hlt:off+i<cs.size:=by simp at hl;omega
  have e:(⟨b,off,none⟩:Addr).add i=⟨b,off+i,none⟩:=by
   unfold Addr.add
   by_cases h:i=0
   ·subst h;simp
   ·rw[if_neg h]
  have hc:w.cell? ((⟨b,off,none⟩:Addr).add i)=some cs[off+i]:=by
   rw[e]
   simp[World.cell?,hb,hlt]
  have hf:w.frozen? ((⟨b,off,none⟩:Addr).add i)=false:=by
   rw[e]
   simp[World.frozen?,hb]
  have hst:=oneCell_store (h1 v (by simp)) (P:=P) hc hf
  have hblt:b<w.heap.size:=(Qa.1 hb).1
  have hb':(w.setCell ((⟨b,off,none⟩:Addr).add i) v).heap[b]? =some (.cells (cs.set! (off+i) v) E (0,0)):=by
   rw[e]
   simp[World.setCell,ZM,hb]
  obtain⟨w',hr,ha,hat,hsz,hoth⟩:=storeCells_run b off E vs (i+1) (cs.set! (off+i) v) (w.setCell ((⟨b,off,none⟩:Addr).add i) v) hb' (by simp at hl⊢;omega) (λv hv=>h1 v (by simp[hv]))
  refine⟨w',?_,?_,?_,?_,?_⟩
  ·show((store _ v).bind λ_=>storeCells _ vs (i+1)).run P w=_
   have:=run_bind (f:=λ_=>storeCells ⟨b,off,none⟩ vs (i+1)) hst
   rw[hr] at this
   exact this
  ·exact⟨ha.1,ha.2.1,ha.2.2⟩
  ·rw[hat,putL_cons]
   simp[Nat.add_assoc]
  ·rw[hsz]
   simp[World.setCell]
  ·intro k hk
   rw[hoth k hk,e]
   simp[World.setCell,ZM,Yu hk]
theorem ok_store{t:TypeId}{a x:Operand}{b off:Nat}(ho:o.op=.store t a x)(ha:ρ a=.pointer (some ⟨b,off,none⟩))(hF:Frm c.S c.H0 H)(h:StoreVC c H t b off (ρ x) K):OpOK c ρ o H K:=by
 obtain⟨cs,E,cs',hb,hS,hst,hcs,hk⟩:=h.out
 intro w hw
 unfold stoB at hst
 simp only[QA] at hst
 obtain⟨⟨hs,hl⟩,h1⟩:=hst
 have hl':=Nat.ble_eq.mp hl
 cases hi:c.P.info? t with
 |none=>rw[hi] at hs;cases hs
 |some i=>
  rw[hi] at hs
  have hs':(ρ x).cells.size=i.size:=by have:=QF hs;simpa using this.symm
  obtain⟨w',hr,hamb,hat,hsz,hoth⟩:=storeCells_run (P:=c.P) b off E (ρ x).cells.toList 0 cs.toArray w (by rw[hw];exact hb) (by simpa using hl') (λv hv=>Q7.1 h1 v hv)
  rw[ZK] at hat
  rw[show cs.toArray.toList=cs from rfl,hcs] at hat
  have hu:Upd H w'.heap b (.cells cs'.toArray E (0,0)):=⟨hat,by rw[hsz,hw],λk hk=>by rw[hoth k hk,hw]⟩
  have hF':Frm c.S c.H0 w'.heap:=hF.then ⟨by rw[hu.2.1];exact Qd _,λk _ hn=>hu.2.2 k hn⟩ (T:=λk=>k=b) (λk hk=>by subst hk;exact hS)
  refine .inl ⟨undef,w',.inr ⟨?_,rfl⟩,hamb,hF',hk _ hu hF'⟩
  unfold execOp
  rw[ho]
  simp only[Instr.storeAt,ha]
  have h0:(storeVar t ⟨b,off,none⟩ (ρ x)).run c.P w=.ok () w':=by
   unfold storeVar
   rw[run_bind (sizeOf_run hi w)]
   simp only[hs',ne_eq,not_true_eq_false,YU]
   exact hr
  rw[run_bind (x:=()) (w':=w')]
  ·rfl
  ·rw[run_bind (x:=(⟨b,off,none⟩:Addr)) (w':=w) rfl]
   exact h0
theorem und_run{P:Program}{t:TypeId}{d:TypeDesc}(h:P.underlying t=some d)(w:World):(underlying t).run P w=.ok d w:=by
 simp[underlying,program,bind,Sem.bind,Sem.run,h,pure]
theorem zero_run{P:Program}{t:TypeId}{i:TypeInfo}{z:Value}(h:P.info? t=some i)(hz:i.zero=some z)(w:World):(zeroValue t).run P w=.ok z w:=by
 simp[zeroValue,typeInfo,program,bind,Sem.bind,Sem.run,h,hz,pure]
theorem newRow_run{P:Program}(e:TypeId)(cells:Array Value)(w:World):(newRow e cells).run P w=.ok ⟨w.heap.size,0,none⟩ {w with heap:=w.heap.push (.cells cells e)}:=by
 simp[newRow,newObj,bind,Sem.bind,Sem.run,pure]
theorem val_run{P:Program}{s:Sem Value}{w w':World}{v:Value}(h:s.run P w=.ok v w'):(do pure (Next.value (←s)):Sem Next).run P w=.ok (.value v) w':=by
 rw[run_bind h]
 rfl
theorem ok_alloc{t:TypeId}{i:TypeInfo}{z:Value}(ho:o.op=.alloc t)(hi:c.P.info? t=some i)(hz:i.zero=some z)(hF:Frm c.S c.H0 H)
  (h:vcNew c H (.cells z.cells t) λb H'=>K (.pointer (some ⟨b,0,none⟩)) H'):OpOK c ρ o H K:=
 ok_new (f:=λb=>.pointer (some ⟨b,0,none⟩)) hF h λw _=>by
  unfold execOp
  rw[ho]
  refine val_run ?_
  unfold Instr.alloc
  rw[run_bind (zero_run hi hz w)]
  show((newVar t z).bind λa=>Sem.pure (Value.pointer (some a))).run c.P w=_
  exact run_bind (f:=λa=>pure (Value.pointer (some a))) (newRow_run t z.cells w)
theorem ok_box{t:TypeId}{x:Operand}(ho:o.op=.box t x)(hF:Frm c.S c.H0 H)
  (h:vcNew c H (.cells (ρ x).cells t) λb H'=>K (.pointer (some ⟨b,0,none⟩)) H'):OpOK c ρ o H K:=
 ok_new (f:=λb=>.pointer (some ⟨b,0,none⟩)) hF h λw _=>by
  unfold execOp
  rw[ho]
  refine val_run ?_
  exact run_bind (f:=λa=>pure (Value.pointer (some a))) (newRow_run t (ρ x).cells w)
theorem putL_foldl(off:Nat):∀(vs:List Value) (k:Nat) (cs:Array Value),((vs.zipIdx k).foldl (λ(cs:Array Value) (p:Value×Nat)=>cs.setIfInBounds (off+p.2) p.1) cs).toList=putL cs.toList (off+k) vs
 |[],k,cs=>by simp[putL_nil]
 |v::vs,k,cs=>by
  rw[List.zipIdx_cons,Yh,putL_foldl off vs (k+1),putL_cons]
  simp[Nat.add_assoc]
theorem fill_run(place:Nat→Option (Nat×Nat))(fs:Nat→Option Nat)(hp:∀j,(place j).map (·.1)=fs j):∀(l:List (Nat×Value)) (cells:Array Value) (r:List Value),fillL fs l cells.toList=some r→
  (∀p∈l,∀off size,place p.1=some (off,size)→p.2.cells.size=size∧off+p.2.cells.size≤cells.size)→Instr.fill place cells l=some r.toArray
 |[],cells,r,h,_=>by
  simp[fillL] at h
  simp[Instr.fill,←h]
 |(i,v)::l,cells,r,h,hs=>by
  unfold fillL at h
  cases hq:place i with
  |none=>
   have:=hp i
   rw[hq] at this
   rw[←this] at h
   simp at h
  |some q=>
   obtain⟨off,size⟩:=q
   have hf:=hp i
   rw[hq] at hf
   rw[←hf] at h
   simp only[ZY] at h
   obtain⟨h1,h2⟩:=hs (i,v) (by simp) off size hq
   unfold Instr.fill
   simp only[hq]
   rw[if_neg (by simp only[ne_eq,Bool.or_eq_true,QD,not_or,YR];dsimp only at h1 h2;exact⟨h1,by omega⟩)]
   have e:(v.cells.zipIdx.foldl (λ(cs:Array Value) (p:Value×Nat)=>cs.setIfInBounds (off+p.2) p.1) cells).toList=putL cells.toList off v.cells.toList:=by
    rw[←Array.foldl_toList,Array.toList_zipIdx]
    exact putL_foldl off v.cells.toList 0 cells
   refine fill_run place fs hp l _ r ?_ ?_
   ·rw[e]
    exact h
   ·intro p hp' off' size' hpl
    obtain⟨h3,h4⟩:=hs p (by simp[hp']) off' size' hpl
    refine⟨h3,?_⟩
    have:(v.cells.zipIdx.foldl (λ(cs:Array Value) (p:Value×Nat)=>cs.setIfInBounds (off+p.2) p.1) cells).size=cells.size:=by
     rw[←Array.length_toList,e,putL_length,Array.length_toList]
    rw[this]
    exact h4
theorem mapM_run{α β:Type}{P:Program}(f:α→Sem β)(g:α→β)(w:World):∀(l:List α),(∀x∈l,(f x).run P w=.ok (g x) w)→(l.mapM f).run P w=.ok (l.map g) w
 |[],_=>rfl
 |x::l,h=>by
  rw[List.mapM_cons,run_bind (h x (by simp)),run_bind (mapM_run f g w l (λy hy=>h y (by simp[hy])))]
  rfl
theorem mapMA_run{α β:Type}{P:Program}(f:α→Sem β)(g:α→β)(w:World)(l:Array α)(h:∀x∈l,(f x).run P w=.ok (g x) w):(l.mapM f).run P w=.ok (l.map g) w:=by
 rw[Ye,Sem.run_map,mapM_run f g w l.toList (λx hx=>h x (Array.mem_toList_iff.1 hx))]
 show Result.ok _ w=_
 congr 1
 apply Zq
 simp
theorem ok_build{t:TypeId}{parts:Array (Nat×Operand)}{fs:Array Field}{i:TypeInfo}{z:Value}{l:List Value}(ho:o.op=.build t parts)(hu:c.P.underlying t=some (.struct fs))(hi:c.P.info? t=some i)(hz:i.zero=some z)
  (hf:fillL (λj=>(fs[j]?).map (·.offset)) (parts.toList.map λp=>(p.1,ρ p.2)) z.cells.toList=some l)
  (hb:(buildB c.P fs.toList z.cells.toList.length (parts.toList.map λp=>(p.1,(ρ p.2).cells.toList.length))&&fs.toList.all λf=>(c.P.info? f.type).isSome)=true)
  {K:Value→Prop} (h:K (.agg l.toArray)):PureOK c.P ρ o K:=
 ok_pure h λw=>by
  rw[QA] at hb
  obtain⟨hb1,hb2⟩:=hb
  unfold execOp
  rw[ho]
  refine val_run ?_
  unfold Instr.build
  rw[run_bind (zero_run hi hz w),run_bind (und_run hu w)]
  have hm:=mapMA_run (P:=c.P) (λf:Field=>do pure (f.offset,←sizeOf f.type)) (λf=>(f.offset,((c.P.info? f.type).map (·.size)).getD 0)) w fs (λf hf=>by
   have:=Q7.1 hb2 f (by simpa using hf)
   cases hi:c.P.info? f.type with
   |none=>rw[hi] at this;cases this
   |some i=>rw[run_bind (sizeOf_run hi w)];rfl)
  simp only[]
  rw[run_bind hm]
  have hfill:=fill_run (λj=>(fs.map λf=>(f.offset,((c.P.info? f.type).map (·.size)).getD 0))[j]?) (λj=>(fs[j]?).map (·.offset)) (λj=>by
   rw[Array.getElem?_map]
   cases fs[j]? <;>rfl) (parts.toList.map λp=>(p.1,ρ p.2)) z.cells l hf (λp hp off size hpl=>by
   obtain⟨q,hq,rfl⟩:=Qw.1 hp
   have:=Q7.1 hb1 (q.1,(ρ q.2).cells.toList.length) (Qw.2 ⟨q,hq,rfl⟩)
   dsimp only at this hpl⊢
   rw[Array.getElem?_map] at hpl
   cases hfq:fs[q.1]? with
   |none=>rw[hfq] at hpl;cases hpl
   |some f=>
    rw[hfq] at hpl
    rw[QN,hfq] at this
    cases hi:c.P.info? f.type with
    |none=>simp[hi] at this
    |some i=>
     simp[hi] at this hpl
     obtain⟨rfl,rfl⟩:=hpl
     exact this)
  have ep:(parts.map λ(i,x)=>(i,ρ x)).toList=parts.toList.map λp=>(p.1,ρ p.2):=by simp
  simp only[ep,hfill]
  rfl
theorem ok_buildSlice{t:TypeId}{len:Nat}{parts:Array (Nat×Operand)}{e:TypeId}{i:TypeInfo}{z:Value}{l:List Value}(ho:o.op=.buildSlice t len parts)(hu:c.P.underlying t=some (.slice e))(hi:c.P.info? e=some i)(hz:i.zero=some z)
  (hf:fillL (λj=>some (j*i.size)) (parts.toList.map λp=>(p.1,ρ p.2)) (List.replicate len z.cells.toList).flatten=some l)
  (hb:(decide (0<len*i.size)&&decide (len*i.size≤16777216)&&decide (z.cells.toList.length=i.size)&&parts.toList.all λp=>(ρ p.2).cells.toList.length==i.size&&decide (p.1<len))=true)
  (hF:Frm c.S c.H0 H) (h:vcNew c H (.cells l.toArray e) λb H'=>K (.slice (some ⟨b,0,none⟩) len len) H'):OpOK c ρ o H K:=
 ok_new (f:=λb=>.slice (some ⟨b,0,none⟩) len len) hF h λw _=>by
  simp only[QA,QD] at hb
  obtain⟨⟨⟨hb1,hb2⟩,hb3⟩,hb4⟩:=hb
  unfold execOp
  rw[ho]
  refine val_run ?_
  unfold Instr.buildSlice
  rw[run_bind (und_run hu w)]
  simp only[]
  rw[run_bind (sizeOf_run hi w)]
  rw[if_neg (by omega),if_neg (by omega)]
  have hzs:z.cells.size=i.size:=by simpa using hb3
  have hzero:((Array.range (len*i.size)).map (z.cells[·%z.cells.size]!)).toList=(List.replicate len z.cells.toList).flatten:=by
   rw[Array.toList_map,Array.toList_range,←hzs]
   have hpos:0<z.cells.size:=by
    rcases Nat.eq_zero_or_pos z.cells.size with h0|h0
    ·rw[←hzs,h0] at hb1;omega
    ·exact h0
   clear hf h hb1 hb2 hb4 ho
   induction len with
   |zero=>simp
   |succ n ih=>
    rw[Q6,List.range_add,Qy,ih,Jb]
    simp only[Yf,Ze,List.flatten_nil,QT,List.append_cancel_left_eq]
    apply Zp
    ·simp
    ·intro k h1 h2
     simp at h1 h2
     simp[Zc h2,h2,getElem!_pos]
  have hfill:=fill_run (λj=>some (j*i.size,i.size)) (λj=>some (j*i.size)) (λj=>rfl) (parts.toList.map λp=>(p.1,ρ p.2)) ((Array.range (len*i.size)).map (z.cells[·%z.cells.size]!)) l (by rw[hzero];exact hf) (λp hp off size hpl=>by
   obtain⟨q,hq,rfl⟩:=Qw.1 hp
   have:=Q7.1 hb4 q hq
   simp at this hpl⊢
   obtain⟨rfl,rfl⟩:=hpl
   refine⟨this.1,?_⟩
   rw[this.1]
   have h2:=QY i.size (show q.1+1≤len from this.2)
   rw[Q6] at h2
   omega)
  have ep:(parts.map λ(i,x)=>(i,ρ x)).toList=parts.toList.map λp=>(p.1,ρ p.2):=by simp
  rw[run_bind (zero_run hi hz w),run_bind (x:=z.cells) (w':=w) rfl]
  simp only[ep,hfill]
  exact run_bind (f:=λa=>pure (Value.slice (some a) len len)) (newRow_run e l.toArray w)
theorem ok_fieldAddr{s:TypeId}{x:Operand}{f b off:Nat}{fs:Array Field}{fl:Field}{i:TypeInfo}{n:Nat}(ho:o.op=.fieldAddr s x f)(hu:c.P.underlying s=some (.struct fs))(hx:ρ x=.pointer (some ⟨b,off,none⟩))
  (hfl:fs[f]? =some fl) (hi:c.P.info? fl.type=some i) (hn:i.size=n+1) {K:Value→Prop} (h:K (.pointer (some ⟨b,off+fl.offset,none⟩))):PureOK c.P ρ o K:=
 ok_pure h λw=>by
  unfold execOp
  rw[ho]
  refine val_run ?_
  unfold Instr.fieldAt
  rw[run_bind (und_run hu w)]
  simp only[hfl,hx]
  rw[run_bind (x:=(⟨b,off,none⟩:Addr)) (w':=w) rfl]
  have hp:(fieldPlace ⟨b,off,none⟩ fl).run c.P w=.ok ⟨b,off+fl.offset,none⟩ w:=by
   unfold fieldPlace
   rw[run_bind (sizeOf_run hi w),if_neg (by omega)]
   unfold Addr.add
   by_cases h0:fl.offset=0
   ·rw[h0];rfl
   ·rw[if_neg h0];rfl
  rw[run_bind hp]
  rfl
theorem ok_field{t:TypeId}{x:Operand}{f:Nat}{fs:Array Field}{fl:Field}{cs:Array Value}{v:Value}(ho:o.op=.field t x f)(hu:c.P.underlying t=some (.struct fs))(hx:ρ x=.agg cs)(hfl:fs[f]? =some fl)
  (hv:∀w,(part fl.type cs fl.offset).run c.P w=.ok v w) {K:Value→Prop} (h:K v):PureOK c.P ρ o K:=
 ok_pure h λw=>by
  unfold execOp
  rw[ho]
  refine val_run ?_
  unfold Instr.field
  rw[run_bind (und_run hu w)]
  simp only[hfl,hx]
  rw[run_bind (x:=cs) (w':=w) rfl]
  exact hv w
theorem part_scalar{P:Program}{t:TypeId}{cs:Array Value}{n:Nat}{v:Value}(hg:aggO P t=some false)(hc:cs.toList[n]? =some v)(w:World):(part t cs n).run P w=.ok v w:=by
 unfold part
 rw[run_bind (isAgg_run hg w),if_neg (by decide)]
 rw[QN] at hc
 rw[hc]
 rfl
theorem part_agg{P:Program}{t:TypeId}{cs:Array Value}{n:Nat}{i:TypeInfo}(hg:aggO P t=some true)(hi:P.info? t=some i)(w:World):(part t cs n).run P w=.ok (.agg ((cs.toList.drop n).take i.size).toArray) w:=by
 unfold part
 rw[run_bind (isAgg_run hg w),if_pos rfl,run_bind (sizeOf_run hi w)]
 show Result.ok _ w=_
 congr 2
 apply Zq
 rw[Array.toList_extract]
 simp
theorem mulS_eq(j s:Nat):mulS j s=j*s:=by
 unfold mulS
 split<;>simp
theorem ok_indexAddr{t:TypeId}{x ix:Operand}{b off len:Nat}{e:TypeId}{i:TypeInfo}{k:IntKind}{n:Int}{j:Nat}(ho:o.op=.indexAddr t x ix)
  (hu:(c.P.underlying t=some (.slice e)∧∃cap,ρ x=.slice (some ⟨b,off,none⟩) len cap)∨(c.P.underlying t=some (.array len e)∧ρ x=.pointer (some ⟨b,off,none⟩)))
  (hix:ρ ix=.int k n) (hi:c.P.info? e=some i) (hn:n=(j:Int)) (hj:j<len) {K:Value→Prop} (h:K (.pointer (some ⟨b,off+mulS j i.size,none⟩))):PureOK c.P ρ o K:=
 ok_pure h λw=>by
  rw[mulS_eq]
  subst hn
  unfold execOp
  rw[ho]
  refine val_run ?_
  unfold Instr.indexAt
  rw[hix,run_bind (x:=(k,(j:Int))) (w':=w) rfl]
  have hadd:(⟨b,off,none⟩:Addr).add ((j:Int).toNat*i.size)=⟨b,off+j*i.size,none⟩:=by
   rw[Qn]
   unfold Addr.add
   by_cases h0:j*i.size=0
   ·rw[h0];rfl
   ·rw[if_neg h0]
  rcases hu with ⟨hu,cap,hx⟩|⟨hu,hx⟩
  ·simp only[]
   rw[run_bind (und_run hu w)]
   simp only[hx]
   rw[run_bind (x:=((some ⟨b,off,none⟩:Option Addr),len,e)) (w':=w) rfl]
   simp only[]
   rw[run_bind (und_run hu w)]
   simp only[]
   rw[if_pos ⟨by omega,by omega⟩,run_bind (sizeOf_run hi w),hadd]
   rfl
  ·simp only[]
   rw[run_bind (und_run hu w)]
   simp only[hx]
   rw[run_bind (x:=(⟨b,off,none⟩:Addr)) (w':=w) rfl]
   rw[run_bind (x:=((some ⟨b,off,none⟩:Option Addr),len,e)) (w':=w) rfl]
   simp only[]
   rw[run_bind (und_run hu w)]
   simp only[]
   rw[if_pos ⟨by omega,by omega⟩,run_bind (sizeOf_run hi w),hadd]
   rfl
theorem ok_index{t:TypeId}{x ix:Operand}{s:ByteArray}{k:IntKind}{n:Int}{j:Nat}{u:UInt8}(ho:o.op=.index t x ix)(hu:c.P.underlying t=some .string)(hx:ρ x=.string s)(hix:ρ ix=.int k n)
  (hn:n=(j:Int)) (hj:s.data.toList[j]? =some u) {K:Value→Prop} (h:K (.int .u8 (u.toNat:Int))):PureOK c.P ρ o K:=
 ok_pure h λw=>by
  subst hn
  unfold execOp
  rw[ho]
  refine val_run ?_
  unfold Instr.index
  rw[hix,run_bind (x:=(k,(j:Int))) (w':=w) rfl]
  simp only[]
  rw[run_bind (und_run hu w)]
  simp only[hx]
  rw[if_pos (by omega),Qn]
  have:s[j]? =some u:=by
   rw[QN] at hj
   have hlt:=(Qa.1 hj).1
   have hv:=(Qa.1 hj).2
   rw[getElem?_pos s j (by exact hlt)]
   exact Qf some hv
  rw[this]
  rfl
theorem ok_pick{x a b:Operand}{q:Bool}(ho:o.op=.pick x a b)(hx:ρ x=.bool q){K:Value→Prop}(h:K (if q then ρ a else ρ b)):PureOK c.P ρ o K:=
 ok_pure h λw=>by
  unfold execOp
  rw[ho]
  simp only[hx]
  rw[run_bind (x:=q) (w':=w) rfl]
  rfl
theorem ok_extract{x:Operand}{i:Nat}{vs:Array Value}{v:Value}(ho:o.op=.extract x i)(hx:ρ x=.tuple vs)(hv:vs.toList[i]? =some v){K:Value→Prop}(h:K v):PureOK c.P ρ o K:=
 ok_pure h λw=>by
  unfold execOp
  rw[ho]
  refine val_run ?_
  rw[QN] at hv
  simp only[hx,Instr.extract,hv]
  rfl
theorem ok_iface{t:TypeId}{x:Operand}{d:TypeDesc}(ho:o.op=.makeInterface t x)(hu:c.P.underlying t=some d)(hd:∀ms,d≠.interface ms){K:Value→Prop}(h:K (.iface t (ρ x))):PureOK c.P ρ o K:=
 ok_pure h λw=>by
  unfold execOp
  rw[ho]
  refine val_run ?_
  unfold Instr.makeInterface
  rw[run_bind (und_run hu w)]
  cases d<;>first|rfl|exact absurd rfl (hd _)
theorem ok_makeFunc{fn:Fn}{a b:Array Operand}(ho:o.op=.makeFunc fn a b){K:Value→Prop}(h:K (.func fn (a.toList.map ρ).toArray (b.toList.map ρ).toArray)):PureOK c.P ρ o K:=
 ok_pure h λw=>by
  unfold execOp
  rw[ho]
  refine val_run ?_
  have e:∀x:Array Operand,x.map ρ=(x.toList.map ρ).toArray:=λx=>by apply Zq;simp
  rw[e a,e b]
  rfl
theorem ok_nil{x:Operand}(ho:o.op=.nilCheck x)(hx:(∃p,ρ x=.pointer (some p))∨∃f a b,ρ x=.func (.func f) a b){K:Value→Prop}(h:K (ρ x)):PureOK c.P ρ o K:=
 ok_pure h λw=>by
  unfold execOp
  rw[ho]
  rcases hx with ⟨p,hx⟩|⟨f,a,b,hx⟩<;>simp only[hx]<;>rfl
theorem ok_not{t:TypeId}{x:Operand}{q:Bool}(ho:o.op=.unOp .not t x)(hx:ρ x=.bool q){K:Value→Prop}(h:K (.bool (!q))):PureOK c.P ρ o K:=
 ok_pure h λw=>by
  unfold execOp
  rw[ho]
  refine val_run ?_
  simp only[hx,Op.unary]
  rfl
theorem bound_run{P:Program}(w:World){k:IntKind}{l y:Nat}(h:l≤y)(code:BoundsCode):(Instr.sliceBound (.int k (l:Int)) y code).run P w=.ok l w:=by
 unfold Instr.sliceBound
 rw[run_bind (x:=(k,(l:Int))) (w':=w) rfl]
 simp only[]
 rw[if_pos ⟨by omega,by omega⟩,Qn]
 rfl
theorem bounds_run{P:Program}(w:World){isS:Bool}{len cap l h:Nat}{lo hi:Option Value}(hlo:match lo with|none=>l=0|some v=>∃k,v=.int k (l:Int))(hhi:match hi with|none=>h=len|some v=>∃k,v=.int k (h:Int))
  (hlh:l≤h) (hhc:h≤cap):(Instr.sliceBounds isS len cap lo hi none).run P w=.ok (l,h,cap) w:=by
 unfold Instr.sliceBounds
 rw[run_bind (x:=cap) (w':=w) rfl]
 have h2:∀code,((match lo with|some v=>(do let l←Instr.sliceBound v h code;pure (l,h,cap))|none=>(do let l←pure 0;pure (l,h,cap)):Sem (Nat×Nat×Nat))).run P w=.ok (l,h,cap) w:=λcode=>by
  cases lo with
  |none=>dsimp only at hlo;subst hlo;rfl
  |some v=>
   obtain⟨k,rfl⟩:=hlo
   exact run_bind (f:=λl=>pure (l,h,cap)) (bound_run w hlh _)
 cases hi with
 |none=>
  dsimp only at hhi
  subst hhi
  simp only[]
  rw[run_bind (x:=h) (w':=w) rfl]
  exact h2 _
 |some v=>
  obtain⟨k,rfl⟩:=hhi
  simp only[]
  rw[run_bind (bound_run w hhc _)]
  exact h2 _
theorem ok_slice{t:TypeId}{x:Operand}{lo hi:Option Operand}(ho:o.op=.slice t x lo hi none){K:Value→Prop}{raw:Prop}(h:vcSlice c.P t (ρ x) (lo.map ρ) (hi.map ρ) K raw):PureOK c.P ρ o K∨raw:=by
 unfold vcSlice at h
 split at h
 ·rename_i hu hx
  obtain⟨l,hh,h1,h2,h3,h4,r,rfl,hk⟩:=h
  refine .inl (ok_pure hk λw=>?_)
  unfold execOp
  rw[ho]
  refine val_run ?_
  unfold Instr.sliceAt
  rw[run_bind (und_run hu w)]
  simp only[]
  unfold Instr.slice
  rw[run_bind (und_run hu w)]
  simp only[hx,Yg]
  rw[if_neg (by decide)]
  exact run_bind (f:=λp:Nat×Nat×Nat=>pure (Value.string (_:ByteArray))) (bounds_run w h1 h2 h3 h4)
 ·rename_i e b off len cap hu hx
  split at h
  ·rename_i i hi
   obtain⟨l,hh,h1,h2,h3,h4,n,d,m,rfl,rfl,hd,hk⟩:=h
   refine .inl (ok_pure hk λw=>?_)
   unfold execOp
   rw[ho]
   refine val_run ?_
   unfold Instr.sliceAt
   rw[run_bind (und_run hu w)]
   simp only[]
   unfold Instr.slice
   rw[run_bind (und_run hu w)]
   simp only[hx,Yg]
   rw[run_bind (bounds_run w h1 h2 h3 h4)]
   simp only[]
   rw[run_bind (sizeOf_run hi w)]
   have:(if cap=l then(some ⟨b,off,none⟩:Option Addr) else(some ⟨b,off,none⟩:Option Addr).map (·.add (l*i.size)))=some ⟨b,d,none⟩:=by
    by_cases e:cap=l
    ·subst e
     rw[if_pos rfl]
     simp at hd
     rw[hd]
    ·rw[if_neg e]
     have e2:(l==cap)=false:=by simp;exact λx=>e x.symm
     rw[e2,mulS_eq] at hd
     dsimp only at hd
     simp only[ZY]
     unfold Addr.add
     by_cases h0:l*i.size=0
     ·rw[if_pos h0,←hd,h0];rfl
     ·rw[if_neg h0,←hd]
   rw[this]
   rfl
  ·exact h.elim
 ·exact .inr h
theorem eqGuard_run{P:Program}{op:BinOp}{t:TypeId}{x y:Operand}{a b:Value}(h:∀cs ds,a=.agg cs→b=.agg ds→False)(h':a=.nilIface→b=.nilIface→False)(w:World):(eqGuard op t x y a b).run P w=.ok () w:=by
 unfold eqGuard
 split
 ·rw[if_neg (by decide)]
  split
  ·exact(h' rfl rfl).elim
  ·exact(h _ _ rfl rfl).elim
  ·rfl
 ·rw[if_neg (by decide)]
  split
  ·exact(h' rfl rfl).elim
  ·exact(h _ _ rfl rfl).elim
  ·rfl
 ·rw[if_pos (by decide)]
  rfl
theorem bytes_eq{a b:ByteArray}:(a.toList==b.toList)=decide (a=b):=by
 rw[Bool.eq_iff_iff]
 simp only[beq_iff_eq,QD]
 refine⟨λh=>?_,λh=>by rw[h]⟩
 rw[ByteArray.toList_eq,ByteArray.toList_eq] at h
 cases a;cases b
 congr
 exact Zq h
theorem ok_bin{t ty:TypeId}{op:BinOp}{x y:Operand}(ho:o.op=.binOp op t x y ty){K:Value→Prop}{raw:Prop}(h:vcBin c.P t op (ρ x) (ρ y) K raw):PureOK c.P ρ o K∨raw:=by
 have hv:∀v,(∀cs ds,ρ x=.agg cs→ρ y=.agg ds→False)→(ρ x=.nilIface→ρ y=.nilIface→False)→K v→(∀w,(binOp op t (ρ x) (ρ y)).run c.P w=.ok v w)→PureOK c.P ρ o K∨raw:=λv h1 h2 hk hr=>.inl (ok_pure hk λw=>by
  unfold execOp
  rw[ho]
  refine val_run ?_
  rw[run_bind (eqGuard_run h1 h2 w)]
  exact hr w)
 unfold vcBin at h
 split at h
 ·rename_i k a k' b hx hy
  have hn1:∀cs ds,ρ x=.agg cs→ρ y=.agg ds→False:=λcs ds e=>by rw[hx] at e;cases e
  have hn2:ρ x=.nilIface→ρ y=.nilIface→False:=λe=>by rw[hx] at e;cases e
  split at h
  case h_1=>obtain⟨rfl,r,rfl,hk⟩:=h;exact hv _ hn1 hn2 hk λw=>by simp[hx,hy,binOp,Op.intArith]
  case h_2=>obtain⟨rfl,r,rfl,hk⟩:=h;exact hv _ hn1 hn2 hk λw=>by simp[hx,hy,binOp,Op.intArith]
  case h_3=>obtain⟨rfl,r,rfl,hk⟩:=h;exact hv _ hn1 hn2 hk λw=>by simp[hx,hy,binOp,Op.intArith]
  case h_4=>obtain⟨rfl,hb,r,rfl,hk⟩:=h;exact hv _ hn1 hn2 hk λw=>by simp[hx,hy,binOp,Op.intDiv,hb]
  case h_5=>obtain⟨rfl,hb,r,rfl,hk⟩:=h;exact hv _ hn1 hn2 hk λw=>by simp[hx,hy,binOp,Op.intDiv,hb]
  case h_6=>
   obtain⟨rfl,h1,h2⟩:=h
   by_cases e:a=b
   ·exact hv _ hn1 hn2 (h1 e) λw=>by simp[hx,hy,binOp,Op.intCmp,e]
   ·exact hv _ hn1 hn2 (h2 e) λw=>by simp[hx,hy,binOp,Op.intCmp,e]
  case h_7=>
   obtain⟨rfl,h1,h2⟩:=h
   by_cases e:a=b
   ·exact hv _ hn1 hn2 (h2 e) λw=>by simp[hx,hy,binOp,Op.intCmp,e]
   ·exact hv _ hn1 hn2 (h1 e) λw=>by simp[hx,hy,binOp,Op.intCmp,e]
  case h_8=>
   obtain⟨rfl,h1,h2⟩:=h
   by_cases e:a<b
   ·exact hv _ hn1 hn2 (h1 e) λw=>by simp[hx,hy,binOp,Op.intCmp,e]
   ·exact hv _ hn1 hn2 (h2 e) λw=>by simp[hx,hy,binOp,Op.intCmp];omega
  case h_9=>
   obtain⟨rfl,h1,h2⟩:=h
   by_cases e:a≤b
   ·exact hv _ hn1 hn2 (h1 e) λw=>by simp[hx,hy,binOp,Op.intCmp,e]
   ·exact hv _ hn1 hn2 (h2 e) λw=>by simp[hx,hy,binOp,Op.intCmp];omega
  case h_10=>
   obtain⟨rfl,h1,h2⟩:=h
   by_cases e:b<a
   ·exact hv _ hn1 hn2 (h1 e) λw=>by simp[hx,hy,binOp,Op.intCmp,e]
   ·exact hv _ hn1 hn2 (h2 e) λw=>by simp[hx,hy,binOp,Op.intCmp];omega
  case h_11=>
   obtain⟨rfl,h1,h2⟩:=h
   by_cases e:b≤a
   ·exact hv _ hn1 hn2 (h1 e) λw=>by simp[hx,hy,binOp,Op.intCmp,e]
   ·exact hv _ hn1 hn2 (h2 e) λw=>by simp[hx,hy,binOp,Op.intCmp];omega
  case h_12=>obtain⟨hb,r,rfl,hk⟩:=h;exact hv _ hn1 hn2 hk λw=>by simp[hx,hy,binOp,Op.shift,Int.not_lt.mpr hb]
  case h_13=>obtain⟨hb,r,rfl,hk⟩:=h;exact hv _ hn1 hn2 hk λw=>by simp[hx,hy,binOp,Op.shift,Int.not_lt.mpr hb]
  case h_14=>obtain⟨rfl,r,rfl,hk⟩:=h;exact hv _ hn1 hn2 hk λw=>by simp[hx,hy,binOp,Op.intBits]
  case h_15=>obtain⟨rfl,r,rfl,hk⟩:=h;exact hv _ hn1 hn2 hk λw=>by simp[hx,hy,binOp,Op.intBits]
  case h_16=>exact .inr h
 ·rename_i a b hx hy
  have hn1:∀cs ds,ρ x=.agg cs→ρ y=.agg ds→False:=λcs ds e=>by rw[hx] at e;cases e
  have hn2:ρ x=.nilIface→ρ y=.nilIface→False:=λe=>by rw[hx] at e;cases e
  split at h
  case h_1=>
   obtain⟨hs,r,rfl,hk⟩:=h
   exact hv _ hn1 hn2 hk λw=>by
    have hm:IntKind.i64.max=9223372036854775807:=rfl
    simp only[hx,hy,binOp,Op.stringOp]
    rw[if_neg (by rw[hm];omega)]
    rfl
  case h_2=>
   obtain⟨h1,h2⟩:=h
   by_cases e:a=b
   ·exact hv _ hn1 hn2 (h1 e) λw=>by simp[hx,hy,binOp,Op.stringOp,e]
   ·exact hv _ hn1 hn2 (h2 e) λw=>by simp only[hx,hy,binOp,Op.stringOp,bytes_eq,e];simp
  case h_3=>
   obtain⟨h1,h2⟩:=h
   by_cases e:a=b
   ·exact hv _ hn1 hn2 (h2 e) λw=>by simp[hx,hy,binOp,Op.stringOp,e]
   ·exact hv _ hn1 hn2 (h1 e) λw=>by simp only[hx,hy,binOp,Op.stringOp,bytes_eq,e];simp
  case h_4=>
   obtain⟨h1,h2⟩:=h
   cases e:Op.bytesLess a.toList b.toList with
   |true=>exact hv _ hn1 hn2 (h2 e) λw=>by simp[hx,hy,binOp,Op.stringOp,e]
   |false=>exact hv _ hn1 hn2 (h1 e) λw=>by simp[hx,hy,binOp,Op.stringOp,e]
  case h_5=>exact .inr h
 ·rename_i p hx hy
  have hn1:∀cs ds,ρ x=.agg cs→ρ y=.agg ds→False:=λcs ds e=>by rw[hx] at e;cases e
  have hn2:ρ x=.nilIface→ρ y=.nilIface→False:=λe=>by rw[hx] at e;cases e
  have hp:isPtr c.P t=true→∀w,(Op.equal t (ρ x) (ρ y)).run c.P w=.ok false w:=λhp w=>by
   unfold isPtr at hp
   cases hu:c.P.underlying t with
   |none=>rw[hu] at hp;cases hp
   |some d=>
    rw[hu] at hp
    cases d<;>simp at hp
    unfold Op.equal
    rw[show Op.maxDepth=9999+1 from rfl,Op.equalIn,run_bind (und_run hu w)]
    simp only[hx,hy]
    rfl
  split at h
  case h_1 hp1=>exact hv _ hn1 hn2 h λw=>by simp only[hx,hy,binOp] at hp⊢;rw[run_bind (hp hp1 w)];rfl
  case h_2 hp1=>exact hv _ hn1 hn2 h λw=>by simp only[hx,hy,binOp] at hp⊢;rw[run_bind (hp hp1 w)];rfl
  case h_3=>exact .inr h
 ·rename_i hx hy
  have hn1:∀cs ds,ρ x=.agg cs→ρ y=.agg ds→False:=λcs ds e=>by rw[hx] at e;cases e
  have hn2:ρ x=.nilIface→ρ y=.nilIface→False:=λe=>by rw[hx] at e;cases e
  have hp:isPtr c.P t=true→∀w,(Op.equal t (ρ x) (ρ y)).run c.P w=.ok true w:=λhp w=>by
   unfold isPtr at hp
   cases hu:c.P.underlying t with
   |none=>rw[hu] at hp;cases hp
   |some d=>
    rw[hu] at hp
    cases d<;>simp at hp
    unfold Op.equal
    rw[show Op.maxDepth=9999+1 from rfl,Op.equalIn,run_bind (und_run hu w)]
    simp only[hx,hy]
    rfl
  split at h
  case h_1 hp1=>exact hv _ hn1 hn2 h λw=>by simp only[hx,hy,binOp] at hp⊢;rw[run_bind (hp hp1 w)];rfl
  case h_2 hp1=>exact hv _ hn1 hn2 h λw=>by simp only[hx,hy,binOp] at hp⊢;rw[run_bind (hp hp1 w)];rfl
  case h_3=>exact .inr h
 ·exact .inr h
theorem ok_conv{s d:TypeId}{x:Operand}(ho:o.op=.convert s d x){K:Value→Prop}{raw:Prop}(h:vcConv c.P s d (ρ x) K raw):PureOK c.P ρ o K∨raw:=by
 unfold vcConv at h
 split at h
 ·rename_i hs hd hx
  obtain⟨r,rfl,hk⟩:=h
  refine .inl (ok_pure hk λw=>?_)
  unfold execOp
  rw[ho]
  refine val_run ?_
  unfold convert
  rw[run_bind (und_run hs w),run_bind (und_run hd w)]
  simp only[hx]
  rfl
 ·rename_i hs hd hx
  refine .inl (ok_pure h λw=>?_)
  unfold execOp
  rw[ho]
  refine val_run ?_
  unfold convert
  rw[run_bind (und_run hs w),run_bind (und_run hd w)]
  simp only[hx]
  rfl
 ·exact .inr h
theorem callB_fn{P:Program}{f:FuncId}(h:callB P f=true):∃fn,P.funcs[f]? =some fn∧(fn.name== "runtime.NumGoroutine")=false∧fn.body.isNone=false:=by
 unfold callB at h
 cases hf:P.funcs[f]? with
 |none=>rw[hf] at h;cases h
 |some fn=>
  rw[hf] at h
  simp only[QA,ZP] at h
  exact⟨fn,rfl,h.1,by cases hb:fn.body<;>simp[hb] at h⊢⟩
theorem ok_call{cl:Call}{f:Operand}{g:FuncId}{a b:Array Value}(ho:o.op=.call cl)(hc:cl.callee=.value f)(hf:ρ f=.func (.func g) a b)(h:CallVC c g (a.toList++(cl.args.toList.map ρ)++b.toList).toArray H K):OpOK c ρ o H K:=λw hw=>by
 have e:a++cl.args.map ρ++b=(a.toList++(cl.args.toList.map ρ)++b.toList).toArray:=by apply Zq;simp
 have hx:(execOp ρ o).run c.P w=(callFunc g (a.toList++(cl.args.toList.map ρ)++b.toList).toArray).run c.P w:=by
  unfold execOp
  rw[ho]
  simp only[]
  unfold resolve
  simp only[hc,hf]
  rw[run_bind (x:=({target:=.fn (.func g) b,args:=a++cl.args.map ρ}:Deferred)) (w':=w) rfl]
  simp only[invoke]
  rw[e]
 rcases h.out with h|⟨h,hF⟩
 ·refine .inr ⟨g,_,?_,h⟩
  obtain⟨T,R,hs,_⟩:=h
  obtain⟨fn,h1,h2,h3⟩:=callB_fn hs.good
  rw[hx]
  unfold callFunc
  rw[run_bind (x:=c.P) (w':=w) rfl]
  simp only[h1]
  rw[if_neg (by rw[h2];decide),if_neg (by rw[h3];decide)]
  rfl
 ·obtain⟨v,hr,hk⟩:=h w hw
  exact .inl ⟨v,w,.inl (hx.trans hr),Amb.refl w,by rw[hw];exact hF,by rw[hw];exact hk⟩
theorem builtin_run{cl:Call}{bi:Builtin}(ho:o.op=.call cl)(hc:cl.callee=.builtin bi)(w:World){r:Result Next}(h:∀cs,(builtin bi cl.argTypes o.type cs (cl.args.toList.map ρ).toArray).run c.P w=r):(execOp ρ o).run c.P w=r:=by
 unfold execOp
 rw[ho]
 simp only[]
 unfold resolve
 simp only[hc]
 have e:cl.args.map ρ=(cl.args.toList.map ρ).toArray:=by apply Zq;simp
 rw[e]
 exact h _
theorem ok_lenS{cl:Call}{t:TypeId}{ts:List TypeId}{s:ByteArray}{r:List Value}(ho:o.op=.call cl)(hc:cl.callee=.builtin .len)(ha:cl.args.toList.map ρ=.string s::r)(ht:cl.argTypes.toList=t::ts)(hu:c.P.underlying t=some .string){K:Value→Prop}(h:K (.int .i64 (s.size:Int))):PureOK c.P ρ o K:=
 ok_pure h λw=>builtin_run ho hc w λcs=>by
  simp only[builtin]
  refine val_run ?_
  unfold Builtin.len_
  have e1:cl.argTypes[0]? =some t:=by rw[←QN,ht];rfl
  rw[ha]
  simp only[e1,Qq,ZJ]
  rw[run_bind (und_run hu w)]
  rfl
theorem ok_lenL{cl:Call}{t e:TypeId}{ts:List TypeId}{ad:Option Addr}{n cap:Nat}{r:List Value}(ho:o.op=.call cl)(hc:cl.callee=.builtin .len)(ha:cl.args.toList.map ρ=.slice ad n cap::r)(ht:cl.argTypes.toList=t::ts)(hu:c.P.underlying t=some (.slice e)){K:Value→Prop}(h:K (.int .i64 (n:Int))):PureOK c.P ρ o K:=
 ok_pure h λw=>builtin_run ho hc w λcs=>by
  simp only[builtin]
  refine val_run ?_
  unfold Builtin.len_
  have e1:cl.argTypes[0]? =some t:=by rw[←QN,ht];rfl
  rw[ha]
  simp only[e1,Qq,ZJ]
  rw[run_bind (und_run hu w)]
  rfl
theorem ok_max{cl:Call}{k k':IntKind}{a b:Int}(ho:o.op=.call cl)(hc:cl.callee=.builtin .max)(ha:cl.args.toList.map ρ=[.int k a,.int k' b]){K:Value→Prop}(h:(a≤b→K (.int k b))∧(b≤a→K (.int k a))∧k=k'):PureOK c.P ρ o K:=by
 have hr:∀w,(execOp ρ o).run c.P w=.ok (.value (.int k (if b>a then b else a))) w:=λw=>builtin_run ho hc w λcs=>by
  simp only[builtin]
  refine val_run ?_
  rw[ha]
  rfl
 by_cases e:a<b
 ·exact ok_pure (h.1 (by omega)) λw=>by rw[hr,if_pos e]
 ·exact ok_pure (h.2.1 (by omega)) λw=>by rw[hr,if_neg e]
theorem ok_max3{cl:Call}{k k' k'':IntKind}{a b d:Int}(ho:o.op=.call cl)(hc:cl.callee=.builtin .max)(ha:cl.args.toList.map ρ=[.int k a,.int k' b,.int k'' d]){K:Value→Prop}(h:(k=k'∧k=k'')∧∃r,(a≤r∧b≤r∧d≤r∧(r=a∨r=b∨r=d))∧K (.int k r)):PureOK c.P ρ o K:=by
 obtain⟨⟨rfl,rfl⟩,r,⟨h1,h2,h3,h4⟩,hk⟩:=h
 have hr:∀w,(execOp ρ o).run c.P w=.ok (.value (.int k (if d>(if b>a then b else a) then d else(if b>a then b else a)))) w:=λw=>builtin_run ho hc w λcs=>by
  simp only[builtin]
  refine val_run ?_
  rw[ha]
  rfl
 refine ok_pure hk λw=>?_
 rw[hr]
 congr 3
 split<;>split at*<;>omega
theorem ok_min{cl:Call}{k k':IntKind}{a b:Int}(ho:o.op=.call cl)(hc:cl.callee=.builtin .min)(ha:cl.args.toList.map ρ=[.int k a,.int k' b]){K:Value→Prop}(h:(a≤b→K (.int k a))∧(b≤a→K (.int k b))∧k=k'):PureOK c.P ρ o K:=by
 have hr:∀w,(execOp ρ o).run c.P w=.ok (.value (.int k (if b<a then b else a))) w:=λw=>builtin_run ho hc w λcs=>by
  simp only[builtin]
  refine val_run ?_
  rw[ha]
  rfl
 by_cases e:b<a
 ·exact ok_pure (h.2.1 (by omega)) λw=>by rw[hr,if_pos e]
 ·exact ok_pure (h.1 (by omega)) λw=>by rw[hr,if_neg e]
theorem vcP_ok{K:Value→Prop}{raw:Prop}(h:vcP c.P ρ o K raw):PureOK c.P ρ o K∨raw:=by
 unfold vcP at h
 split at h
 case h_1 x ho=>exact .inl (ok_pure h λw=>by unfold execOp;rw[ho];rfl)
 case h_2 x ho=>exact .inl (ok_pure h λw=>by unfold execOp;rw[ho];rfl)
 case h_3 x a b ho=>
  split at h
  ·rename_i hx;exact .inl (ok_pick ho hx (by simpa using h))
  ·rename_i hx;exact .inl (ok_pick ho hx (by simpa using h))
  ·exact h.elim
 case h_4 x ho=>
  split at h
  ·rename_i p hx;exact .inl (ok_nil ho (.inl ⟨p,hx⟩) (by rw[hx];exact h))
  ·rename_i f a b hx;exact .inl (ok_nil ho (.inr ⟨f,a,b,hx⟩) (by rw[hx];exact h))
  ·exact .inr h
 case h_5 s x f ho=>
  split at h
  ·split at h
   ·split at h
    ·split at h
     ·exact h.elim
     ·exact .inl (ok_fieldAddr ho ‹_› ‹_› ‹_› ‹_› ‹_› h)
    ·exact h.elim
   ·exact h.elim
  ·exact h.elim
 case h_6 t parts ho=>
  split at h
  ·split at h
   ·split at h
    ·exact .inl (ok_build ho ‹_› ‹_› ‹_› ‹_› h.1 h.2)
    ·exact h.elim
   ·exact h.elim
  ·exact .inr h
 case h_7 ho=>exact ok_bin ho h
 case h_8 ho=>
  split at h
  ·exact .inl (ok_not ho ‹_› h)
  ·exact .inr h
 case h_9 ho=>exact ok_conv ho h
 case h_10 ho=>
  split at h
  ·exact h.elim
  ·rename_i d hd hu;exact .inl (ok_iface ho hu (λms e=>hd ms e) h)
  ·exact h.elim
 case h_11 ho=>exact .inl (ok_makeFunc ho h)
 case h_12 ho=>exact ok_slice ho h
 case h_13 ho=>
  split at h
  ·split at h
   ·split at h
    ·split at h
     ·exact .inl (ok_field ho ‹_› ‹_› ‹_› (part_scalar ‹_› ‹_›) h)
     ·exact h.elim
    ·split at h
     ·exact .inl (ok_field ho ‹_› ‹_› ‹_› (part_agg ‹_› ‹_›) h)
     ·exact h.elim
    ·exact h.elim
   ·exact h.elim
  ·exact h.elim
 case h_14 ho=>
  split at h
  ·split at h
   ·obtain⟨j,hn,hj,hk⟩:=h
    rename_i hu hx hix _ _ hi
    exact .inl (ok_indexAddr ho (.inl ⟨hu,_,hx⟩) hix hi hn hj hk)
   ·exact h.elim
  ·split at h
   ·obtain⟨j,hn,hj,hk⟩:=h
    rename_i hu hx hix _ _ hi
    exact .inl (ok_indexAddr ho (.inr ⟨hu,hx⟩) hix hi hn hj hk)
   ·exact h.elim
  ·exact h.elim
 case h_15 ho=>
  split at h
  ·obtain⟨j,u,hn,hj,hk⟩:=h
   exact .inl (ok_index ho ‹_› ‹_› ‹_› hn hj hk)
  ·exact .inr h
 case h_16 ho=>
  split at h
  ·split at h
   ·exact .inl (ok_extract ho ‹_› ‹_› h)
   ·exact h.elim
  ·exact h.elim
 case h_17 cl ho=>
  split at h
  ·split at h
   ·split at h
    ·exact .inl (ok_lenS ho ‹_› ‹_› ‹_› ‹_› h)
    ·exact h.elim
   ·split at h
    ·exact .inl (ok_lenL ho ‹_› ‹_› ‹_› ‹_› h)
    ·exact h.elim
   ·exact .inr h
  ·split at h
   ·exact .inl (ok_max ho ‹_› ‹_› h)
   ·exact .inl (ok_max3 ho ‹_› ‹_› h)
   ·exact .inr h
  ·split at h
   ·exact .inl (ok_min ho ‹_› ‹_› h)
   ·exact .inr h
  ·exact .inr h
 case h_18=>exact .inr h
theorem vcP_op(hF:Frm c.S c.H0 H)(h:vcP c.P ρ o (λv=>K v H) (RawVC c ρ o H K)):OpOK c ρ o H K:=
 (vcP_ok h).elim (λh=>h.op hF) ok_raw
theorem zeros_eq{z:Array Value}{s:Nat}(hz:z.size=s)(hs:0<s)(m:Nat):((Array.range (m*s)).map (z[·%z.size]!)).toList=zerosL m z.toList:=by
 unfold zerosL
 rw[Array.toList_map,Array.toList_range,←hz]
 subst hz
 induction m with
 |zero=>simp
 |succ n ih=>
  rw[Q6,List.range_add,Qy,ih,Jb]
  simp only[Yf,Ze,List.flatten_nil,QT,List.append_cancel_left_eq]
  apply Zp
  ·simp
  ·intro k h1 h2
   simp at h1 h2
   simp[Zc h2,h2,getElem!_pos]
theorem ok_make{t:TypeId}{l cp:Operand}(ho:o.op=.makeSlice t l cp)(hF:Frm c.S c.H0 H)(h:vcMake c H t (ρ l) (ρ cp) K):OpOK c ρ o H K:=by
 unfold vcMake at h
 split at h
 ·rename_i e k a k' b hu hl hc
  split at h
  ·rename_i i hi
   split at h
   ·rename_i z hz
    obtain⟨n,m,rfl,rfl,hnm,hm,hby,hb,hk⟩:=h
    simp only[QA,QD] at hb
    obtain⟨hzs,hpos⟩:=hb
    have hzs':z.cells.size=i.size:=by simpa using hzs
    refine ok_new (f:=λb=>.slice (some ⟨b,0,none⟩) n m) hF hk λw _=>?_
    unfold execOp
    rw[ho]
    refine val_run ?_
    unfold Instr.makeSlice
    rw[run_bind (und_run hu w)]
    simp only[hl,hc]
    have w1:IntKind.i64.wrap (n:Int)=(n:Int):=by rw[IntKind.wrap_i64];omega
    have w2:IntKind.i64.wrap (m:Int)=(m:Int):=by rw[IntKind.wrap_i64];omega
    have hty:(typeInfo e).run c.P w=.ok i w:=by simp[typeInfo,program,bind,Sem.bind,Sem.run,hi,pure]
    rw[run_bind (x:=(n:Int)) (w':=w) rfl,run_bind (x:=(m:Int)) (w':=w) rfl,run_bind hty,w1,w2]
    have hby':¬(2^48:Int)<(i.bytes:Int)*(m:Int):=by
     have:(i.bytes:Int)*(m:Int)=((i.bytes*m:Nat):Int):=by simp
     rw[this]
     omega
    rw[if_neg (by simp;omega)]
    have hroom:(askRoom (((m:Int)).toNat*i.bytes)).run c.P w=.ok () w:=by
     unfold askRoom roomBytes
     rw[if_neg (by rw[Qn,Ym];omega)]
     rfl
    rw[run_bind hroom,run_bind (sizeOf_run hi w)]
    by_cases h0:((m:Int)).toNat*i.size=0
    ·rw[if_pos h0,run_bind (x:=(#[]:Array Value)) (w':=w) rfl,h0]
     have:m=0:=by
      rw[Qn] at h0
      rcases Nat.mul_eq_zero.1 h0 with h|h
      ·exact h
      ·omega
     subst this
     have he:(Array.range 0).map (λx=>(#[]:Array Value)[x%(#[]:Array Value).size]!)=(zerosL 0 z.cells.toList).toArray:=by simp[zerosL]
     rw[he,run_bind (newRow_run e _ w)]
     rfl
    ·rw[if_neg h0,run_bind (zero_run hi hz w),run_bind (x:=z.cells) (w':=w) rfl]
     have he:(Array.range (((m:Int)).toNat*i.size)).map (λx=>z.cells[x%z.cells.size]!)=(zerosL m z.cells.toList).toArray:=by
      apply Zq
      rw[Qn,zeros_eq hzs' hpos m]
     rw[he,run_bind (newRow_run e _ w)]
     rfl
   ·exact h.elim
  ·exact h.elim
 ·exact h.elim
theorem freeze_push(w:World)(cs:Array Value)(e:TypeId)(n:Nat):({w with heap:=w.heap.push (.cells cs e (0,0))}:World).freeze ⟨w.heap.size,n,none⟩ 1={w with heap:=w.heap.push (.cells cs e (n,n+1))}:=by
 unfold World.freeze
 rw[if_neg (by decide)]
 congr 1
 dsimp only
 apply Array.ext
 ·simp
 ·intro k h1 h2
  rw[Array.getElem_modify]
  by_cases e:w.heap.size=k
  ·subst e
   simp
  ·rw[if_neg e]
   simp at h1
   rw[Array.getElem_push_lt (by omega),Array.getElem_push_lt (by omega)]
theorem bytes_run{P:Program}(w:World)(f:Value→ByteArray→Sem (ForInStep ByteArray))(hf:∀x r,f (byteV x) r=pure (ForInStep.yield (r.push x))):∀(bs:List UInt8) (acc:ByteArray),(forIn (bs.map byteV) acc f).run P w=.ok (acc++⟨bs.toArray⟩) w
 |[],acc=>by
  show Result.ok acc w=_
  congr 1
  apply ByteArray.ext
  simp
 |x::r,acc=>by
  rw[QX,List.forIn_cons,hf,run_bind (x:=ForInStep.yield (acc.push x)) (w':=w) rfl]
  simp only[]
  rw[bytes_run w f hf r]
  congr 1
  apply ByteArray.ext
  simp
theorem choose_cap(P:Program)(w:World)(n:Nat)(e:TypeId):∃(cap:Nat) (w1:World),(choose (.appendCap n 0 e)).run P w=.ok cap w1∧n≤cap∧w1={w with drawn:=w.drawn+1}:=
 ⟨(Question.appendCap n 0 e).cut (w.tape w.drawn (.appendCap n 0 e)),{w with drawn:=w.drawn+1},by simp[choose,Sem.run,Question.forced],by simp[Question.cut],rfl⟩
theorem ok_convM{s d:TypeId}{x:Operand}(ho:o.op=.convert s d x)(hF:Frm c.S c.H0 H)(h:vcConvM c H s d (ρ x) K (vcP c.P ρ o (λv=>K v H) (RawVC c ρ o H K))):OpOK c ρ o H K:=by
 unfold vcConvM at h
 split at h
 ·rename_i e str hs hd hx
  split at h
  ·rename_i he
   intro w hw
   obtain⟨cap,w1,hch,hcap,hw1⟩:=choose_cap c.P w str.size e
   have hh:w1.heap=H:=by rw[hw1];exact hw
   have hfr:Fresh H (w1.heap.push (.cells (bytesC str cap).toArray e (cap,cap+1))) w1.heap.size (.cells (bytesC str cap).toArray e (cap,cap+1)):=⟨by rw[hh],by rw[hh]⟩
   have hF':Frm c.S c.H0 (w1.heap.push (.cells (bytesC str cap).toArray e (cap,cap+1))):=hF.trans (hfr.frm _)
   refine .inl ⟨_,{w1 with heap:=w1.heap.push (.cells (bytesC str cap).toArray e (cap,cap+1))},.inl ?_,?_,hF',h cap hcap _ _ hfr hF'⟩
   ·unfold execOp
    rw[ho]
    refine val_run ?_
    unfold convert
    rw[run_bind (und_run hs w),run_bind (und_run hd w)]
    simp only[hx]
    rw[run_bind (und_run he w)]
    simp only[]
    unfold Conv.stringToBytes
    rw[run_bind hch]
    simp only[]
    have hce:(str.data.map (λb=>Value.int .u8 (b.toNat:Int))++Array.replicate (cap-str.size) (.int .u8 0))=(bytesC str cap).toArray:=by
     apply Zq
     simp[bytesC,byteV]
    rw[hce,run_bind (newRow_run e _ w1)]
    have hsz:((bytesC str cap).toArray).size=cap:=by
     simp[bytesC]
     omega
    have hmk:(markStringish ⟨w1.heap.size,0,none⟩).run c.P {w1 with heap:=w1.heap.push (.cells (bytesC str cap).toArray e)}=.ok () {w1 with heap:=w1.heap.push (.cells (bytesC str cap).toArray e (cap,cap+1))}:=by
     unfold markStringish
     have hsh:(shape w1.heap.size).run c.P {w1 with heap:=w1.heap.push (.cells (bytesC str cap).toArray e)}=.ok (some (e,cap)) {w1 with heap:=w1.heap.push (.cells (bytesC str cap).toArray e)}:=by
      simp only[shape,Sem.run,World.shape?]
      rw[Array.getElem?_push_size]
      simp only[hsz]
     rw[run_bind hsh]
     simp only[freeze,Sem.run]
     rw[freeze_push]
    rw[run_bind hmk]
    rfl
   ·rw[hw1];exact⟨rfl,rfl,rfl⟩
  ·exact h.elim
 ·rename_i e b off len cap hs hd hx
  split at h
  ·rename_i he
   obtain⟨bs,rfl,hc,hk⟩:=h
   refine ok_val hF hk λw hw=>?_
   unfold execOp
   rw[ho]
   refine val_run ?_
   unfold convert
   rw[run_bind (und_run hs w),run_bind (und_run hd w)]
   simp only[hx]
   rw[run_bind (und_run he w)]
   simp only[]
   unfold Conv.bytesToString
   simp only[]
   have hl:=loadCells_run (P:=c.P) w b off (bs.map byteV) 0 #[] (by rw[hw];exact hc)
   rw[Qv] at hl
   unfold loadCells
   rw[run_bind hl]
   simp only[Array.empty_append,List.forIn_toArray]
   rw[run_bind (bytes_run w _ (λx r=>by simp[byteV]) bs ByteArray.empty)]
   show Result.ok _ w=_
   congr 2
  ·exact h.elim
 ·rename_i hs hd hx
  split at h
  ·rename_i he
   refine ok_val hF h λw hw=>?_
   unfold execOp
   rw[ho]
   refine val_run ?_
   unfold convert
   rw[run_bind (und_run hs w),run_bind (und_run hd w)]
   simp only[hx]
   rw[run_bind (und_run he w)]
   rfl
  ·exact h.elim
 ·exact vcP_op hF h
theorem elemI_some{P:Program}{t e:TypeId}{i:TypeInfo}{z:Value}(h:elemI P t=some (e,i,z)):P.underlying t=some (.slice e)∧P.info? e=some i∧i.zero=some z:=by
 unfold elemI at h
 split at h
 ·split at h
  ·split at h
   ·simp only[Option.some.injEq,Prod.mk.injEq] at h
    obtain⟨rfl,rfl,rfl⟩:=h
    exact⟨‹_›,‹_›,‹_›⟩
   ·cases h
  ·cases h
 ·cases h
theorem append_blk{P:Program}{w w':World}{base t ty e n m c:Nat}{i:TypeInfo}{z:Value}(ht:P.underlying t=some (.slice e))(hi:P.info? e=some i)(hz:i.zero=some z)(hzs:z.cells.size=i.size)(hsz:0<i.size)
  {v v':Value} {xs:List Value} (hown:w.ownsRow base e i.size v n xs) {a:Addr} {news:List Value} (hl:news.length=m*i.size) (hnews:∀j u,news[j]? =some u→w.cell? (a.add j)=some u) (h1:∀u∈news,u.oneCell'=true)
  (h63:n+m≤maxLen) (hbytes:(n+m)*i.bytes≤140737488355328) (hr:(Builtin.append_ #[t,t] ty #[v,.slice (some a) m c]).run P w=.ok v' w'):∀k,v'.ownBlock=some k→v.ownBlock=some k∨w.heap.size≤k:=by
 intro k hk
 rcases hown.2 with ⟨rfl,rfl⟩|⟨g,cap,cur,rfl,hbg,hg,hnc,hcm,hcs,htake⟩
 ·obtain⟨v2,w2,hr2,ho2,_⟩:=run_append_own (P:=P) (w:=w) w.heap.size t ty e i z i.size i.bytes ht hi hz rfl rfl hzs hsz (.slice none 0 0) 0 [] (World.ownsRow_nil _ _ _ _) a m c news hl hnews h1 h63 hbytes (Qd _)
  rw[hr] at hr2
  cases hr2
  exact .inr (ho2.lt k hk).1
 ·by_cases hroom:n+m≤cap
  ·obtain⟨w2,hr2,_⟩:=run_append_fits (P:=P) (w:=w) base t ty e i i.size ht hi rfl g n cap xs hown a m c news hl hnews h1 hroom
   rw[hr] at hr2
   cases hr2
   exact .inl hk
  ·have holds:∀j u,xs[j]? =some u→w.cell? ((⟨g,0,none⟩:Addr).add j)=some u:=hown.cells (g:=g) rfl
   have hr2:=run_append_grow (P:=P) w t ty e i z ht hi hz ⟨g,0,none⟩ n cap xs hown.1 holds a m c news hl hnews (by omega) (by simp only[maxLen] at h63;omega) (growslice_fits (by omega) hbytes)
   rw[hr] at hr2
   cases hr2
   simp[Value.ownBlock] at hk
   exact .inr (by omega)
theorem ok_append{cl:Call}{t:TypeId}{v x:Value}(ho:o.op=.call cl)(hc:cl.callee=.builtin .append)(ha:cl.args.toList.map ρ=[v,x])(ht:cl.argTypes.toList=[t,t])(hF:Frm c.S c.H0 H)(h:AppendVC c H t v x K):OpOK c ρ o H K:=by
 have hat:cl.argTypes=#[t,t]:=by apply Zq;rw[ht]
 rcases h.out with ⟨e,i,z,he,h⟩|h
 rotate_left
 ·intro w hw
  obtain⟨v',w',hr,h1,h2,h3⟩:=h o.type w hw
  refine .inl ⟨v',w',.inl (builtin_run ho hc w λcs=>?_),h1,h2,h3⟩
  simp only[builtin]
  refine val_run ?_
  rw[hat,ha]
  exact hr
 obtain⟨hu,hi,hz⟩:=elemI_some he
 rcases h with ⟨b,off,m,cp,base,n,xs,ys,rfl,hown,hcell,hlen,hone,h1,h2,hbase,hS,hb,hk⟩|⟨rfl,ad,n,cap,rfl,hnc,hk⟩
 ·simp only[QA,QD] at hb
  intro w hw
  have hnews:∀j u,ys[j]? =some u→w.cell? ((⟨b,off,none⟩:Addr).add j)=some u:=by
   have:∀(ys:List Value) (off:Nat),CellsAt w.heap b off ys→∀j u,ys[j]? =some u→w.cell? ⟨b,off+j,none⟩=some u:=by
    intro ys
    induction ys with
    |nil=>intro off _ j u hj;simp at hj
    |cons y ys ih=>
     intro off hcs j u hj
     cases j with
     |zero=>simp at hj;subst hj;exact hcs.1
     |succ j=>
      have:=ih (off+1) hcs.2 j u (by simpa using hj)
      rw[show off+(j+1)=off+1+j by omega]
      exact this
   intro j u hj
   have:=this ys off (by rw[hw];exact hcell) j u hj
   unfold Addr.add
   by_cases h0:j=0
   ·rw[if_pos h0];subst h0;exact this
   ·rw[if_neg h0];exact this
  have hmax:n+m≤maxLen:=by unfold maxLen;omega
  obtain⟨v',w',hr,hown',hgr,_⟩:=run_append_own (P:=c.P) (w:=w) base t o.type e i z i.size i.bytes hu hi hz rfl rfl (by simpa using hb.1) hb.2 v n xs (by
   have:w.ownsRow base e i.size v n xs↔Own H base e i.size v n xs:=by rw[←hw];exact Iff.rfl
   exact this.2 hown) ⟨b,off,none⟩ m cp ys hlen hnews (λu hu=>by
   have:=hone u hu
   cases u<;>simp_all[oneCell,Value.oneCell']) hmax h2 (by rw[hw];exact hbase)
  have hfr:Frm (λk=>v.ownBlock=some k) H w'.heap:=⟨by rw[←hw];exact hgr.size,λk hk hn=>by rw[hgr.block k (by rw[hw];exact hk) (λe=>hn e.symm),hw]⟩
  have hF':=Frm.then hF hfr hS
  have hblk:=append_blk (P:=c.P) (w:=w) (base:=base) hu hi hz (by simpa using hb.1) hb.2 (v:=v) (n:=n) (xs:=xs) (by
   have:w.ownsRow base e i.size v n xs↔Own H base e i.size v n xs:=by rw[←hw];exact Iff.rfl
   exact this.2 hown) hlen hnews (λu hu=>by
   have:=hone u hu
   cases u<;>simp_all[oneCell,Value.oneCell']) hmax h2 hr
  refine .inl ⟨v',w',.inl ?_,⟨hgr.os,hgr.tape,hgr.output⟩,hF',hk v' _ hown' hfr hF' (λk hk=>by rw[←hw];exact hblk k hk)⟩
  refine builtin_run ho hc w λcs=>?_
  simp only[builtin]
  refine val_run ?_
  rw[hat,ha]
  exact hr
 ·refine ok_val hF hk λw _=>builtin_run ho hc w λcs=>?_
  simp only[builtin]
  refine val_run ?_
  rw[hat,ha]
  unfold Builtin.append_
  simp only[Qq,ZJ,ZV]
  rw[run_bind (und_run hu w)]
  simp only[]
  rw[run_bind (sizeOf_run hi w)]
  rw[run_bind (und_run hu w)]
  rw[run_bind (x:=false) (w':=w) rfl]
  simp only[Yk,YU]
  rw[run_bind (x:=0) (w':=w) rfl,if_pos (by omega)]
  simp only[Bool.not_false,if_true]
  rw[run_bind (x:=(#[]:Array Value)) (w':=w) rfl]
  cases ad with
  |none=>rfl
  |some a=>
   simp only[]
   rw[run_bind (x:=()) (w':=w) rfl]
   rfl
theorem vcOp_ok(hF:Frm c.S c.H0 H)(h:vcOp c ρ H o K):OpOK c ρ o H K:=by
 unfold vcOp at h
 split at h
 case h_1 t ho=>
  split at h
  ·split at h
   ·exact ok_alloc ho ‹_› ‹_› hF h
   ·exact h.elim
  ·exact h.elim
 case h_2 t x ho=>exact ok_box ho hF h
 case h_3 t a ho=>
  split at h
  ·exact ok_load ho ‹_› hF h
  ·exact h.elim
 case h_4 t a x ho=>
  split at h
  ·exact ok_store ho ‹_› hF h
  ·exact h.elim
 case h_5 t len parts ho=>
  split at h
  ·split at h
   ·split at h
    ·split at h
     ·exact ok_buildSlice ho ‹_› ‹_› ‹_› ‹_› h.1 hF h.2
     ·exact h.elim
    ·exact h.elim
   ·exact h.elim
  ·exact h.elim
 case h_6 cl ho=>
  split at h
  ·split at h
   ·exact ok_call ho ‹_› ‹_› h
   ·exact h.elim
  ·split at h
   ·split at h
    ·rename_i t t' ht _ hb
     obtain rfl:=QF hb
     exact ok_append ho ‹_› ‹_› ht hF h
    ·exact ok_raw h
   ·exact h.elim
  ·exact vcP_op hF h
 case h_7 t l cp ho=>exact ok_make ho hF h
 case h_8 ho=>exact ok_convM ho hF h
 case h_9=>exact vcP_op hF h
end
end Go.Proofs.YtjambljmnifknaaGreatDoor.Vc
