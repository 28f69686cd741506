/- Part 11 of the proof of TopAny: intent: written and read; rows that grow · intent.Read, ring.Gather, ring.Next · ring.Gather, ring.Next · gf, vec: the elder contracts, said of heaps; vec.Gather. -/
import Derived.Test.YtjambljmnifknaaGreatDoorJ10
set_option maxRecDepth 100000
set_option maxHeartbeats 80000000
set_option linter.all false
open Go.Proofs.Tryz
namespace Go.Proofs.YtjambljmnifknaaGreatDoor.Vc
open Go Go.RowKit Tp
def elB(P:Program)(t e:TypeId)(sz:Nat):Bool:=match elemI P t with
 |some (e',i,z)=>Nat.beq e' e&&Nat.beq i.size sz&&Nat.beq z.cells.toList.length sz&&Nat.blt 0 sz&&Nat.ble i.bytes 128
 |none=>false
theorem AppendVC.el2{c:Ctx}{H:Heap}{t e:TypeId}{v:Value}{K:KK}{b off cap base n sz:Nat}{xs:List Value}(ys:List Value)(hb:elB c.P t e sz=true)(hown:Own H base e sz v n xs)(hc:CellsAt H b off ys)(hl:ys.length=sz)(h1:∀y∈ys,oneCell y=true)(hn:n+1≤1000000000000)(hbase:base≤H.size)
  (hS:∀k,v.ownBlock=some k→c.S k∨c.H0.size≤k) (k:∀v' H',Own H' base e sz v' (n+1) (xs++ys)→Frm (λk=>v.ownBlock=some k) H H'→Frm c.S c.H0 H'→(∀k,v'.ownBlock=some k→v.ownBlock=some k∨H.size≤k)→K v' H'):AppendVC c H t v (.slice (some ⟨b,off,none⟩) 1 cap) K:=by
 unfold elB at hb
 cases he:elemI c.P t with
 |none=>rw[he] at hb;cases hb
 |some p=>
  obtain⟨e',i,z⟩:=p
  rw[he] at hb
  simp only[QA,Nat.blt_eq,Nat.ble_eq] at hb
  obtain⟨⟨⟨⟨q1,q2⟩,hz⟩,h0⟩,hby⟩:=hb
  obtain rfl:=QF q1
  obtain rfl:=QF q2
  replace hz:=QF hz
  refine AppendVC.k2 ys he hown hc (by simp[hz,h0]) (by omega) h1 (by omega) ?_ hbase hS k
  exact Qb (YB _ hby) (by omega)
theorem AppendVC.el{c:Ctx}{H:Heap}{t e:TypeId}{v:Value}{K:KK}{b off cap base n sz:Nat}{xs:List Value}(ys:List Value)(hb:elB c.P t e sz=true)(hown:Own H base e sz v n xs)(hc:CellsAt H b off ys)(hl:ys.length=sz)(h1:∀y∈ys,oneCell y=true)(hn:n+1≤1000000000000)(hbase:base≤H.size)
  (hS:∀k,v.ownBlock=some k→c.S k∨c.H0.size≤k) (k:∀v' H',Own H' base e sz v' (n+1) (xs++ys)→Frm (λk=>v.ownBlock=some k) H H'→Frm c.S c.H0 H'→K v' H'):AppendVC c H t v (.slice (some ⟨b,off,none⟩) 1 cap) K:=
 .el2 ys hb hown hc hl h1 hn hbase hS λv' H' h1 h2 h3 _=>k v' H' h1 h2 h3
theorem Own.ne{H:Heap}{base n sz:Nat}{e t:TypeId}{v:Value}{xs:List Value}{g:Nat}{cs:Array Value}{fz:Nat×Nat}(h:Own H base e sz v n xs)(hg:H[g]? =some (.cells cs t fz))(ht:t≠e):v.ownBlock≠some g:=by
 intro hk
 rcases h.2 with ⟨rfl,_⟩|⟨k,cap,cur,rfl,hb,hk',_⟩
 ·simp[Value.ownBlock] at hk
 ·simp[Value.ownBlock] at hk
  subst hk
  have hk'':H[k]? =_:=hk'
  rw[hg] at hk''
  simp at hk''
  exact ht hk''.2.1
def strV(l:List By):List Value:=l.map λx=>.string (S x)
theorem strV_snoc(l:List By)(x:By):strV (l++[x])=strV l++[.string (S x)]:=by simp[strV]
theorem s_iadd(s:ByteArray)(f e:Int){H:Heap}{gl ge base:Nat}{l:List By}{v:Value}(hv:H[gl]? =some (.cells [v].toArray 24 (0,0)))(he:H[ge]? =some (.cells [Value.int .i64 e].toArray 29 (0,0)))(ho:Own H base 9 1 v l.length (strV l))(hl:l.length≤1000)(hbase:base≤H.size):
  Spec prog 207 #[.string s,.int .i64 f,ptr gl 0,ptr ge 0] H (λk=>k=gl∨k=ge∨v.ownBlock=some k) λu H'=>u=.tuple #[]∧H'[ge]? =some (.cells [Value.int .i64 (if e=0 then f else e)].toArray 29 (0,0))∧∃v',H'[gl]? =some (.cells [v'].toArray 24 (0,0))∧Own H' base 9 1 v' (l.length+1) (strV (l++[L s])):=by
 have hne:gl≠ge:=λh=>by rw[h,he] at hv;simp at hv
 have hvb:oneCell v=true:=by rcases ho.2 with ⟨rfl,_⟩|⟨k,cap,cur,rfl,_⟩<;>rfl
 have hlg:=(Qa.1 hv).1
 refine spx func207 ?_
 conv=>whnf
 refine⟨_,cel_of hv rfl,?_⟩
 conv=>whnf
 refine⟨rfl,?_⟩
 intro H1 r f1 _
 conv=>whnf
 refine .el [.string s] (by kernel_rfl) (ho.q f1.e) (CellsAt.new (cs:=[.string s]) f1) rfl (by simp[oneCell]) (by omega) (by have:=f1.e.1;omega) (λk hk=>.inl (.inr (.inr hk))) ?_
 intro v2 H2 ho2 e2 _
 have hlg1:H1[gl]? =_:=f1.e.blk hv
 have hv2:H2[gl]? =some (.cells [v].toArray 24 (0,0)):=e2.blkT hlg1 ((ho.q f1.e).ne hlg1 (by decide))
 have he2:H2[ge]? =some (.cells [Value.int .i64 e].toArray 29 (0,0)):=e2.blkT (f1.e.blk he) ((ho.q f1.e).ne (f1.e.blk he) (by decide))
 have hst:stoB prog 24 v2 0 1=true:=by
  rcases ho2.2 with ⟨rfl,_⟩|⟨k,cap,cur,rfl,_⟩<;>rfl
 have hput:Vc.putL [v] 0 v2.cells.toList=[v2]:=by
  rcases ho2.2 with ⟨rfl,_⟩|⟨k,cap,cur,rfl,_⟩<;>rfl
 conv=>whnf
 refine .k [v2] hv2 (.inl (.inl rfl)) hst hput ?_
 intro H3 u3 _
 have he3:=(u3.2.2 ge (Yu hne)).trans he2
 have ho3:Own H3 base 9 1 v2 (l.length+1) (strV (l++[L s])):=by
  rw[strV_snoc,S_L]
  exact ho2.frm u3.e λk hk=>by rintro rfl;exact ho2.ne hv2 (by decide) hk
 conv=>whnf
 refine⟨_,cel_of he3 rfl,?_⟩
 conv=>whnf
 refine⟨rfl,λh0=>?_,λh0=>?_⟩
 ·conv=>whnf
  refine .k ([.int .i64 f]) (he3) (.inl (.inr (.inl rfl))) rfl rfl ?_
  intro H4 u4 _
  refine⟨⟨rfl,?_,v2,(u4.2.2 gl hne).trans u3.1,ho3.frm u4.e λk hk=>by rintro rfl;exact ho3.ne he3 (by decide) hk⟩⟩
  rw[if_pos h0];exact u4.1
 ·refine⟨⟨rfl,?_,v2,u3.1,ho3⟩⟩
  rw[if_neg h0];exact he3
structure It where
 seq:Int
 stripe:Int
 text:By
deriving DecidableEq
def itL(i:It):List Value:=[.int .i64 i.seq,.int .i64 i.stripe,.string (S i.text)]
def itV(i:It):Value:=.agg (itL i).toArray
def mINT:By:=[73,78,84]
def itE(i:It):Int:=firstE [0,putE i.seq 7,putE i.stripe 2,textE i.text]
def itH(i:It):By:=mINT++(L (putV i.seq 7)++(L (putV i.stripe 2)++textV i.text))
def itW(i:It):By:=if itE i=0 then itH i else []
def itB(i:It):Prop:=i.seq≤9223372036854775807∧i.stripe≤9223372036854775807∧i.text.length≤1000000000000
theorem join_flat(l:List By):Lib.join l []=l.flatten:=by
 cases l with
 |nil=>rfl
 |cons x r=>rw[Lib.join_cons];simp[Lib.joinTail]
theorem s_iwrite(i:It)(hB:itB i)(H:Heap):Spec prog 144 #[itV i] H nob λu _=>u=.tuple #[.string (S (itW i)),.int .i64 (itE i)]:=by
 obtain⟨h1,h2,h3⟩:=hB
 have hT:=λH=>s_text (S i.text) (by rw[S_size];omega) H
 have htl:=textV_len i.text
 have hW:itW i=if itE i=0 then itH i else []:=rfl
 have hE:itE i=firstE ([0,putE i.seq 7,putE i.stripe 2]++[textE i.text]):=rfl
 have hH:itH i=[mINT,L (putV i.seq 7),L (putV i.stripe 2),textV i.text].flatten:=by simp[itH]
 rw[L_S] at hT
 have s1:=putV_size i.seq 7
 have s2:=putV_size i.stripe 2
 have hP1:=λH=>s_put i.seq 7 (by decide) (by decide) h1 H
 have hP2:=λH=>s_put i.stripe 2 (by decide) (by decide) h2 H
 generalize itW i=W at hW⊢
 generalize itE i=E at hW hE⊢
 generalize itH i=Hd at hW hH
 generalize textV i.text=tv at*
 generalize textE i.text=te at*
 generalize putV i.seq 7=a1 at*
 generalize putE i.seq 7=b1 at*
 generalize putV i.stripe 2=a2 at*
 generalize putE i.stripe 2=b2 at*
 refine spx func144 ?_
 conv=>whnf
 intro H1 g f1 _
 have hg1:H1[g]? =some (.cells (itL i).toArray 82 (0,0)):=f1.at
 conv=>whnf
 intro H2 gl f2 _
 have hg2:=f2.e.blk hg1
 have hl2:H2[gl]? =some (.cells [Value.slice none 0 0].toArray 24 (0,0)):=f2.at
 conv=>whnf
 intro H3 ge f3 _
 have hg3:=f3.e.blk hg2
 have hl3:=f3.e.blk hl2
 have he3:H3[ge]? =some (.cells [Value.int .i64 0].toArray 29 (0,0)):=f3.at
 have hsz:g=H.size∧gl=H.size+1∧ge=H.size+2:=⟨f1.size.2,by have:=f1.size;have:=f2.size;omega,by have:=f1.size;have:=f2.size;have:=f3.size;omega⟩
 conv=>whnf
 refine .k ([.int .i64 0]) (he3) (.inr (by show H.size≤ge;omega)) rfl rfl ?_
 intro H4 u4 _
 have hg4:=(u4.2.2 g (by omega)).trans hg3
 have hl4:=(u4.2.2 gl (by omega)).trans hl3
 have ho4:Own H4 H.size 9 1 (.slice none 0 0) 0 (strV []):=Own.nil _ _ _ _
 have hS:∀{X:Heap} {v:Value} {n:Nat} {xs:List Value},Own X H.size 9 1 v n xs→∀k,(k=gl∨k=ge∨v.ownBlock=some k)→nob k∨H.size≤k:=λho k hk=>.inr (by rcases hk with h|h|h<;>first|omega|exact(ho.ge k h).1)
 have hn:∀{X:Heap} {v:Value} {n:Nat} {xs:List Value},Own X H.size 9 1 v n xs→X[g]? =some (.cells (itL i).toArray 82 (0,0))→¬(g=gl∨g=ge∨v.ownBlock=some g):=λho hx h=>by rcases h with h|h|h<;>first|omega|exact ho.ne hx (by decide) h
 have z4:H.size≤H4.size:=by have:=u4.2.1;have:=f3.size;omega
 conv=>whnf
 refine .t (s_iadd (S mINT) 0 0 hl4 u4.1 ho4 (by decide) z4) (hS ho4) ?_
 rintro _ H5 ⟨rfl,he5,v5,hl5,ho5⟩ e5 F5
 rw[if_pos rfl] at he5
 have hg5:=e5.blkT hg4 (hn ho4 hg4)
 conv=>whnf
 refine⟨_,cel_of hg5 rfl,?_⟩
 conv=>whnf
 refine .q (hP1 _) ?_
 rintro _ H6 rfl e6 _
 have ho6:=ho5.q e6
 have hg6:=e6.blk hg5
 conv=>whnf
 refine .t (s_iadd a1 b1 _ (e6.blk hl5) (e6.blk he5) ho6 (by decide) (Qb (show H.size≤H5.size from F5.1) e6.1)) (hS ho6) ?_
 rintro _ H7 ⟨rfl,he7,v7,hl7,ho7⟩ e7 F7
 rw[if_pos rfl] at he7
 have hg7:=e7.blkT hg6 (hn ho6 hg6)
 conv=>whnf
 refine⟨_,cel_of hg7 rfl,?_⟩
 conv=>whnf
 refine .q (hP2 _) ?_
 rintro _ H8 rfl e8 _
 have ho8:=ho7.q e8
 have hg8:=e8.blk hg7
 conv=>whnf
 refine .t (s_iadd a2 b2 _ (e8.blk hl7) (e8.blk he7) ho8 (by simp) (Qb (show H.size≤H7.size from F7.1) e8.1)) (hS ho8) ?_
 rintro _ H9 ⟨rfl,he9,v9,hl9,ho9⟩ e9 F9
 have hg9:=e9.blkT hg8 (hn ho8 hg8)
 conv=>whnf
 refine⟨_,cel_of hg9 rfl,?_⟩
 conv=>whnf
 refine .q (hT _) ?_
 rintro _ H10 rfl e10 _
 have ho10:=ho9.q e10
 conv=>whnf
 refine .t (s_iadd (S tv) te _ (e10.blk hl9) (e10.blk he9) ho10 (by simp) (Qb (show H.size≤H9.size from F9.1) e10.1)) (hS ho10) ?_
 rintro _ H11 ⟨rfl,he11,v11,hl11,ho11⟩ e11 F11
 have hEE:(if(if b1=0 then b2 else b1)=0 then te else(if b1=0 then b2 else b1))=E:=by
  rw[hE];simp only[QR,QI,firstE];repeat' split
  all_goals simp_all
 rw[hEE] at he11
 have hl:strV ([]++[L (S mINT)]++[L a1]++[L a2]++[L (S tv)])=strV [mINT,L a1,L a2,tv]:=by rw[L_S,L_S];rfl
 rw[hl] at ho11
 conv=>whnf
 refine⟨_,cel_of he11 rfl,?_⟩
 conv=>whnf
 refine⟨rfl,λh0=>?_,λh0=>?_⟩
 ·conv=>whnf
  refine .q (by kernel_rfl) ?_
  conv=>whnf
  refine⟨id,_,cel_of he11 rfl,?_⟩
  refine⟨?_⟩
  show Value.tuple #[.string (S []),.int .i64 E]=_
  rw[hW,if_neg h0]
 ·have h0':E=0:=h0
  conv=>whnf
  refine⟨_,cel_of hl11 rfl,?_⟩
  have hjl:(Lib.join [mINT,L a1,L a2,tv] []).length≤140737488355328:=by
   rw[join_flat]
   have q1:=L_length a1
   have q2:=L_length a2
   simp[mINT]
   omega
  conv=>whnf
  refine .q (s_join [mINT,L a1,L a2,tv] [] ho11.rd.1 (by simp) hjl) ?_
  rintro _ H12 rfl e12 _
  refine⟨?_⟩
  show Value.tuple #[.string (S (Lib.join [mINT,L a1,L a2,tv] [])),.int .i64 0]=_
  rw[hW,if_pos h0',join_flat,hH,h0']
attribute [irreducible] itW itE
theorem CellsAt.app{H:Heap}{b:Nat}:∀{xs ys:List Value} {o:Nat},CellsAt H b o (xs++ys)↔CellsAt H b o xs∧CellsAt H b (o+xs.length) ys
 |[],ys,o=>by simp[CellsAt]
 |x::xs,ys,o=>by
  have ih:=CellsAt.app (H:=H) (b:=b) (xs:=xs) (ys:=ys) (o:=o+1)
  simp only[QR,CellsAt,Qo,ih,and_assoc]
  rw[show o+1+xs.length=o+(xs.length+1) by omega]
theorem CellsAt.nth{H:Heap}{b sz:Nat}:∀{ls:List (List Value)} {o i:Nat} {x:List Value},CellsAt H b o ls.flatten→(∀l∈ls,l.length=sz)→ls[i]? =some x→CellsAt H b (o+i*sz) x
 |l::r,o,0,x,h,hs,hi=>by
  simp at hi;subst hi
  rw[Nat.zero_mul,ZK]
  exact(CellsAt.app.1 h).1
 |l::r,o,i+1,x,h,hs,hi=>by
  have:=CellsAt.nth (ls:=r) (i:=i) (CellsAt.app.1 h).2 (λl hl=>hs l (by simp[hl])) (by simpa using hi)
  rw[hs l (by simp)] at this
  rw[Q6,YF (i*sz),←Nat.add_assoc]
  exact this
def Rw(H:Heap)(v:Value)(ls:List (List Value)):Prop:=(v=.slice none 0 0∧ls=[])∨∃b o cap,v=.slice (some ⟨b,o,none⟩) ls.length cap∧ls.length≤cap∧CellsAt H b o ls.flatten
theorem Rw.frm{T:Nat→Prop}{H H':Heap}{v:Value}{ls:List (List Value)}(h:Rw H v ls)(hF:Frm T H H')(hT:∀k,v.ownBlock=some k→¬T k):Rw H' v ls:=by
 rcases h with h|⟨b,o,cap,rfl,hc,h⟩
 ·exact .inl h
 ·exact .inr ⟨b,o,cap,rfl,hc,cells_keep hF (hT b rfl) h⟩
theorem Rw.q{H H':Heap}{v:Value}{ls:List (List Value)}(h:Rw H v ls)(hF:Frm nob H H'):Rw H' v ls:=h.frm hF λ_ _=>id
theorem Own.rw{H:Heap}{base n sz:Nat}{e:TypeId}{v:Value}{xs:List Value}{ls:List (List Value)}(h:Own H base e sz v n xs)(hx:xs=ls.flatten)(hl:ls.length=n):Rw H v ls:=by
 obtain⟨h1,h2⟩:=h
 rcases h2 with ⟨rfl,h0⟩|⟨g,cap,cur,rfl,_,hg,hn,_,hcs,ht⟩
 ·subst h0;exact .inl ⟨rfl,Qm hl⟩
 ·refine .inr ⟨g,0,cap,by rw[hl],by omega,?_⟩
  rw[←hx]
  refine CellsAt.of λj v hj=>cel_of (H:=H) hg ?_
  rw[←ht,QZ] at hj
  split at hj
  ·rw[Qr,←QN];exact hj
  ·cases hj
def it0:It:=⟨0,0,[]⟩
def itRdV(r:By)(is:Bool):It×Int:=
 if is=false then(it0,5) else if cutE r 7≠0∨cutE (cutR r 7) 2≠0∨takeE (cutR (cutR r 7) 2)≠0 then(it0,5) else if takeR (cutR (cutR r 7) 2)≠[] then(it0,5) else
 (⟨cutV r 7,cutV (cutR r 7) 2,takeT (cutR (cutR r 7) 2)⟩,0)
def itRd(s:By):It×Int:=itRdV (Lib.trimPrefix s mINT) (Lib.hasPrefix s mINT)
theorem cutE_nn(s:By)(n:Nat):0≤cutE s n:=by unfold cutE;split<;>decide
theorem takeE_nn(s:By):0≤takeE s:=by unfold takeE;split<;>decide
theorem s_iread(s:ByteArray)(H:Heap):Spec prog 117 #[.string s] H nob λu _=>u=.tuple #[itV (itRd (L s)).1,.int .i64 (itRd (L s)).2]:=by
 have hP:=λH=>s_cutp s (S mINT) H
 have hrd:itRd (L s)=itRdV (Lib.trimPrefix (L s) mINT) (Lib.hasPrefix (L s) mINT):=rfl
 rw[L_S] at hP
 generalize itRd (L s)=rd at hrd⊢
 generalize Lib.trimPrefix (L s) mINT=r0 at hP hrd
 generalize Lib.hasPrefix (L s) mINT=is at hP hrd
 have h1:=λH=>s_cut (S r0) 7 (by decide) (by decide) H
 rw[L_S] at h1
 unfold itRdV at hrd
 have n1:=cutE_nn r0 7
 generalize cutV r0 7=v1 at h1 hrd
 generalize cutE r0 7=e1 at h1 hrd n1
 generalize cutR r0 7=r1 at h1 hrd
 have h2:=λH=>s_cut (S r1) 2 (by decide) (by decide) H
 rw[L_S] at h2
 have n2:=cutE_nn r1 2
 generalize cutV r1 2=v2 at h2 hrd
 generalize cutE r1 2=e2 at h2 hrd n2
 generalize cutR r1 2=r2 at h2 hrd
 have h3:=λH=>s_take (S r2) H
 rw[L_S] at h3
 have n3:=takeE_nn r2
 generalize takeT r2=v3 at h3 hrd
 generalize takeE r2=e3 at h3 hrd n3
 generalize takeR r2=r3 at h3 hrd
 have hm:∃m,(e1≤m∧e2≤m∧e3≤m∧(m=e1∨m=e2∨m=e3))∧(m≠0↔(e1≠0∨e2≠0∨e3≠0)):=⟨max (max e1 e2) e3,⟨by omega,by omega,by omega,by omega⟩,by omega⟩
 obtain⟨m,hm,hmz⟩:=hm
 refine spx func117 ?_
 conv=>whnf
 intro H1 r f1 _
 have hr1:H1[r]? =some (.cells (itL it0).toArray 82 (0,0)):=f1.at
 have hrs:r=H.size:=f1.size.2
 have hS:nob r∨H.size≤r:=.inr (Z8 hrs.symm)
 have hend:∀{H2 H3:Heap} {env:Env},Upd H2 H3 r (.cells (itL rd.1).toArray 82 (0,0))→env 2=.pointer (some ⟨r,0,none⟩)→env 3=.int .i64 rd.2→
   FinVC prog env H3 (λu _=>u=.tuple #[itV rd.1,.int .i64 rd.2]) [.cell 2 82,.tmp 3]:=by
  intro H2 H3 env u3 h2 h3
  refine⟨?_⟩
  unfold ResVC
  dsimp only
  rw[h2,h3]
  exact⟨itL rd.1,rfl,CellsAt.at u3.1,rfl⟩
 conv=>whnf
 refine .q (hP _) ?_
 rintro _ _ ⟨rfl,rfl⟩ _ _
 cases is with
 |false=>
  rw[if_pos rfl] at hrd
  subst hrd
  conv=>whnf
  refine⟨rfl,?_⟩
  refine .k (itL it0) hr1 hS rfl rfl ?_
  intro H3 u3 _
  conv=>whnf
  exact hend u3 rfl rfl
 |true=>
  rw[if_neg (by decide)] at hrd
  conv=>whnf
  intro H2 g f2 _
  have hg2:H2[g]? =some (.cells (itL it0).toArray 82 (0,0)):=f2.at
  have hr2:=f2.e.blk hr1
  have hgs:g=H.size+1:=by have h1:=f2.size.2;have h2:=f1.size;omega
  have hgS:nob g∨H.size≤g:=.inr (by omega)
  conv=>whnf
  refine .q (h1 _) ?_
  rintro _ H3 rfl q3 _
  conv=>whnf
  refine .k (itL ⟨v1,0,[]⟩) (q3.blk hg2) (hgS) rfl rfl ?_
  intro H4 u4 _
  have hr4:=(u4.2.2 r (by omega)).trans (q3.blk hr2)
  conv=>whnf
  refine .q (h2 _) ?_
  rintro _ H5 rfl q5 _
  conv=>whnf
  refine .k (itL ⟨v1,v2,[]⟩) (q5.blk u4.1) (hgS) rfl rfl ?_
  intro H6 u6 _
  have hr6:=(u6.2.2 r (by omega)).trans (q5.blk hr4)
  conv=>whnf
  refine .q (h3 _) ?_
  rintro _ H7 rfl q7 _
  conv=>whnf
  refine .k (itL ⟨v1,v2,v3⟩) (q7.blk u6.1) (hgS) rfl rfl ?_
  intro H8 u8 _
  have hr8:=(u8.2.2 r (by omega)).trans (q7.blk hr6)
  conv=>whnf
  refine⟨⟨rfl,rfl⟩,?_⟩
  refine⟨m,hm,?_⟩
  conv=>whnf
  refine⟨rfl,λh=>?_,λh=>?_⟩
  ·rw[if_pos (hmz.1 h)] at hrd
   subst hrd
   conv=>whnf
   refine⟨rfl,?_⟩
   conv=>whnf
   refine .k (itL it0) (hr8) (hS) rfl rfl ?_
   intro H9 u9 _
   exact hend u9 rfl rfl
  ·rw[if_neg (λe=>hmz.2 e h)] at hrd
   conv=>whnf
   refine⟨λh4=>?_,λh4=>?_⟩
   ·have h4':r3≠[]:=λe=>h4 (by rw[e];rfl)
    rw[if_pos h4'] at hrd
    subst hrd
    conv=>whnf
    refine⟨rfl,?_⟩
    conv=>whnf
    refine .k (itL it0) (hr8) (hS) rfl rfl ?_
    intro H9 u9 _
    exact hend u9 rfl rfl
   ·have h4':¬r3≠[]:=λe=>e (by have:=Qf L (show S r3=S [] from h4);rwa[L_S,L_S] at this)
    rw[if_neg h4'] at hrd
    subst hrd
    conv=>whnf
    refine⟨itL ⟨v1,v2,v3⟩,rfl,CellsAt.at u8.1,?_⟩
    conv=>whnf
    refine .k (itL ⟨v1,v2,v3⟩) (hr8) (hS) rfl rfl ?_
    intro H9 u9 _
    exact hend u9 rfl rfl
attribute [irreducible] itRd
theorem s_ownB(s:By)(hs:s.length≤1000000000000)(ar di pl:Int)(H:Heap):Spec prog 111 #[.string (S s),.int .i64 ar,.int .i64 di,.int .i64 pl] H nob λu _=>u=.tuple #[blkV (blkOwn s ar di pl).1,.int .i64 (blkOwn s ar di pl).2]:=by
 have h:=s_own (S s) (by rw[S_size];exact hs) ar di pl H
 rwa[L_S] at h
theorem s_ireadB(s:By)(H:Heap):Spec prog 117 #[.string (S s)] H nob λu _=>u=.tuple #[itV (itRd s).1,.int .i64 (itRd s).2]:=by
 have h:=s_iread (S s) H
 rwa[L_S] at h
theorem Rd.strs{H:Heap}{v:Value}{l:List By}(h:Rd H v (strV l)):∃ad cap,v=.slice ad l.length cap∧∀i s,l[i]? =some s→∃b o,ad=some ⟨b,o,none⟩∧cel H ⟨b,o+i,none⟩=some (.string (S s)):=by
 rcases h with ⟨rfl,h⟩|⟨b,o,cap,rfl,_,hc⟩
 ·have:l=[]:=by simpa [strV] using h
  subst this
  exact⟨_,_,rfl,λi s hi=>by simp at hi⟩
 ·exact⟨some ⟨b,o,none⟩,cap,by simp[strV],λi s hi=>⟨b,o,rfl,hc.get (by simp[strV,hi])⟩⟩
def gathOne(c:Cf)(ar di:Int)(s:By)(place:Int):List It:=
 if(blkOwn s ar di place).2≠0 then [] else
 if(itRd (blkOwn s ar di place).1.text).2≠0 then [] else if cfSlot c (itRd (blkOwn s ar di place).1.text).1.seq≠place then [] else
 if cfStripe c (itRd (blkOwn s ar di place).1.text).1.stripe<0 then [] else [(itRd (blkOwn s ar di place).1.text).1]
def gathF(c:Cf)(ar di:Int)(sec:List By):Nat→Nat→List It
 |0,_=>[]
 |q+1,k=>if(sec.length:Int)≤cfSlot c k then [] else gathOne c ar di (sec.getD (cfSlot c k).toNat []) (cfSlot c k)++gathF c ar di sec q (k+1)
def gath(c:Cf)(ar di:Int)(sec:List By):List It:=if cfOk c then gathF c ar di sec c.sl.toNat 0 else []
def itsV(l:List It):List Value:=(l.map itL).flatten
theorem itsV_snoc(l:List It)(x:It):itsV (l++[x])=itsV l++itL x:=by simp[itsV]
theorem gathOne_le(c:Cf)(ar di:Int)(s:By)(place:Int):(gathOne c ar di s place).length≤1:=by
 unfold gathOne
 repeat' split
 all_goals simp
theorem gathF_le(c:Cf)(ar di:Int)(sec:List By):∀q k,(gathF c ar di sec q k).length≤q
 |0,_=>Qd _
 |q+1,k=>by
  unfold gathF
  split
  ·simp
  ·have h1:=gathOne_le c ar di (sec.getD (cfSlot c k).toNat []) (cfSlot c k)
   have h2:=gathF_le c ar di sec q (k+1)
   rw[Qi];omega
theorem cfSlot_nn{c:Cf}(h:cfOk c)(k:Nat):0≤cfSlot c k∧cfSlot c k≤16:=by
 have hb:=h.b
 unfold cfSlot
 rw[if_pos h,if_neg (by omega)]
 have h1:=Int.tmod_nonneg c.sl (show(0:Int)≤k by omega)
 have h2:=Int.tmod_lt_of_pos (k:Int) (show 0<c.sl by omega)
 omega
theorem s_gather(c:Cf)(ar di:Int)(sec:List By){sv:Value}{H:Heap}(hsec:Rd H sv (strV sec))(hlen:∀s∈sec,s.length≤1000000000000):
  Spec prog 66 #[cfV c,.int .i64 ar,.int .i64 di,sv] H nob λu H'=>Own H' H.size 82 3 u (gath c ar di sec).length (itsV (gath c ar di sec)):=by
 have hg:gath c ar di sec=if cfOk c then gathF c ar di sec c.sl.toNat 0 else []:=rfl
 generalize gath c ar di sec=tot at hg⊢
 obtain⟨ad,cap,rfl,hsv⟩:=hsec.strs
 refine spx func66 ?_
 conv=>whnf
 intro H1 g f1 _
 have hg1:H1[g]? =some (.cells (cfL c).toArray 23 (0,0)):=f1.at
 conv=>whnf
 refine⟨cfL c,rfl,CellsAt.new f1,?_⟩
 conv=>whnf
 refine .q (s_check c _) ?_
 rintro _ H2 rfl e2 _
 conv=>whnf
 refine⟨rfl,λh=>?_,λh=>?_⟩
 ·have h':¬cfOk c:=λe=>h (cfE0.2 e)
  rw[if_neg h'] at hg
  subst hg
  exact⟨Own.nil _ _ _ _⟩
 ·have ho:=cfE0.1 h
  have hb:=ho.b
  rw[if_pos ho] at hg
  have hg2:=e2.blk hg1
  conv=>whnf
  refine⟨_,cel_of hg2 rfl,?_⟩
  conv=>whnf
  refine⟨Nat×List It×Value,λx=>[(20,.int .i64 (x.1:Int)),(9,x.2.2)],λx H'=>x.1≤c.sl.toNat∧H'[g]? =some (.cells (cfL c).toArray 23 (0,0))∧x.2.1++gathF c ar di sec (c.sl.toNat-x.1) x.1=tot∧x.2.1.length≤x.1∧Own H' H.size 82 3 x.2.2 x.2.1.length (itsV x.2.1)∧Frm nob H H',λx=>c.sl.toNat-x.1,
   ⟨(0,[],.slice none 0 0),⟨rfl,rfl,trivial⟩,Qk _,hg2,by rw[hg];rfl,Qk _,Own.nil _ _ _ _,f1.e.trans e2⟩,?_⟩
  rintro⟨i,acc,v⟩ H3 junk ⟨hi,hg3,htot,hal,how,hF⟩ F
  dsimp only at hi htot how hal
  have hsz3:H.size≤H3.size:=hF.1
  conv=>whnf
  refine⟨rfl,λh=>?_,λh=>?_⟩
  ·have h':i<c.sl.toNat:=by have:(i:Int)<c.sl:=h;omega
   rw[show c.sl.toNat-i=(c.sl.toNat-(i+1))+1 by omega,gathF] at htot
   have hpl:=cfSlot_nn ho i
   conv=>whnf
   refine⟨cfL c,rfl,CellsAt.at hg3,?_⟩
   conv=>whnf
   refine .q (s_slot c (i:Int) _) ?_
   rintro _ H4 rfl e4 _
   have hg4:=e4.blk hg3
   have how4:=how.q e4
   conv=>whnf
   refine⟨rfl,λh5=>?_,λh5=>?_⟩
   ·rw[if_pos h5,QT] at htot
    subst htot
    exact⟨how4⟩
   ·rw[if_neg h5] at htot
    have hlt:(cfSlot c i).toNat<sec.length:=by have:¬(sec.length:Int)≤cfSlot c i:=h5;omega
    have hx:sec[(cfSlot c i).toNat]? =some (sec.getD (cfSlot c i).toNat []):=by simp[hlt]
    have hml:=hlen _ (Qj hx)
    have hcell:=hsv _ _ hx
    have hskip:∀{X:Heap},Frm nob H4 X→gathOne c ar di (sec.getD (cfSlot c i).toNat []) (cfSlot c i)=[]→(i+1≤c.sl.toNat∧X[g]? =some (.cells (cfL c).toArray 23 (0,0))∧acc++gathF c ar di sec (c.sl.toNat-(i+1)) (i+1)=tot∧acc.length≤i+1∧Own X H.size 82 3 v acc.length (itsV acc)∧Frm nob H X):=λhX hz=>by
     rw[hz,QI] at htot
     exact⟨h',hX.blk hg4,htot,by omega,how4.q hX,(hF.trans e4).trans hX⟩
    refine Qh hcell λb hcell=>Qh hcell λo hcell=>?_
    have hcell1:=hcell.1
    subst hcell1
    conv=>whnf
    refine⟨(cfSlot c i).toNat,by omega,hlt,?_⟩
    conv=>whnf
    refine⟨_,(hF.trans e4).cel hcell.2,?_⟩
    conv=>whnf
    refine .q (s_ownB _ hml ar di (cfSlot c i) _) ?_
    rintro _ H5 rfl e5 _
    conv=>whnf
    intro H6 p f6 _
    have hp6:H6[p]? =some (.cells (blkL blk0).toArray 130 (0,0)):=f6.at
    have hgp:g<H4.size:=(Qa.1 hg4).1
    have hps:H5.size=p:=f6.size.2.symm
    have h45:=e5.1
    have h34:=e4.1
    have hnt:∀{X Y Z:Heap} {k:Nat} {o1 o2:Obj},Fresh X Y k o1→Upd Y Z k o2→Frm nob X Z:=λf u=>⟨by rw[u.2.1];exact f.e.1,λi hi _=>(u.2.2 i (by have:=f.size.2;omega)).trans (f.e.2 i hi id)⟩
    conv=>whnf
    refine .k (blkL (blkOwn (sec.getD (cfSlot c i).toNat []) ar di (cfSlot c i)).1) (hp6) (.inr (by show H.size≤p;omega)) rfl rfl ?_
    intro H7 u7 _
    have hF7:=e5.trans (hnt f6 u7)
    conv=>whnf
    refine⟨rfl,λh8=>?_,λh8=>?_⟩
    ·conv=>whnf
     refine⟨rfl,((i+1:Nat):Int),wr64 (by omega) (by omega),?_⟩
     exact⟨(i+1,acc,v),⟨rfl,rfl,trivial⟩,hskip hF7 (by unfold gathOne;rw[if_pos h8]),by show c.sl.toNat-(i+1)<c.sl.toNat-i;omega⟩
    conv=>whnf
    refine⟨_,cel_of u7.1 rfl,?_⟩
    conv=>whnf
    refine .q (s_ireadB _ _) ?_
    rintro _ H8 rfl e8 _
    conv=>whnf
    intro H9 q f9 _
    have hq9:H9[q]? =some (.cells (itL it0).toArray 82 (0,0)):=f9.at
    have hqs:H8.size=q:=f9.size.2.symm
    have h78:=e8.1
    have h67:=hF7.1
    conv=>whnf
    refine .k (itL (itRd (blkOwn (sec.getD (cfSlot c i).toNat []) ar di (cfSlot c i)).1.text).1) (hq9) (.inr (by show H.size≤q;omega)) rfl rfl ?_
    intro H10 u10 _
    have hF10:=(hF7.trans e8).trans (hnt f9 u10)
    have hg10:=hF10.blk hg4
    conv=>whnf
    refine⟨rfl,λh11=>?_,λh11=>?_⟩
    ·have hX:∃x,x=(itRd (blkOwn (sec.getD (cfSlot c i).toNat []) ar di (cfSlot c i)).1.text).1:=⟨_,rfl⟩
     conv=>whnf
     refine⟨cfL c,rfl,CellsAt.at hg10,?_⟩
     conv=>whnf
     refine⟨_,cel_of u10.1 rfl,?_⟩
     conv=>whnf
     refine .q (s_slot c _ _) ?_
     rintro _ H11 rfl e11 _
     have hF11:=hF10.trans e11
     have hq11:=e11.blk u10.1
     have hg11:=e11.blk hg10
     conv=>whnf
     refine⟨rfl,λh12=>?_,λh12=>?_⟩
     ·conv=>whnf
      refine⟨cfL c,rfl,CellsAt.at hg11,?_⟩
      conv=>whnf
      refine⟨_,cel_of hq11 rfl,?_⟩
      conv=>whnf
      refine .q (s_stripe c _ _) ?_
      rintro _ H12 rfl e12 _
      have hF12:=hF11.trans e12
      have hq12:=e12.blk hq11
      conv=>whnf
      refine⟨rfl,λh13=>?_,λh13=>?_⟩
      ·have hone:gathOne c ar di (sec.getD (cfSlot c i).toNat []) (cfSlot c i)=[(itRd (blkOwn (sec.getD (cfSlot c i).toNat []) ar di (cfSlot c i)).1.text).1]:=by
        unfold gathOne;rw[if_neg (λe=>e h8),if_neg (λe=>e h11),if_neg (λe=>e h12),if_neg (Int.not_lt.mpr h13)]
       rw[hone,←Qt] at htot
       conv=>whnf
       refine⟨itL (itRd (blkOwn (sec.getD (cfSlot c i).toNat []) ar di (cfSlot c i)).1.text).1,rfl,CellsAt.at hq12,?_⟩
       conv=>whnf
       refine⟨rfl,?_⟩
       intro H13 r f13 _
       have how13:=(how4.q hF12).q f13.e
       conv=>whnf
       refine .el (itL (itRd (blkOwn (sec.getD (cfSlot c i).toNat []) ar di (cfSlot c i)).1.text).1) (by kernel_rfl) how13 (CellsAt.new (cs:=itL _) f13) rfl (by intro y hy;simp only[itL,QB,Zj,Z1] at hy;rcases hy with rfl|rfl|rfl<;>rfl) (by omega) (by have:=f13.e.1;have:=hF12.1;omega) (λk hk=>.inr (how13.ge k hk).1) ?_
       intro v14 H14 ho14 e14 _
       conv=>whnf
       refine⟨rfl,((i+1:Nat):Int),wr64 (by omega) (by omega),?_⟩
       have hF14:Frm nob H H14:=((hF.trans e4).trans (hF12.trans f13.e)).then (e14) (λk hk=>.inr (how13.ge k hk).1)
       have hg14:H14[g]? =some (.cells (cfL c).toArray 23 (0,0)):=e14.blkT (f13.e.blk (hF12.blk hg4)) (λhk=>how13.ne (f13.e.blk (hF12.blk hg4)) (by decide) hk)
       refine⟨(i+1,acc++[(itRd (blkOwn (sec.getD (cfSlot c i).toNat []) ar di (cfSlot c i)).1.text).1],v14),⟨rfl,rfl,trivial⟩,⟨h',hg14,htot,by simp;omega,?_,hF14⟩,by show c.sl.toNat-(i+1)<c.sl.toNat-i;omega⟩
       rw[itsV_snoc,Qi]
       exact ho14
      ·conv=>whnf
       refine⟨rfl,((i+1:Nat):Int),wr64 (by omega) (by omega),?_⟩
       exact⟨(i+1,acc,v),⟨rfl,rfl,trivial⟩,hskip hF12 (by unfold gathOne;rw[if_neg (λe=>e h8),if_neg (λe=>e h11),if_neg (λe=>e h12),if_pos (Int.not_le.mp h13)]),by show c.sl.toNat-(i+1)<c.sl.toNat-i;omega⟩
     ·conv=>whnf
      refine⟨rfl,((i+1:Nat):Int),wr64 (by omega) (by omega),?_⟩
      exact⟨(i+1,acc,v),⟨rfl,rfl,trivial⟩,hskip hF11 (by unfold gathOne;rw[if_neg (λe=>e h8),if_neg (λe=>e h11),if_pos h12]),by show c.sl.toNat-(i+1)<c.sl.toNat-i;omega⟩
    ·conv=>whnf
     refine⟨rfl,((i+1:Nat):Int),wr64 (by omega) (by omega),?_⟩
     exact⟨(i+1,acc,v),⟨rfl,rfl,trivial⟩,hskip hF10 (by unfold gathOne;rw[if_neg (λe=>e h8),if_pos h11]),by show c.sl.toNat-(i+1)<c.sl.toNat-i;omega⟩
  ·have:i=c.sl.toNat:=by have:¬(i:Int)<c.sl:=h;omega
   subst this
   rw[ZA] at htot
   unfold gathF at htot
   rw[QT] at htot
   subst htot
   refine⟨?_⟩
   exact how
theorem Rw.its{H:Heap}{v:Value}{l:List It}(h:Rw H v (l.map itL)):∃ad cap,v=.slice ad l.length cap∧∀i x,l[i]? =some x→∃b o,ad=some ⟨b,o,none⟩∧CellsAt H b (o+i*3) (itL x):=by
 rcases h with ⟨rfl,h⟩|⟨b,o,cap,rfl,_,hc⟩
 ·have:l=[]:=by simpa using h
  subst this
  exact⟨_,_,rfl,λi s hi=>by simp at hi⟩
 ·refine⟨some ⟨b,o,none⟩,cap,by simp,λi x hi=>⟨b,o,rfl,hc.nth (λl hl=>?_) (by simp[hi])⟩⟩
  simp at hl
  obtain⟨a,_,rfl⟩:=hl
  rfl
theorem s_ncmp(x y:It)(H:Heap):Spec prog 69 #[itV x,itV y] H nob λu _=>u=.int .i64 (Lib.compareInt x.seq y.seq):=by
 refine spx func69 ?_
 conv=>whnf
 intro H1 a f1 _
 conv=>whnf
 intro H2 b f2 _
 have ha1:H1[a]? =some (.cells (itL x).toArray 82 (0,0)):=f1.at
 have hb2:H2[b]? =some (.cells (itL y).toArray 82 (0,0)):=f2.at
 conv=>whnf
 refine⟨_,cel_of (f2.e.blk ha1) rfl,?_⟩
 conv=>whnf
 refine⟨_,cel_of hb2 rfl,?_⟩
 conv=>whnf
 refine .q (s_icmp _ _ _) ?_
 rintro _ _ ⟨rfl,rfl⟩ _ _
 exact⟨rfl⟩
theorem cmp_pos{a b:Int}:0<Lib.compareInt a b↔b<a:=by
 unfold Lib.compareInt
 split
 ·omega
 ·split<;>omega
def maxIt(x:It):List It→It
 |[]=>x
 |y::r=>maxIt (if x.seq<y.seq then y else x) r
def nextSeq:List It→Int
 |[]=>0
 |x::r=>(maxIt x r).seq+1
theorem maxIt_mem(x:It)(r:List It):maxIt x r=x∨maxIt x r∈r:=by
 induction r generalizing x with
 |nil=>exact .inl rfl
 |cons y r ih=>
  unfold maxIt
  rcases ih (if x.seq<y.seq then y else x) with h|h
  ·split at h
   ·exact .inr (by rw[if_pos (by assumption),h];simp)
   ·exact .inl (by rw[if_neg (by assumption),h])
  ·exact .inr (Qu _ h)
theorem s_maxf(x:It)(r:List It){v:Value}{H:Heap}(hv:Rw H v ((x::r).map itL))(hl:r.length≤1000000):Spec prog 68 #[v,.func (.func 69) #[] #[]] H nob λu _=>u=itV (maxIt x r):=by
 obtain⟨ad,cap,rfl,hw⟩:=hv.its
 clear hv
 have hx:=hw 0 x rfl
 obtain⟨b,o,rfl,hx⟩:=hx
 have hv:∀i y,(x::r)[i]? =some y→CellsAt H b (o+i*3) (itL y):=λi y hi=>by
  obtain⟨b',o',h1,h2⟩:=hw i y hi
  cases h1
  exact h2
 have hlen:(x::r).length=r.length+1:=rfl
 obtain⟨M,hM⟩:∃M,maxIt x r=M:=⟨_,rfl⟩
 rw[hM]
 refine spx func68 ?_
 conv=>whnf
 intro H1 g f1 _
 have hg1:H1[g]? =some (.cells (itL it0).toArray 82 (0,0)):=f1.at
 conv=>whnf
 refine⟨rfl,λh=>absurd h (by show ¬(((x::r).length:Int)<1);omega),λ_=>?_⟩
 conv=>whnf
 refine⟨0,rfl,by show 0<(x::r).length;omega,?_⟩
 conv=>whnf
 refine⟨itL x,rfl,cells_keep f1.e id hx,?_⟩
 conv=>whnf
 intro H2 p f2 _
 have hp2:H2[p]? =some (.cells (itL it0).toArray 82 (0,0)):=f2.at
 have hps:p=H.size+1:=by have:=f1.size;have:=f2.size;omega
 conv=>whnf
 refine .k (itL x) (hp2) (.inr (by show H.size≤p;omega)) rfl rfl ?_
 intro H3 u3 _
 have hg3:=(u3.2.2 g (by have:=f1.size;omega)).trans (f2.e.blk hg1)
 have hF3:Frm nob H H3:=⟨by rw[u3.2.1];exact(f1.e.trans f2.e).1,λi hi _=>(u3.2.2 i (by omega)).trans ((f1.e.trans f2.e).2 i hi id)⟩
 conv=>whnf
 refine⟨Nat×It×List It,λy=>[(6,.int .i64 (y.1:Int))],λy H'=>y.1+y.2.2.length=r.length+1∧(x::r).drop y.1=y.2.2∧maxIt y.2.1 y.2.2=M∧H'[p]? =some (.cells (itL y.2.1).toArray 82 (0,0))∧H'[g]? =some (.cells (itL it0).toArray 82 (0,0))∧Frm nob H H',λy=>y.2.2.length,
  ⟨(1,x,r),⟨rfl,trivial⟩,by simp;omega,rfl,hM,u3.1,hg3,hF3⟩,?_⟩
 rintro⟨i,m,l⟩ H4 junk ⟨hi,hd,hm,hp4,hg4,hF4⟩ F
 dsimp only at hi hd hm hp4
 conv=>whnf
 refine⟨rfl,λh=>?_,λh=>?_⟩
 ·have h':i<r.length+1:=by have:(i:Int)<((x::r).length:Int):=h;omega
  cases l with
  |nil=>simp at hi;omega
  |cons y l=>
   have hy:(x::r)[i]? =some y:=by
    have:=Qf (·[0]?) hd
    simpa using this
   have hd':(x::r).drop (i+1)=l:=by
    have:=Qf List.tail hd
    simpa using this
   have hc4:=cells_keep hF4 id (hv i y hy)
   conv=>whnf
   refine .q (by kernel_rfl) ?_
   conv=>whnf
   refine⟨i,rfl,by show i<(x::r).length;omega,?_⟩
   conv=>whnf
   refine⟨id,itL y,rfl,by simp[itL],hc4,?_⟩
   conv=>whnf
   refine⟨id,itL m,rfl,by simp[itL],CellsAt.at hp4,?_⟩
   conv=>whnf
   refine .q (s_ncmp y m _) ?_
   rintro _ H5 rfl e5 _
   unfold maxIt at hm
   conv=>whnf
   refine⟨rfl,λh6=>?_,λh6=>?_⟩
   ·have h6':m.seq<y.seq:=cmp_pos.1 h6
    rw[if_pos h6'] at hm
    conv=>whnf
    refine⟨i,rfl,by show i<(x::r).length;omega,?_⟩
    conv=>whnf
    refine⟨itL y,rfl,cells_keep e5 id hc4,?_⟩
    conv=>whnf
    refine .k (itL y) (e5.blk hp4) (.inr (by show H.size≤p;omega)) rfl rfl ?_
    intro H6 u6 _
    have hF6:Frm nob H H6:=⟨by rw[u6.2.1];exact(hF4.trans e5).1,λi hi _=>(u6.2.2 i (by omega)).trans ((hF4.trans e5).2 i hi id)⟩
    conv=>whnf
    refine⟨rfl,((i+1:Nat):Int),wr64 (by omega) (by omega),?_⟩
    exact⟨(i+1,y,l),⟨rfl,trivial⟩,⟨by simp at hi⊢;omega,hd',hm,u6.1,(u6.2.2 g (by have:=f1.size;omega)).trans (e5.blk hg4),hF6⟩,by show l.length<l.length+1;omega⟩
   ·have h6':¬m.seq<y.seq:=λh=>h6 (cmp_pos.2 h)
    rw[if_neg h6'] at hm
    conv=>whnf
    refine⟨rfl,((i+1:Nat):Int),wr64 (by omega) (by omega),?_⟩
    exact⟨(i+1,m,l),⟨rfl,trivial⟩,⟨by simp at hi⊢;omega,hd',hm,e5.blk hp4,e5.blk hg4,hF4.trans e5⟩,by show l.length<l.length+1;omega⟩
 ·have hl0:l=[]:=by have:¬(i:Int)<((x::r).length:Int):=h;exact Qm (by omega)
  rw[hl0] at hm
  unfold maxIt at hm
  conv=>whnf
  refine⟨itL m,rfl,CellsAt.at hp4,?_⟩
  conv=>whnf
  refine .k (itL m) (hg4) (.inr (by show H.size≤g;have:=f1.size;omega)) rfl rfl ?_
  intro H6 u6 _
  refine⟨?_⟩
  conv=>whnf
  refine⟨itL m,rfl,CellsAt.at u6.1,?_⟩
  show itV m=_
  rw[hm]
theorem s_next(l:List It){v:Value}{H:Heap}(hv:Rw H v (l.map itL))(hl:l.length≤1000000)(hq:∀x∈l, -1000000≤x.seq∧x.seq≤1000000000000000000):Spec prog 36 #[v] H nob λu _=>u=.int .i64 (nextSeq l):=by
 have hvl:∃ad cap,v=.slice ad l.length cap:=by
  obtain⟨ad,cap,h,_⟩:=hv.its
  exact⟨_,_,h⟩
 obtain⟨ad,cap,rfl⟩:=hvl
 cases l with
 |nil=>
  refine spx func36 ?_
  conv=>whnf
  refine⟨rfl,λh=>?_,λh=>absurd rfl h⟩
  exact⟨rfl⟩
 |cons x r=>
  have hm: -1000000≤(maxIt x r).seq∧(maxIt x r).seq≤1000000000000000000:=by
   rcases maxIt_mem x r with h|h
   ·rw[h];exact hq x (by simp)
   ·exact hq _ (by simp[h])
  have hn:nextSeq (x::r)=(maxIt x r).seq+1:=rfl
  generalize nextSeq (x::r)=n at hn⊢
  have hs:=s_maxf x r hv (by simp at hl;omega)
  generalize maxIt x r=m at hm hn hs
  refine spx func36 ?_
  conv=>whnf
  refine⟨rfl,λh=>absurd h (by show ¬(((x::r).length:Int)=0);simp;omega),λ_=>?_⟩
  conv=>whnf
  refine .q (hs) ?_
  rintro _ H1 rfl e1 _
  conv=>whnf
  intro H2 g f2 _
  have hg2:H2[g]? =some (.cells (itL it0).toArray 82 (0,0)):=f2.at
  conv=>whnf
  refine .k (itL m) (hg2) (.inr (by show H.size≤g;have:=f2.size;have:=e1.1;omega)) rfl rfl ?_
  intro H3 u3 _
  conv=>whnf
  refine⟨_,cel_of u3.1 rfl,?_⟩
  conv=>whnf
  refine⟨rfl,m.seq+1,wr64 (by omega) (by omega),?_⟩
  exact⟨Qf (Value.int .i64) hn.symm⟩
attribute [irreducible] gath gathF gathOne nextSeq maxIt
def gmul(a b:UInt8):UInt8:=UInt8.ofNat (Gf.mul a.toNat b.toNat)
theorem gmul_nat(a b:UInt8):(gmul a b).toNat=Gf.mul a.toNat b.toNat:=by
 have:=Gf.mul_lt (a:=a.toNat) b.toNat (Zo a)
 simp[gmul];omega
theorem s_mul(a b:UInt8)(H:Heap):Spec prog 318 #[byteV a,byteV b] H nob λu H'=>u=byteV (gmul a b)∧H=H':=by
 unfold byteV
 rw[gmul_nat]
 exact spec_same (by kernel_rfl) λw _=>(Gf.mul_any a.toNat b.toNat (Zo a) (Zo b) w).mono λe w' ⟨h1,h2⟩=>⟨h1,h2.symm⟩
theorem s_gadd(a b:UInt8)(H:Heap):Spec prog 319 #[byteV a,byteV b] H nob λu H'=>u=byteV (a^^^b)∧H=H':=by
 unfold byteV
 rw[UInt8.toNat_xor]
 exact spec_same (by kernel_rfl) λw _=>(Gf.add_any a.toNat b.toNat (Zo a) (Zo b) w).mono λe w' ⟨h1,h2⟩=>⟨h1,h2.symm⟩
def ginv(a:UInt8):UInt8:=if a=0 then 0 else UInt8.ofNat (Gf.divT 1 a.toNat)
def ginvE(a:UInt8):Int:=if a=0 then 1 else 0
theorem s_inv(a:UInt8)(H:Heap):Spec prog 246 #[byteV a] H nob λu _=>u=.tuple #[byteV (ginv a),.int .i64 (ginvE a)]:=by
 have hd:∀H,Spec prog 293 #[.int .u8 1,byteV a] H nob λu _=>u=.tuple #[byteV (ginv a),.int .i64 (ginvE a)]:=λH=>by
  refine spec_below (by kernel_rfl) λw _=>?_
  have ha:=Zo a
  refine Gf.divF_calls 1 a.toNat _ _ w ?_
  unfold Gf.divF ginv ginvE
  rw[if_pos (by omega)]
  by_cases h:a=0
  ·subst h;rfl
  ·have h0:a.toNat≠0:=λe=>h (by have:=Qf UInt8.ofNat e;simpa using this)
   rw[if_neg (by omega),if_neg (by omega),if_neg h,if_neg h]
   have hlt:Gf.divT 1 a.toNat<256:=Gf.ex_lt _
   simp
   omega
 generalize ginv a=r at hd⊢
 generalize ginvE a=e at hd⊢
 refine spx func246 ?_
 conv=>whnf
 refine .q (hd _) ?_
 rintro _ _ rfl _ _
 exact⟨rfl⟩
def vscale(s:By)(c:UInt8):By:=s.map λx=>gmul x c
theorem s_vscale(s:By)(hs:s.length≤1000000000000)(c:UInt8)(H:Heap):Spec prog 295 #[.string (S s),byteV c] H nob λu _=>u=.string (S (vscale s c)):=by
 have h:Gf.scaleB (S s) c.toNat=S (vscale s c):=by
  have h1:(Gf.scaleB (S s) c.toNat).data.toList=vscale s c:=by
   unfold Gf.scaleB Gf.sclRow
   rw[strOfNums_data,ZB]
   refine QQ λi=>?_
   rw[Qp,S_size]
   unfold vscale
   rw[Qp]
   by_cases hi:i<s.length
   ·rw[ZR hi]
    have hx:s[i]? =some s[i]:=by simp[hi]
    rw[hx]
    simp only[ZY,Function.comp,Gf.scl]
    have hS:(S s).data.toList=s:=rfl
    rw[hS,Ql,hx]
    simp[gmul,hi]
   ·rw[Qx (by simp;omega),Qx (by omega)]
    rfl
  exact(S_L _).symm.trans (Qf S h1)
 rw[←h]
 exact spec_below (by kernel_rfl) λw _=>Gf.scale_any (S s) c.toNat (by rw[S_size];omega) (Zo c) w
def byAt(s:By)(i:Nat):UInt8:=s.getD i 0
def accV:List By→Nat→UInt8
 |[],_=>0
 |r::rs,i=>byAt r i^^^accV rs i
def vsum(n:Nat)(rs:List By):By:=(List.range n).map (accV rs)
theorem accV_eq(i:Nat):∀(rs:List By),(accV rs i).toNat=Gf.accR (rs.map S) i
 |[]=>rfl
 |r::rs=>by
  show(byAt r i^^^accV rs i).toNat=Gf.byteAt (S r) i^^^Gf.accR (rs.map S) i
  rw[UInt8.toNat_xor,accV_eq i rs]
  rfl
theorem s_vsum(n:Nat)(rs:List By){v:Value}{H:Heap}(hv:Rd H v (strV rs))(h0:rs≠[])(hn:n≤1000000000000)(hl:rs.length≤1000000)(hr:∀r∈rs,n≤r.length):Spec prog 296 #[.int .i64 (n:Int),v] H nob λu _=>u=.string (S (vsum n rs)):=by
 have h:Gf.sumB n (rs.map S)=S (vsum n rs):=by
  have h1:(Gf.sumB n (rs.map S)).data.toList=vsum n rs:=by
   unfold Gf.sumB vsum
   rw[strOfNums_data,ZB]
   refine YC λi _=>?_
   simp only[Function.comp]
   rw[←accV_eq]
   simp
  exact(S_L _).symm.trans (Qf S h1)
 rw[←h]
 rcases hv with ⟨rfl,hx⟩|⟨b,o,cap,rfl,hc,hv⟩
 ·exact(h0 (by simpa [strV] using hx)).elim
 ·refine spec_below (by kernel_rfl) λw hw=>?_
  have hlen:(strV rs).length=(rs.map S).length:=by simp[strV]
  rw[hlen]
  refine Gf.sum_any n (rs.map S) ⟨b,o,none⟩ cap w (by omega) (by simp;omega) λj r hj=>?_
  rw[Qp] at hj
  cases hx:rs[j]? with
  |none=>rw[hx] at hj;cases hj
  |some x=>
   rw[hx] at hj
   simp at hj
   subst hj
   have hcl:=hv.get (j:=j) (v:=.string (S x)) (by simp[strV,hx])
   have hadd:(⟨b,o,none⟩:Addr).add j=⟨b,o+j,none⟩:=by
    unfold Addr.add
    by_cases h:j=0
    ·subst h;simp
    ·rw[if_neg h]
   refine⟨?_,?_,?_⟩
   ·rw[hadd,cel_w,hw];exact hcl
   ·rw[hw];exact cel_lt (a:=⟨b,o+j,none⟩) hcl
   ·rw[S_size];exact hr x (Qj hx)
def bytesV(s:By):List Value:=s.map byteV
def gathV(cs:By)(l:List By):By:=vsum (l.headD []).length (List.zipWith (λr c=>vscale r c) l cs)
def gathOk(cs:By)(l:List By):Prop:=cs.length=l.length∧l≠[]∧∀r∈l,r.length=(l.headD []).length
instance (cs:By)(l:List By):Decidable (gathOk cs l):=by unfold gathOk;exact inferInstance
def gatherV(cs:By)(l:List By):By×Int:=if gathOk cs l then(gathV cs l,0) else([],1)
def mixL(n k:Nat)(f g:Nat→Value):List Value:=(List.range n).map λj=>if j<k then f j else g j
theorem putL_one(v:Value):∀(l:List Value) (k:Nat),Vc.putL l k [v]=l.set k v
 |[],k=>by simp[Vc.putL]
 |x::r,0=>by simp[Vc.putL]
 |x::r,k+1=>by simp[Vc.putL,putL_one v r k]
theorem mixL_len(n k:Nat)(f g:Nat→Value):(mixL n k f g).length=n:=by simp[mixL]
theorem mixL_get{n k:Nat}{f g:Nat→Value}{j:Nat}(h:j<n):(mixL n k f g)[j]? =some (if j<k then f j else g j):=by simp[mixL,h]
theorem mixL_put{n k:Nat}{f g:Nat→Value}(hk:k<n){v:Value}(hv:v=f k):Vc.putL (mixL n k f g) k [v]=mixL n (k+1) f g:=by
 subst hv
 rw[putL_one]
 refine QQ λj=>?_
 rw[ZF,mixL_len]
 by_cases hj:j<n
 ·rw[mixL_get hj,mixL_get hj]
  by_cases e:k=j
  ·subst e;simp[hk]
  ·rw[if_neg e]
   by_cases h:j<k
   ·rw[if_pos h,if_pos (by omega)]
   ·rw[if_neg h,if_neg (by omega)]
 ·rw[Qx (by rw[mixL_len];omega),if_neg (by omega),Qx (by rw[mixL_len];omega)]
theorem mixL_set{n k:Nat}{f g:Nat→Value}{v:Value}(hk:k<n)(hv:v=f k):(mixL n k f g).set k v=mixL n (k+1) f g:=by
 rw[←putL_one];exact mixL_put hk hv
theorem oneCell_cells{v:Value}(h:oneCell v=true):v.cells.toList=[v]:=by
 cases v<;>first|rfl|(simp[oneCell] at h)
theorem StoreVC.one{c:Ctx}{H:Heap}{t:TypeId}{b o:Nat}{v:Value}{K:KK}{cs:List Value}{E:TypeId}(i:Nat)(hb:H[b]? =some (.cells cs.toArray E (0,0)))(hS:c.S b∨c.H0.size≤b)(ho:o=i)(hv:oneCell v=true)(ht:(match c.P.info? t with|some i=>Nat.beq i.size 1|none=>false)=true)(hi:i<cs.length)
  (k:∀H',Upd H H' b (.cells (cs.set i v).toArray E (0,0))→Frm c.S c.H0 H'→K undef H'):StoreVC c H t b o v K:=by
 subst ho
 exact .k (cs.set o v) hb hS (stoB_one ht (oneCell_cells hv) hv hi) (by rw[oneCell_cells hv,putL_one]) k
theorem mixL_all{n:Nat}{f g:Nat→Value}{l:List Value}(hl:l.length=n)(h:∀j v,l[j]? =some v→v=f j):mixL n n f g=l:=by
 refine QQ λj=>?_
 by_cases hj:j<n
 ·rw[mixL_get hj,if_pos hj]
  have hx:l[j]? =some (l[j]'(by omega)):=by simp[hl,hj]
  rw[hx,h j _ hx]
 ·rw[Qx (by rw[mixL_len];omega),Qx (by omega)]
theorem mixL_zero{n:Nat}{f:Nat→Value}{z:Value}:mixL n 0 f (λ_=>z)=zerosL n [z]:=by
 unfold mixL zerosL
 refine QQ λj=>?_
 have:(List.replicate n [z]).flatten=List.replicate n z:=by induction n with
  |zero=>rfl
  |succ n ih=>rw[QP,Ze,ih];rfl
 rw[this,Qp,Zk]
 by_cases hj:j<n
 ·rw[ZR hj,if_pos hj];simp
 ·rw[Qx (by simp;omega),if_neg hj];rfl
theorem Rd.bytes{H:Heap}{v:Value}{l:By}(h:Rd H v (bytesV l)):∃ad cap,v=.slice ad l.length cap∧∀i c,l[i]? =some c→∃b o,ad=some ⟨b,o,none⟩∧cel H ⟨b,o+i,none⟩=some (byteV c):=by
 rcases h with ⟨rfl,h⟩|⟨b,o,cap,rfl,_,hc⟩
 ·have:l=[]:=by simpa [bytesV] using h
  subst this
  exact⟨_,_,rfl,λi s hi=>by simp at hi⟩
 ·exact⟨some ⟨b,o,none⟩,cap,by simp[bytesV],λi s hi=>⟨b,o,rfl,hc.get (by simp[bytesV,hi])⟩⟩
theorem vscale_len(s:By)(c:UInt8):(vscale s c).length=s.length:=by simp[vscale]
theorem gathOk.row{cs:By}{l:List By}(h:gathOk cs l):∀r∈List.zipWith (λr c=>vscale r c) l cs,(l.headD []).length≤r.length:=λr hr=>by
 obtain⟨i,hi,rfl⟩:=Zh hr
 rw[List.getElem_zipWith,vscale_len]
 exact Z8 (h.2.2 _ (ZU _)).symm
theorem s_gath(cs:By)(l:List By){cv lv:Value}{H:Heap}(hcv:Rd H cv (bytesV cs))(hlv:Rd H lv (strV l))(hn:l.length≤1000)(hs:∀r∈l,r.length≤1000000000):
  Spec prog 249 #[cv,lv] H nob λu _=>u=.tuple #[.string (S (gatherV cs l).1),.int .i64 (gatherV cs l).2]:=by
 obtain⟨ac,cc,rfl,hcw⟩:=hcv.bytes
 obtain⟨al,cl,rfl,hlw⟩:=hlv.strs
 clear hcv hlv
 have hg:gatherV cs l=if gathOk cs l then(gathV cs l,0) else([],1):=rfl
 have hw:gathV cs l=vsum (l.headD []).length (List.zipWith (λr c=>vscale r c) l cs):=rfl
 generalize gatherV cs l=rd at hg⊢
 generalize gathV cs l=tot at hg hw
 by_cases h1:cs.length=l.length
 case neg=>
  rw[if_neg (λh=>h1 h.1)] at hg
  subst hg
  refine spx func249 ?_
  conv=>whnf
  refine⟨rfl,λ_=>?_,λh=>absurd h (by omega)⟩
  exact⟨rfl⟩
 cases l with
 |nil=>
  rw[if_neg (λh=>h.2.1 rfl)] at hg
  subst hg
  refine spx func249 ?_
  conv=>whnf
  refine⟨rfl,λh=>absurd (by have:cs.length=0:=h1;show((cs.length:Nat):Int)=((0:Nat):Int);omega) h,λ_=>?_⟩
  conv=>whnf
  refine⟨rfl,λ_=>?_,λh=>absurd rfl h⟩
  exact⟨rfl⟩
 |cons r0 r=>
  obtain⟨bl,ol,rfl,h0⟩:=hlw 0 r0 rfl
  have hlv:∀i s,(r0::r)[i]? =some s→cel H ⟨bl,ol+i,none⟩=some (.string (S s)):=λi s hi=>by
   obtain⟨b',o',e1,e2⟩:=hlw i s hi
   cases e1
   exact e2
  obtain⟨c0,cs,rfl⟩:∃c0 c,cs=c0::c:=by cases cs with
   |nil=>simp at h1
   |cons a b=>exact⟨a,b,rfl⟩
  obtain⟨bc,oc,rfl,hc0⟩:=hcw 0 c0 rfl
  have hcv:∀i s,(c0::cs)[i]? =some s→cel H ⟨bc,oc+i,none⟩=some (byteV s):=λi s hi=>by
   obtain⟨b',o',e1,e2⟩:=hcw i s hi
   cases e1
   exact e2
  clear hlw hcw
  have hnz:0<(r0::r).length:=by simp
  have hhd:(r0::r).headD []=r0:=rfl
  have hm0:(r0::r)[0]? =some r0:=rfl
  generalize r0::r=l at*
  generalize c0::cs=cs at*
  clear c0 hc0
  obtain⟨f,hf⟩:∃f:Nat→Value,∀j,f j=.string (S (vscale (l.getD j []) (cs.getD j 0))):=⟨_,λ_=>rfl⟩
  refine spx func249 ?_
  conv=>whnf
  refine⟨rfl,λh=>absurd (by show((cs.length:Nat):Int)=(l.length:Int);omega) h,λ_=>?_⟩
  conv=>whnf
  refine⟨rfl,λh=>absurd h (by show ¬((l.length:Int)=0);omega),λ_=>?_⟩
  conv=>whnf
  refine⟨l.length,l.length,rfl,rfl,Qd _,by omega,by show 16*l.length≤_;omega,rfl,?_⟩
  intro H1 b f1 _
  have hb1:H1[b]? =some (.cells (mixL l.length 0 f (λ_=>.string (S []))).toArray 9 (0,0)):=by rw[mixL_zero];exact f1.at
  have hbs:b=H.size:=f1.size.2
  conv=>whnf
  refine⟨Nat,λi=>[(24,.int .i64 (i:Int))],λi H'=>i≤l.length∧H'[b]? =some (.cells (mixL l.length i f (λ_=>.string (S []))).toArray 9 (0,0))∧(∀j,j<i→(l.getD j []).length=r0.length)∧Frm nob H H',λi=>l.length-i,
   ⟨0,⟨rfl,trivial⟩,Qk _,hb1,λj hj=>absurd hj (by omega),f1.e⟩,?_⟩
  rintro i H2 junk ⟨hi,hb2,hlen,hF⟩ F
  conv=>whnf
  refine⟨rfl,λh=>?_,λh=>?_⟩
  ·have h':i<l.length:=by have:(i:Int)<(l.length:Int):=h;omega
   have hx:l[i]? =some (l.getD i []):=by simp[h']
   have hy:cs[i]? =some (cs.getD i 0):=by simp[show i<cs.length by omega]
   conv=>whnf
   refine⟨i,rfl,h',?_⟩
   conv=>whnf
   refine⟨_,hF.cel (hlv i _ hx),?_⟩
   conv=>whnf
   refine⟨0,rfl,hnz,?_⟩
   conv=>whnf
   refine⟨_,hF.cel h0,?_⟩
   conv=>whnf
   refine⟨rfl,λh2=>?_,λh2=>?_⟩
   ·have hno:¬gathOk cs l:=λhk=>h2 (by
     show((S (l.getD i [])).size:Int)=((S r0).size:Int)
     rw[S_size,S_size,hk.2.2 _ (Qj hx),hhd])
    rw[if_neg hno] at hg
    subst hg
    exact⟨rfl⟩
   ·have h2':(l.getD i []).length=r0.length:=by have:((S (l.getD i [])).size:Int)=((S r0).size:Int):=h2;rw[S_size,S_size] at this;omega
    conv=>whnf
    refine⟨i,rfl,by show i<cs.length;omega,?_⟩
    conv=>whnf
    refine⟨_,hF.cel (hcv i _ hy),?_⟩
    conv=>whnf
    refine .q (s_vscale _ (Qb (hs _ (Qj hx)) (by omega)) _ _) ?_
    rintro _ H3 rfl e3 _
    conv=>whnf
    refine⟨i,rfl,h',?_⟩
    conv=>whnf
    refine .one (v:=.string (S (vscale (l.getD i []) (cs.getD i 0)))) i (e3.blk hb2) (.inr (by show H.size≤b;omega)) (Qr i) rfl rfl (by rw[mixL_len];exact h') ?_
    intro H4 u4 _
    rw[mixL_set h' (hf i).symm] at u4
    have hF4:Frm nob H H4:=⟨by rw[u4.2.1];exact(hF.trans e3).1,λk hk _=>(u4.2.2 k (by omega)).trans ((hF.trans e3).2 k hk id)⟩
    conv=>whnf
    refine⟨rfl,((i+1:Nat):Int),wr64 (by omega) (by omega),?_⟩
    exact⟨i+1,⟨rfl,trivial⟩,⟨h',u4.1,λj hj=>by rcases YS.1 hj with h|h;exact hlen j h;exact h▸h2',hF4⟩,by show l.length-(i+1)<l.length-i;omega⟩
  ·obtain rfl:i=l.length:=by have:¬(i:Int)<(l.length:Int):=h;omega
   have hok:gathOk cs l:=⟨h1,λe=>by rw[e] at hnz;simp at hnz,λr hr=>by
    obtain⟨j,hj,rfl⟩:=Zh hr
    have:=hlen j hj
    rw[hhd]
    simpa [hj] using this⟩
   rw[if_pos hok] at hg
   subst hg
   have hfin:mixL l.length l.length f (λ_=>.string (S []))=strV (List.zipWith (λr c=>vscale r c) l cs):=mixL_all (by simp[strV];omega) (λj v hv=>by
    have hj:j<l.length:=by
     have:=(Qe.1 hv).1
     simp[strV] at this
     omega
    have e1:l[j]? =some (l.getD j []):=by simp[hj]
    have e2:cs[j]? =some (cs.getD j 0):=by simp[show j<cs.length by omega]
    simp only[strV,Qp,Za,e1,e2] at hv
    exact(QS hv).symm.trans (hf j).symm)
   rw[hfin] at hb2
   have hrd:Rd H2 (.slice (some ⟨b,0,none⟩) l.length l.length) (strV (List.zipWith (λr c=>vscale r c) l cs)):=.inr ⟨b,0,l.length,by simp[strV];omega,by simp[strV];omega,CellsAt.at hb2⟩
   have hrow:=hok.row
   rw[hhd] at hrow hw
   conv=>whnf
   refine⟨0,rfl,hnz,?_⟩
   conv=>whnf
   refine⟨_,hF.cel h0,?_⟩
   have hsum:=s_vsum r0.length _ hrd (λe=>by have:=Qf List.length e;simp only[List.length_zipWith,Q0] at this;omega) (Qb (hs r0 (Qj hm0)) (by omega)) (by simp;omega) hrow
   rw[←hw] at hsum
   rw[show(r0.length:Int)=((S r0).size:Int) by rw[S_size]] at hsum
   conv=>whnf
   refine .q (hsum) ?_
   rintro _ _ rfl _ _
   exact⟨rfl⟩
attribute [irreducible] gmul ginv vscale vsum gatherV
end Go.Proofs.YtjambljmnifknaaGreatDoor.Vc
