/- Part 28 of the proof of TopAny: TopAny's walk · What is sealed opens as it was; what is written is read · What is split joins as it was · A new store opens. -/
import Derived.Test.YtjambljmnifknaaGreatDoorJ27
set_option maxRecDepth 100000
set_option maxHeartbeats 80000000
set_option linter.all false
open Go.Proofs.Tryz
namespace Go.Proofs.YtjambljmnifknaaGreatDoor.Vc
open Go Go.RowKit Tp
open Dk (Arr Dsk)
theorem join_ne{w:By}{r:List By}(h:w≠[]):Lib.join (w::r) [32]≠[]:=by
 unfold Lib.join List.intercalate
 cases r with
 |nil=>simpa using h
 |cons y r=>simp[List.intersperse,h]
theorem said_ne(e:Int){w:By}{r:List By}(h:w≠[]):saidV e (w::r)≠[]:=by
 unfold saidV
 split
 ·exact join_ne (by decide)
 ·exact join_ne h
theorem do_ne{k:By}{c:Cmd}(hc:(k,c)∈cmds)(a:Arr){o:Option St}(hne:c.needs=true→o≠none)(x:Arg):(doV c.fn a o x).1≠[]:=by
 simp only[cmds,QB,Zj,Z1,Prod.mk.injEq] at hc
 rcases hc with ⟨-,rfl⟩|⟨-,rfl⟩|⟨-,rfl⟩|⟨-,rfl⟩|⟨-,rfl⟩|⟨-,rfl⟩|⟨-,rfl⟩|⟨-,rfl⟩|⟨-,rfl⟩|⟨-,rfl⟩|⟨-,rfl⟩|⟨-,rfl⟩|⟨-,rfl⟩|⟨-,rfl⟩
 ·cases o with
  |none=>exact absurd rfl (hne rfl)
  |some s=>exact said_ne (updV s (putP x.ts)).1 (w:=okW) (r:=[]) (by decide)
 ·cases o with
  |none=>exact absurd rfl (hne rfl)
  |some s=>exact said_ne (updV s (delP x.ts)).1 (w:=okW) (r:=[]) (by decide)
 ·cases o with
  |none=>exact absurd rfl (hne rfl)
  |some s=>
   show(match dgetF (x.ts.headD []) s.ps with|none=>saidV 13 [valW,quoteV []]|some y=>saidV 0 [valW,quoteV y])≠[]
   cases dgetF (x.ts.headD []) s.ps with
   |none=>exact said_ne 13 (by decide)
   |some y=>exact said_ne 0 (by decide)
 ·cases o with
  |none=>exact absurd rfl (hne rfl)
  |some s=>exact said_ne 0 (w:=keysW) (r:=(s.ps.map (·.1)).map quoteV) (by decide)
 ·cases o with
  |none=>exact absurd rfl (hne rfl)
  |some s=>exact said_ne (syncV a s).1 (w:=okW) (r:=[]) (by decide)
 ·cases o with
  |none=>exact absurd rfl (hne rfl)
  |some s=>exact said_ne (mergeV a s).1 (w:=okW) (r:=[]) (by decide)
 ·cases o with
  |none=>exact absurd rfl (hne rfl)
  |some s=>exact said_ne 0 (w:=usedW) (r:=[itoaV ((textF s.l.size s.l.parts).length:Nat),pendW,itoaV (s.ws.length:Nat)]) (by decide)
 ·cases o with
  |none=>exact absurd rfl (hne rfl)
  |some s=>exact said_ne (scrubV a s.v).1.2 (w:=mendW) (r:=[itoaV (scrubV a s.v).1.1.1,lostW,itoaV (scrubV a s.v).1.1.2]) (by decide)
 ·exact said_ne (stOpenV a 1).1.2 (w:=okW) (r:=[]) (by decide)
 ·exact said_ne (if Dk.noDisk a (x.ns.headD 0) then 1 else 0) (w:=okW) (r:=[]) (by decide)
 ·exact said_ne (if Dk.noDisk a (x.ns.headD 0) then 1 else 0) (w:=okW) (r:=[]) (by decide)
 ·exact said_ne (Dk.acorruptE a (x.ns.headD 0) (x.ns.getD 1 0) (x.ts.headD []).length) (w:=okW) (r:=[]) (by decide)
 ·exact said_ne (if x.ns.headD 0<0 then 1 else 0) (w:=okW) (r:=[]) (by decide)
 ·exact said_ne 0 (w:=okW) (r:=[]) (by decide)
theorem say_ne(a:Arr)(o:Option St)(l:By):(sayV a o l).1≠[]:=by
 have h14:saidV 14 []≠[]:=by
  unfold saidV
  rw[if_pos (by decide)]
  exact join_ne (by decide)
 unfold sayV
 split
 ·exact h14
 ·rename_i c hc
  split
  ·exact h14
  ·split
   ·exact said_ne 0 (w:=closedW) (r:=[]) (by decide)
   ·rename_i hn
    exact do_ne (cmdF_mem hc) a (λh1 h2=>hn ⟨h1,by rw[h2];rfl⟩) _
theorem run_ne:∀(l:List By) (a:Arr) (o:Option St),∀s∈runL l a o,s≠[]
 |[],_,_,s,h=>by cases h
 |x::r,a,o,s,h=>by
  rcases QB.1 h with rfl|h
  ·exact say_ne _ _ _
  ·exact run_ne r _ _ s h
section
variable {c:Ctx}{ρ:Operand→Value}{o:Oper}{H:Heap}{K:KK}{t:TypeId}{x:Operand}
theorem raw_neB{n m:Nat}(b:Bool)(hP:c.P=prog)(ho:o.op=.binOp .neq 4 (.tmp n) (.tmp m) t)(hx:ρ (.tmp n)=.bool b)(hy:ρ (.tmp m)=.bool b)(hF:Frm c.S c.H0 H)(k:K (.bool false) H):RawVC c ρ o H K:=
 ⟨λw hw=>⟨_,w,.inl (by
  rw[hP]
  unfold execOp
  rw[ho]
  dsimp only
  rw[hx,hy]
  cases b
  ·exact val_run (show(do eqGuard .neq 4 (.tmp n) (.tmp m) (.bool false) (.bool false);binOp .neq 4 (.bool false) (.bool false):Sem Value).run prog w=.ok (.bool false) w by kernel_rfl)
  ·exact val_run (show(do eqGuard .neq 4 (.tmp n) (.tmp m) (.bool true) (.bool true);binOp .neq 4 (.bool true) (.bool true):Sem Value).run prog w=.ok (.bool false) w by kernel_rfl)),Amb.refl w,by rw[hw];exact hF,by rw[hw];exact k⟩⟩
end
theorem small_of{l:List By}{n m:Nat}(h:smallV l n m=true):l.length≤n∧∀s∈l,s.length≤m:=by
 unfold smallV at h
 simp only[QA,QD,Q7] at h
 exact h
theorem s_top(new_ok:∀c,tinyP c→∃s a2,smakeV (newA c (c.k*c.sh+42)) c 1=((some s,0),a2)){H:Heap}(hG:Gl H)(h8:8≤H.size)(c:Cf){v1 v2:Value}{ss ls:List By}(h1:Rd H v1 (strV ss))(h2:Rd H v2 (strV ls)):
  Spec prog 3 #[cfV c,v1,v2] H nob λu _=>u=.bool true:=by
 obtain⟨ad1,cap1,rfl,hw1⟩:=h1.vals
 obtain⟨ad2,cap2,rfl,hw2⟩:=h2.vals
 have e1:(strV ss).length=ss.length:=by simp[strV]
 have e2:(strV ls).length=ls.length:=by simp[strV]
 rw[e1] at h1⊢
 rw[e2] at h2⊢
 have hsm1:=λ{X:Heap} (F:Frm nob H X)=>(s_small (h1.q F) 60 500 (by decide)).imp (R':=λu H'=>u=.bool (smallV ss 60 500)∧True) λ_ _ h=>⟨h,trivial⟩
 have hsm2:=λ{X:Heap} (F:Frm nob H X)=>(s_small (h2.q F) 16 800 (by decide)).imp (R':=λu H'=>u=.bool (smallV ls 16 800)∧True) λ_ _ h=>⟨h,trivial⟩
 have hty:=λX=>(s_tiny c X).imp (R':=λu H'=>u=.bool (decide (tinyP c))∧True) λ_ _ h=>⟨h,trivial⟩
 have hwk:=λ{X:Heap} (F:Frm nob H X)=>s_works (hG.q F) (Qb h8 F.1)
 refine spx func3 ?_
 conv=>whnf
 intro H1 b1 f1 _
 have F1:=f1.e
 conv=>whnf
 refine .tb (hsm1 F1) (λ_ h=>h.elim) (λhb1=>?_) (λhb1=>?_)
 rotate_left
 ·rintro H2 _ g2 _
  conv=>whnf
  refine .q (hwk (F1.trans g2)) ?_
  rintro _ H3 rfl g3 _
  conv=>whnf
  exact⟨rfl⟩
 rintro H2 _ g2 _
 have F2:=F1.trans g2
 conv=>whnf
 refine .tb (hsm2 F2) (λ_ h=>h.elim) (λhb2=>?_) (λhb2=>?_)
 rotate_left
 ·rintro H3 _ g3 _
  conv=>whnf
  refine .q (hwk (F2.trans g3)) ?_
  rintro _ H4 rfl g4 _
  conv=>whnf
  exact⟨rfl⟩
 rintro H3 _ g3 _
 have F3:=F2.trans g3
 have hcb:H3[b1]? =some (.cells (cfL c).toArray 23 (0,0)):=g3.blk (g2.blk f1.at)
 conv=>whnf
 refine⟨cfL c,rfl,CellsAt.at hcb,?_⟩
 conv=>whnf
 refine .tb (hty _) (λ_ h=>h.elim) (λhb3=>?_) (λhb3=>?_)
 rotate_left
 ·rintro H4 _ g4 _
  conv=>whnf
  refine .q (hwk (F3.trans g4)) ?_
  rintro _ H5 rfl g5 _
  conv=>whnf
  exact⟨rfl⟩
 rintro H4 _ g4 _
 have F4:=F3.trans g4
 have hcb4:=g4.blk hcb
 have hc:=Zl hb3
 have hs1:=small_of hb1
 have hs2:=small_of hb2
 have hb:=hc.1.b
 have hkm:1≤c.k∧0≤c.m:=by have:=hc.1.1;unfold mayKM at this;simp at this;omega
 have hd6:c.k+c.m≤6:=hc.2.2.1
 have hcd:cfDisks c=c.k+c.m:=by unfold cfDisks;rw[if_pos hc.1]
 have hdk:=λX=>s_disks c X
 have hnw:=λX=>s_newA hc.1 hd6 600 (by decide) (cfDisks c) (cfSectors c) rfl rfl X
 have hna:=newA_ds c 600
 have hsmA:Sm 0 (newA c 600):=Sm.blanks _ _ _ (by decide)
 generalize newA c 600=na at hnw hna hsmA
 generalize hD:cfDisks c=D at hdk hnw hcd
 conv=>whnf
 refine .p nob (.take 0 (.take 2 (.one 1 (.one 3 (.one 4 (.take 5 (.take 6 (.take 7 (.take 8 (.take 9 .done)))))))))) (λ_ h=>h.elim) (by kernel_rfl) ?_
 conv=>whnf
 refine⟨id,cfL c,rfl,Zw _,CellsAt.at hcb4,?_⟩
 conv=>whnf
 refine⟨id,cfL c,rfl,Zw _,CellsAt.at hcb4,?_⟩
 conv=>whnf
 refine .q (hdk _) ?_
 rintro _ H5 rfl g5 _
 conv=>whnf
 refine .q (s_sectors c _) ?_
 rintro _ H6 rfl g6 _
 conv=>whnf
 refine .q (hnw _) ?_
 rintro _ H7 ⟨p,S7,rfl,ha7,hS7⟩ g7 _
 have F7:=((F4.trans g5).trans g6).trans g7
 have hcb7:=g7.blk (g6.blk (g5.blk hcb4))
 have z6:=((F4.trans g5).trans g6).1
 conv=>whnf
 refine⟨rfl,λh=>absurd rfl h,λ_=>?_⟩
 conv=>whnf
 refine .g [(1,.slice ad1 ss.length cap1),(2,.slice ad2 ls.length cap2),(3,ptr b1 0),(7,ptr p.ga 0),(9,.int .i64 0)] ⟨rfl,rfl,rfl,rfl,rfl,trivial⟩ λenv0 KL hKL=>?_
 have hbl1:=(Qa.1 hcb7).1
 refine⟨Nat×Arr,λx=>[(9,.int .i64 (x.1:Int))],λx H'=>x.1≤ss.length∧Sm 0 x.2∧x.2.ds.length=na.ds.length∧H'[b1]? =some (.cells (cfL c).toArray 23 (0,0))∧Frm nob H H'∧H6.size≤H'.size∧∃S',PaH p x.2 H' S'∧(∀k,S' k→H6.size≤k),λx=>ss.length-x.1,
  ⟨(0,na),⟨rfl,trivial⟩,Qk _,hsmA,rfl,hcb7,F7,g7.1,S7,ha7,hS7⟩,?_⟩
 rintro⟨j,a⟩ HA junk ⟨hj,hsm,hds,hbA,FA,hz6,SA,haA,hSA⟩ F
 dsimp only at hj hsm hds haA
 have hb1S:¬SA b1:=λe=>by have:=hSA b1 e;have:=(Qa.1 (g6.blk (g5.blk hcb4))).1;omega
 have hDp:2≤D∧D≤6:=by have:=hc.1.2.1;omega
 conv=>whnf
 refine⟨rfl,λh5=>?_,λh5=>?_⟩
 ·have h':j<ss.length:=by have:(j:Int)<(ss.length:Int):=h5;omega
  obtain⟨s,hy⟩:∃s,ss[j]? =some s:=⟨ss[j],Qc h'⟩
  obtain⟨ba,o,had,hcel⟩:=hw1 j (.string (S s)) (by simp[strV,hy])
  subst had
  have hj60:j<60:=by have:=hs1.1;omega
  have hco:=λ{X:Heap} (m n:Int) (hX:PaH p a X SA)=>s_acorrupt m n s (hsm.mono (Qk _)) hX
  have hba:¬SA ba:=λe=>by have:=hSA ba e;have:=cel_lt hcel;dsimp only at this;omega
  conv=>whnf
  refine .p SA (.take 0 (.take 1 (.take 2 (.take 5 (.take 6 (.take 9 (.take 10 (.take 11 (.take 12 (.one 3 (.take 4 (.one 7 (.take 8 (.one 13 .done)))))))))))))) (λk hk=>.inr (by have:=hSA k hk;show H.size≤k;omega)) (by kernel_rfl) ?_
  conv=>whnf
  refine⟨hb1S,cfL c,rfl,Zw _,CellsAt.at hbA,?_⟩
  conv=>whnf
  refine⟨hb1S,cfL c,rfl,Zw _,CellsAt.at hbA,?_⟩
  conv=>whnf
  refine⟨j,rfl,h',?_⟩
  conv=>whnf
  refine⟨hba,_,FA.cel hcel,?_⟩
  conv=>whnf
  refine .q (hdk _) ?_
  rintro _ HB rfl gB _
  conv=>whnf
  refine⟨rfl,by show ¬D=0;omega,_,rfl,?_⟩
  conv=>whnf
  refine .q (hdk _) ?_
  rintro _ HC rfl gC _
  conv=>whnf
  refine⟨rfl,by show ¬D=0;omega,_,rfl,?_⟩
  have haC:=(haA.q gB).q gC
  conv=>whnf
  refine .t (hco _ _ haC) (λk hk=>.inl hk) ?_
  rintro _ HD ⟨_,SD,haD,hsD⟩ gD _
  conv=>whnf
  refine⟨rfl,((j+1:Nat):Int),by rw[wr64 (by omega) (by omega)];omega,?_⟩
  have FC:=(FA.trans gB).trans gC
  have zA:=FA.1
  exact⟨(j+1,_),⟨rfl,trivial⟩,⟨h',hsm.corrupted _ _ _,(acorrupted_ds _ _ _ _).trans hds,gD.blkT (gC.blk (gB.blk hbA)) hb1S,FC.then gD λk hk=>.inr (by have:=hSA k hk;omega),by have:=gB.1;have:=gC.1;have:=gD.1;omega,SD,haD,λk hk=>(hsD k hk).elim (hSA k) λe=>by have:=gB.1;have:=gC.1;omega⟩,by show ss.length-(j+1)<ss.length-j;omega⟩
 ·have hds6:a.ds.length≤6:=by rw[hds,hna];omega
  have hop:=s_stopen haA hsm (by decide) hds6 7 (by decide)
  have her:=er_stopen a 7
  have hne:=stopen_ne a 7
  have heq:=λs=>@stopen_eq a 7 s
  have hSH:∀k,SA k→nob k∨H.size≤k:=λk hk=>.inr (by have:=hSA k hk;omega)
  have hGA:=λ{X:Heap} {T:Nat→Prop} (F:Frm T HA X) (hT:∀k,T k→SA k)=>FA.then F λk hk=>(hSH k (hT k hk))
  generalize stOpenV a 7=t at hop her hne heq
  obtain⟨⟨o2,e⟩,a2⟩:=t
  dsimp only at her hne heq
  have hrun:∀{X:Heap},Frm nob H X→∃s a2,Spec prog 12 #[cfV c,.slice ad2 ls.length cap2] X nob λu H'=>∃ad cap,u=.tuple #[.slice ad ls.length cap,.int .i64 0]∧Own H' X.size 9 1 (.slice ad ls.length cap) ls.length (strV (runL ls a2 (some s))):=λF=>by
   obtain⟨s,a2,hs⟩:=new_ok c hc
   exact⟨s,a2,s_run (hG.q F) (Qb h8 F.1) hc.1 hd6 hs (h2.q F) hs2.1 (λl hl=>Qb (hs2.2 l hl) (by decide))⟩
  refine hKL _ _ _ ?_
  cases o2 with
  |none=>
   have he:=hne rfl
   conv=>whnf
   refine .t (hop) (hSH) ?_
   rintro _ HB ⟨rfl,_,_,SB,haB,hsB⟩ gB GB
   have FB:=hGA gB (λ_ h=>h)
   have hbB:=gB.blkT hbA hb1S
   conv=>whnf
   refine⟨rfl,λ_=>?_,λh=>absurd h he⟩
   conv=>whnf
   refine raw_neB true rfl rfl rfl rfl GB ?_
   conv=>whnf
   refine⟨rfl,λh=>absurd h (by have:=her.1;(try dsimp only);omega),λ_=>?_⟩
   conv=>whnf
   refine⟨rfl,λh=>absurd h (by have:=her.2;(try dsimp only);omega),λ_=>?_⟩
   conv=>whnf
   refine⟨cfL c,rfl,CellsAt.at hbB,?_⟩
   refine Qh (hrun FB) λs3 hr=>Qh hr λa3 hr=>?_
   conv=>whnf
   refine .q (hr) ?_
   rintro _ HC ⟨ad,cap,rfl,ho⟩ gC _
   have FC:=FB.trans gC
   conv=>whnf
   refine⟨rfl,λh=>absurd rfl h,λ_=>?_⟩
   conv=>whnf
   refine⟨rfl,λh=>absurd rfl h,λ_=>?_⟩
   conv=>whnf
   refine .g [(12,.slice ad ls.length cap),(14,.int .i64 0)] ⟨rfl,rfl,trivial⟩ λenv1 KM hKM=>?_
   refine⟨Nat,λx=>[(14,.int .i64 (x:Int))],λx H'=>x≤ls.length∧Frm nob HC H',λx=>ls.length-x,⟨0,⟨rfl,trivial⟩,Qk _,Frm.refl _ _⟩,?_⟩
   rintro j2 HE junk2 ⟨hj2,FE⟩ FE'
   conv=>whnf
   refine⟨rfl,λh6=>?_,λh6=>?_⟩
   ·have h6':j2<ls.length:=by have:(j2:Int)<(ls.length:Int):=h6;omega
    have hrl:=runL_len ls a3 (some s3)
    obtain⟨t,hyt⟩:∃t,(runL ls a3 (some s3))[j2]? =some t:=⟨(runL ls a3 (some s3))[j2]'(by omega),Qc _⟩
    obtain⟨b7,o7,had7,hcel7,_⟩:=row_get ho (j:=j2) (v:=.string (S t)) (by simp[strV,hyt])
    subst had7
    have htn:=run_ne _ _ _ t (Qj hyt)
    conv=>whnf
    refine⟨j2,rfl,h6',?_⟩
    conv=>whnf
    refine⟨_,FE.cel hcel7,?_⟩
    conv=>whnf
    refine⟨λh=>absurd (S_inj (b:=[]) h) htn,λ_=>?_⟩
    conv=>whnf
    refine⟨rfl,((j2+1:Nat):Int),by rw[wr64 (by omega) (by omega)];omega,?_⟩
    exact⟨j2+1,⟨rfl,trivial⟩,⟨h6',FE⟩,by show ls.length-(j2+1)<ls.length-j2;omega⟩
   ·refine hKM _ _ _ ?_
    conv=>whnf
    refine .q (hwk (FC.trans FE)) ?_
    rintro _ HF rfl gF _
    conv=>whnf
    exact⟨rfl⟩
  |some s2=>
   have he:=heq s2 rfl
   subst he
   conv=>whnf
   refine .t (hop) (hSH) ?_
   rintro _ HB ⟨x2,SB,rfl,hSS,hsB⟩ gB GB
   have FB:=hGA gB (λ_ h=>h)
   have hbB:=gB.blkT hbA hb1S
   conv=>whnf
   refine⟨rfl,λh=>absurd rfl h,λ_=>?_⟩
   conv=>whnf
   refine raw_neB false rfl rfl rfl rfl GB ?_
   conv=>whnf
   refine⟨rfl,λh=>absurd h (by have:=her.1;(try dsimp only);omega),λ_=>?_⟩
   conv=>whnf
   refine⟨rfl,λh=>absurd h (by have:=her.2;(try dsimp only);omega),λ_=>?_⟩
   conv=>whnf
   refine⟨cfL c,rfl,CellsAt.at hbB,?_⟩
   refine Qh (hrun FB) λs3 hr=>Qh hr λa3 hr=>?_
   conv=>whnf
   refine .q (hr) ?_
   rintro _ HC ⟨ad,cap,rfl,ho⟩ gC _
   have FC:=FB.trans gC
   conv=>whnf
   refine⟨rfl,λh=>absurd rfl h,λ_=>?_⟩
   conv=>whnf
   refine⟨rfl,λh=>absurd rfl h,λ_=>?_⟩
   conv=>whnf
   refine .g [(12,.slice ad ls.length cap),(14,.int .i64 0)] ⟨rfl,rfl,trivial⟩ λenv1 KM hKM=>?_
   refine⟨Nat,λx=>[(14,.int .i64 (x:Int))],λx H'=>x≤ls.length∧Frm nob HC H',λx=>ls.length-x,⟨0,⟨rfl,trivial⟩,Qk _,Frm.refl _ _⟩,?_⟩
   rintro j2 HE junk2 ⟨hj2,FE⟩ FE'
   conv=>whnf
   refine⟨rfl,λh6=>?_,λh6=>?_⟩
   ·have h6':j2<ls.length:=by have:(j2:Int)<(ls.length:Int):=h6;omega
    have hrl:=runL_len ls a3 (some s3)
    obtain⟨t,hyt⟩:∃t,(runL ls a3 (some s3))[j2]? =some t:=⟨(runL ls a3 (some s3))[j2]'(by omega),Qc _⟩
    obtain⟨b7,o7,had7,hcel7,_⟩:=row_get ho (j:=j2) (v:=.string (S t)) (by simp[strV,hyt])
    subst had7
    have htn:=run_ne _ _ _ t (Qj hyt)
    conv=>whnf
    refine⟨j2,rfl,h6',?_⟩
    conv=>whnf
    refine⟨_,FE.cel hcel7,?_⟩
    conv=>whnf
    refine⟨λh=>absurd (S_inj (b:=[]) h) htn,λ_=>?_⟩
    conv=>whnf
    refine⟨rfl,((j2+1:Nat):Int),by rw[wr64 (by omega) (by omega)];omega,?_⟩
    exact⟨j2+1,⟨rfl,trivial⟩,⟨h6',FE⟩,by show ls.length-(j2+1)<ls.length-j2;omega⟩
   ·refine hKM _ _ _ ?_
    conv=>whnf
    refine .q (hwk (FC.trans FE)) ?_
    rintro _ HF rfl gF _
    conv=>whnf
    exact⟨rfl⟩
theorem putL_succ(k n:Nat):Tp.putL (k+1) n=UInt8.ofNat (n%256)::Tp.putL k (n/256):=by
 unfold Tp.putL
 rw[List.range_succ_eq_map,QX,ZB]
 congr 1
 ·simp[Tp.putF]
 ·refine YC λi _=>?_
  simp[Tp.putF,Nat.pow_succ',YZ]
theorem cutN_putL:∀k n,Tp.cutN (Tp.putL k n)=n%256^k
 |0,n=>by simp[Tp.putL,Tp.cutN,YP]
 |k+1,n=>by
  rw[putL_succ]
  show(UInt8.ofNat (n%256)).toNat+256*Tp.cutN (Tp.putL k (n/256))=_
  rw[cutN_putL k,Nat.pow_succ',Nat.mod_mul]
  simp
theorem putLn(k n:Nat):(Tp.putL k n).length=k:=by simp[Tp.putL]
def inR(n:Int)(k:Nat):Prop:=0≤n∧n.toNat<256^k
theorem putV_in{n:Int}{k:Nat}(h:inR n k):L (putV n k)=Tp.putL k n.toNat∧putE n k=0:=by
 have h0:¬n<0:=by have:=h.1;omega
 have h1:n.toNat/256^k=0:=ZT h.2
 unfold putV putE
 rw[if_neg (by rw[h1];omega),if_neg h0,if_neg (by rw[h1];omega),putB_L,L_S]
 exact⟨rfl,rfl⟩
theorem cut_put{n:Int}{k:Nat}(h:inR n k)(r:By):cutV (Tp.putL k n.toNat++r) k=n∧cutR (Tp.putL k n.toNat++r) k=r:=by
 have hl:=putLn k n.toNat
 unfold cutV cutR
 rw[if_neg (by rw[Qi,hl];omega),if_neg (by rw[Qi,hl];omega),Zv hl,List.drop_left' hl,cutN_putL,Zc h.2]
 exact⟨by have:=h.1;omega,rfl⟩
theorem take_put{t:By}(h:t.length<65536)(r:By):takeE (Tp.putL 2 t.length++t++r)=0∧takeT (Tp.putL 2 t.length++t++r)=t∧takeR (Tp.putL 2 t.length++t++r)=r:=by
 have hi:inR (t.length:Int) 2:=⟨by omega,by simpa using h⟩
 have hc:=cut_put hi (t++r)
 rw[Qn,←Qt] at hc
 have hok:takeOk (Tp.putL 2 t.length++t++r)=true:=by
  unfold takeOk cutE
  rw[hc.1,hc.2]
  simp[putLn]
  omega
 unfold takeE takeT takeR
 rw[hok,hc.1,hc.2]
 simp
theorem text_in{t:By}(h:t.length<65536):textV t=Tp.putL 2 t.length++t∧textE t=0:=by
 unfold textV textE textOk
 simp[h]
structure BkOk(b:Blk):Prop where
 ar:inR b.array 4
 di:inR b.disk 2
 pl:inR b.place 4
 ep:inR b.epoch 7
 tx:b.text.length<65536
theorem partsB_4(b:Blk):partsB b 4=L (putV b.array 4)++(L (putV b.disk 2)++(L (putV b.place 4)++(L (putV b.epoch 7)++[]))):=rfl
theorem errsB_4(b:Blk):errsB b 4=[putE b.array 4,putE b.disk 2,putE b.place 4,putE b.epoch 7]:=rfl
theorem BkOk.err{b:Blk}(h:BkOk b):sealE b=0:=by
 unfold sealE
 rw[errsB_4,(putV_in h.ar).2,(putV_in h.di).2,(putV_in h.pl).2,(putV_in h.ep).2,(text_in h.tx).2]
 rfl
theorem BkOk.seald{b:Blk}(h:BkOk b):∃q,sealV b=q++Tp.putL 4 (crcL q)∧q=mSPL++(Tp.putL 4 b.array.toNat++(Tp.putL 2 b.disk.toNat++(Tp.putL 4 b.place.toNat++(Tp.putL 7 b.epoch.toNat++(Tp.putL 2 b.text.length++b.text))))):=by
 have e:sealH b=mSPL++(Tp.putL 4 b.array.toNat++(Tp.putL 2 b.disk.toNat++(Tp.putL 4 b.place.toNat++(Tp.putL 7 b.epoch.toNat++(Tp.putL 2 b.text.length++b.text))))):=by
  unfold sealH
  rw[partsB_4,(putV_in h.ar).1,(putV_in h.di).1,(putV_in h.pl).1,(putV_in h.ep).1,(text_in h.tx).1]
  simp only[Qt,QT]
 refine⟨sealH b,?_,e⟩
 unfold sealV
 rw[if_pos h.err,(putV_in (n:=(crcL (sealH b):Nat)) ⟨by omega,by have:=crcL_lt (sealH b);simp at this⊢;omega⟩).1,Qn]
theorem BkOk.len{b:Blk}(h:BkOk b):(sealV b).length=26+b.text.length:=by
 obtain⟨q,e,rfl⟩:=h.seald
 rw[e]
 simp only[Qi,putLn]
 show 3+_+4=_
 omega
theorem pre_put(r:By):Lib.hasPrefix (mSPL++r) mSPL=true∧Lib.trimPrefix (mSPL++r) mSPL=r:=by
 have h:Lib.hasPrefix (mSPL++r) mSPL=true:=by unfold Lib.hasPrefix;simp
 refine⟨h,?_⟩
 unfold Lib.trimPrefix
 rw[if_pos h,YH]
theorem BkOk.opens{b:Blk}(h:BkOk b):blkOpen (sealV b)=(b,0):=by
 obtain⟨q,e,hq⟩:=h.seald
 have hlen:=h.len
 obtain⟨cr,hcr⟩:∃cr,Tp.putL 4 (crcL q)=cr:=⟨_,rfl⟩
 have hcl:cr.length=4:=by rw[←hcr,putLn]
 have hcv:cutV cr 4=(crcL q:Nat):=by
  have:=(cut_put (n:=(crcL q:Nat)) (k:=4) ⟨by omega,by have:=crcL_lt q;simp at this⊢;omega⟩ []).1
  rwa[Qn,QT,hcr] at this
 rw[hcr] at e
 have hr:∃r,sealV b=mSPL++r∧r=Tp.putL 4 b.array.toNat++(Tp.putL 2 b.disk.toNat++(Tp.putL 4 b.place.toNat++(Tp.putL 7 b.epoch.toNat++(Tp.putL 2 b.text.length++b.text++cr)))):=by
  refine⟨_,?_,rfl⟩
  rw[e,hq]
  simp only[Qt]
 obtain⟨r,hs,hr⟩:=hr
 have htk:(sealV b).take ((sealV b).length-4)=q:=by
  rw[e]
  exact Zv (by rw[Qi];omega)
 unfold blkOpen openV
 rw[if_neg (by rw[hlen];omega),htk]
 rw[hs,(pre_put r).1,(pre_put r).2,if_neg (by decide)]
 have n0:restB r 0=r:=rfl
 have c0:=cut_put h.ar (Tp.putL 2 b.disk.toNat++(Tp.putL 4 b.place.toNat++(Tp.putL 7 b.epoch.toNat++(Tp.putL 2 b.text.length++b.text++cr))))
 have c1:=cut_put h.di (Tp.putL 4 b.place.toNat++(Tp.putL 7 b.epoch.toNat++(Tp.putL 2 b.text.length++b.text++cr)))
 have c2:=cut_put h.pl (Tp.putL 7 b.epoch.toNat++(Tp.putL 2 b.text.length++b.text++cr))
 have c3:=cut_put h.ep (Tp.putL 2 b.text.length++b.text++cr)
 have r1:restB r 1=_:=(Qf (λs=>cutR s 4) hr).trans c0.2
 have r2:restB r 2=_:=(Qf (λs=>cutR s 2) r1).trans c1.2
 have r3:restB r 3=_:=(Qf (λs=>cutR s 4) r2).trans c2.2
 have r4:restB r 4=_:=(Qf (λs=>cutR s 7) r3).trans c3.2
 have v0:numC r 0=b.array:=(Qf (λs=>cutV s 4) hr).trans c0.1
 have v1:numC r 1=b.disk:=(Qf (λs=>cutV s 2) r1).trans c1.1
 have v2:numC r 2=b.place:=(Qf (λs=>cutV s 4) r2).trans c2.1
 have v3:numC r 3=b.epoch:=(Qf (λs=>cutV s 7) r3).trans c3.1
 have tk:=take_put h.tx cr
 unfold blkOf
 rw[r4,tk.1,tk.2.1,tk.2.2,v0,v1,v2,v3,hcl,hcv]
 simp
theorem BkOk.own{b:Blk}(h:BkOk b):blkOwn (sealV b) b.array b.disk b.place=(b,0):=by
 unfold blkOwn ownV
 rw[h.opens]
 simp
structure Va(a:Arr)(D N Z:Nat)(f:Nat→Nat→By):Prop where
 down:a.down=false
 left:a.left<0
 len:a.ds.length=D
 dsk:∀d,d<D→∃m,a.ds[d]? =some m∧m.gone=false∧m.sec.length=N∧m.size=Z∧∀n,n<N→L (Dk.latest m n)=f d n
def fset(f:Nat→Nat→By)(d n:Nat)(t:By):Nat→Nat→By:=λd' n'=>if d'=d∧n'=n then t else f d' n'
variable {a:Arr}{D N Z:Nat}{f:Nat→Nat→By}
theorem Va.congr{g:Nat→Nat→By}(h:Va a D N Z f)(e:∀d n,d<D→n<N→f d n=g d n):Va a D N Z g:=
 ⟨h.down,h.left,h.len,λd hd=>by
  obtain⟨m,h1,h2,h3,h4,h5⟩:=h.dsk d hd
  exact⟨m,h1,h2,h3,h4,λn hn=>(h5 n hn).trans (e d n hd hn)⟩⟩
theorem Va.no(h:Va a D N Z f){d:Nat}(hd:d<D):¬Dk.noDisk a (d:Int):=by unfold Dk.noDisk;have:=h.len;omega
theorem Va.dk(h:Va a D N Z f){d:Nat}(hd:d<D):a.ds[d]? =some (Dk.dk a (d:Int))∧(Dk.dk a (d:Int)).gone=false∧(Dk.dk a (d:Int)).sec.length=N∧(Dk.dk a (d:Int)).size=Z∧∀n,n<N→L (Dk.latest (Dk.dk a (d:Int)) n)=f d n:=by
 obtain⟨m,h1,h2⟩:=h.dsk d hd
 have e:Dk.dk a (d:Int)=m:=by unfold Dk.dk;rw[Qn,Ql,h1];rfl
 rw[e]
 exact⟨h1,h2⟩
theorem Va.check(h:Va a D N Z f){d n l:Nat}(hd:d<D)(hn:n<N)(hl:l≤Z):Dk.checkE (Dk.dk a (d:Int)) (n:Int) l=0:=by
 have hk:=h.dk hd
 unfold Dk.checkE
 rw[hk.2.1,hk.2.2.1,hk.2.2.2.1,if_neg (by decide),if_neg (by omega),if_neg (by omega)]
theorem Va.read(h:Va a D N Z f){d n:Nat}(hd:d<D)(hn:n<N):Dk.areadE a (d:Int) (n:Int)=0∧aR a (d:Int) (n:Int)=f d n:=by
 unfold Dk.areadE aR Dk.areadV Dk.readV
 rw[h.down,if_neg (by decide),if_neg (h.no hd),if_neg (by decide),if_neg (h.no hd),if_pos (h.check hd hn (by omega)),Qn]
 exact⟨h.check hd hn (by omega),(h.dk hd).2.2.2.2 n hn⟩
theorem latest_wrote(m:Dsk)(n n':Nat)(x:ByteArray)(h:Dk.checkE m (n:Int) x.size=0):Dk.latest (Dk.wrote m (n:Int) x) n'=if n'=n then x else Dk.latest m n':=by
 unfold Dk.latest Dk.wrote
 rw[if_pos h,Qn]
 dsimp only
 rw[Jc,List.reverse_singleton,List.singleton_append,Y4]
 dsimp only
 by_cases e:n'=n
 ·subst e
  simp
 ·have:((n:Int)==(n':Int))=false:=by simp;omega
  rw[this,if_neg e]
theorem Va.write(h:Va a D N Z f){d n:Nat}(hd:d<D)(hn:n<N)(s:By)(hs:s.length≤Z):Dk.awriteE a (d:Int) (n:Int) s.length=0∧Va (Dk.awrote a (d:Int) (n:Int) (S s)) D N Z (fset f d n s):=by
 have hl:a.left≠0:=by have:=h.left;omega
 have hk:=h.dk hd
 have hc:=h.check (l:=s.length) hd hn hs
 have hc':=hc
 rw[←S_size s] at hc'
 constructor
 ·unfold Dk.awriteE
  rw[h.down,if_neg (by decide),if_neg (h.no hd),if_neg (by rw[hc];decide),if_neg hl]
 ·unfold Dk.awrote
  rw[h.down,if_neg (by decide),if_neg (h.no hd),if_neg (by rw[hc'];decide),if_neg hl]
  refine⟨h.down,by show(if 0<a.left then a.left-1 else a.left)<0;have:=h.left;rw[if_neg (by omega)];exact this,by show(a.ds.set _ _).length=D;rw[Zb];exact h.len,λd' hd'=>?_⟩
  show ∃m,(a.ds.set (d:Int).toNat (Dk.wrote (Dk.dk a (d:Int)) (n:Int) (S s)))[d']? =some m∧_
  rw[Qn]
  by_cases e:d'=d
  ·subst e
   refine⟨_,by rw[Zn (by rw[h.len];exact hd)],?_⟩
   have hw:∀n',_:=λn'=>latest_wrote (Dk.dk a (d':Int)) n n' (S s) hc'
   refine⟨by unfold Dk.wrote;rw[if_pos hc'];exact hk.2.1,by unfold Dk.wrote;rw[if_pos hc'];exact hk.2.2.1,by unfold Dk.wrote;rw[if_pos hc'];exact hk.2.2.2.1,λn' hn'=>?_⟩
   rw[hw]
   unfold fset
   by_cases e2:n'=n
   ·rw[if_pos e2,if_pos ⟨rfl,e2⟩,L_S]
   ·rw[if_neg e2,if_neg (λx=>e2 x.2)]
    exact hk.2.2.2.2 n' hn'
  ·obtain⟨m,h1,h2,h3,h4,h5⟩:=h.dsk d' hd'
   refine⟨m,by rw[Zf (λx=>e x.symm)];exact h1,h2,h3,h4,λn' hn'=>?_⟩
   unfold fset
   rw[if_neg (λx=>e x.1)]
   exact h5 n' hn'
theorem kept_all(n:Nat):∀(ws:List (Nat×ByteArray)) (l:List ByteArray),n<l.length→(Dk.kept l ws (List.replicate ws.length true)).getD n ByteArray.empty=match ws.reverse.find? (λx=>(x.1:Int)==(n:Int)) with
  |some x=>x.2
  |none=>l.getD n ByteArray.empty
 |[],l,_=>by unfold Dk.kept;rfl
 |x::xs,l,hn=>by
  rw[Qo,QP]
  show(Dk.kept (l.set x.1 x.2) xs (List.replicate xs.length true)).getD n ByteArray.empty=_
  rw[kept_all n xs _ (by rw[Zb];exact hn),List.reverse_cons,List.find?_append]
  cases hf:xs.reverse.find? (λx=>(x.1:Int)==(n:Int)) with
  |some y=>rfl
  |none=>
   show(l.set x.1 x.2).getD n ByteArray.empty=match(none:Option (Nat×ByteArray)).or ([x].find? λx=>(x.1:Int)==(n:Int)) with
    |some x=>x.2
    |none=>l.getD n ByteArray.empty
   rw[Option.none_or,Y4]
   by_cases e:x.1=n
   ·have:((x.1:Int)==(n:Int))=true:=by simp;omega
    rw[this,e]
    simp[Ql,hn]
   ·have:((x.1:Int)==(n:Int))=false:=by simp;omega
    rw[this]
    simp[Ql,Zf e]
theorem Va.flush(h:Va a D N Z f):Dk.powerE a=0∧Va (Dk.aflushed a) D N Z f:=by
 refine⟨by unfold Dk.powerE;rw[h.down,if_neg (by decide)],?_⟩
 unfold Dk.aflushed
 rw[h.down,if_neg (by decide)]
 refine⟨rfl,h.left,by show(a.ds.map Dk.flushed).length=D;rw[Qv];exact h.len,λd hd=>?_⟩
 obtain⟨m,h1,h2,h3,h4,h5⟩:=h.dsk d hd
 have e:Dk.flushed m={m with wait:=[],sec:=Dk.kept m.sec m.wait (List.replicate m.wait.length true)}:=by
  unfold Dk.flushed Dk.crashed
  rw[h2,if_neg (by decide)]
 refine⟨Dk.flushed m,by show(a.ds.map Dk.flushed)[d]? =_;rw[Qp,h1];rfl,by rw[e];exact h2,by rw[e];exact(Dk.length_kept _ _ _).trans h3,by rw[e];exact h4,λn hn=>?_⟩
 rw[←h5 n hn,e]
 congr 1
 unfold Dk.latest
 exact kept_all n m.wait m.sec (by rw[h3];exact hn)
theorem alF_all(h:Va a D N Z f):∀q d,d+q≤D→alF a q d=(List.range' d q).map λj=>((j:Nat):Int)
 |0,d,_=>rfl
 |q+1,d,hq=>by
  have hk:=h.dk (d:=d) (by omega)
  have e:Dk.aalive a (d:Int)=true:=by unfold Dk.aalive;rw[if_neg (h.no (by omega)),hk.2.1];rfl
  unfold alF
  rw[if_pos e,alF_all h q (d+1) (by omega),ZH]
  rfl
theorem Va.alive(h:Va a D N Z f){m:Nat}(hm:m≤D):aliveL a (m:Int)=(List.range' 0 m).map λj=>((j:Nat):Int):=by
 unfold aliveL
 rw[Qn]
 exact alF_all h m 0 (by omega)
theorem Va.put(h:Va a D N Z f){v:Vol}{d n:Nat}{ep:Int}{t:By}(hb:BkOk (vputB v d n ep t))(hd:d<D)(hn:n<N)(ht:26+t.length≤Z):vputE a v d n ep t=0∧Va (vputA a v d n ep t) D N Z (fset f d n (sealV (vputB v d n ep t))):=by
 have hl:(sealV (vputB v d n ep t)).length≤Z:=by rw[hb.len];exact ht
 have hw:=h.write hd hn _ hl
 unfold vputE vputA
 rw[hb.err,if_neg (by decide),if_neg (by decide)]
 exact hw
theorem Va.get(h:Va a D N Z f){v:Vol}{d n:Nat}{ep:Int}{t:By}(hb:BkOk (vputB v d n ep t))(hd:d<D)(hn:n<N)(e:f d n=sealV (vputB v d n ep t)):vgetV a v d n=(vputB v d n ep t,true):=by
 have hr:=h.read hd hn
 have ho:blkOwn (sealV (vputB v d n ep t)) v.id d n=(vputB v d n ep t,0):=hb.own
 unfold vgetV
 rw[hr.1,hr.2,e,ho,if_neg (by decide)]
 rfl
def frow(f:Nat→Nat→By)(js:List Nat)(n:Nat)(g:Nat→By):Nat→Nat→By:=λd' n'=>if n'=n∧d'∈js then g d' else f d' n'
theorem frow_cons(f:Nat→Nat→By)(j:Nat)(js:List Nat)(n:Nat)(g:Nat→By)(d' n':Nat):frow (fset f j n (g j)) js n g d' n'=frow f (j::js) n g d' n':=by
 unfold frow fset
 by_cases h1:n'=n
 ·by_cases h2:d'∈js
  ·simp[h1,h2]
  ·by_cases h3:d'=j
   ·subst h3
    simp[h1]
   ·simp[h1,h2,h3]
 ·simp[h1]
theorem putF_ok{v:Vol}{n:Nat}{ep:Int}{l:List By}(hn:n<N):∀(js:List Nat) {a:Arr} {f:Nat→Nat→By},Va a D N Z f→(∀d∈js,d<D∧BkOk (vputB v d n ep (l.getD d []))∧26+(l.getD d []).length≤Z)→
  (putF v n ep l (js.map λj=>((j:Nat):Int)) a).1=0∧Va (putF v n ep l (js.map λj=>((j:Nat):Int)) a).2 D N Z (frow f js n λd=>sealV (vputB v d n ep (l.getD d [])))
 |[],a,f,h,_=>by
  unfold putF
  exact⟨rfl,h.congr λd n _ _=>by unfold frow;simp⟩
 |j::js,a,f,h,hj=>by
  obtain⟨h1,h2,h3⟩:=hj j (Qs ..)
  have hp:=h.put h2 h1 hn h3
  have hr:=putF_ok hn js hp.2 λd hd=>hj d (Qu _ hd)
  rw[QX]
  unfold putF
  rw[Qn,if_neg (by rw[hp.1];decide)]
  exact⟨hr.1,hr.2.congr λd' n' _ _=>frow_cons f j js n (λd=>sealV (vputB v d n ep (l.getD d []))) d' n'⟩
theorem putC_ok{v:Vol}{t:By}(hn:0<N):∀(js:List Nat) {a:Arr} {f:Nat→Nat→By},Va a D N Z f→(∀d∈js,d<D∧BkOk (vputB v d ((0:Nat):Int) 0 t)∧26+t.length≤Z)→
  (putC v t (js.map λj=>((j:Nat):Int)) a).1=0∧Va (putC v t (js.map λj=>((j:Nat):Int)) a).2 D N Z (frow f js 0 λd=>sealV (vputB v d ((0:Nat):Int) 0 t))
 |[],a,f,h,_=>by
  unfold putC
  exact⟨rfl,h.congr λd n _ _=>by unfold frow;simp⟩
 |j::js,a,f,h,hj=>by
  obtain⟨h1,h2,h3⟩:=hj j (Qs ..)
  have hp:=h.put h2 h1 hn h3
  have hr:=putC_ok hn js hp.2 λd hd=>hj d (Qu _ hd)
  rw[QX]
  unfold putC
  have e0:vputE a v (j:Int) 0 0 t=0:=hp.1
  rw[if_neg (by rw[e0];decide)]
  exact⟨hr.1,hr.2.congr λd' n' _ _=>frow_cons f j js 0 (λd=>sealV (vputB v d ((0:Nat):Int) 0 t)) d' n'⟩
theorem jF_ok{v:Vol}{n:Nat}{r:By}(hn:n<N):∀(js:List Nat) {a:Arr} {f:Nat→Nat→By},Va a D N Z f→(∀d∈js,d<D∧BkOk (vputB v d n v.seq r)∧26+r.length≤Z)→
  (jF v n r (js.map λj=>((j:Nat):Int)) (0,a)).1=0∧Va (jF v n r (js.map λj=>((j:Nat):Int)) (0,a)).2 D N Z (frow f js n λd=>sealV (vputB v d n v.seq r))
 |[],a,f,h,_=>by
  unfold jF
  exact⟨rfl,h.congr λd n _ _=>by unfold frow;simp⟩
 |j::js,a,f,h,hj=>by
  obtain⟨h1,h2,h3⟩:=hj j (Qs ..)
  have hp:=h.put h2 h1 hn h3
  have hr:=jF_ok hn js hp.2 λd hd=>hj d (Qu _ hd)
  rw[QX]
  unfold jF
  dsimp only
  rw[if_pos rfl,hp.1]
  exact⟨hr.1,hr.2.congr λd' n' _ _=>frow_cons f j js n (λd=>sealV (vputB v d n v.seq r)) d' n'⟩
end Go.Proofs.YtjambljmnifknaaGreatDoor.Vc
namespace Go.Proofs.YtjambljmnifknaaGreatDoor.Vc
open Go Go.RowKit Tp
open Dk (Arr Dsk)
theorem gmul_zero(x:UInt8):gmul x 0=0:=by
 have h:∀n:Fin 256,gmul (UInt8.ofNat n.val) 0=0:=by decide+kernel
 have:=h ⟨x.toNat,x.toNat_lt⟩
 simpa using this
theorem gmul_one(x:UInt8):gmul x 1=x:=by
 have h:∀n:Fin 256,gmul (UInt8.ofNat n.val) 1=UInt8.ofNat n.val:=by decide+kernel
 have:=h ⟨x.toNat,x.toNat_lt⟩
 simpa using this
theorem byAt_scale(r:By)(j:Nat):byAt (vscale r 0) j=0∧byAt (vscale r 1) j=byAt r j:=by
 unfold byAt vscale
 simp only[Ql,Qp,gmul_zero,gmul_one]
 cases r[j]? <;>simp
theorem acc_unit(i j:Nat):∀(l:List By) (s:Nat),accV (List.zipWith (λr c=>vscale r c) l ((List.range' s l.length).map λq=>if q=i then(1:UInt8) else 0)) j=if s≤i then byAt (l.getD (i-s) []) j else 0
 |[],s=>by
  show(0:UInt8)=_
  split<;>simp[byAt]
 |r::l,s=>by
  rw[Qo,ZH,QX,List.zipWith_cons_cons]
  show byAt (vscale r (if s=i then 1 else 0)) j^^^accV (List.zipWith (λr c=>vscale r c) l ((List.range' (s+1) l.length).map λq=>if q=i then(1:UInt8) else 0)) j=_
  rw[acc_unit i j l (s+1)]
  by_cases h1:s=i
  ·subst h1
   rw[if_pos rfl,if_neg (by omega),if_pos (Qd _),(byAt_scale r j).2,ZA]
   simp
  ·rw[if_neg h1,(byAt_scale r j).1]
   by_cases h2:s≤i
   ·rw[if_pos (by omega),if_pos h2]
    have:i-s=(i-(s+1))+1:=by omega
    rw[this]
    simp
   ·rw[if_neg (by omega),if_neg h2]
    simp
theorem hd_len{l:List By}{q:Nat}(h0:l≠[])(h:∀r∈l,r.length=q):(l.headD []).length=q:=by
 cases l with
 |nil=>exact absurd rfl h0
 |cons x r=>exact h x (Qs ..)
theorem gather_len{l:List By}{q:Nat}(h0:l≠[])(h:∀r∈l,r.length=q){cs:By}(hc:cs.length=l.length):(gatherV cs l).2=0∧(gatherV cs l).1.length=q:=by
 have hok:gathOk cs l:=⟨hc,h0,λr hr=>(h r hr).trans (hd_len h0 h).symm⟩
 unfold gatherV
 rw[if_pos hok]
 refine⟨rfl,?_⟩
 show(vsum _ _).length=q
 unfold vsum
 rw[Qv,Zr,hd_len h0 h]
theorem gather_unit{l:List By}{q i:Nat}(h:∀r∈l,r.length=q)(hi:i<l.length):(gatherV (unitR l.length i) l).1=l.getD i []:=by
 have h0:l≠[]:=λe=>by rw[e] at hi;exact absurd hi (by simp)
 have hc:(unitR l.length i).length=l.length:=by simp[unitR]
 have hok:gathOk (unitR l.length i) l:=⟨hc,h0,λr hr=>(h r hr).trans (hd_len h0 h).symm⟩
 have hx:l.getD i []=l[i]:=by simp[Ql,hi]
 have hq:(l.getD i []).length=q:=by rw[hx];exact h _ (ZU _)
 unfold gatherV
 rw[if_pos hok]
 show gathV _ _=_
 unfold gathV vsum
 rw[hd_len h0 h]
 refine Zp (by rw[Qv,Zr,hq]) λj h1 h2=>?_
 rw[Z9,Yj]
 have:=acc_unit i j l 0
 rw[←Yv,if_pos (Qk _),Nat.sub_zero] at this
 refine this.trans ?_
 unfold byAt
 rw[Ql,Qc h2]
 rfl
theorem spread_unit{l:List By}{q:Nat}(h:∀r∈l,r.length=q):spreadV (unitL l.length) l=l:=by
 unfold spreadV unitL
 rw[ZB]
 refine Zp (by simp) λj h1 h2=>?_
 rw[Z9,Yj]
 refine(gather_unit h h2).trans ?_
 rw[Ql,Qc h2]
 rfl
def decB(k m:Nat):Bool:=decide ((decV k m (numsF 0 (List.replicate (k+m) true))).1=unitL k)&&decide ((decV k m (numsF 0 (List.replicate (k+m) true))).2=0)
theorem dec_all{k m:Nat}(h:1≤k∧1≤m∧k+m≤6):decV k m (numsF 0 (List.replicate (k+m) true))=(unitL k,0):=by
 have ha:∀k m:Fin 6,(decide (1≤k.val∧1≤m.val∧k.val+m.val≤6)→decB k.val m.val=true):=by decide+kernel
 have:=ha ⟨k,by omega⟩ ⟨m,by omega⟩ (QO h)
 unfold decB at this
 simp only[QA,QD] at this
 exact Prod.ext this.1 this.2
theorem left_all:∀l:List By,leftF l (List.replicate l.length true)=l
 |[]=>rfl
 |x::l=>by
  rw[Qo,QP]
  show(if true=true then x::leftF l _ else _)=_
  rw[if_pos rfl,left_all l]
theorem even_all{l:List By}{q:Nat}(h:∀r∈l,r.length=q):evenV l=true:=by
 unfold evenV
 cases l with
 |nil=>rfl
 |cons x r=>
  have:hd (x::r)=x:=rfl
  rw[this,h x (Qs ..)]
  simp only[ZP,List.any_eq_false,QD,ne_eq,YR]
  exact h
theorem bad_all{q:Int}:∀{l:List By},(∀r∈l,(r.length:Int)=q)→∀bs,badF q l bs=false
 |[],_,bs=>by cases bs<;>rfl
 |x::l,h,[]=>rfl
 |x::l,h,b::bs=>by
  unfold badF
  have hx:¬(x.length:Int)≠q:=λe=>e (h x (Qs ..))
  rw[bad_all (λr hr=>h r (Qu _ hr)) bs,if_neg hx]
  split<;>rfl
theorem chunks_flat(q:Nat)(l:By):∀k,((List.range k).map (chunksL q l)).flatten=l.take (k*q)
 |0=>by simp
 |k+1=>by
  rw[ZC,Qy,Yf,chunks_flat q l k,List.map_singleton,List.flatten_singleton,Q6,List.take_add]
  rfl
theorem trim_zeros(n:Nat):Lib.trimB (List.replicate n 0) 0=[]:=by
 have h:∀n,(List.replicate n (0:UInt8)).dropWhile (·==0)=[]:=λn=>by
  induction n with
  |zero=>rfl
  |succ n ih=>rw[QP,List.dropWhile_cons_of_pos (by rfl),ih]
 unfold Lib.trimB Lib.trimRightB Lib.trimLeftB
 rw[List.reverse_replicate,h]
 rfl
structure Lay(c:Cf)(k m q:Nat):Prop where
 ok:cfOk c
 ek:c.k=(k:Int)
 em:c.m=(m:Int)
 eq:c.sh=(q:Int)
 b:1≤k∧1≤m∧k+m≤6∧8≤q∧q≤64
variable {c:Cf}{k m q:Nat}
theorem Lay.split(h:Lay c k m q){t:By}(ht:t.length≤4):∃data:List By,data.length=k∧(∀r∈data,r.length=q)∧data.flatten=splitD c t∧splitV c t=(spreadV (genV k m) data,0):=by
 have hb:=h.b
 have hcap:¬cfCap c<(t.length:Int):=by
  unfold cfCap
  rw[if_pos h.ok,h.ek,h.eq]
  have:(8:Int)≤(k:Int)*(q:Int):=by
   have:1*8≤k*q:=Q9 hb.1 hb.2.2.2.1
   exact_mod_cast this
  omega
 have hD:=splitD_len (data:=t) h.ok (by omega)
 rw[h.ek,h.eq] at hD
 have hDn:(splitD c t).length=k*q:=by exact_mod_cast hD
 have hq0:1≤q:=by omega
 have hch:chN (k*q) q=k:=by
  unfold chN
  rw[Ym,Y3 (by omega),ZT (by omega),ZK]
 refine⟨(List.range k).map (chunksL q (splitD c t)),by simp,λr hr=>?_,by rw[chunks_flat,←hDn,Zx],?_⟩
 ·obtain⟨j,hj,rfl⟩:=Qw.1 hr
  have hj:=Zt.1 hj
  rw[chunksL_len,hDn]
  unfold chLen
  have:(j+1)*q≤k*q:=QY q hj
  rw[Q6] at this
  omega
 ·have hrow:∀r∈(List.range k).map (chunksL q (splitD c t)),r.length=q:=λr hr=>by
   obtain⟨j,hj,rfl⟩:=Qw.1 hr
   have hj:=Zt.1 hj
   rw[chunksL_len,hDn]
   unfold chLen
   have:(j+1)*q≤k*q:=QY q hj
   rw[Q6] at this
   omega
  unfold splitV
  rw[if_neg (λe=>e h.ok),if_neg hcap,hDn,h.eq,Qn,hch,h.em]
  have hm:makeV ((((List.range k).map (chunksL q (splitD c t))).length:Nat):Int) (m:Int)=(genV k m,0):=by
   rw[Qv,Zr]
   unfold makeV
   rw[if_pos (by unfold mayKM;simp;omega),Qn,Qn]
  unfold encV
  rw[hm,if_neg (λe=>e rfl),even_all hrow,if_neg (by decide)]
theorem gen_row{k m:Nat}:(genV k m).length=k+m∧∀r∈genV k m,r.length=k:=by
 unfold genV unitL
 refine⟨by simp,λr hr=>?_⟩
 rcases Qz.1 hr with hr|hr<;>obtain⟨j,_,rfl⟩:=Qw.1 hr
 ·simp[unitR]
 ·simp[parR]
theorem Lay.rows(h:Lay c k m q){t:By}(ht:t.length≤4):(splitV c t).2=0∧(splitV c t).1.length=k+m∧(∀r∈(splitV c t).1,r.length=q)∧joinV c (splitV c t).1 (List.replicate (k+m) true)=(t,0):=by
 have hb:=h.b
 obtain⟨data,hl,hr,hf,hs⟩:=h.split ht
 have h0:data≠[]:=λe=>by rw[e] at hl;simp at hl;omega
 have hrow:∀r∈spreadV (genV k m) data,r.length=q:=λr hr'=>by
  unfold spreadV at hr'
  obtain⟨x,hx,rfl⟩:=Qw.1 hr'
  exact(gather_len h0 hr ((gen_row.2 x hx).trans hl.symm)).2
 have hlen:(spreadV (genV k m) data).length=k+m:=by unfold spreadV;rw[Qv];exact gen_row.1
 rw[hs]
 refine⟨rfl,hlen,hrow,?_⟩
 have htk:(spreadV (genV k m) data).take k=data:=by
  unfold spreadV genV
  rw[Qy,Zv (by simp[unitL])]
  have:=spread_unit hr
  rw[hl] at this
  exact this
 have hdec:=dec_all (k:=k) (m:=m) (by omega)
 have hleft:leftF (spreadV (genV k m) data) (List.replicate (k+m) true)=spreadV (genV k m) data:=by
  have:=left_all (spreadV (genV k m) data)
  rwa[hlen] at this
 have hsub:((k+m:Nat):Int)-(k:Int)=(m:Int):=by omega
 have hmay:mayKM (k:Int) (m:Int)=true:=by unfold mayKM;simp;omega
 have hde:decodeV (k:Int) (spreadV (genV k m) data) (List.replicate (k+m) true)=(data,0):=by
  unfold decodeV
  rw[hleft,hlen,hsub,Zz,if_neg (λe=>e rfl),if_neg (by omega),hmay,if_neg (by decide),even_all hrow,if_neg (by decide),if_neg (by omega),hdec,if_neg (λe=>e rfl),Qn,htk]
  dsimp only
  have:=spread_unit hr
  rw[hl] at this
  rw[this]
 have hin:inR (t.length:Int) 4:=⟨by omega,by simp;omega⟩
 have hc:=cut_put hin (t++List.replicate (c.k*c.sh-(4+(t.length:Int))).toNat 0)
 have hcd:cfDisks c=((k+m:Nat):Int):=by unfold cfDisks;rw[if_pos h.ok,h.ek,h.em];omega
 rw[Qn,←Qt] at hc
 unfold joinV
 rw[h.ek,hde]
 dsimp only
 rw[hf]
 unfold splitD
 rw[hc.1,hc.2,if_neg (λe=>e h.ok),hlen,hcd,if_neg (λe=>e rfl),if_neg (by decide),bad_all (λr hr=>by rw[h.eq,hrow r hr]),if_neg (by decide),if_neg (by decide),if_neg (by simp;omega),Qn,YH,trim_zeros,if_neg (by decide),List.take_left]
end Go.Proofs.YtjambljmnifknaaGreatDoor.Vc
namespace Go.Proofs.YtjambljmnifknaaGreatDoor.Vc
open Go Go.RowKit Tp
open Dk (Arr Dsk)
structure Lyt(c:Cf)(k m q s n:Nat):Prop where
 l:Lay c k m q
 es:c.sl=(s:Int)
 en:c.st=(n:Int)
 b:1≤s∧s≤4∧3≤n∧n≤9
variable {c:Cf}{k m q s n:Nat}{a:Arr}{f:Nat→Nat→By}
def VA(k m q s n:Nat)(a:Arr)(f:Nat→Nat→By):Prop:=Va a (k+m) (1+s+n) (k*q+42) f
def shF(c:Cf)(t:By)(d:Nat):By:=(splitV c t).1.getD d []
def Stp(c:Cf)(id:Int)(D s:Nat)(f:Nat→Nat→By)(i:Nat)(ep:Int)(t:By):Prop:=∀d,d<D→f d (1+s+i)=sealV ⟨id,(d:Int),((1+s+i:Nat):Int),ep,shF c t d⟩
theorem Lyt.stripe(h:Lyt c k m q s n){i:Nat}(hi:i<n):cfStripe c (i:Int)=((1+s+i:Nat):Int):=by
 unfold cfStripe
 rw[if_pos h.l.ok,h.es,h.en,if_pos (by omega)]
 omega
theorem Lyt.shL(h:Lyt c k m q s n){t:By}(ht:t.length≤4){d:Nat}(hd:d<k+m):(shF c t d).length=q:=by
 have hr:=h.l.rows ht
 unfold shF
 rw[Ql,Qc (by rw[hr.2.1];exact hd)]
 exact hr.2.2.1 _ (ZU _)
theorem Lyt.bk(h:Lyt c k m q s n){id ep:Int}(hid:inR id 4)(hep:inR ep 7){d pl:Nat}(hd:d<k+m)(hpl:pl≤100){t:By}(ht:t.length≤4000):BkOk ⟨id,(d:Int),(pl:Int),ep,t⟩:=by
 have:=h.l.b
 exact⟨hid,⟨by show(0:Int)≤(d:Int);omega,by show(d:Int).toNat<256^2;simp;omega⟩,⟨by show(0:Int)≤(pl:Int);omega,by show(pl:Int).toNat<256^4;simp;omega⟩,hep,by show t.length<65536;omega⟩
theorem stF_ok(h:Lyt c k m q s n)(hA:VA k m q s n a f){v:Vol}(hv:v.conf=c){i:Nat}(hi:i<n){ep:Int}(hid:inR v.id 4)(hep:inR ep 7){t:By}(ht:t.length≤4)(hS:Stp c v.id (k+m) s f i ep t):
  ∀r d,d+r≤k+m→stF a v ((1+s+i:Nat):Int) r d=(List.range' d r).map λj=>(shF c t j,ep)
 |0,d,_=>by unfold stF;rfl
 |r+1,d,hr=>by
  have hb:=h.b
  have hl:=h.l.b
  have hb':=h.bk hid hep (d:=d) (pl:=1+s+i) (by omega) (by omega) (t:=shF c t d) (by rw[h.shL ht (by omega)];omega)
  have hg:=Va.get hA (v:=v) (d:=d) (n:=1+s+i) (ep:=ep) (t:=shF c t d) hb' (by omega) (by omega) (hS d (by omega))
  unfold stF
  rw[stF_ok h hA hv hi hid hep ht hS r (d+1) (by omega),ZH,QX]
  congr 1
  unfold stOne
  rw[hg,if_pos rfl]
  show(if((shF c t d).length:Int)≠v.conf.sh then _ else _)=_
  rw[h.shL ht (by omega),hv,h.l.eq,if_neg (λe=>e rfl)]
  rfl
theorem Lyt.state(h:Lyt c k m q s n)(hA:VA k m q s n a f){v:Vol}(hv:v.conf=c){i:Nat}(hi:i<n){ep:Int}(hid:inR v.id 4)(hep:inR ep 7){t:By}(ht:t.length≤4)(hS:Stp c v.id (k+m) s f i ep t):
  (vstate a v (i:Int)).map (·.1)=(splitV c t).1∧(vstate a v (i:Int)).map (·.2)=List.replicate (k+m) ep:=by
 unfold vstate
 rw[hv,h.stripe hi,Va.len hA,stF_ok h hA hv hi hid hep ht hS (k+m) 0 (by omega),ZB,ZB]
 have hr:=h.l.rows ht
 refine⟨Zp (by simp[hr.2.1]) λj h1 h2=>?_,Zp (by simp) λj h1 h2=>by simp⟩
 rw[Z9,List.getElem_range']
 show shF c t _=_
 unfold shF
 rw[Ql,Qr,Nat.one_mul,Qc h2]
 rfl
theorem ofV_rep(ep:Int):∀r,ofV (List.replicate r ep) ep=List.replicate r true:=λr=>by
 unfold ofV
 simp
theorem cnt_rep:∀r,cntB (List.replicate r true)=r
 |0=>rfl
 |r+1=>by
  rw[QP]
  show(if true=true then 1 else 0)+cntB (List.replicate r true)=_
  rw[cnt_rep r,if_pos rfl]
  omega
theorem epF_stay(l:List Int)(k ep:Int):∀r,epF l k (List.replicate r ep) ep=ep
 |0=>rfl
 |r+1=>by
  rw[QP]
  unfold epF
  rw[if_neg (by omega)]
  exact epF_stay l k ep r
theorem ep_rep{r k:Nat}{ep:Int}(hr:1≤r)(hk:k≤r)(he:0≤ep):epV (List.replicate r ep) k=ep:=by
 obtain⟨r',rfl⟩:∃r',r=r'+1:=⟨r-1,by omega⟩
 unfold epV
 have e:epF (List.replicate (r'+1) ep) k (List.replicate (r'+1) ep) (-1)=epF (List.replicate (r'+1) ep) k (List.replicate r' ep) (if(-1:Int)<ep then(if(k:Int)≤(cntB (ofV (List.replicate (r'+1) ep) ep):Nat) then ep else -1) else -1):=rfl
 rw[e,ofV_rep,cnt_rep,if_pos (by omega),if_pos (by omega)]
 exact epF_stay _ _ _ _
theorem Lyt.reads(h:Lyt c k m q s n)(hA:VA k m q s n a f){v:Vol}(hv:v.conf=c){i:Nat}(hi:i<n){ep:Int}(hid:inR v.id 4)(hep:inR ep 7){t:By}(ht:t.length≤4)(hS:Stp c v.id (k+m) s f i ep t):vReadV a v (i:Int)=(t,0):=by
 have hl:=h.l.b
 have hs:=h.state hA hv hi hid hep ht hS
 have hr:=h.l.rows ht
 have hep0:=ep_rep (r:=k+m) (k:=k) (ep:=ep) (by omega) (by omega) hep.1
 have hpw:=(Va.flush hA).1
 have hE:lookE a v (i:Int)=0:=by
  unfold lookE
  rw[if_neg (by omega),hv,h.en,if_neg (by omega),hpw,if_neg (by decide),hs.2,h.l.ek,hep0,if_neg (by have:=hep.1;omega)]
 have hP:lookP a v (i:Int)=ep:=by
  unfold lookP
  rw[if_pos hE,hs.2,hv,h.l.ek,hep0]
 unfold vReadV
 rw[hE,if_neg (by decide),hP,hs.2,ofV_rep]
 unfold vjoin
 rw[hs.1,hv,hr.2.2.2,if_neg (λe=>e rfl)]
theorem Lyt.shards(h:Lyt c k m q s n)(hA:VA k m q s n a f){v:Vol}(hv:v.conf=c){i:Nat}(hi:i<n){ep:Int}(hid:inR v.id 4)(hep:inR ep 7){t:By}(ht:t.length≤4):
  (shardsV a v (i:Int) ep t ((List.range' 0 (k+m)).map λj=>((j:Nat):Int))).1=0∧∃g,VA k m q s n (shardsV a v (i:Int) ep t ((List.range' 0 (k+m)).map λj=>((j:Nat):Int))).2 g∧Stp c v.id (k+m) s g i ep t∧∀d p,p≠1+s+i→g d p=f d p:=by
 have hb:=h.b
 have hl:=h.l.b
 have hr:=h.l.rows ht
 have hq:1*q≤k*q:=QY q (by omega)
 have hp:=putF_ok (v:=v) (n:=1+s+i) (ep:=ep) (l:=(splitV c t).1) (by omega) (List.range' 0 (k+m)) hA λd hd=>by
  have hd':d<k+m:=by have:=ZN.1 hd;omega
  have hx:((splitV c t).1.getD d []).length=q:=h.shL ht hd'
  exact⟨hd',h.bk hid hep hd' (by omega) (by rw[hx];omega),by rw[hx];omega⟩
 have e:shardsV a v (i:Int) ep t ((List.range' 0 (k+m)).map λj=>((j:Nat):Int))=putF v ((1+s+i:Nat):Int) ep (splitV c t).1 ((List.range' 0 (k+m)).map λj=>((j:Nat):Int)) a:=by
  unfold shardsV
  rw[hv,hr.1,if_neg (by decide),h.stripe hi]
 rw[e]
 refine⟨hp.1,_,hp.2,λd hd=>?_,λd p hpn=>?_⟩
 ·unfold frow
  rw[if_pos ⟨rfl,ZN.2 ⟨d,hd,by omega⟩⟩]
  rfl
 ·unfold frow
  rw[if_neg (λx=>hpn x.1)]
theorem Lyt.stripes(h:Lyt c k m q s n){v:Vol}(hv:v.conf=c)(hid:inR v.id 4):∀(r i:Nat) {a:Arr} {f:Nat→Nat→By},VA k m q s n a f→i+r≤n→
  (stripesF v ((List.range' 0 (k+m)).map λj=>((j:Nat):Int)) r i a).1=0∧∃g,VA k m q s n (stripesF v ((List.range' 0 (k+m)).map λj=>((j:Nat):Int)) r i a).2 g∧(∀j,i≤j→j<i+r→Stp c v.id (k+m) s g j 0 [])∧∀d p,p<1+s+i→g d p=f d p
 |0,i,a,f,hA,_=>by
  unfold stripesF
  exact⟨rfl,f,hA,λj h1 h2=>absurd h2 (by omega),λ_ _ _=>rfl⟩
 |r+1,i,a,f,hA,hi=>by
  obtain⟨h0,g,hG,hS,hk⟩:=h.shards hA hv (i:=i) (by omega) hid (ep:=0) ⟨by decide,by decide⟩ (t:=[]) (by decide)
  obtain⟨h1,g',hG',hS',hk'⟩:=h.stripes hv hid r (i+1) hG (by omega)
  have e:stripesF v ((List.range' 0 (k+m)).map λj=>((j:Nat):Int)) (r+1) i a=stripesF v ((List.range' 0 (k+m)).map λj=>((j:Nat):Int)) r (i+1) (shardsV a v (i:Int) 0 [] ((List.range' 0 (k+m)).map λj=>((j:Nat):Int))).2:=by
   rw[stripesF]
   rw[if_neg (by rw[h0];decide)]
  rw[e]
  refine⟨h1,g',hG',λj h2 h3=>?_,λd p hp=>?_⟩
  ·by_cases hj:j=i
   ·subst hj
    intro d hd
    rw[hk' d _ (by omega)]
    exact hS d hd
   ·exact hS' j (by omega) (by omega)
  ·rw[hk' d p (by omega)]
   exact hk d p (by omega)
theorem Lyt.make(h:Lyt c k m q s n)(hA:VA k m q s n a f):(vmakeV a c 1).1=0∧∃g,VA k m q s n (vmakeV a c 1).2 g∧∀j,j<n→Stp c 1 (k+m) s g j 0 []:=by
 have hl:=h.l.b
 have hq:1*q≤k*q:=QY q (by omega)
 have hlen:=Va.len hA
 have hal:=Va.alive hA (m:=k+m) (Qd _)
 have hcd:cfDisks c=((k+m:Nat):Int):=by unfold cfDisks;rw[if_pos h.l.ok,h.l.ek,h.l.em];omega
 have hw:(cfW c).length=14:=by
  unfold cfW
  rw[if_pos h.l.ok]
  have hp:∀x:Nat,x≤100→(put2 (x:Int)).length=2:=λx hx=>by
   unfold put2
   rw[(putV_in (n:=(x:Int)) ⟨by omega,by simp;omega⟩).1,putLn]
  have hb:=h.b
  rw[h.l.ek,h.l.em,h.l.eq,h.en,h.es]
  unfold putsL
  simp[hp k (by omega),hp m (by omega),hp q (by omega),hp n (by omega),hp s (by omega),mCONF]
 have hc:=putC_ok (v:=⟨c,1,0⟩) (t:=cfW c) (by omega) (List.range' 0 (k+m)) hA λd hd=>by
  have hd':d<k+m:=by have:=ZN.1 hd;omega
  exact⟨hd',h.bk (id:=1) ⟨by decide,by decide⟩ (ep:=0) ⟨by decide,by decide⟩ hd' (by omega) (by rw[hw];omega),by rw[hw];omega⟩
 obtain⟨h0,g,hG,hS, -⟩:=h.stripes (v:=⟨c,1,0⟩) rfl ⟨by show(0:Int)≤1;decide,by show(1:Int).toNat<256^4;decide⟩ n 0 hc.2 (by omega)
 have hfl:=Va.flush hG
 unfold vmakeV
 rw[if_neg (λe=>e h.l.ok),hlen,hcd,if_neg (λe=>e rfl),if_neg (by decide),if_neg (by decide),Va.down hA,if_neg (by decide),hal]
 rw[if_neg (by simp),hc.1,if_neg (by decide),h.en,Qn,h0,if_neg (by decide)]
 exact⟨hfl.1,g,hfl.2,λj hj=>hS j (Qk _) (by omega)⟩
theorem it_one:itE ⟨0,0,[65]⟩=0∧(itW ⟨0,0,[65]⟩).length=15:=by decide+kernel
theorem Lyt.writes(h:Lyt c k m q s n)(hA:VA k m q s n a f)(hf:∀j,j<n→Stp c 1 (k+m) s f j 0 []):
  ∃a2 g,vwriteV a ⟨c,1,0⟩ 0 [65]=((0,a2),⟨c,1,1⟩)∧VA k m q s n a2 g∧Stp c 1 (k+m) s g 0 1 [65]∧∀j,1≤j→j<n→Stp c 1 (k+m) s g j 0 []:=by
 have hl:=h.l.b
 have hb:=h.b
 have hq:1*q≤k*q:=QY q (by omega)
 have hlen:=Va.len hA
 have hal:=Va.alive hA (m:=k+m) (Qd _)
 have hal2:=Va.alive hA (m:=m+1) (by omega)
 have hid1:inR (1:Int) 4:=⟨by decide,by decide⟩
 have hcap:¬cfCap c<(([65]:By).length:Int):=by
  unfold cfCap
  rw[if_pos h.l.ok,h.l.ek,h.l.eq]
  have:(8:Int)≤(k:Int)*(q:Int):=by
   have:1*8≤k*q:=Q9 hl.1 hl.2.2.2.1
   exact_mod_cast this
  show ¬_<(1:Int)
  omega
 have hsl:cfSlot c 0=((1:Nat):Int):=by
  unfold cfSlot
  rw[if_pos h.l.ok,if_neg (by decide),Int.zero_tmod]
  rfl
 have hj:=jF_ok (v:=⟨c,1,0⟩) (n:=1) (r:=itW ⟨0,0,[65]⟩) (by omega) (List.range' 0 (m+1)) hA λd hd=>by
  have hd':d<k+m:=by have:=ZN.1 hd;omega
  exact⟨hd',h.bk hid1 (ep:=0) ⟨by decide,by decide⟩ hd' (by omega) (by rw[it_one.2];omega),by rw[it_one.2];omega⟩
 have hf1:=Va.flush hj.2
 obtain⟨h0,g,hG,hS,hk⟩:=h.shards (v:=⟨c,1,0⟩) hf1.2 rfl (i:=0) (by omega) hid1 (ep:=1) ⟨by decide,by decide⟩ (t:=[65]) (by decide)
 have hf2:=Va.flush hG
 have hwr:wrS a ⟨c,1,0⟩ 0 [65]=(0,Dk.aflushed (shardsV (Dk.aflushed (jF ⟨c,1,0⟩ ((1:Nat):Int) (itW ⟨0,0,[65]⟩) ((List.range' 0 (m+1)).map λj=>((j:Nat):Int)) (0,a)).2) ⟨c,1,0⟩ ((0:Nat):Int) 1 [65] ((List.range' 0 (k+m)).map λj=>((j:Nat):Int))).2):=by
  unfold wrS
  dsimp only
  have e1:itE ⟨0,0,[65]⟩=0:=it_one.1
  have em:c.m+1=((m+1:Nat):Int):=by rw[h.l.em];rfl
  rw[hlen,hal,hsl,e1,em,hal2]
  have e2:flS (jF ⟨c,1,0⟩ ((1:Nat):Int) (itW ⟨0,0,[65]⟩) ((List.range' 0 (m+1)).map λj=>((j:Nat):Int)) (0,a))=(0,Dk.aflushed (jF ⟨c,1,0⟩ ((1:Nat):Int) (itW ⟨0,0,[65]⟩) ((List.range' 0 (m+1)).map λj=>((j:Nat):Int)) (0,a)).2):=by
   rw[flS,if_pos hj.1,hf1.1]
  rw[e2,shS,if_pos rfl]
  show flS (shardsV _ _ ((0:Nat):Int) 1 [65] _)=_
  rw[flS,if_pos h0,hf2.1]
 refine⟨_,g,?_,hf2.2,hS,λj h1 h2=>?_⟩
 ·unfold vwriteV
  dsimp only
  rw[if_neg (by decide),h.en,if_neg (by omega),if_neg hcap,Va.down hA,if_neg (by decide),hlen,hal,h.l.ek,h.l.em]
  have em:(m:Int)+1=((m+1:Nat):Int):=rfl
  rw[em,hal2,Qv,YJ,Qv,YJ,if_neg (by omega),if_neg (by omega),hwr]
  unfold volUp
  rfl
 ·intro d hd
  rw[hk d _ (by omega)]
  show frow f _ 1 _ d (1+s+j)=_
  unfold frow
  rw[if_neg (by omega)]
  exact hf j h2 d hd
theorem Lyt.parts(h:Lyt c k m q s n)(hA:VA k m q s n a f){v:Vol}(hv:v.conf=c)(hid:inR v.id 4)(hf:∀j,1≤j→j<n→Stp c v.id (k+m) s f j 0 []):∀(js:List Nat) (acc:List By),(∀j∈js,1+j<n)→lreads a v 1 js acc=(acc++List.replicate js.length [],0)
 |[],acc,_=>by unfold lreads;simp
 |j::js,acc,hj=>by
  have hr:=h.reads hA hv (i:=1+j) (hj j (Qs ..)) hid (ep:=0) ⟨by decide,by decide⟩ (t:=[]) (by decide) (hf (1+j) (by omega) (hj j (Qs ..)))
  have hr':vReadV a v (1+(j:Int))=([],0):=by rw[←hr];congr 1
  unfold lreads
  rw[hr',if_neg (by decide),h.parts hA hv hid hf js _ λx hx=>hj x (Qu _ hx)]
  simp[QP]
theorem text_nil{z:Int}(hz:0<z):∀r,textF z (List.replicate r [])=[]
 |0=>rfl
 |r+1=>by
  rw[QP]
  unfold textF
  rw[if_pos (by simpa using hz)]
theorem lputs_nil(a:Arr)(v:Vol)(l:Lg)(h:∀j,l.parts.getD j []=[]):∀js:List Nat,lputs [] js a v l=((0,a),v,l)
 |[]=>by unfold lputs;rfl
 |j::js=>by
  have e:lputV a v l j (partF l.size [] j)=((0,a),v,l):=by
   unfold lputV
   rw[if_pos (by rw[h j];unfold partF;simp)]
  unfold lputs
  rw[e,if_neg (λe=>e rfl)]
  exact lputs_nil a v l h js
theorem scan_nil:scanV []=([],0):=by decide+kernel
theorem Lyt.opens(h:Lyt c k m q s n)(hA:VA k m q s n a f){sq:Int}(h0:Stp c 1 (k+m) s f 0 1 [65])(hf:∀j,1≤j→j<n→Stp c 1 (k+m) s f j 0 []):∃x,sopenV a ⟨c,1,sq⟩=((some x,0),a):=by
 have hb:=h.b
 have hl:=h.l.b
 have hid1:inR (1:Int) 4:=⟨by decide,by decide⟩
 have hr:=h.reads (v:=⟨c,1,sq⟩) hA rfl (i:=0) (by omega) hid1 (ep:=1) ⟨by decide,by decide⟩ (t:=[65]) (by decide) h0
 have hr':vReadV a ⟨c,1,sq⟩ 0=([65],0):=hr
 have hcap:0<cfCap c:=by
  unfold cfCap
  rw[if_pos h.l.ok,h.l.ek,h.l.eq]
  have:(8:Int)≤(k:Int)*(q:Int):=by
   have:1*8≤k*q:=Q9 hl.1 hl.2.2.2.1
   exact_mod_cast this
  omega
 obtain⟨r,hrr⟩:∃r:Nat,((n:Int)-1).tdiv 2=(r:Int)∧1≤r∧1+r≤n:=by
  refine⟨(n-1)/2,?_,by omega,by omega⟩
  rw[Z6 (by omega)]
  omega
 have hlr:=h.parts (v:=⟨c,1,sq⟩) hA rfl hid1 hf (List.range r) [] λj hj=>by have:=Zt.1 hj;omega
 rw[Zr,QI] at hlr
 have hhalf:lhalfV a ⟨c,1,sq⟩ 0=(some ⟨1,(r:Int),cfCap c,List.replicate r []⟩,0):=by
  unfold lhalfV lopenV
  dsimp only
  rw[h.en,hrr.1,show(1:Int)+((0:Nat):Int)*(r:Int)=1 by simp,if_neg (by decide),if_neg (by omega),if_neg (by omega),if_neg (by omega),Qn,hlr,if_neg (λe=>e rfl)]
 have htx:textF (cfCap c) (List.replicate r [])=[]:=text_nil hcap r
 have hsix:sixF [65] [[65],[66]] 0=0:=by decide+kernel
 unfold sopenV
 dsimp only
 rw[h.en,if_neg (by omega),hr',if_neg (by decide)]
 dsimp only
 rw[hsix,if_neg (by decide)]
 show ∃x,sopenL a _ 0 (lhalfV a _ 0)=_
 rw[hhalf]
 unfold sopenL
 dsimp only
 rw[htx,scan_nil]
 have htr:ltruncV a ⟨c,1,sq⟩ ⟨1,(r:Int),cfCap c,List.replicate r []⟩ 0=((0,a),⟨c,1,sq⟩,⟨1,(r:Int),cfCap c,List.replicate r []⟩):=by
  unfold ltruncV
  dsimp only
  rw[htx,if_neg (by decide)]
  exact lputs_nil a _ _ (λj=>by
   show(List.replicate r ([]:By)).getD j []=[]
   rw[Ql,Zk]
   split<;>rfl) _
 rw[htr]
 unfold sopenT
 exact⟨_,rfl⟩
theorem new_ok:∀c,tinyP c→∃s a2,smakeV (newA c (c.k*c.sh+42)) c 1=((some s,0),a2):=by
 intro c ht
 have hok:=ht.1
 have hbb:=hok.2.2
 have hkm:=hok.1
 unfold mayKM at hkm
 simp only[QD] at hkm
 have hm0:=hok.2.1
 have h6:=ht.2
 obtain⟨k,hk⟩:∃k:Nat,c.k=(k:Int):=⟨c.k.toNat,by omega⟩
 obtain⟨m,hm⟩:∃m:Nat,c.m=(m:Int):=⟨c.m.toNat,by omega⟩
 obtain⟨q,hq⟩:∃q:Nat,c.sh=(q:Int):=⟨c.sh.toNat,by omega⟩
 obtain⟨s,hs⟩:∃s:Nat,c.sl=(s:Int):=⟨c.sl.toNat,by omega⟩
 obtain⟨n,hn⟩:∃n:Nat,c.st=(n:Int):=⟨c.st.toNat,by omega⟩
 have h:Lyt c k m q s n:=⟨⟨hok,hk,hm,hq,by omega⟩,hs,hn,by omega⟩
 have hA:VA k m q s n (newA c (c.k*c.sh+42)) λ_ _=>[]:=by
  have e:newA c (c.k*c.sh+42)=Dk.blanks (k+m) (1+s+n) (k*q+42):=by
   unfold newA
   rw[hk,hm,hq,hs,hn,show((k:Int)+(m:Int)).toNat=k+m by omega,show(1+(s:Int)+(n:Int)).toNat=1+s+n by omega,show((k:Int)*(q:Int)+42).toNat=k*q+42 by exact_mod_cast Qn (k*q+42)]
  rw[e]
  refine⟨rfl,by show(-1:Int)<0;decide,by simp[Dk.blanks],λd hd=>⟨Dk.blank (1+s+n) (k*q+42),by simp[Dk.blanks,Zk,hd],rfl,by simp[Dk.blank],rfl,λp hp=>?_⟩⟩
  unfold Dk.latest Dk.blank
  simp[Ql,Zk,hp]
  rfl
 generalize newA c (c.k*c.sh+42)=a at hA
 obtain⟨h0,g,hG,hS⟩:=h.make hA
 obtain⟨a2,g2,hw,hG2,hS0,hS2⟩:=h.writes hG hS
 obtain⟨x,hx⟩:=h.opens (sq:=1) hG2 hS0 hS2
 refine⟨x,a2,?_⟩
 unfold smakeV
 rw[if_neg (λe=>e hok),if_neg (by omega),h0,if_neg (by decide),hw,if_neg (λe=>e rfl)]
 exact hx
end Go.Proofs.YtjambljmnifknaaGreatDoor.Vc
