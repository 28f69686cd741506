/- Part 27 of the proof of TopAny: shell: Say · shell: New, Run · The reference's small functions; tiny; works · works: the program's run on one script, reckoned by the kernel. -/
import Derived.Test.YtjambljmnifknaaGreatDoorJ26
set_option maxRecDepth 100000
set_option maxHeartbeats 80000000
set_option linter.all false
open Go.Proofs.Tryz
namespace Go.Proofs.YtjambljmnifknaaGreatDoor.Vc
open Go Go.RowKit Tp
open Dk (Arr Dsk)
def cmdF(k:By):List (By×Cmd)→Option Cmd
 |[]=>none
 |x::l=>if k=x.1 then some x.2 else cmdF k l
theorem findQ_cm(k:By):∀(l:List (By×Cmd)) (i:Nat),(findQ k (cmL l) i).map (·.2)=(cmdF k l).map cmV∧(findQ k (cmL l) i).isSome=(cmdF k l).isSome
 |[],i=>⟨rfl,rfl⟩
 |x::l,i=>by
  show(if k=x.1 then some (i,cmV x.2) else findQ k (cmL l) (i+1)).map (·.2)=(if k=x.1 then some x.2 else cmdF k l).map cmV∧_
  show _∧(if k=x.1 then some (i,cmV x.2) else findQ k (cmL l) (i+1)).isSome=(if k=x.1 then some x.2 else cmdF k l).isSome
  split
  ·exact⟨rfl,rfl⟩
  ·exact findQ_cm k l (i+1)
theorem cmdF_mem{k:By}{c:Cmd}:∀{l:List (By×Cmd)},cmdF k l=some c→(k,c)∈l
 |x::l,h=>by
  unfold cmdF at h
  split at h
  ·rename_i hk;cases h;rw[hk];exact Qs ..
  ·exact Qu _ (cmdF_mem h)
def closedW:By:=[99,108,111,115,101,100]
def sayV(a:Arr)(o:Option St)(line:By):By×Arr×Option St:=
 match cmdF ((splitW line).headD []) cmds with
 |none=>(saidV 14 [],a,o)
 |some c=>match readV (wideV c.shape ((splitW line).length-1)) ((splitW line).drop 1) with
  |none=>(saidV 14 [],a,o)
  |some x=>if c.needs=true∧o.isNone=true then(saidV 0 [closedW],a,o) else doV c.fn a o x
attribute [local irreducible] cmds cmdF
theorem raw_lookupF{c:Ctx}{ρ:Operand→Value}{o:Oper}{H:Heap}{K:KK}{m x:Operand}{b:Nat}{l:List (By×Value)}{k:By}(v:Value)(f:Bool)(hv:((findQ k l 0).map (·.2)).getD (.agg #[.string ⟨#[]⟩,.bool false,.nilFunc])=v)(hf:(findQ k l 0).isSome=f)(hP:c.P=prog)(ho:o.op=.lookup 116 m x true)(hm:ρ m=.map (some b))(hx:ρ x=.string (Tp.S k))
  (hb:H[b]? =some (mapQ l)) (hF:Frm c.S c.H0 H) (hk:K (.tuple #[v,.bool f]) H):RawVC c ρ o H K:=raw_lookupQ hP ho hm hx hb hF (by rw[hv,hf];exact hk)
section
variable {i:Nat}{p:Pl}{gz:Nat}{o:SO}{a:Arr}{H:Heap}{S:Nat→Prop}
theorem words_rd{H:Heap}{b:Nat}{ws:List By}(hb:H[b]? =some (.cells (strV ws).toArray 9 (0,0))):Rd H (.slice (some ⟨b,if 1=ws.length then 0 else 0+mulS 1 1,none⟩) (ws.length-1) (ws.length-1)) (strV (ws.drop 1)):=by
 have hl:(strV (ws.drop 1)).length=ws.length-1:=by simp[strV]
 refine .inr ⟨b,_,ws.length-1,by rw[hl],by rw[hl];exact Qd _,?_⟩
 split
 ·rename_i h1
  have:ws.drop 1=[]:=Qm (by simp;omega)
  rw[this]
  trivial
 ·have hc:=CellsAt.at (cs:=strV ws) hb
  have:=hc.cut 1 (ws.length-1)
  have he:((strV ws).drop 1).take (ws.length-1)=strV (ws.drop 1):=by
   rw[QU (by simp[strV])]
   simp[strV]
  rw[he] at this
  exact this
theorem s_say(h:Ses i p gz o a H S)(hi:i≤17)(line:By)(hl:line.length≤65535):Spec prog 23 #[ptr gz 0,.string (Tp.S line)] H (TW gz S o) (DoR i p gz (TW gz S o) H (sayV a (o.map (·.2)) line)):=by
 obtain⟨tot,htot⟩:∃t,sayV a (o.map (·.2)) line=t:=⟨_,rfl⟩
 rw[htot]
 unfold sayV at htot
 have hsp:=s_splitw h.gl line (by omega)
 have hle:=splitW_le line
 generalize splitW line=ws at htot hsp hle
 have hlk:=findQ_cm (ws.headD []) cmds 0
 have hmem:=λc=>@cmdF_mem (ws.headD []) c cmds
 have hcm:=λX=>s_cmds X
 have hlt:=h.ltT
 have hgl:=h.lt
 have end0:∀{X:Heap} {w:By},Frm nob H X→(w,a,o.map (·.2))=tot→DoR i p gz (TW gz S o) H tot (.string (Tp.S w)) X:=λe ht=>by subst ht;exact⟨rfl,o,S,rfl,(h.q e).up (by omega),Sub.refl _ _⟩
 generalize cmdF (ws.headD []) cmds=oc at htot hlk hmem
 generalize cmds=cl at hlk hcm
 cases oc with
 |none=>
  have hlv:((findQ (ws.headD []) (cmL cl) 0).map (·.2)).getD (.agg #[.string ⟨#[]⟩,.bool false,.nilFunc])=.agg #[.string ⟨#[]⟩,.bool false,.nilFunc]:=by rw[hlk.1];rfl
  have hlf:(findQ (ws.headD []) (cmL cl) 0).isSome=false:=hlk.2
  dsimp only at htot
  refine spx func23 ?_
  conv=>whnf
  refine .q (hsp) ?_
  rintro _ H1 ⟨b0,rfl,hb0,hcells,hpos⟩ e1 _
  have hc0:cel H1 ⟨b0,0,none⟩=some (.string (Tp.S (ws.headD []))):=cel_of hcells (by
   match ws,hpos with
   |w::r,_=>rfl)
  conv=>whnf
  refine .g (α:=Nat) (λx=>[(0,ptr gz 0),(5,.slice (some ⟨b0,0,none⟩) ws.length ws.length),(6,ptr x 0),(7,.bool false)]) (λx H'=>Frm nob H1 H'∧H'[x]? =some (.cells #[(.string ⟨#[]⟩),(.bool false),.nilFunc] 114 (0,0))) ?_ ?_
  ·intro K' hK'
   conv=>whnf
   refine .p nob (.take 1 (.take 2 (.take 3 (.two 0 (.two 4 (.take 5 (.take 6 (.take 7 (.one 8 (.one 9 (.take 10 .done)))))) 8 (.one 4 (.take 5 (.take 6 (.take 7 (.one 9 (.take 10 .done))))))) 8 (.one 0 (.one 4 (.take 5 (.take 6 (.take 7 (.one 9 (.take 10 .done))))))))))) (λ_ h=>h.elim) (by kernel_rfl) ?_
   conv=>whnf
   refine⟨0,rfl,hpos,?_⟩
   conv=>whnf
   refine⟨id,_,hc0,?_⟩
   conv=>whnf
   refine⟨?_,?_⟩
   ·conv=>whnf
    refine .q (hcm _) ?_
    rintro _ H2 ⟨bm,rfl,hbm,hmap⟩ e2 F2
    conv=>whnf
    refine⟨?_,?_⟩
    ·conv=>whnf
     refine raw_lookupF (.agg #[(.string ⟨#[]⟩),(.bool false),.nilFunc]) false hlv hlf rfl rfl rfl rfl hmap F2 ?_
     conv=>whnf
     intro H3 x f3 _
     conv=>whnf
     refine .k ([(.string ⟨#[]⟩),(.bool false),.nilFunc]) (f3.at) (.inr (by have:=f3.1;have:=e2.1;show H1.size≤x;omega)) rfl rfl ?_
     intro H4 u4 _
     conv=>whnf
     exact hK' x _ H4 ⟨rfl,rfl,rfl,rfl,trivial⟩ ⟨(e2.trans f3.e).then u4.e λk (hk:k=x)=>.inr (by have:=f3.1;have:=e2.1;omega),u4.1⟩
    ·conv=>whnf
     intro H3 x f3 F3
     conv=>whnf
     refine raw_lookupF (.agg #[(.string ⟨#[]⟩),(.bool false),.nilFunc]) false hlv hlf rfl rfl rfl rfl (f3.e.blk hmap) F3 ?_
     conv=>whnf
     refine .k ([(.string ⟨#[]⟩),(.bool false),.nilFunc]) (f3.at) (.inr (by have:=f3.1;have:=e2.1;show H1.size≤x;omega)) rfl rfl ?_
     intro H4 u4 _
     conv=>whnf
     exact hK' x _ H4 ⟨rfl,rfl,rfl,rfl,trivial⟩ ⟨(e2.trans f3.e).then u4.e λk (hk:k=x)=>.inr (by have:=f3.1;have:=e2.1;omega),u4.1⟩
   ·conv=>whnf
    intro H2 x f2 _
    conv=>whnf
    refine .q (hcm _) ?_
    rintro _ H3 ⟨bm,rfl,hbm,hmap⟩ e3 F3
    conv=>whnf
    refine raw_lookupF (.agg #[(.string ⟨#[]⟩),(.bool false),.nilFunc]) false hlv hlf rfl rfl rfl rfl hmap F3 ?_
    conv=>whnf
    refine .k ([(.string ⟨#[]⟩),(.bool false),.nilFunc]) (e3.blk f2.at) (.inr (by have:=f2.1;show H1.size≤x;omega)) rfl rfl ?_
    intro H4 u4 _
    conv=>whnf
    exact hK' x _ H4 ⟨rfl,rfl,rfl,rfl,trivial⟩ ⟨(f2.e.trans e3).then u4.e λk (hk:k=x)=>.inr (by have:=f2.1;omega),u4.1⟩
  intro x e0 H2 hQ
  have F2:=e1.trans hQ.1
  conv=>whnf
  intro H3 ab f3 _
  conv=>whnf
  refine .p nob (.take 0 (.take 1 (.take 2 (.take 3 (.take 4 (.take 5 (.take 6 (.take 7 (.take 9 (.take 10 (.one 8 (.one 11 (.take 12 (.take 13 (.take 14 .done))))))))))))))) (λ_ h=>h.elim) (by kernel_rfl) ?_
  have F3:=F2.trans f3.e
  conv=>whnf
  refine .q (s_said (h.gl.q F3) 14 (by decide) (by decide) (ws:=[]) (.inl ⟨rfl,rfl⟩) (by decide) (by decide)) ?_
  rintro _ H4 rfl e4 _
  conv=>whnf
  exact⟨end0 (F3.trans e4) htot⟩
 |some c=>
  have hm:=hmem c rfl
  obtain⟨sh,nd,fn⟩:=c
  dsimp only at htot
  have hlv':∀n,nd=n→((findQ (ws.headD []) (cmL cl) 0).map (·.2)).getD (.agg #[.string ⟨#[]⟩,.bool false,.nilFunc])=.agg #[.string (Tp.S sh),.bool n,.func (.func fn) #[] #[]]:=λn hn=>by rw[hlk.1,←hn];rfl
  have hlf:(findQ (ws.headD []) (cmL cl) 0).isSome=true:=hlk.2
  have hwd:=λX=>s_wide sh (ws.length-1) (by omega) X
  have hws:∀w∈ws.drop 1,w.length≤65535:=λw hw=>Qb (hle.1 w (Yw hw)) hl
  have hrd0:=λ{X:Heap} {ab:Nat} {v:Value} (hG:Gl X) (hab:X[ab]? =some (.cells #[.slice none 0 0,.slice none 0 0,.slice none 0 0] 119 (0,0))) (h8:8≤ab) (hv:Rd X v (strV (ws.drop 1))) (hvb:∀k,v.ownBlock=some k→k≠ab)=>
   s_read (shape:=wideV sh (ws.length-1)) hG hab h8 hv hvb (by simp;omega) (λw hw=>Qb (hws w hw) (by decide))
  have hdo0:=λ{X:Heap} (hX:Ses i p gz o a X S) {Bq:Nat} (q:AgP) {y:Arg} (hy:ArgV X Bq q y) (hB:∀k,TW gz S o k→k<Bq) (hr:readV (wideV sh (ws.length-1)) (ws.drop 1)=some y) (hne:nd=true→o≠none)=>s_do hX hi hm q hy hB hr hws (by simp;omega) hne
  generalize readV (wideV sh (ws.length-1)) (ws.drop 1)=rd at htot hrd0 hdo0
  cases rd with
  |none=>
   have hrd:=λ{X:Heap} {ab:Nat} {v:Value} (hG:Gl X) (hab:X[ab]? =some (.cells #[.slice none 0 0,.slice none 0 0,.slice none 0 0] 119 (0,0))) (h8:8≤ab) (hv:Rd X v (strV (ws.drop 1))) (hvb:∀k,v.ownBlock=some k→k≠ab)=>
    (hrd0 hG hab h8 hv hvb).imp (R':=λu _=>u=.bool false∧True) λu _ h=>⟨h.1,trivial⟩
   clear hrd0 hdo0
   dsimp only at htot
   have hlv:=hlv' nd rfl
   refine spx func23 ?_
   conv=>whnf
   refine .q (hsp) ?_
   rintro _ H1 ⟨b0,rfl,hb0,hcells,hpos⟩ e1 _
   have hc0:cel H1 ⟨b0,0,none⟩=some (.string (Tp.S (ws.headD []))):=cel_of hcells (by
    match ws,hpos with
    |w::r,_=>rfl)
   conv=>whnf
   refine .g (α:=Nat) (λx=>[(0,ptr gz 0),(5,.slice (some ⟨b0,0,none⟩) ws.length ws.length),(6,ptr x 0),(7,.bool true)]) (λx H'=>Frm nob H1 H'∧H'[x]? =some (.cells #[(.string (Tp.S sh)),(.bool nd),(.func (.func fn) #[] #[])] 114 (0,0))) ?_ ?_
   ·intro K' hK'
    conv=>whnf
    refine .p nob (.take 1 (.take 2 (.take 3 (.two 0 (.two 4 (.take 5 (.take 6 (.take 7 (.one 8 (.one 9 (.take 10 .done)))))) 8 (.one 4 (.take 5 (.take 6 (.take 7 (.one 9 (.take 10 .done))))))) 8 (.one 0 (.one 4 (.take 5 (.take 6 (.take 7 (.one 9 (.take 10 .done))))))))))) (λ_ h=>h.elim) (by kernel_rfl) ?_
    conv=>whnf
    refine⟨0,rfl,hpos,?_⟩
    conv=>whnf
    refine⟨id,_,hc0,?_⟩
    conv=>whnf
    refine⟨?_,?_⟩
    ·conv=>whnf
     refine .q (hcm _) ?_
     rintro _ H2 ⟨bm,rfl,hbm,hmap⟩ e2 F2
     conv=>whnf
     refine⟨?_,?_⟩
     ·conv=>whnf
      refine raw_lookupF (.agg #[(.string (Tp.S sh)),(.bool nd),(.func (.func fn) #[] #[])]) true hlv hlf rfl rfl rfl rfl hmap F2 ?_
      conv=>whnf
      intro H3 x f3 _
      conv=>whnf
      refine .k ([(.string (Tp.S sh)),(.bool nd),(.func (.func fn) #[] #[])]) (f3.at) (.inr (by have:=f3.1;have:=e2.1;show H1.size≤x;omega)) rfl rfl ?_
      intro H4 u4 _
      conv=>whnf
      exact hK' x _ H4 ⟨rfl,rfl,rfl,rfl,trivial⟩ ⟨(e2.trans f3.e).then u4.e λk (hk:k=x)=>.inr (by have:=f3.1;have:=e2.1;omega),u4.1⟩
     ·conv=>whnf
      intro H3 x f3 F3
      conv=>whnf
      refine raw_lookupF (.agg #[(.string (Tp.S sh)),(.bool nd),(.func (.func fn) #[] #[])]) true hlv hlf rfl rfl rfl rfl (f3.e.blk hmap) F3 ?_
      conv=>whnf
      refine .k ([(.string (Tp.S sh)),(.bool nd),(.func (.func fn) #[] #[])]) (f3.at) (.inr (by have:=f3.1;have:=e2.1;show H1.size≤x;omega)) rfl rfl ?_
      intro H4 u4 _
      conv=>whnf
      exact hK' x _ H4 ⟨rfl,rfl,rfl,rfl,trivial⟩ ⟨(e2.trans f3.e).then u4.e λk (hk:k=x)=>.inr (by have:=f3.1;have:=e2.1;omega),u4.1⟩
    ·conv=>whnf
     intro H2 x f2 _
     conv=>whnf
     refine .q (hcm _) ?_
     rintro _ H3 ⟨bm,rfl,hbm,hmap⟩ e3 F3
     conv=>whnf
     refine raw_lookupF (.agg #[(.string (Tp.S sh)),(.bool nd),(.func (.func fn) #[] #[])]) true hlv hlf rfl rfl rfl rfl hmap F3 ?_
     conv=>whnf
     refine .k ([(.string (Tp.S sh)),(.bool nd),(.func (.func fn) #[] #[])]) (e3.blk f2.at) (.inr (by have:=f2.1;show H1.size≤x;omega)) rfl rfl ?_
     intro H4 u4 _
     conv=>whnf
     exact hK' x _ H4 ⟨rfl,rfl,rfl,rfl,trivial⟩ ⟨(f2.e.trans e3).then u4.e λk (hk:k=x)=>.inr (by have:=f2.1;omega),u4.1⟩
   intro x e0 H2 hQ
   have F2:=e1.trans hQ.1
   conv=>whnf
   intro H3 ab f3 _
   have F3:=F2.trans f3.e
   have hx3:=f3.e.blk hQ.2
   have hab:=f3.1
   have hxl:=(Qa.1 hQ.2).1
   have hb3:=f3.e.blk (hQ.1.blk hcells)
   have hb0l:=(Qa.1 (hQ.1.blk hcells)).1
   have z2:=F2.1
   conv=>whnf
   refine .p (λk=>k=ab) (.take 0 (.take 1 (.take 2 (.take 3 (.take 4 (.take 5 (.take 6 (.take 7 (.take 9 (.take 10 (.one 8 (.one 11 (.take 12 (.take 13 (.take 14 .done))))))))))))))) (λk hk=>.inr (by have:k=ab:=hk;show H.size≤k;omega)) (by kernel_rfl) ?_
   conv=>whnf
   refine⟨λ(e:x=ab)=>by omega,_,cel_of hx3 rfl,?_⟩
   conv=>whnf
   refine⟨rfl,((ws.length-1:Nat):Int),by rw[wr64 (by omega) (by omega)];omega,?_⟩
   conv=>whnf
   refine⟨1,ws.length,⟨_,rfl⟩,rfl,hpos,Qd _,ws.length-1,_,ws.length-1,rfl,rfl,slc_any 1 ws.length 0 1,?_⟩
   conv=>whnf
   refine .q (hwd _) ?_
   rintro _ H4 rfl e4 _
   have hrv:Rd H4 (.slice (some ⟨b0,if 1=ws.length then 0 else 0+mulS 1 1,none⟩) (ws.length-1) (ws.length-1)) (strV (ws.drop 1)):=words_rd (e4.blk hb3)
   have hvb:∀k,(Value.slice (some ⟨b0,if 1=ws.length then 0 else 0+mulS 1 1,none⟩) (ws.length-1) (ws.length-1)).ownBlock=some k→k≠ab:=λk hk=>by cases hk;show b0≠ab;omega
   conv=>whnf
   refine .t (hrd (h.gl.q (F3.trans e4)) (e4.blk f3.at) (by have:=h.sz;omega) hrv hvb) (λk hk=>.inl hk) ?_
   rintro _ H5 ⟨rfl,hag⟩ e5 _
   have F5:Frm nob H H5:=(F3.trans e4).then e5 λk (hk:k=ab)=>.inr (by omega)
   have hx5:=e5.blkT (e4.blk hx3) (λ(e:x=ab)=>by omega)
   have z4:=(F3.trans e4).1
   conv=>whnf
   refine .q (s_said (h.gl.q F5) 14 (by decide) (by decide) (ws:=[]) (.inl ⟨rfl,rfl⟩) (by decide) (by decide)) ?_
   rintro _ H6 rfl e6 _
   conv=>whnf
   exact⟨end0 (F5.trans e6) htot⟩
  |some y=>
   have hrd:=λ{X:Heap} {ab:Nat} {v:Value} (hG:Gl X) (hab:X[ab]? =some (.cells #[.slice none 0 0,.slice none 0 0,.slice none 0 0] 119 (0,0))) (h8:8≤ab) (hv:Rd X v (strV (ws.drop 1))) (hvb:∀k,v.ownBlock=some k→k≠ab)=>
    (hrd0 hG hab h8 hv hvb).imp (R':=λu H'=>u=.bool true∧∃q,H'[ab]? =some (.cells (agL q y).toArray 119 (0,0))∧ArgV H' X.size q y) λu _ h=>⟨h.1,(h.2 y rfl).out⟩
   clear hrd0
   dsimp only at htot
   cases nd with
   |false=>
    rw[if_neg (by simp)] at htot
    rw[←htot]
    have hdo:=λ{X:Heap} (hX:Ses i p gz o a X S) {Bq:Nat} {q:AgP} (hy:ArgV X Bq q y) (hB:∀k,TW gz S o k→k<Bq)=>hdo0 hX q hy hB rfl (λe=>by cases e)
    have hlv:=hlv' false rfl
    refine spx func23 ?_
    conv=>whnf
    refine .q (hsp) ?_
    rintro _ H1 ⟨b0,rfl,hb0,hcells,hpos⟩ e1 _
    have hc0:cel H1 ⟨b0,0,none⟩=some (.string (Tp.S (ws.headD []))):=cel_of hcells (by
     match ws,hpos with
     |w::r,_=>rfl)
    conv=>whnf
    refine .g (α:=Nat) (λx=>[(0,ptr gz 0),(5,.slice (some ⟨b0,0,none⟩) ws.length ws.length),(6,ptr x 0),(7,.bool true)]) (λx H'=>Frm nob H1 H'∧H'[x]? =some (.cells #[(.string (Tp.S sh)),(.bool false),(.func (.func fn) #[] #[])] 114 (0,0))) ?_ ?_
    ·intro K' hK'
     conv=>whnf
     refine .p nob (.take 1 (.take 2 (.take 3 (.two 0 (.two 4 (.take 5 (.take 6 (.take 7 (.one 8 (.one 9 (.take 10 .done)))))) 8 (.one 4 (.take 5 (.take 6 (.take 7 (.one 9 (.take 10 .done))))))) 8 (.one 0 (.one 4 (.take 5 (.take 6 (.take 7 (.one 9 (.take 10 .done))))))))))) (λ_ h=>h.elim) (by kernel_rfl) ?_
     conv=>whnf
     refine⟨0,rfl,hpos,?_⟩
     conv=>whnf
     refine⟨id,_,hc0,?_⟩
     conv=>whnf
     refine⟨?_,?_⟩
     ·conv=>whnf
      refine .q (hcm _) ?_
      rintro _ H2 ⟨bm,rfl,hbm,hmap⟩ e2 F2
      conv=>whnf
      refine⟨?_,?_⟩
      ·conv=>whnf
       refine raw_lookupF (.agg #[(.string (Tp.S sh)),(.bool false),(.func (.func fn) #[] #[])]) true hlv hlf rfl rfl rfl rfl hmap F2 ?_
       conv=>whnf
       intro H3 x f3 _
       conv=>whnf
       refine .k ([(.string (Tp.S sh)),(.bool false),(.func (.func fn) #[] #[])]) (f3.at) (.inr (by have:=f3.1;have:=e2.1;show H1.size≤x;omega)) rfl rfl ?_
       intro H4 u4 _
       conv=>whnf
       exact hK' x _ H4 ⟨rfl,rfl,rfl,rfl,trivial⟩ ⟨(e2.trans f3.e).then u4.e λk (hk:k=x)=>.inr (by have:=f3.1;have:=e2.1;omega),u4.1⟩
      ·conv=>whnf
       intro H3 x f3 F3
       conv=>whnf
       refine raw_lookupF (.agg #[(.string (Tp.S sh)),(.bool false),(.func (.func fn) #[] #[])]) true hlv hlf rfl rfl rfl rfl (f3.e.blk hmap) F3 ?_
       conv=>whnf
       refine .k ([(.string (Tp.S sh)),(.bool false),(.func (.func fn) #[] #[])]) (f3.at) (.inr (by have:=f3.1;have:=e2.1;show H1.size≤x;omega)) rfl rfl ?_
       intro H4 u4 _
       conv=>whnf
       exact hK' x _ H4 ⟨rfl,rfl,rfl,rfl,trivial⟩ ⟨(e2.trans f3.e).then u4.e λk (hk:k=x)=>.inr (by have:=f3.1;have:=e2.1;omega),u4.1⟩
     ·conv=>whnf
      intro H2 x f2 _
      conv=>whnf
      refine .q (hcm _) ?_
      rintro _ H3 ⟨bm,rfl,hbm,hmap⟩ e3 F3
      conv=>whnf
      refine raw_lookupF (.agg #[(.string (Tp.S sh)),(.bool false),(.func (.func fn) #[] #[])]) true hlv hlf rfl rfl rfl rfl hmap F3 ?_
      conv=>whnf
      refine .k ([(.string (Tp.S sh)),(.bool false),(.func (.func fn) #[] #[])]) (e3.blk f2.at) (.inr (by have:=f2.1;show H1.size≤x;omega)) rfl rfl ?_
      intro H4 u4 _
      conv=>whnf
      exact hK' x _ H4 ⟨rfl,rfl,rfl,rfl,trivial⟩ ⟨(f2.e.trans e3).then u4.e λk (hk:k=x)=>.inr (by have:=f2.1;omega),u4.1⟩
    intro x e0 H2 hQ
    have F2:=e1.trans hQ.1
    conv=>whnf
    intro H3 ab f3 _
    have F3:=F2.trans f3.e
    have hx3:=f3.e.blk hQ.2
    have hab:=f3.1
    have hxl:=(Qa.1 hQ.2).1
    have hb3:=f3.e.blk (hQ.1.blk hcells)
    have hb0l:=(Qa.1 (hQ.1.blk hcells)).1
    have z2:=F2.1
    conv=>whnf
    refine .p (λk=>k=ab) (.take 0 (.take 1 (.take 2 (.take 3 (.take 4 (.take 5 (.take 6 (.take 7 (.take 9 (.take 10 (.one 8 (.one 11 (.take 12 (.take 13 (.take 14 .done))))))))))))))) (λk hk=>.inr (by have:k=ab:=hk;show H.size≤k;omega)) (by kernel_rfl) ?_
    conv=>whnf
    refine⟨λ(e:x=ab)=>by omega,_,cel_of hx3 rfl,?_⟩
    conv=>whnf
    refine⟨rfl,((ws.length-1:Nat):Int),by rw[wr64 (by omega) (by omega)];omega,?_⟩
    conv=>whnf
    refine⟨1,ws.length,⟨_,rfl⟩,rfl,hpos,Qd _,ws.length-1,_,ws.length-1,rfl,rfl,slc_any 1 ws.length 0 1,?_⟩
    conv=>whnf
    refine .q (hwd _) ?_
    rintro _ H4 rfl e4 _
    have hrv:Rd H4 (.slice (some ⟨b0,if 1=ws.length then 0 else 0+mulS 1 1,none⟩) (ws.length-1) (ws.length-1)) (strV (ws.drop 1)):=words_rd (e4.blk hb3)
    have hvb:∀k,(Value.slice (some ⟨b0,if 1=ws.length then 0 else 0+mulS 1 1,none⟩) (ws.length-1) (ws.length-1)).ownBlock=some k→k≠ab:=λk hk=>by cases hk;show b0≠ab;omega
    conv=>whnf
    refine .t (hrd (h.gl.q (F3.trans e4)) (e4.blk f3.at) (by have:=h.sz;omega) hrv hvb) (λk hk=>.inl hk) ?_
    rintro _ H5 ⟨rfl,hag⟩ e5 _
    have F5:Frm nob H H5:=(F3.trans e4).then e5 λk (hk:k=ab)=>.inr (by omega)
    have hx5:=e5.blkT (e4.blk hx3) (λ(e:x=ab)=>by omega)
    have z4:=(F3.trans e4).1
    refine Qh hag λq hq=>?_
    have hab5:=hq.1
    have hy5:=hq.2
    conv=>whnf
    refine⟨_,cel_of hx5 rfl,?_⟩
    conv=>whnf
    refine⟨_,cel_of hx5 rfl,?_⟩
    conv=>whnf
    refine⟨agL q y,rfl,CellsAt.at hab5,?_⟩
    conv=>whnf
    refine .t (hdo (h.q F5) hy5 (λk hk=>by have:=hlt k hk;omega)) (λk hk=>.inl hk) ?_
    rintro u HZ hR eZ _
    conv=>whnf
    exact⟨hR.mono (λk hk=>.inl hk) F5.1⟩
   |true=>
    have hlv:=hlv' true rfl
    cases o with
    |none=>
     rw[if_pos ⟨rfl,rfl⟩] at htot
     clear hdo0
     refine spx func23 ?_
     conv=>whnf
     refine .q (hsp) ?_
     rintro _ H1 ⟨b0,rfl,hb0,hcells,hpos⟩ e1 _
     have hc0:cel H1 ⟨b0,0,none⟩=some (.string (Tp.S (ws.headD []))):=cel_of hcells (by
      match ws,hpos with
      |w::r,_=>rfl)
     conv=>whnf
     refine .g (α:=Nat) (λx=>[(0,ptr gz 0),(5,.slice (some ⟨b0,0,none⟩) ws.length ws.length),(6,ptr x 0),(7,.bool true)]) (λx H'=>Frm nob H1 H'∧H'[x]? =some (.cells #[(.string (Tp.S sh)),(.bool true),(.func (.func fn) #[] #[])] 114 (0,0))) ?_ ?_
     ·intro K' hK'
      conv=>whnf
      refine .p nob (.take 1 (.take 2 (.take 3 (.two 0 (.two 4 (.take 5 (.take 6 (.take 7 (.one 8 (.one 9 (.take 10 .done)))))) 8 (.one 4 (.take 5 (.take 6 (.take 7 (.one 9 (.take 10 .done))))))) 8 (.one 0 (.one 4 (.take 5 (.take 6 (.take 7 (.one 9 (.take 10 .done))))))))))) (λ_ h=>h.elim) (by kernel_rfl) ?_
      conv=>whnf
      refine⟨0,rfl,hpos,?_⟩
      conv=>whnf
      refine⟨id,_,hc0,?_⟩
      conv=>whnf
      refine⟨?_,?_⟩
      ·conv=>whnf
       refine .q (hcm _) ?_
       rintro _ H2 ⟨bm,rfl,hbm,hmap⟩ e2 F2
       conv=>whnf
       refine⟨?_,?_⟩
       ·conv=>whnf
        refine raw_lookupF (.agg #[(.string (Tp.S sh)),(.bool true),(.func (.func fn) #[] #[])]) true hlv hlf rfl rfl rfl rfl hmap F2 ?_
        conv=>whnf
        intro H3 x f3 _
        conv=>whnf
        refine .k ([(.string (Tp.S sh)),(.bool true),(.func (.func fn) #[] #[])]) (f3.at) (.inr (by have:=f3.1;have:=e2.1;show H1.size≤x;omega)) rfl rfl ?_
        intro H4 u4 _
        conv=>whnf
        exact hK' x _ H4 ⟨rfl,rfl,rfl,rfl,trivial⟩ ⟨(e2.trans f3.e).then u4.e λk (hk:k=x)=>.inr (by have:=f3.1;have:=e2.1;omega),u4.1⟩
       ·conv=>whnf
        intro H3 x f3 F3
        conv=>whnf
        refine raw_lookupF (.agg #[(.string (Tp.S sh)),(.bool true),(.func (.func fn) #[] #[])]) true hlv hlf rfl rfl rfl rfl (f3.e.blk hmap) F3 ?_
        conv=>whnf
        refine .k ([(.string (Tp.S sh)),(.bool true),(.func (.func fn) #[] #[])]) (f3.at) (.inr (by have:=f3.1;have:=e2.1;show H1.size≤x;omega)) rfl rfl ?_
        intro H4 u4 _
        conv=>whnf
        exact hK' x _ H4 ⟨rfl,rfl,rfl,rfl,trivial⟩ ⟨(e2.trans f3.e).then u4.e λk (hk:k=x)=>.inr (by have:=f3.1;have:=e2.1;omega),u4.1⟩
      ·conv=>whnf
       intro H2 x f2 _
       conv=>whnf
       refine .q (hcm _) ?_
       rintro _ H3 ⟨bm,rfl,hbm,hmap⟩ e3 F3
       conv=>whnf
       refine raw_lookupF (.agg #[(.string (Tp.S sh)),(.bool true),(.func (.func fn) #[] #[])]) true hlv hlf rfl rfl rfl rfl hmap F3 ?_
       conv=>whnf
       refine .k ([(.string (Tp.S sh)),(.bool true),(.func (.func fn) #[] #[])]) (e3.blk f2.at) (.inr (by have:=f2.1;show H1.size≤x;omega)) rfl rfl ?_
       intro H4 u4 _
       conv=>whnf
       exact hK' x _ H4 ⟨rfl,rfl,rfl,rfl,trivial⟩ ⟨(f2.e.trans e3).then u4.e λk (hk:k=x)=>.inr (by have:=f2.1;omega),u4.1⟩
     intro x e0 H2 hQ
     have F2:=e1.trans hQ.1
     conv=>whnf
     intro H3 ab f3 _
     have F3:=F2.trans f3.e
     have hx3:=f3.e.blk hQ.2
     have hab:=f3.1
     have hxl:=(Qa.1 hQ.2).1
     have hb3:=f3.e.blk (hQ.1.blk hcells)
     have hb0l:=(Qa.1 (hQ.1.blk hcells)).1
     have z2:=F2.1
     conv=>whnf
     refine .p (λk=>k=ab) (.take 0 (.take 1 (.take 2 (.take 3 (.take 4 (.take 5 (.take 6 (.take 7 (.take 9 (.take 10 (.one 8 (.one 11 (.take 12 (.take 13 (.take 14 .done))))))))))))))) (λk hk=>.inr (by have:k=ab:=hk;show H.size≤k;omega)) (by kernel_rfl) ?_
     conv=>whnf
     refine⟨λ(e:x=ab)=>by omega,_,cel_of hx3 rfl,?_⟩
     conv=>whnf
     refine⟨rfl,((ws.length-1:Nat):Int),by rw[wr64 (by omega) (by omega)];omega,?_⟩
     conv=>whnf
     refine⟨1,ws.length,⟨_,rfl⟩,rfl,hpos,Qd _,ws.length-1,_,ws.length-1,rfl,rfl,slc_any 1 ws.length 0 1,?_⟩
     conv=>whnf
     refine .q (hwd _) ?_
     rintro _ H4 rfl e4 _
     have hrv:Rd H4 (.slice (some ⟨b0,if 1=ws.length then 0 else 0+mulS 1 1,none⟩) (ws.length-1) (ws.length-1)) (strV (ws.drop 1)):=words_rd (e4.blk hb3)
     have hvb:∀k,(Value.slice (some ⟨b0,if 1=ws.length then 0 else 0+mulS 1 1,none⟩) (ws.length-1) (ws.length-1)).ownBlock=some k→k≠ab:=λk hk=>by cases hk;show b0≠ab;omega
     conv=>whnf
     refine .t (hrd (h.gl.q (F3.trans e4)) (e4.blk f3.at) (by have:=h.sz;omega) hrv hvb) (λk hk=>.inl hk) ?_
     rintro _ H5 ⟨rfl,hag⟩ e5 _
     have F5:Frm nob H H5:=(F3.trans e4).then e5 λk (hk:k=ab)=>.inr (by omega)
     have hx5:=e5.blkT (e4.blk hx3) (λ(e:x=ab)=>by omega)
     have z4:=(F3.trans e4).1
     conv=>whnf
     refine⟨_,cel_of hx5 rfl,?_⟩
     conv=>whnf
     refine⟨_,cel_of (h.q F5).ses rfl,?_⟩
     conv=>whnf
     refine⟨rfl,?_⟩
     conv=>whnf
     intro H6 b6 f6 _
     conv=>whnf
     refine .q (s_said ((h.gl.q F5).q f6.e) 0 er0.b.1 er0.b.2 (ws:=[closedW]) (.inr ⟨b6,0,1,rfl,Qd _,CellsAt.at (cs:=[.string (Tp.S closedW)]) f6.at⟩) (by decide) (by decide)) ?_
     rintro _ H7 rfl e7 _
     conv=>whnf
     exact⟨end0 ((F5.trans f6.e).trans e7) htot⟩
    |some xs=>
     rw[if_neg (by simp)] at htot
     rw[←htot]
     have hdo:=λ{X:Heap} (hX:Ses i p gz (some xs) a X S) {Bq:Nat} {q:AgP} (hy:ArgV X Bq q y) (hB:∀k,TW gz S (some xs) k→k<Bq)=>hdo0 hX q hy hB rfl (λ_ e=>by cases e)
     refine spx func23 ?_
     conv=>whnf
     refine .q (hsp) ?_
     rintro _ H1 ⟨b0,rfl,hb0,hcells,hpos⟩ e1 _
     have hc0:cel H1 ⟨b0,0,none⟩=some (.string (Tp.S (ws.headD []))):=cel_of hcells (by
      match ws,hpos with
      |w::r,_=>rfl)
     conv=>whnf
     refine .g (α:=Nat) (λx=>[(0,ptr gz 0),(5,.slice (some ⟨b0,0,none⟩) ws.length ws.length),(6,ptr x 0),(7,.bool true)]) (λx H'=>Frm nob H1 H'∧H'[x]? =some (.cells #[(.string (Tp.S sh)),(.bool true),(.func (.func fn) #[] #[])] 114 (0,0))) ?_ ?_
     ·intro K' hK'
      conv=>whnf
      refine .p nob (.take 1 (.take 2 (.take 3 (.two 0 (.two 4 (.take 5 (.take 6 (.take 7 (.one 8 (.one 9 (.take 10 .done)))))) 8 (.one 4 (.take 5 (.take 6 (.take 7 (.one 9 (.take 10 .done))))))) 8 (.one 0 (.one 4 (.take 5 (.take 6 (.take 7 (.one 9 (.take 10 .done))))))))))) (λ_ h=>h.elim) (by kernel_rfl) ?_
      conv=>whnf
      refine⟨0,rfl,hpos,?_⟩
      conv=>whnf
      refine⟨id,_,hc0,?_⟩
      conv=>whnf
      refine⟨?_,?_⟩
      ·conv=>whnf
       refine .q (hcm _) ?_
       rintro _ H2 ⟨bm,rfl,hbm,hmap⟩ e2 F2
       conv=>whnf
       refine⟨?_,?_⟩
       ·conv=>whnf
        refine raw_lookupF (.agg #[(.string (Tp.S sh)),(.bool true),(.func (.func fn) #[] #[])]) true hlv hlf rfl rfl rfl rfl hmap F2 ?_
        conv=>whnf
        intro H3 x f3 _
        conv=>whnf
        refine .k ([(.string (Tp.S sh)),(.bool true),(.func (.func fn) #[] #[])]) (f3.at) (.inr (by have:=f3.1;have:=e2.1;show H1.size≤x;omega)) rfl rfl ?_
        intro H4 u4 _
        conv=>whnf
        exact hK' x _ H4 ⟨rfl,rfl,rfl,rfl,trivial⟩ ⟨(e2.trans f3.e).then u4.e λk (hk:k=x)=>.inr (by have:=f3.1;have:=e2.1;omega),u4.1⟩
       ·conv=>whnf
        intro H3 x f3 F3
        conv=>whnf
        refine raw_lookupF (.agg #[(.string (Tp.S sh)),(.bool true),(.func (.func fn) #[] #[])]) true hlv hlf rfl rfl rfl rfl (f3.e.blk hmap) F3 ?_
        conv=>whnf
        refine .k ([(.string (Tp.S sh)),(.bool true),(.func (.func fn) #[] #[])]) (f3.at) (.inr (by have:=f3.1;have:=e2.1;show H1.size≤x;omega)) rfl rfl ?_
        intro H4 u4 _
        conv=>whnf
        exact hK' x _ H4 ⟨rfl,rfl,rfl,rfl,trivial⟩ ⟨(e2.trans f3.e).then u4.e λk (hk:k=x)=>.inr (by have:=f3.1;have:=e2.1;omega),u4.1⟩
      ·conv=>whnf
       intro H2 x f2 _
       conv=>whnf
       refine .q (hcm _) ?_
       rintro _ H3 ⟨bm,rfl,hbm,hmap⟩ e3 F3
       conv=>whnf
       refine raw_lookupF (.agg #[(.string (Tp.S sh)),(.bool true),(.func (.func fn) #[] #[])]) true hlv hlf rfl rfl rfl rfl hmap F3 ?_
       conv=>whnf
       refine .k ([(.string (Tp.S sh)),(.bool true),(.func (.func fn) #[] #[])]) (e3.blk f2.at) (.inr (by have:=f2.1;show H1.size≤x;omega)) rfl rfl ?_
       intro H4 u4 _
       conv=>whnf
       exact hK' x _ H4 ⟨rfl,rfl,rfl,rfl,trivial⟩ ⟨(f2.e.trans e3).then u4.e λk (hk:k=x)=>.inr (by have:=f2.1;omega),u4.1⟩
     intro x e0 H2 hQ
     have F2:=e1.trans hQ.1
     conv=>whnf
     intro H3 ab f3 _
     have F3:=F2.trans f3.e
     have hx3:=f3.e.blk hQ.2
     have hab:=f3.1
     have hxl:=(Qa.1 hQ.2).1
     have hb3:=f3.e.blk (hQ.1.blk hcells)
     have hb0l:=(Qa.1 (hQ.1.blk hcells)).1
     have z2:=F2.1
     conv=>whnf
     refine .p (λk=>k=ab) (.take 0 (.take 1 (.take 2 (.take 3 (.take 4 (.take 5 (.take 6 (.take 7 (.take 9 (.take 10 (.one 8 (.one 11 (.take 12 (.take 13 (.take 14 .done))))))))))))))) (λk hk=>.inr (by have:k=ab:=hk;show H.size≤k;omega)) (by kernel_rfl) ?_
     conv=>whnf
     refine⟨λ(e:x=ab)=>by omega,_,cel_of hx3 rfl,?_⟩
     conv=>whnf
     refine⟨rfl,((ws.length-1:Nat):Int),by rw[wr64 (by omega) (by omega)];omega,?_⟩
     conv=>whnf
     refine⟨1,ws.length,⟨_,rfl⟩,rfl,hpos,Qd _,ws.length-1,_,ws.length-1,rfl,rfl,slc_any 1 ws.length 0 1,?_⟩
     conv=>whnf
     refine .q (hwd _) ?_
     rintro _ H4 rfl e4 _
     have hrv:Rd H4 (.slice (some ⟨b0,if 1=ws.length then 0 else 0+mulS 1 1,none⟩) (ws.length-1) (ws.length-1)) (strV (ws.drop 1)):=words_rd (e4.blk hb3)
     have hvb:∀k,(Value.slice (some ⟨b0,if 1=ws.length then 0 else 0+mulS 1 1,none⟩) (ws.length-1) (ws.length-1)).ownBlock=some k→k≠ab:=λk hk=>by cases hk;show b0≠ab;omega
     conv=>whnf
     refine .t (hrd (h.gl.q (F3.trans e4)) (e4.blk f3.at) (by have:=h.sz;omega) hrv hvb) (λk hk=>.inl hk) ?_
     rintro _ H5 ⟨rfl,hag⟩ e5 _
     have F5:Frm nob H H5:=(F3.trans e4).then e5 λk (hk:k=ab)=>.inr (by omega)
     have hx5:=e5.blkT (e4.blk hx3) (λ(e:x=ab)=>by omega)
     have z4:=(F3.trans e4).1
     refine Qh hag λq hq=>?_
     have hab5:=hq.1
     have hy5:=hq.2
     conv=>whnf
     refine⟨_,cel_of hx5 rfl,?_⟩
     conv=>whnf
     refine⟨_,cel_of (h.q F5).ses rfl,?_⟩
     conv=>whnf
     refine⟨_,cel_of hx5 rfl,?_⟩
     conv=>whnf
     refine⟨agL q y,rfl,CellsAt.at hab5,?_⟩
     conv=>whnf
     refine .t (hdo (h.q F5) hy5 (λk hk=>by have:=hlt k hk;omega)) (λk hk=>.inl hk) ?_
     rintro u HZ hR eZ _
     conv=>whnf
     exact⟨hR.mono (λk hk=>.inl hk) F5.1⟩
end
end Go.Proofs.YtjambljmnifknaaGreatDoor.Vc
namespace Go.Proofs.YtjambljmnifknaaGreatDoor.Vc
open Go Go.RowKit Tp
open Dk (Arr Dsk)
def newA(c:Cf)(z:Int):Arr:=Dk.blanks (c.k+c.m).toNat (1+c.sl+c.st).toNat z.toNat
def runL:List By→Arr→Option St→List By
 |[],_,_=>[]
 |l::r,a,o=>(sayV a o l).1::runL r (sayV a o l).2.1 (sayV a o l).2.2
theorem runL_len:∀(l:List By) (a:Arr) (o:Option St),(runL l a o).length=l.length
 |[],_,_=>rfl
 |x::r,a,o=>by simp[runL,runL_len r]
section
variable {H:Heap}
theorem s_newA{c:Cf}(hc:cfOk c)(hd:c.k+c.m≤6)(z:Int)(hz:1≤z∧z≤4096)(d n:Int)(hdd:d=cfDisks c)(hnn:n=cfSectors c)(H:Heap):Spec prog 7 #[.int .i64 d,.int .i64 n,.int .i64 z] H nob λu H'=>∃(p:Pl) (S':Nat→Prop),u=.tuple #[ptr p.ga 0,.int .i64 0]∧PaH p (newA c z) H' S'∧∀k,S' k→H.size≤k:=by
 have hb:=hc.b
 have h1:cfDisks c=c.k+c.m:=by unfold cfDisks;rw[if_pos hc]
 have h2:cfSectors c=1+c.sl+c.st:=by unfold cfSectors;rw[if_pos hc]
 have h3:1≤c.k∧0≤c.m:=by have:=hc.1;unfold mayKM at this;simp at this;omega
 have:=s_anew (c.k+c.m).toNat (1+c.sl+c.st).toNat z.toNat (by omega) (by omega) (by omega) (by omega) (by omega) (by omega) H
 rw[QL (by omega),QL (by omega),QL (by omega)] at this
 rw[hdd,hnn,h1,h2]
 exact this
theorem newA_ds(c:Cf)(z:Int):(newA c z).ds.length=(c.k+c.m).toNat:=by unfold newA Dk.blanks;simp
theorem s_new(hG:Gl H)(h8:8≤H.size){c:Cf}(hc:cfOk c)(hd:c.k+c.m≤6){s:St}{a2:Arr}(hs:smakeV (newA c (c.k*c.sh+42)) c 1=((some s,0),a2)):Spec prog 22 #[cfV c] H nob λu H'=>∃(gz:Nat) (p:Pl) (x:Sp) (S:Nat→Prop),u=.tuple #[ptr gz 0,.int .i64 0]∧Ses 1 p gz (some (x,s)) a2 H' S∧∀k,TW gz S (some (x,s)) k→H.size≤k:=by
 have hb:=hc.b
 have h3:1≤c.k∧0≤c.m:=by have:=hc.1;unfold mayKM at this;simp at this;omega
 have hz2:c.k*c.sh≤4000:=hc.2.2.2.2.2
 have hz1:0≤c.k*c.sh:=Yq (by omega) (by omega)
 have hck:=λX=>s_check c X
 have hce:cfE c=0:=by unfold cfE;rw[if_pos hc]
 rw[hce] at hck
 have hsz:cfSize c=c.k*c.sh+42:=by unfold cfSize;rw[if_pos hc]
 have hsize:=λX=>s_size c X
 rw[hsz] at hsize
 have hnw:=λX=>s_newA hc hd (c.k*c.sh+42) (by omega) (cfDisks c) (cfSectors c) rfl rfl X
 have hnd:(newA c (c.k*c.sh+42)).ds.length≤6:=by rw[newA_ds];omega
 have hsm:Sm 0 (newA c (c.k*c.sh+42)):=Sm.blanks _ _ _ (by omega)
 have hmk:=λ{X:Heap} {U:Nat→Prop} {p:Pl} (h:PaH p (newA c (c.k*c.sh+42)) X U)=>s_stmake h hsm (by decide) hnd c 1 (by decide)
 rw[hs] at hmk
 generalize newA c (c.k*c.sh+42)=na at hnw hmk
 generalize c.k*c.sh+42=zz at hsize hnw
 refine spx func22 ?_
 conv=>whnf
 intro H1 b1 f1 _
 have hb1:H1[b1]? =some (.cells (cfL c).toArray 23 (0,0)):=f1.at
 conv=>whnf
 refine⟨cfL c,rfl,CellsAt.at hb1,?_⟩
 conv=>whnf
 refine .q (hck _) ?_
 rintro _ H2 rfl e2 _
 conv=>whnf
 refine⟨rfl,λh=>absurd rfl h,λ_=>?_⟩
 have hb2:=e2.blk hb1
 conv=>whnf
 refine .p nob (.take 0 (.take 2 (.take 4 (.one 1 (.one 3 (.one 5 (.one 6 (.take 7 (.take 8 (.take 9 (.take 10 (.take 11 .done)))))))))))) (λ_ h=>h.elim) (by kernel_rfl) ?_
 conv=>whnf
 refine⟨id,cfL c,rfl,Zw _,CellsAt.at hb2,?_⟩
 conv=>whnf
 refine⟨id,cfL c,rfl,Zw _,CellsAt.at hb2,?_⟩
 conv=>whnf
 refine⟨id,cfL c,rfl,Zw _,CellsAt.at hb2,?_⟩
 conv=>whnf
 refine .q (s_disks c _) ?_
 rintro _ H3 rfl e3 _
 conv=>whnf
 refine .q (s_sectors c _) ?_
 rintro _ H4 rfl e4 _
 conv=>whnf
 refine .q (hsize _) ?_
 rintro _ H5 rfl e5 _
 conv=>whnf
 refine .q (hnw _) ?_
 rintro _ H6 ⟨p,S6,rfl,ha6,hS6⟩ e6 _
 conv=>whnf
 refine⟨rfl,λh=>absurd rfl h,λ_=>?_⟩
 have E26:=((e3.trans e4).trans e5).trans e6
 have z1:=f1.e.1
 have z2:=e2.1
 have z5:=((e3.trans e4).trans e5).1
 have hb6:=E26.blk hb2
 conv=>whnf
 refine⟨cfL c,rfl,CellsAt.at hb6,?_⟩
 have hS6':∀k,S6 k→H.size≤k:=λk hk=>by have:=hS6 k hk;omega
 conv=>whnf
 refine .t (hmk ha6) (λk hk=>.inr (hS6' k hk)) ?_
 rintro _ H7 ⟨x,S7,rfl,hS7,hs7⟩ e7 F7
 conv=>whnf
 refine⟨rfl,λh=>absurd rfl h,λ_=>?_⟩
 conv=>whnf
 refine⟨rfl,?_⟩
 conv=>whnf
 intro H8 gz f8 _
 have z7:=e7.1
 have z6:=e6.1
 have hgz:=f8.1
 have hTS:∀k,TS x S7 k→H.size≤k:=λk hk=>(hs7 k hk).elim (hS6' k) λe=>by omega
 have hlt:=hS7.ltT
 have hgn:¬TS x S7 gz:=λe=>by have:=hlt gz e;omega
 have hTW:∀k,TW gz S7 (some (x,s)) k→H.size≤k:=λk hk=>hk.elim (hTS k) λe=>by omega
 have G7:Gl H7:=((hG.q (f1.e.trans e2)).q E26).frm e7 λk hk=>by have:=hS6' k hk;omega
 have hss:=hS7.q f8.e
 conv=>whnf
 exact⟨gz,p,x,S7,rfl,⟨f8.at,hss.lv.al.av.arr,hgn,hss.lv.vo.sm.mono (by decide),hss.lv.vo.nd,hss.mono (by decide) (by decide) (by decide),λk hk=>by have:=hTW k hk;omega,by have:=f8.e.1;omega,G7.q f8.e⟩,hTW⟩
theorem RwO.frm9{W:Nat→Prop}{H':Heap}{v w:Value}{ls:List (List Value)}{base n:Nat}{xs:List Value}(h:RwO W H v ls)(hw:Own H base 9 1 w n xs)(hF:Frm (λk=>w.ownBlock=some k) H H'):RwO W H' v ls:=by
 by_cases hl:ls=[]
 ·subst hl
  refine⟨?_,λe=>(e rfl).elim⟩
  rcases h.1 with h1|⟨b,o,cap,rfl,hc,_⟩
  ·exact .inl h1
  ·exact .inr ⟨b,o,cap,rfl,hc,trivial⟩
 ·have hne:∀k,v.ownBlock=some k→w.ownBlock≠some k:=λk hk e=>by
   rcases hw.2 with ⟨rfl,_⟩|⟨g,cap,cur,rfl,_,hg,_⟩
   ·cases e
   ·simp[Value.ownBlock] at e
    have hg:H[g]? =some (.cells cur 9):=hg
    exact rowB_ne (h.2 hl k hk).2 hg (by decide) e.symm
  exact⟨h.1.frm hF λk hk=>hne k hk,λhn k hk=>⟨(h.2 hn k hk).1,rowB_frm (h.2 hn k hk).2 hF (rowB_lt (h.2 hn k hk).2) (hne k hk)⟩⟩
theorem Ses.frm9{i:Nat}{p:Pl}{gz:Nat}{o:SO}{a:Arr}{H':Heap}{S:Nat→Prop}{w:Value}{base n:Nat}{xs:List Value}(h:Ses i p gz o a H S)(hw:Own H base 9 1 w n xs)(hb:8≤base)(hT:∀k,w.ownBlock=some k→¬TW gz S o k)(hF:Frm (λk=>w.ownBlock=some k) H H'):Ses i p gz o a H' S:=by
 refine⟨hF.blkT h.ses (λe=>hT gz e (.inr rfl)),h.arr.frm hF (λk hk e=>hT k e (.inl (Ses.sub k hk))),h.out,h.sm,h.nd,?_,h.lo,Qb h.sz hF.1,h.gl.frm hF λk hk=>Qb hb (hw.ge k hk).1⟩
 have hs:=h.sto
 cases o with
 |none=>trivial
 |some x=>
  have hs:SS (40000*i) (eMax+1+4000*i) i p x.1 x.2 a H S:=hs
  have hT':∀k,TS x.1 S k→w.ownBlock≠some k:=λk hk e=>hT k e (.inl hk)
  refine show SS (40000*i) (eMax+1+4000*i) i p x.1 x.2 a H' S from⟨hF.blkT hs.st (hT' _ (.inr rfl)),hs.lv.frm hF (λk hk=>hT' k (.inl (.inl (.inl hk)))) (hT' _ (.inl (.inl (.inr rfl)))) (λe=>?_) (hT' _ (.inl (.inr rfl))),hs.out,hs.pr.frm9 hw hF,?_,hs.ok⟩
  ·exact hw.ne hs.lv.al.lg (by decide) e
  ·obtain⟨vs,h1,h2,h3⟩:=hs.wt
   exact⟨vs,h1.frm9 hw hF,h2,λi y w' hy hw'=>(h3 i y w' hy hw').frm9 hw hF⟩
theorem s_run(hG:Gl H)(h8:8≤H.size){c:Cf}(hc:cfOk c)(hd:c.k+c.m≤6){s:St}{a2:Arr}(hs:smakeV (newA c (c.k*c.sh+42)) c 1=((some s,0),a2)){v:Value}{ls:List By}(hv:Rd H v (strV ls))(hn:ls.length≤16)(hl:∀l∈ls,l.length≤65535):
  Spec prog 12 #[cfV c,v] H nob λu H'=>∃ad cap,u=.tuple #[.slice ad ls.length cap,.int .i64 0]∧Own H' H.size 9 1 (.slice ad ls.length cap) ls.length (strV (runL ls a2 (some s))):=by
 have hnw:=λ{X:Heap} (e:Frm nob H X)=>s_new (hG.q e) (Qb h8 e.1) hc hd hs
 obtain⟨ad,cap,rfl,hw⟩:=hv.vals
 rw[show(strV ls).length=ls.length by simp[strV]]
 have hrl:=runL_len ls a2 (some s)
 obtain⟨tot,htot⟩:∃t,runL ls a2 (some s)=t:=⟨_,rfl⟩
 rw[htot] at hrl⊢
 refine spx func12 ?_
 conv=>whnf
 intro H1 b1 f1 _
 conv=>whnf
 refine⟨cfL c,rfl,CellsAt.at f1.at,?_⟩
 conv=>whnf
 refine .q (hnw f1.e) ?_
 rintro _ H2 ⟨gz,p,x,S2,rfl,hS2,hT2⟩ e2 _
 conv=>whnf
 refine⟨rfl,λh=>absurd rfl h,λ_=>?_⟩
 have F2:=f1.e.trans e2
 have z1:=f1.e.1
 conv=>whnf
 refine .g [(6,ptr gz 0),(8,.slice none 0 0),(19,.slice ad ls.length cap),(20,.int .i64 (ls.length:Int)),(21,.int .i64 0)] ⟨rfl,rfl,rfl,rfl,rfl,trivial⟩ λenv0 KL hKL=>?_
 refine⟨Nat×List By×(Arr×Option St)×List By×Value,λx=>[(8,x.2.2.2.2),(21,.int .i64 (x.1:Int))],λx H'=>x.1+x.2.1.length=ls.length∧ls.drop x.1=x.2.1∧x.2.2.2.1++runL x.2.1 x.2.2.1.1 x.2.2.1.2=tot∧x.2.2.2.1.length=x.1∧Own H' H.size 9 1 x.2.2.2.2 x.1 (strV x.2.2.2.1)∧Frm nob H H'∧
   ∃(o:SO) (S':Nat→Prop),o.map (·.2)=x.2.2.1.2∧Ses (1+x.1) p gz o x.2.2.1.1 H' S'∧(∀k,TW gz S' o k→H.size≤k)∧(∀k,x.2.2.2.2.ownBlock=some k→¬TW gz S' o k),λx=>x.2.1.length,
  ⟨(0,ls,(a2,some s),[],.slice none 0 0),⟨rfl,rfl,trivial⟩,by simp,rfl,htot,rfl,Own.nil _ _ _ _,F2,some (x,s),S2,rfl,hS2,λk hk=>by have:=hT2 k hk;omega,λk hk=>by cases hk⟩,?_⟩
 rintro⟨j,rs,⟨a1,o1⟩,acc,w⟩ HA junk ⟨hj,hd2,hto,hac,hw9,FA,o,SA,hom,hSe,hTA,hwn⟩ FA'
 dsimp only at hj hd2 hto hac hw9 hom hSe hwn
 cases rs with
 |nil=>
  have hje:j=ls.length:=by simpa using hj
  have hta:acc=tot:=by rw[←hto];simp[runL]
  subst hje hta
  obtain⟨ad9,c9,rfl⟩:=hw9.form
  conv=>whnf
  refine⟨rfl,λh5=>absurd h5 (by show ¬(ls.length:Int)<(ls.length:Int);omega),λh5=>?_⟩
  refine hKL _ _ _ ?_
  conv=>whnf
  exact⟨ad9,c9,rfl,hw9⟩
 |cons l r=>
  obtain⟨hy,hd'⟩:=drop_cons hd2
  have h':j<ls.length:=(Qe.1 hy).1
  obtain⟨ba,of,had,hcel⟩:=hw j (.string (Tp.S l)) (by simp[strV,hy])
  subst had
  have zA:=FA.1
  have hsay:=s_say hSe (by omega) l (hl l (Qj hy))
  rw[hom] at hsay
  have hto':(acc++[(sayV a1 o1 l).1])++runL r (sayV a1 o1 l).2.1 (sayV a1 o1 l).2.2=tot:=by rw[←hto];simp[runL]
  generalize sayV a1 o1 l=sv at hsay hto'
  obtain⟨s1,s2,s3⟩:=sv
  dsimp only at hto'
  conv=>whnf
  refine⟨rfl,λh5=>?_,λh5=>absurd (QK.2 h') h5⟩
  conv=>whnf
  refine⟨j,rfl,h',?_⟩
  conv=>whnf
  refine⟨_,FA.cel hcel,?_⟩
  conv=>whnf
  refine .t (hsay) (λk hk=>.inr (hTA k hk)) ?_
  rintro _ HB ⟨rfl,oB,SB,hoB,hSB,hsB⟩ eB FB
  have FHB:Frm nob H HB:=FA.then eB λk hk=>.inr (hTA k hk)
  have hwB:=hw9.frm eB hwn
  have hTB:∀k,TW gz SB oB k→H.size≤k:=λk hk=>(hsB k hk).elim (hTA k) λe=>by omega
  have hwnB:∀k,w.ownBlock=some k→¬TW gz SB oB k:=λk hk e=>(hsB k e).elim (hwn k hk) λe=>by have:=(hw9.ge k hk).2;omega
  conv=>whnf
  refine⟨rfl,?_⟩
  conv=>whnf
  intro HC q2 fC _
  have hwC:=hwB.q fC.e
  have hltB:=hSB.ltT
  conv=>whnf
  refine .el2 [.string (Tp.S s1)] (by kernel_rfl) hwC (CellsAt.new (cs:=[.string (Tp.S s1)]) fC) rfl (by simp[oneCell]) (by omega) (by have:=FHB.1;have:=fC.e.1;omega) (λk hk=>.inr (hwC.ge k hk).1) ?_
  intro v10 HD ho10 e10 _ hvb
  refine go ?_
  have hSD:Ses (1+(j+1)) p gz oB s2 HD SB:=by
   have:=((hSB.q fC.e).frm9 hwC h8 (λk hk=>hwnB k hk) e10)
   rw[show 1+(j+1)=1+j+1 by omega]
   exact this
  exact⟨(j+1,r,(s2,s3),acc++[s1],v10),⟨rfl,rfl,trivial⟩,⟨by simp at hj⊢;omega,hd',hto',by simp[hac],by rw[strV_snoc];exact ho10,(FHB.trans fC.e).then e10 λk hk=>.inr (hwC.ge k hk).1,oB,SB,hoB,hSD,hTB,λk hk e=>(hvb k hk).elim (λe'=>hwnB k e' e) λe'=>by have:=hltB k e;have:=fC.e.1;omega⟩,by show r.length<r.length+1;omega⟩
end
section
attribute [local semireducible] mayKM cfE
theorem s_may4(k m:Int)(H:Heap):Spec prog 57 #[.int .i64 k,.int .i64 m] H nob λu _=>u=.bool (mayKM k m):=by
 refine spx func57 ?_
 conv=>whnf
 refine⟨rfl,λh1=>?_,λh1=>?_⟩
 ·conv=>whnf
  refine⟨rfl,λh2=>?_,λh2=>?_⟩
  ·conv=>whnf
   refine⟨rfl,λh3=>?_,λh3=>?_⟩
   ·conv=>whnf
    refine⟨rfl,λh4=>?_,λh4=>?_⟩
    ·conv=>whnf
     refine⟨rfl,k+m,wr64 (by omega) (by omega),?_⟩
     conv=>whnf
     refine⟨rfl,λh5=>?_,λh5=>?_⟩
     ·exact⟨Qf Value.bool (show true=mayKM k m by simp[mayKM];omega)⟩
     ·exact⟨Qf Value.bool (show false=mayKM k m by simp[mayKM];omega)⟩
    ·exact⟨Qf Value.bool (show false=mayKM k m by simp[mayKM];omega)⟩
   ·exact⟨Qf Value.bool (show false=mayKM k m by simp[mayKM];omega)⟩
  ·exact⟨Qf Value.bool (show false=mayKM k m by simp[mayKM];omega)⟩
 ·exact⟨Qf Value.bool (show false=mayKM k m by simp[mayKM];omega)⟩
theorem s_check12(c:Cf)(H:Heap):Spec prog 24 #[cfV c] H nob λu _=>u=.int .i64 (cfE c):=by
 have hno:∀x:Prop,(cfOk c→x)→¬x→1=cfE c:=λx h hx=>by unfold cfE;rw[if_neg (λe=>hx (h e))]
 have hmk:=λX=>(s_may4 c.k c.m X).imp (R':=λu H'=>u=.bool (mayKM c.k c.m)∧True) λ_ _ h=>⟨h,trivial⟩
 refine spx func24 ?_
 conv=>whnf
 intro H1 b f1 _
 have f:H1[b]? =some (.cells (cfL c).toArray 23 (0,0)):=f1.at
 conv=>whnf
 refine⟨_,f1.cel rfl,?_⟩
 conv=>whnf
 refine⟨_,f1.cel rfl,?_⟩
 conv=>whnf
 refine .tb (hmk _) (λ_ h=>h.elim) (λhb=>?_) (λhb=>?_)
 rotate_left
 ·rintro H2 _ e2 _
  exact⟨Qf (Value.int .i64) (hno (mayKM c.k c.m=true) (λh=>h.1) (by rw[hb];decide))⟩
 rintro H2 _ e2 _
 have g:=e2.blk f
 conv=>whnf
 refine⟨_,cel_of g rfl,?_⟩
 conv=>whnf
 refine⟨rfl,λh=>?_,λh2=>?_⟩
 ·exact⟨Qf (Value.int .i64) (hno (c.m≠0) (λh=>h.2.1) (λe=>e h))⟩
 conv=>whnf
 refine⟨_,cel_of g rfl,?_⟩
 conv=>whnf
 refine⟨rfl,λh=>?_,λh3=>?_⟩
 ·exact⟨Qf (Value.int .i64) (hno (8≤c.sh) (λh=>h.2.2.1.1) (λe=>absurd (show c.sh<8 from h) (by omega)))⟩
 conv=>whnf
 refine⟨_,cel_of g rfl,?_⟩
 conv=>whnf
 refine⟨rfl,λh=>?_,λh4=>?_⟩
 ·exact⟨Qf (Value.int .i64) (hno (c.sh≤1024) (λh=>h.2.2.1.2) (λe=>absurd (show 1024<c.sh from h) (by omega)))⟩
 conv=>whnf
 refine⟨_,cel_of g rfl,?_⟩
 conv=>whnf
 refine⟨rfl,λh=>?_,λh5=>?_⟩
 ·exact⟨Qf (Value.int .i64) (hno (1≤c.st) (λh=>h.2.2.2.1.1) (λe=>absurd (show c.st<1 from h) (by omega)))⟩
 conv=>whnf
 refine⟨_,cel_of g rfl,?_⟩
 conv=>whnf
 refine⟨rfl,λh=>?_,λh6=>?_⟩
 ·exact⟨Qf (Value.int .i64) (hno (c.st≤1000) (λh=>h.2.2.2.1.2) (λe=>absurd (show 1000<c.st from h) (by omega)))⟩
 conv=>whnf
 refine⟨_,cel_of g rfl,?_⟩
 conv=>whnf
 refine⟨rfl,λh=>?_,λh7=>?_⟩
 ·exact⟨Qf (Value.int .i64) (hno (1≤c.sl) (λh=>h.2.2.2.2.1.1) (λe=>absurd (show c.sl<1 from h) (by omega)))⟩
 conv=>whnf
 refine⟨_,cel_of g rfl,?_⟩
 conv=>whnf
 refine⟨rfl,λh=>?_,λh8=>?_⟩
 ·exact⟨Qf (Value.int .i64) (hno (c.sl≤16) (λh=>h.2.2.2.2.1.2) (λe=>absurd (show 16<c.sl from h) (by omega)))⟩
 conv=>whnf
 refine⟨_,cel_of g rfl,?_⟩
 conv=>whnf
 refine⟨_,cel_of g rfl,?_⟩
 have h3':¬c.sh<8:=h3
 have h4':¬1024<c.sh:=h4
 have hkb:1≤c.k∧c.k≤255:=by unfold mayKM at hb;simp at hb;omega
 have hm1:c.k*c.sh≤255*1024:=Z3 (by omega) (by omega) (by omega) (by decide)
 have hm2:0≤c.k*c.sh:=Yq (by omega) (by omega)
 conv=>whnf
 refine⟨rfl,c.k*c.sh,wr64 (by omega) (by omega),?_⟩
 conv=>whnf
 refine⟨rfl,λh=>?_,λh9=>?_⟩
 ·exact⟨Qf (Value.int .i64) (hno (c.k*c.sh≤4000) (λh=>h.2.2.2.2.2) (λe=>absurd (show 4000<c.k*c.sh from h) (by omega)))⟩
 ·refine⟨Qf (Value.int .i64) ?_⟩
  have h5':¬c.st<1:=h5
  have h6':¬1000<c.st:=h6
  have h7':¬c.sl<1:=h7
  have h8':¬16<c.sl:=h8
  have h9':¬4000<c.k*c.sh:=h9
  unfold cfE
  rw[if_pos ⟨hb,h2,⟨by omega,by omega⟩,⟨by omega,by omega⟩,⟨by omega,by omega⟩,by omega⟩]
end
def tinyP(c:Cf):Prop:=cfOk c∧3≤c.st∧c.k+c.m≤6∧c.sh≤64∧c.st≤9∧c.sl≤4
instance (c:Cf):Decidable (tinyP c):=by unfold tinyP;infer_instance
theorem cfE_ok{c:Cf}:cfE c=0↔cfOk c:=by
 unfold cfE
 split
 ·exact⟨λ_=>by assumption,λ_=>rfl⟩
 ·exact⟨λh=>absurd h (by decide),λh=>absurd h (by assumption)⟩
theorem s_may23(c:Cf)(H:Heap):Spec prog 13 #[cfV c] H nob λu _=>u=.bool (decide (cfOk c∧3≤c.st)):=by
 have hck:=λX=>s_check12 c X
 have hce:=@cfE_ok c
 generalize cfE c=e at hck hce
 refine spx func13 ?_
 conv=>whnf
 intro H1 b f1 _
 conv=>whnf
 refine⟨cfL c,rfl,CellsAt.at f1.at,?_⟩
 conv=>whnf
 refine .q (hck _) ?_
 rintro _ H2 rfl e2 _
 conv=>whnf
 refine⟨rfl,λh=>?_,λh=>?_⟩
 ·conv=>whnf
  refine⟨_,cel_of (e2.blk f1.at) rfl,?_⟩
  conv=>whnf
  refine⟨rfl,λh2=>?_,λh2=>?_⟩
  ·have h2':3≤c.st:=h2
   exact⟨Qf Value.bool (QO ⟨hce.1 h,h2'⟩).symm⟩
  ·have h2':¬3≤c.st:=h2
   exact⟨Qf Value.bool (QM (λe=>h2' e.2)).symm⟩
 ·exact⟨Qf Value.bool (QM (λe=>h (hce.2 e.1))).symm⟩
theorem s_tiny(c:Cf)(H:Heap):Spec prog 5 #[cfV c] H nob λu _=>u=.bool (decide (tinyP c)):=by
 have hmy:=λX=>(s_may23 c X).imp (R':=λu H'=>u=.bool (decide (cfOk c∧3≤c.st))∧True) λ_ _ h=>⟨h,trivial⟩
 have no:∀x:Prop,(tinyP c→x)→¬x→false=decide (tinyP c):=λx h hx=>(QM (λe=>hx (h e))).symm
 refine spx func5 ?_
 conv=>whnf
 intro H1 b f1 _
 conv=>whnf
 refine⟨cfL c,rfl,CellsAt.at f1.at,?_⟩
 conv=>whnf
 refine .tb (hmy _) (λ_ h=>h.elim) (λhb=>?_) (λhb=>?_)
 rotate_left
 ·rintro H2 _ e2 _
  exact⟨Qf Value.bool (no (cfOk c∧3≤c.st) (λh=>⟨h.1,h.2.1⟩) (λe=>by rw[QO e] at hb;cases hb))⟩
 rintro H2 _ e2 _
 have hb':=Zl hb
 have hc:=hb'.1.b
 have hk:1≤c.k∧0≤c.m:=by have:=hb'.1.1;unfold mayKM at this;simp at this;omega
 have g:H2[b]? =some (.cells (cfL c).toArray 23 (0,0)):=e2.blk f1.at
 conv=>whnf
 refine⟨_,cel_of g rfl,?_⟩
 conv=>whnf
 refine⟨_,cel_of g rfl,?_⟩
 conv=>whnf
 refine⟨rfl,c.k+c.m,wr64 (by omega) (by omega),?_⟩
 conv=>whnf
 refine⟨rfl,λh1=>?_,λh1=>?_⟩
 rotate_left
 ·exact⟨Qf Value.bool (no (c.k+c.m≤6) (λh=>h.2.2.1) h1)⟩
 conv=>whnf
 refine⟨_,cel_of g rfl,?_⟩
 conv=>whnf
 refine⟨rfl,λh2=>?_,λh2=>?_⟩
 rotate_left
 ·exact⟨Qf Value.bool (no (c.sh≤64) (λh=>h.2.2.2.1) h2)⟩
 conv=>whnf
 refine⟨_,cel_of g rfl,?_⟩
 conv=>whnf
 refine⟨rfl,λh3=>?_,λh3=>?_⟩
 rotate_left
 ·exact⟨Qf Value.bool (no (c.st≤9) (λh=>h.2.2.2.2.1) h3)⟩
 conv=>whnf
 refine⟨_,cel_of g rfl,?_⟩
 conv=>whnf
 refine⟨rfl,λh4=>?_,λh4=>?_⟩
 rotate_left
 ·exact⟨Qf Value.bool (no (c.sl≤4) (λh=>h.2.2.2.2.2) h4)⟩
 exact⟨Qf Value.bool (QO (⟨hb'.1,hb'.2,h1,h2,h3,h4⟩:tinyP c)).symm⟩
def smallV(l:List By)(n m:Nat):Bool:=decide (l.length≤n)&&l.all λs=>decide (s.length≤m)
theorem s_small{H:Heap}{v:Value}{l:List By}(hv:Rd H v (strV l))(n m:Nat)(hn:n≤1000000000):Spec prog 4 #[v,.int .i64 (n:Int),.int .i64 (m:Int)] H nob λu _=>u=.bool (smallV l n m):=by
 obtain⟨ad,cap,rfl,hw⟩:=hv.vals
 rw[show(strV l).length=l.length by simp[strV]]
 obtain⟨tot,htot⟩:∃t,smallV l n m=t:=⟨_,rfl⟩
 rw[htot]
 unfold smallV at htot
 refine spx func4 ?_
 conv=>whnf
 refine⟨rfl,λh1=>?_,λh1=>?_⟩
 ·have h1':¬l.length≤n:=by have:(n:Int)<(l.length:Int):=h1;omega
  rw[QM h1'] at htot
  exact⟨Qf Value.bool (by simpa using htot)⟩
 have h1':l.length≤n:=by have:¬(n:Int)<(l.length:Int):=h1;omega
 rw[QO h1',Bool.true_and] at htot
 conv=>whnf
 refine .g [(0,.slice ad l.length cap),(2,.int .i64 (m:Int)),(7,.int .i64 0)] ⟨rfl,rfl,rfl,trivial⟩ λenv0 KL hKL=>?_
 refine⟨Nat×List By,λx=>[(7,.int .i64 (x.1:Int))],λx H'=>x.1+x.2.length=l.length∧l.drop x.1=x.2∧(x.2.all λs=>decide (s.length≤m))=tot∧Frm nob H H',λx=>x.2.length,
  ⟨(0,l),⟨rfl,trivial⟩,by simp,rfl,htot,Frm.refl _ _⟩,?_⟩
 rintro⟨j,rs⟩ HA junk ⟨hj,hd,hto,FA⟩ F
 dsimp only at hj hd hto
 cases rs with
 |nil=>
  conv=>whnf
  refine⟨rfl,λh5=>absurd h5 (by show ¬(j:Int)<(l.length:Int);simp at hj;omega),λh5=>?_⟩
  refine hKL _ _ _ ?_
  conv=>whnf
  exact⟨Qf Value.bool (by simpa using hto)⟩
 |cons s r=>
  obtain⟨hy,hd'⟩:=drop_cons hd
  have h':j<l.length:=(Qe.1 hy).1
  obtain⟨ba,o,had,hcel⟩:=hw j (.string (S s)) (by simp[strV,hy])
  subst had
  rw[List.all_cons] at hto
  conv=>whnf
  refine⟨rfl,λh5=>?_,λh5=>absurd (QK.2 h') h5⟩
  conv=>whnf
  refine⟨j,rfl,h',?_⟩
  conv=>whnf
  refine⟨_,FA.cel hcel,?_⟩
  conv=>whnf
  refine⟨rfl,λh6=>?_,λh6=>?_⟩
  ·have h6':¬s.length≤m:=by have:(m:Int)<((S s).size:Int):=h6;rw[S_size] at this;omega
   rw[QM h6',Bool.false_and] at hto
   refine hKL _ _ _ ?_
   exact⟨Qf Value.bool hto⟩
  ·have h6':s.length≤m:=by have:¬(m:Int)<((S s).size:Int):=h6;rw[S_size] at this;omega
   rw[QO h6',Bool.true_and] at hto
   conv=>whnf
   refine⟨rfl,((j+1:Nat):Int),by rw[wr64 (by omega) (by omega)];omega,?_⟩
   exact⟨(j+1,r),⟨rfl,trivial⟩,⟨by simp at hj⊢;omega,hd',hto,FA⟩,by show r.length<r.length+1;omega⟩
theorem s_same{H:Heap}{v:Value}{l:List By}(hv:Rd H v (strV l)){v2:Value}(hv2:Rd H v2 (strV l))(hn:l.length≤1000000):Spec prog 14 #[v,v2] H nob λu _=>u=.bool true:=by
 obtain⟨ad,cap,rfl,hw⟩:=hv.vals
 obtain⟨ad2,cap2,rfl,hw2⟩:=hv2.vals
 rw[show(strV l).length=l.length by simp[strV]]
 refine spx func14 ?_
 conv=>whnf
 refine⟨rfl,λh1=>absurd rfl h1,λ_=>?_⟩
 conv=>whnf
 refine .g [(0,.slice ad l.length cap),(1,.slice ad2 l.length cap2),(5,.int .i64 0)] ⟨rfl,rfl,rfl,trivial⟩ λenv0 KL hKL=>?_
 refine⟨Nat,λx=>[(5,.int .i64 (x:Int))],λx H'=>x≤l.length∧Frm nob H H',λx=>l.length-x,⟨0,⟨rfl,trivial⟩,Qk _,Frm.refl _ _⟩,?_⟩
 rintro j HA junk ⟨hj,FA⟩ F
 conv=>whnf
 refine⟨rfl,λh5=>?_,λh5=>?_⟩
 ·have h':j<l.length:=by have:(j:Int)<(l.length:Int):=h5;omega
  obtain⟨s,hy⟩:∃s,l[j]? =some s:=⟨l[j],Qc h'⟩
  obtain⟨ba,o,had,hcel⟩:=hw j (.string (S s)) (by simp[strV,hy])
  obtain⟨ba2,o2,had2,hcel2⟩:=hw2 j (.string (S s)) (by simp[strV,hy])
  subst had had2
  conv=>whnf
  refine .q (by kernel_rfl) ?_
  conv=>whnf
  refine⟨j,rfl,h',?_⟩
  conv=>whnf
  refine⟨id,_,FA.cel hcel,?_⟩
  conv=>whnf
  refine⟨j,rfl,h',?_⟩
  conv=>whnf
  refine⟨id,_,FA.cel hcel2,?_⟩
  conv=>whnf
  refine⟨λh6=>absurd rfl h6,λ_=>?_⟩
  conv=>whnf
  refine⟨rfl,((j+1:Nat):Int),by rw[wr64 (by omega) (by omega)];omega,?_⟩
  exact⟨j+1,⟨rfl,trivial⟩,⟨h',FA⟩,by show l.length-(j+1)<l.length-j;omega⟩
 ·refine hKL _ _ _ ?_
  exact⟨rfl⟩
def wkC:Cf:=⟨2,1,16,5,1⟩
def wkL:List By:=[[112,117,116,32,97,32,49],[115,121,110,99],[102,97,105,108,32,49],[111,112,101,110],[103,101,116,32,97],[114,101,112,108,97,99,101,32,49],[115,99,114,117,98],[102,97,105,108,32,48],[111,112,101,110],[103,101,116,32,97],[109,101,114,103,101],[115,116,97,116]]
def wkA:List By:=[[111,107],[111,107],[111,107],[111,107],[118,97,108,117,101,32,49],[111,107],[109,101,110,100,101,100,32,54,32,108,111,115,116,32,48],[111,107],[111,107],[118,97,108,117,101,32,49],[111,107],[117,115,101,100,32,50,48,32,112,101,110,100,105,110,103,32,48]]
theorem wk_ok:cfOk wkC:=by decide+kernel
theorem wk_new:(smakeV (newA wkC (wkC.k*wkC.sh+42)) wkC 1).1.1.isSome=true∧(smakeV (newA wkC (wkC.k*wkC.sh+42)) wkC 1).1.2=0:=by decide+kernel
theorem wk_run:runL wkL (smakeV (newA wkC (wkC.k*wkC.sh+42)) wkC 1).2 (smakeV (newA wkC (wkC.k*wkC.sh+42)) wkC 1).1.1=wkA:=by decide+kernel
theorem s_works{H:Heap}(hG:Gl H)(h8:8≤H.size):Spec prog 6 #[] H nob λu _=>u=.bool true:=by
 have h1:=wk_new
 have h2:=wk_run
 generalize hm:smakeV (newA wkC (wkC.k*wkC.sh+42)) wkC 1=t at h1 h2
 obtain⟨⟨o,e⟩,a2⟩:=t
 obtain⟨h3,h4⟩:=h1
 dsimp only at h2 h3 h4
 subst h4
 cases o with
 |none=>cases h3
 |some s=>
  have hrn:=λ{X:Heap} {v:Value} (F:Frm nob H X) (hv:Rd X v (strV wkL))=>s_run (hG.q F) (Qb h8 F.1) wk_ok (by decide) hm hv (by decide) (by decide)
  rw[h2] at hrn
  refine spec (args:=[]) func6 rfl (by kernel_rfl) (by kernel_rfl) ?_
  conv=>whnf
  refine⟨rfl,?_⟩
  conv=>whnf
  intro H1 b1 f1 _
  conv=>whnf
  refine .k ((cfL wkC)) (f1.at) (.inr (by have:=f1.1;show H.size≤b1;omega)) rfl rfl ?_
  intro H2 u2 _
  have F2:Frm nob H H2:=f1.e.then u2.e λk (hk:k=b1)=>.inr (by have:=f1.1;omega)
  conv=>whnf
  refine⟨cfL wkC,rfl,CellsAt.at u2.1,?_⟩
  conv=>whnf
  refine⟨rfl,?_⟩
  conv=>whnf
  intro H3 b3 f3 _
  conv=>whnf
  refine .q (hrn (F2.trans f3.e) (.inr ⟨b3,0,12,rfl,Qd _,CellsAt.new (cs:=strV wkL) f3⟩)) ?_
  rintro _ H4 ⟨ad,cap,rfl,ho⟩ e4 _
  conv=>whnf
  refine⟨rfl,λ_=>?_,λh=>absurd rfl h⟩
  conv=>whnf
  refine⟨rfl,?_⟩
  conv=>whnf
  intro H5 b5 f5 _
  conv=>whnf
  refine .q (s_same (ho.q f5.e).rd.1 (.inr ⟨b5,0,12,rfl,Qd _,CellsAt.new (cs:=strV wkA) f5⟩) (by decide)) ?_
  rintro _ H6 rfl e6 _
  conv=>whnf
  exact⟨rfl⟩
end Go.Proofs.YtjambljmnifknaaGreatDoor.Vc
