/- Part 24 of the proof of TopAny: store: Merge · scrub: All · scrub.All; an array's Crash and New; the library's variables; strconv, strings.Split, strings.Trim · shell: said; a map of texts; commands · shell: wide, args.read. -/
import Derived.Test.YtjambljmnifknaaGreatDoorJ23
import Derived.Shelf.Strings.SlTrimAscii
set_option maxRecDepth 100000
set_option maxHeartbeats 80000000
set_option linter.all false
open Go.Proofs.Tryz
namespace Go.Proofs.YtjambljmnifknaaGreatDoor.Vc
open Go Go.RowKit Tp
open Dk (Arr Dsk)
theorem compV_ok{l:List Pr}(h:∀p∈l,prOk p):(∀w∈compV l,w.length≤64∧∀c∈w,chOk c)∧(compV l).length≤l.length/64+1:=by
 unfold compV
 split
 ·refine⟨λw hw=>?_,?_⟩
  ·obtain⟨k,_,rfl⟩:=Qw.1 hw
   unfold grp
   refine⟨by simp;omega,λc hc=>?_⟩
   obtain⟨q,hq,rfl⟩:=Qw.1 hc
   exact h q (Yw (Z4 hq))
  ·rw[Qv,Zr]
   unfold chN
   omega
 ·exact⟨λw hw=>by (cases hw),Qk _⟩
def hname(n:Nat):By:=if n=0 then [65] else [66]
theorem hname_at(n:Nat)(h:n≤1):(ByteArray.mk #[65,66]).extract n (n+1)=Tp.S (hname n):=by
 have:n=0∨n=1:=by omega
 rcases this with rfl|rfl<;>decide
def mergeW(s:St)(other n:Nat)(l:Lg)(w:(Int×Arr)×Vol):Int×Arr×St:=if w.1.1≠0 then(w.1.1,w.1.2,⟨s.l,w.2,s.half,s.next,s.ws,s.ps⟩) else(0,w.1.2,⟨l,w.2,other,(n:Int),s.ws,s.ps⟩)
def mergeA(s:St)(other n:Nat)(r:LR):Int×Arr×St:=if r.1.1≠0 then(r.1.1,r.1.2,⟨s.l,r.2.1,s.half,s.next,s.ws,s.ps⟩) else mergeW s other n r.2.2 (vwriteV r.1.2 r.2.1 0 (hname other))
def mergeU(s:St)(other n:Nat)(t:By)(r:LR):Int×Arr×St:=if r.1.1≠0 then(r.1.1,r.1.2,⟨s.l,r.2.1,s.half,s.next,s.ws,s.ps⟩) else mergeA s other n (lappV r.1.2 r.2.1 r.2.2 t)
def mergeS(a:Arr)(s:St)(other n:Nat)(l:Lg)(t:By×Int):Int×Arr×St:=if t.2≠0 then(t.2,a,s) else if roomF l+((textF l.size l.parts).length:Nat)<t.1.length then(11,a,s) else mergeU s other n t.1 (ltruncV a s.v l 0)
def mergeL(a:Arr)(s:St)(other:Nat):Option Lg×Int→Int×Arr×St
 |(none,e)=>(e,a,s)
 |(some l,_)=>mergeS a s other (compV s.ps).length l (scanWV 0 (compV s.ps))
def mergeV(a:Arr)(s:St):Int×Arr×St:=if(syncV a s).1≠0 then syncV a s else mergeL (syncV a s).2.1 (syncV a s).2.2 (1-(syncV a s).2.2.half) (lhalfV (syncV a s).2.1 (syncV a s).2.2.v (1-(syncV a s).2.2.half))
attribute [local irreducible] syncV lhalfV roomF ltruncV lappV hname compV textF
section
variable {B:Nat}{Q:Int}{N:Nat}{p:Pl}{x:Sp}{s:St}{a:Arr}{H:Heap}{S:Nat→Prop}
theorem LV.other{gl gv b cap:Nat}{v:Vol}{l:Lg}{T S':Nat→Prop}{H':Heap}{B':Nat}{Q':Int}{v':Vol}{a':Arr}(h:LV B Q p gl gv b cap a v l H S)(hF:Frm T H H')(h1:¬T gl)(h2:¬T b)(hav:AV p gv v' a' H' S')(hvo:VOk B' Q' v' a')(hs:Sub S' S H):LV B' Q' p gl gv b cap a' v' l H' S':=by
 obtain⟨cb,hb⟩:=h.blkb
 have hbl:=(Qa.1 hb).1
 have hgl:=(Qa.1 h.al.lg).1
 exact⟨⟨hav,hF.blkT h.al.lg h1,λe=>(hs gl e).elim h.al.out λe=>by omega,h.al.row.frm hF (λk hk=>by cases hk;exact h2),λk hk e=>by cases hk;exact(hs b e).elim (h.al.ro b rfl) λe=>by omega⟩,hvo,h.lo⟩
theorem LV.ne{gl gv b cap:Nat}{v:Vol}{l:Lg}(h:LV B Q p gl gv b cap a v l H S):¬(S gl∨gl=gv)∧¬(S b∨b=gv):=by
 obtain⟨cb,hb⟩:=h.blkb
 have hv:=h.al.av.vol
 refine⟨λe=>e.elim h.al.out λe=>?_,λe=>e.elim (h.al.ro b rfl) λe=>?_⟩
 ·have:=h.al.lg
  rw[e,hv] at this
  simp at this
 ·rw[e,hv] at hb
  simp at hb
theorem s_merge(h:SS B Q N p x s a H S)(hB:B≤740000)(hQ:Q≤79000000000000000)(hN:N≤1000):
  Spec prog 156 #[ptr x.gs 0] H (TS x S) λu H'=>u=.int .i64 (mergeV a s).1∧∃x' S',x'.gs=x.gs∧SS (B+36012) (Q+3001) (N+1) p x' (mergeV a s).2.2 (mergeV a s).2.1 H' S'∧Sub (TS x' S') (TS x S) H:=by
 obtain⟨tot,htot⟩:∃t,mergeV a s=t:=⟨_,rfl⟩
 rw[htot]
 unfold mergeV at htot
 have hsy:=s_sync h (by omega) (by omega) hN
 generalize syncV a s=y at htot hsy
 obtain⟨ye,ya,ys⟩:=y
 obtain⟨gs,gl,gv,b,cp,wv,pv⟩:=x
 dsimp only at htot hsy
 obtain⟨o,ho⟩:∃o,1-ys.half=o:=⟨_,rfl⟩
 rw[ho] at htot
 have ho1:o≤1:=by omega
 have hhf:=λ{X:Heap} {S':Nat→Prop} (hL:LV (B+12000) (Q+1000) p gl gv b cp ya ys.v ys.l X S')=>s_half hL.al.av hL.vo o ho1
 have hbd:∀{e:Int},lhalfV ya ys.v o=(none,e)→e≠0:=λh=>by unfold lhalfV at h;exact lopenV_bad h
 generalize lhalfV ya ys.v o=lh at htot hhf hbd
 obtain⟨lo,le⟩:=lh
 have hgs:=h.gs_lt
 cases lo with
 |none=>
  have hle:=hbd rfl
  refine spx func156 ?_
  conv=>whnf
  refine .t (hsy) (λk hk=>.inl hk) ?_
  rintro _ H1 ⟨rfl,wv1,S1,h1,hs1⟩ e1 _
  conv=>whnf
  refine⟨rfl,λh2=>?_,λh2=>?_⟩
  ·rw[if_pos h2] at htot
   subst htot
   exact⟨rfl,⟨gs,gl,gv,b,cp,wv1,pv⟩,S1,rfl,h1.mono (B':=B+36012) (Q':=Q+3001) (N':=N+1) (by omega) (by omega) (Qd _),TS_sub hs1⟩
  rw[if_neg (λe=>e h2)] at htot
  have hhf1:=h1.ok.hf
  conv=>whnf
  refine⟨_,cel_of h1.st rfl,?_⟩
  conv=>whnf
  refine⟨rfl,((o:Nat):Int),by rw[wr64 (by omega) (by omega)];omega,?_⟩
  conv=>whnf
  refine⟨_,cel_of h1.st rfl,?_⟩
  conv=>whnf
  refine .t (hhf h1.lv) (λk hk=>(hs1 k hk).imp (λe=>.inl (.inl (.inl e))) (λe=>e)) ?_
  rintro _ H2 ⟨rfl,S2,hV2,hs2⟩ e2 _
  have F2:Frm (λk=>S1 k∨k=gv) H1 H2:=e2.mono λ_ _ e=>.inl e
  have hL2:=h1.lv.other F2 h1.lv.ne.1 h1.lv.ne.2 hV2 h1.lv.vo hs2
  have hu2:=h1.up e2 (λk hk=>.inl (.inl (.inl hk))) hs2 hL2
  conv=>whnf
  refine⟨rfl,λh3=>?_,λh3=>absurd h3 hle⟩
  subst htot
  have hs2':Sub S2 S H:=λk hk=>(hs2 k hk).elim (hs1 k) λhl=>.inr (Qb e1.1 hl)
  exact⟨rfl,⟨gs,gl,gv,b,cp,wv1,pv⟩,S2,rfl,hu2.mono (B':=B+36012) (Q':=Q+3001) (N':=N+1) (by omega) (by omega) (Qd _),TS_sub hs2'⟩
 |some l=>
  have he:mergeL ya ys o (some l,le)=mergeS ya ys o (compV ys.ps).length l (scanWV 0 (compV ys.ps)):=rfl
  rw[he] at htot
  clear he hbd
  have hcp:=λ{X:Heap} {S':Nat→Prop} {wv:Value} (hS:SS (B+12000) (Q+1000) (N+1) p ⟨gs,gl,gv,b,cp,wv,pv⟩ ys ya X S')=>(s_compact hS.pr.1 hS.ok.po (by have:=hS.ok.pn;omega)).imp (R':=λu H'=>∃(xs:List Gx) (ad:Option Addr) (c:Nat),u=.slice ad xs.length c∧Own H' X.size 104 1 (.slice ad xs.length c) xs.length (xs.map gxV)∧xs.map (·.1)=compV ys.ps∧∀x∈xs,Own H' X.size 158 3 (gxV x) x.1.length (cgsV x.1)) λu H' ⟨xs,h1,h2,h3⟩=>by
   obtain⟨ad,c,rfl⟩:=h2.form
   exact⟨xs,ad,c,rfl,h2,h1,h3⟩
  have hco:=λ(h:∀q∈ys.ps,prOk q)=>compV_ok h
  generalize compV ys.ps=cg at htot hcp hco
  have hsw:=λ{X:Heap} {w:Value} (hp:(∀w∈cg,w.length≤64∧∀c∈w,chOk c)∧cg.length≤10000000) (hg:GrO nob X w cg)=>s_swrite hg (λy hy=>⟨Qb (hp.1 y hy).1 (by decide),(hp.1 y hy).2⟩) hp.2 0 ⟨QJ _,by decide⟩
  have hsl:=λ(hp:∀w∈cg,w.length≤64∧∀c∈w,chOk c)=>scanWV_len 0 (ws:=cg) λw hw=>(hp w hw).2
  generalize scanWV 0 cg=t at htot hsw hsl
  obtain⟨t,te⟩:=t
  unfold mergeS at htot
  dsimp only at htot hsw hsl
  have hrm:=λ{X:Heap} {S:Nat→Prop} {gl b cap:Nat} (hL:LV (B+12000) (Q+1000) p gl gv b cap ya ys.v l X S) (hc:0≤l.count*l.size∧l.count*l.size≤1000000000000)=>s_lroom hL.al.lg hL.al.row.rd.1 (Qb hL.lo.flat (by decide)) (Qb hL.lo.n (by decide)) hc
  have htx:=λ{X:Heap} {S:Nat→Prop} {gl b cap:Nat} (hL:LV (B+12000) (Q+1000) p gl gv b cap ya ys.v l X S)=>s_ltext hL.al.lg hL.al.row.rd.1 (Qb hL.lo.flat (by decide)) (Qb hL.lo.n (by decide))
  have hrl:=λ(h:LOk l)=>roomF_le h
  have htl:=λ(h:LOk l)=>h.text
  have hrl2:roomF l+((textF l.size l.parts).length:Int)=l.count*l.size:=by unfold roomF;omega
  generalize roomF l=rm at htot hrm hrl hrl2
  generalize textF l.size l.parts=tx at htot htx htl hrl2
  have htr:=λ{X:Heap} {S:Nat→Prop} {gl b cap:Nat} (hL:LV (B+12000) (Q+1000) p gl gv b cap ya ys.v l X S)=>s_ltrunc hL (by omega) (by omega) 0
  generalize ltruncV ya ys.v l 0=r at htot htr
  obtain⟨⟨re,ra⟩,rv,rl⟩:=r
  unfold mergeU at htot
  dsimp only at htot htr
  have hap:=λ{X:Heap} {S:Nat→Prop} {gl b cap:Nat} (hL:LV (B+24000) (Q+2000) p gl gv b cap ra rv rl X S) (ht:t.length≤1000000000000000)=>s_lapp hL (by omega) (by omega) t ht
  generalize lappV ra rv rl t=r2 at htot hap
  obtain⟨⟨re2,ra2⟩,rv2,rl2⟩:=r2
  unfold mergeA at htot
  dsimp only at htot hap
  have hnl:(hname o).length≤1:=by unfold hname;split<;>simp
  have hna:=hname_at o ho1
  generalize hname o=hn at htot hnl hna
  have hvw:=λ{X:Heap} {S:Nat→Prop} (hV:AV p gv rv2 ra2 X S) (hO:VOk (B+36000) (Q+3000) rv2 ra2)=>s_vwrite hV hO.sm (by omega) 0 hn (by omega) (by decide) (Qb hO.nd (by decide)) hO.cf hO.ds hO.id ⟨hO.sq.1,Yo hO.sq.2 (by omega)⟩
  have hvo:=λ(hO:VOk (B+36000) (Q+3000) rv2 ra2)=>hO.write 0 hn
  generalize vwriteV ra2 rv2 0 hn=w at htot hvw hvo
  obtain⟨⟨we,wa⟩,vw⟩:=w
  unfold mergeW at htot
  dsimp only at htot hvw hvo
  refine spx func156 ?_
  conv=>whnf
  refine .t (hsy) (λk hk=>.inl hk) ?_
  rintro _ H1 ⟨rfl,wv1,S1,h1,hs1⟩ e1 _
  conv=>whnf
  refine⟨rfl,λh2=>?_,λh2=>?_⟩
  ·rw[if_pos h2] at htot
   subst htot
   exact⟨rfl,⟨gs,gl,gv,b,cp,wv1,pv⟩,S1,rfl,h1.mono (B':=B+36012) (Q':=Q+3001) (N':=N+1) (by omega) (by omega) (Qd _),TS_sub hs1⟩
  rw[if_neg (λe=>e h2)] at htot
  have hhf1:=h1.ok.hf
  conv=>whnf
  refine⟨_,cel_of h1.st rfl,?_⟩
  conv=>whnf
  refine⟨rfl,((o:Nat):Int),by rw[wr64 (by omega) (by omega)];omega,?_⟩
  conv=>whnf
  refine⟨_,cel_of h1.st rfl,?_⟩
  conv=>whnf
  refine .t (hhf h1.lv) (λk hk=>(hs1 k hk).imp (λe=>.inl (.inl (.inl e))) (λe=>e)) ?_
  rintro _ H2 ⟨gl2,b2,cp2,S2,rfl,hgl2,hb2,hL2,hs2⟩ e2 _
  have z1:=e1.1
  have hgs1:=h1.gs_lt
  have hgsT:=h1.gs_TL
  have F2:Frm (λk=>S1 k∨k=gv) H1 H2:=e2.mono λ_ _ e=>.inl e
  have mk:∀{Hc:Heap} {Sc:Nat→Prop} {a':Arr} {v':Vol} {B':Nat} {Q':Int},Frm (λk=>S1 k∨k=gv) H1 Hc→AV p gv v' a' Hc Sc→VOk B' Q' v' a'→Sub Sc S1 H1→SS B' Q' (N+1) p ⟨gs,gl,gv,b,cp,wv1,pv⟩ ⟨ys.l,v',ys.half,ys.next,ys.ws,ys.ps⟩ a' Hc Sc:=
   λF hV hO hs=>h1.up F (λk hk=>.inl (.inl hk)) hs (h1.lv.other F h1.lv.ne.1 h1.lv.ne.2 hV hO hs)
  have hT0:∀{Sc:Nat→Prop},Sub Sc S1 H1→∀k,TL Sc gv b2 k→(S1 k∨k=gv)∨H1.size≤k:=λhs k hk=>hk.elim (λe=>e.elim (λe=>(hs k e).imp .inl λe=>e) λe=>.inl (.inr e)) λe=>.inr (by omega)
  have hTS:∀k,(S1 k∨k=gv)∨H1.size≤k→TS ⟨gs,gl,gv,b,cp,wv,pv⟩ S k∨H.size≤k:=λk hk=>hk.elim (λe=>e.elim (λe=>(hs1 k e).imp (λe=>.inl (.inl (.inl e))) λe=>e) λe=>.inl (.inl (.inl (.inr e)))) λe=>.inr (by omega)
  have hbad:∀{Hc:Heap} {Sc:Nat→Prop} {a':Arr} {v':Vol} {B':Nat} {Q':Int} {e:Int},Frm (λk=>S1 k∨k=gv) H1 Hc→AV p gv v' a' Hc Sc→VOk B' Q' v' a'→Sub Sc S1 H1→B'≤B+36012→Q'≤Q+3001→(e,a',(⟨ys.l,v',ys.half,ys.next,ys.ws,ys.ps⟩:St))=tot→
    Value.int .i64 e=Value.int .i64 tot.1∧∃x' S',x'.gs=gs∧SS (B+36012) (Q+3001) (N+1) p x' tot.2.2 tot.2.1 Hc S'∧Sub (TS x' S') (TS ⟨gs,gl,gv,b,cp,wv,pv⟩ S) H:=λ{Hc Sc a' v' B' Q' e} F hV hO hs hb hq ht=>by
   subst ht
   exact⟨rfl,⟨gs,gl,gv,b,cp,wv1,pv⟩,Sc,rfl,(mk F hV hO hs).mono hb hq (Qd _),TS_sub λk hk=>(hs k hk).elim (hs1 k) λe=>.inr (by omega)⟩
  have hu2:=mk F2 hL2.al.av hL2.vo hs2
  conv=>whnf
  refine⟨rfl,λh3=>absurd rfl h3,λ_=>?_⟩
  conv=>whnf
  refine⟨_,cel_of hu2.st rfl,?_⟩
  conv=>whnf
  refine .q (hcp hu2) ?_
  rintro _ H3 ⟨xs,ad,c,rfl,hrow,hxs,hxg⟩ e3 _
  have hgr:GrO nob H3 (.slice ad xs.length c) cg:=⟨xs.map gxV,RwO.fresh hrow (flat1 _) (by simp) (λ_ e=>e.elim),by simp[←hxs],λi y w hy hw=>by
   rw[←hxs,Qp] at hw
   rw[Qp] at hy
   cases hx:xs[i]? with
   |none=>rw[hx] at hy;cases hy
   |some g=>
    rw[hx] at hy hw
    cases hy
    cases hw
    exact RwO.fresh (hxg g (Qj hx)) rfl (by simp) (λ_ e=>e.elim)⟩
  have hcl:cg.length≤10000000:=by have:=(hco h1.ok.po).2;have:=h1.ok.pn;omega
  have hxl:xs.length=cg.length:=by have:=Qf List.length hxs;simpa using this
  conv=>whnf
  refine .q (hsw ⟨(hco h1.ok.po).1,hcl⟩ hgr) ?_
  rintro _ H4 rfl e4 _
  have e24:=e3.trans e4
  have F4:=F2.trans (e24.mono λ_ _ e=>e.elim)
  have hL4:=hL2.q e24
  conv=>whnf
  refine⟨rfl,λh5=>?_,λh5=>?_⟩
  ·rw[if_pos h5] at htot
   exact⟨hbad F4 hL4.al.av hL4.vo hs2 (by omega) (by omega) htot⟩
  rw[if_neg (λe=>e h5)] at htot
  have hlo:=hL4.lo
  have hc:0≤l.count*l.size∧l.count*l.size≤1000000000000:=by
   rw[hlo.cnt]
   have hsz:=hlo.sz
   have hpl:=hlo.n
   have h1:(l.parts.length:Int)*l.size≤1000*4000:=Z3 (by omega) hsz.2 (by omega) (by decide)
   have h2:0≤(l.parts.length:Int)*l.size:=Yq (by omega) (by omega)
   omega
  conv=>whnf
  refine .q (hrm hL4 hc) ?_
  rintro _ H5 rfl e5 _
  have hL5:=hL4.q e5
  conv=>whnf
  refine .q (htx hL5) ?_
  rintro _ H6 rfl e6 _
  have hL6:=hL5.q e6
  have F6:=F4.trans ((e5.trans e6).mono λ_ _ e=>e.elim)
  conv=>whnf
  refine⟨rfl,rm+(tx.length:Int),by rw[S_size];exact wr64 (by omega) (by omega),?_⟩
  conv=>whnf
  refine⟨rfl,λh6=>?_,λh6=>?_⟩
  ·have h6':rm+(tx.length:Int)<((Tp.S t).size:Int):=h6
   rw[S_size] at h6'
   rw[if_pos h6'] at htot
   exact⟨hbad F6 hL6.al.av hL6.vo hs2 (by omega) (by omega) htot⟩
  have h6':¬rm+(tx.length:Int)<((Tp.S t).size:Int):=h6
  rw[S_size] at h6'
  rw[if_neg h6'] at htot
  conv=>whnf
  refine .t (htr hL6) (λk hk=>hTS k (hT0 hs2 k hk)) ?_
  rintro _ H7 ⟨rfl,S7,hL7,hs7⟩ e7 _
  have hL7:LV (B+24000) (Q+2000) p gl2 gv b2 cp2 ra rv rl H7 S7:=hL7.mono (by omega) (by omega)
  have F7:=F6.then e7 (hT0 hs2)
  have hsS7:Sub S7 S1 H1:=λk hk=>(hs7 k hk).elim (hs2 k) λe=>.inr (by have:=F6.1;omega)
  conv=>whnf
  refine⟨rfl,λh7=>?_,λh7=>?_⟩
  ·rw[if_pos h7] at htot
   exact⟨hbad F7 hL7.al.av hL7.vo hsS7 (by omega) (by omega) htot⟩
  rw[if_neg (λe=>e h7)] at htot
  have htl2:t.length≤1000000000000000:=by have:=hsl (hco h1.ok.po).1;omega
  conv=>whnf
  refine .t (hap hL7 htl2) (λk hk=>hTS k (hT0 hsS7 k hk)) ?_
  rintro _ H8 ⟨rfl,S8,hL8,hs8⟩ e8 _
  have hL8:LV (B+36000) (Q+3000) p gl2 gv b2 cp2 ra2 rv2 rl2 H8 S8:=hL8.mono (by omega) (by omega)
  have F8:=F7.then e8 (hT0 hsS7)
  have hsS8:Sub S8 S1 H1:=λk hk=>(hs8 k hk).elim (hsS7 k) λe=>.inr (by have:=F7.1;omega)
  conv=>whnf
  refine⟨rfl,λh8=>?_,λh8=>?_⟩
  ·rw[if_pos h8] at htot
   exact⟨hbad F8 hL8.al.av hL8.vo hsS8 (by omega) (by omega) htot⟩
  rw[if_neg (λe=>e h8)] at htot
  have hu8:=mk F8 hL8.al.av hL8.vo hsS8
  have hg8:¬(S8 gs∨gs=gv):=λe=>hu8.gs_TL (.inl e)
  conv=>whnf
  refine .t (λk=>S8 k∨k=gv) (λk hk=>hTS k (hT0 hsS8 k (.inl hk))) (by kernel_rfl) ?_
  conv=>whnf
  refine⟨hg8,_,cel_of hu8.st rfl,?_⟩
  conv=>whnf
  refine⟨rfl,((o+1:Nat):Int),by rw[wr64 (by omega) (by omega)];omega,?_⟩
  conv=>whnf
  refine⟨o,o+1,⟨_,rfl⟩,⟨_,rfl⟩,by omega,by show o+1≤2;omega,Tp.S hn,hna,?_⟩
  conv=>whnf
  refine .t (hvw hL8.al.av hL8.vo) (λk hk=>.inl hk) ?_
  rintro _ H9 ⟨rfl,S9,hV9,hs9⟩ e9 _
  have F9:=F8.then e9 λk hk=>hT0 hsS8 k (.inl hk)
  have hsS9:Sub S9 S1 H1:=λk hk=>(hs9 k hk).elim (hsS8 k) λe=>.inr (by have:=F8.1;omega)
  have hO9:=hvo hL8.vo
  conv=>whnf
  refine⟨rfl,λh9=>?_,λh9=>?_⟩
  ·rw[if_pos h9] at htot
   exact⟨hbad F9 hV9 hO9 hsS9 (by omega) (by omega) htot⟩
  rw[if_neg (λe=>e h9)] at htot
  have hu9:=mk F9 hV9 hO9 hsS9
  have hL9:=hL8.other e9 hL8.ne.1 hL8.ne.2 hV9 hO9 hs9
  conv=>whnf
  refine .k ([ptr gl2 0,ptr gv 0,.int .i64 (ys.half:Int),.int .i64 ys.next,wv1,pv]) (hu9.st) (.inl (.inr rfl)) rfl rfl ?_
  intro HA uA _
  conv=>whnf
  refine .k ([ptr gl2 0,ptr gv 0,.int .i64 (o:Int),.int .i64 ys.next,wv1,pv]) (uA.1) (.inl (.inr rfl)) rfl rfl ?_
  intro HB uB _
  conv=>whnf
  refine .k ([ptr gl2 0,ptr gv 0,.int .i64 (o:Int),.int .i64 (xs.length:Int),wv1,pv]) (uB.1) (.inl (.inr rfl)) rfl rfl ?_
  intro HC uC _
  have FC:=(uA.e.trans uB.e).trans uC.e
  subst htot
  have hok1:=h1.ok
  have hlt1:=h1.ltT
  have hFC:=(F9.mono (S:=TS ⟨gs,gl,gv,b,cp,wv1,pv⟩ S1) λk _ hk=>.inl (.inl hk)).trans (FC.mono λk _ hk=>.inr hk)
  have hW:∀k,k<H1.size→TS ⟨gs,gl2,gv,b2,cp2,wv1,pv⟩ S9 k→TS ⟨gs,gl,gv,b,cp,wv1,pv⟩ S1 k:=by
   rintro k hk (((e|e)|e)|e)
   ·exact(hsS9 k e).elim (λe=>.inl (.inl (.inl e))) λe=>by omega
   ·exact .inl (.inl (.inr e))
   ·have:k=b2:=e
    omega
   ·exact .inr e
  refine⟨rfl,⟨gs,gl2,gv,b2,cp2,wv1,pv⟩,S9,rfl,⟨?_,(hL9.frm1 hu9.st hu9.out (by decide) (by decide) (by decide) FC).mono (Qd _) (by omega),hu9.out,h1.pr.frm pr_flat hFC (λ_ _ e=>e) hW,h1.wt.frm hFC (λ_ _ e=>e) hW,
   ⟨ho1,⟨by show(0:Int)≤(cg.length:Int);omega,by show(cg.length:Int)≤_;omega⟩,hok1.wn,hok1.wo,hok1.pn,hok1.po⟩⟩,?_⟩
  ·show HC[gs]? =some (.cells #[ptr gl2 0,ptr gv 0,.int .i64 (o:Int),.int .i64 (cg.length:Int),wv1,pv] 96 (0,0))
   rw[←hxl]
   exact uC.1
  ·rintro k (((e|e)|e)|e)
   ·exact hTS k (hT0 hsS9 k (.inl (.inl e)))
   ·exact hTS k (.inl (.inr e))
   ·exact .inr (by have:k=b2:=e;omega)
   ·exact .inl (.inr e)
end
end Go.Proofs.YtjambljmnifknaaGreatDoor.Vc
namespace Go.Proofs.YtjambljmnifknaaGreatDoor.Vc
open Go Go.RowKit Tp
open Dk (Arr Dsk)
section
attribute [local semireducible] vmendV vheadsV headsF
theorem vmendV_ok{B:Nat}{Q:Int}{v:Vol}{a:Arr}(h:VOk B Q v a)(n:Int):VOk (B+6) Q v (vmendV a v n).2∧0≤(vmendV a v n).1.1∧(vmendV a v n).1.1≤6:=by
 have hnd:=h.nd
 have hall:=aliveL_len a a.ds.length
 unfold vmendV
 have hdl:=delF_len (hasB (ofV ((vstate a v n).map (·.2)) (lookP a v n))) (aliveL a a.ds.length)
 have hsm:=shardsV_sm v n (lookP a v n) (vjoin v (vstate a v n) (ofV ((vstate a v n).map (·.2)) (lookP a v n))).1 (delF (hasB (ofV ((vstate a v n).map (·.2)) (lookP a v n))) (aliveL a a.ds.length)) h.sm
 have hds:=shardsV_ds a v n (lookP a v n) (vjoin v (vstate a v n) (ofV ((vstate a v n).map (·.2)) (lookP a v n))).1 (delF (hasB (ofV ((vstate a v n).map (·.2)) (lookP a v n))) (aliveL a a.ds.length))
 generalize shardsV a v n (lookP a v n) (vjoin v (vstate a v n) (ofV ((vstate a v n).map (·.2)) (lookP a v n))).1 (delF (hasB (ofV ((vstate a v n).map (·.2)) (lookP a v n))) (aliveL a a.ds.length))=sh at hsm hds⊢
 have hsm':=hsm.mono (show _≤B+6 by omega)
 have k1:VOk (B+6) Q v a:=h.mono (by omega) (QJ _)
 have k2:VOk (B+6) Q v sh.2:=⟨hsm',by rw[hds];exact hnd,h.cf,by rw[hds];exact h.ds,h.id,h.sq⟩
 have k3:VOk (B+6) Q v (Dk.aflushed sh.2):=⟨hsm'.flushed,by rw[aflushed_ds,hds];exact hnd,h.cf,by rw[aflushed_ds,hds];exact h.ds,h.id,h.sq⟩
 (repeat' split)<;>first|exact⟨k1,QJ 0,(by decide:(0:Int)≤6)⟩|exact⟨k2,QJ 0,(by decide:(0:Int)≤6)⟩|exact⟨k3,QJ 0,(by decide:(0:Int)≤6)⟩|exact⟨k3,Int.natCast_nonneg _,by show((_:Nat):Int)≤6;omega⟩
theorem headsF_ok(v:Vol)(t:By):∀(ds:List Int) (m:Nat) (a:Arr),(headsF v t ds m a).2.ds.length=a.ds.length∧0≤(headsF v t ds m a).1.1∧(headsF v t ds m a).1.1≤((m+ds.length:Nat):Int)
 |[],m,a=>⟨rfl,Int.natCast_nonneg _,QJ _⟩
 |d::ds,m,a=>by
  unfold headsF
  have h1:=headsF_ok v t ds m a
  have h2:=headsF_ok v t ds (m+1) (vputA a v d 0 0 t)
  have h3:=vputA_ds a v d 0 0 t
  simp only[Qo]
  split
  ·exact⟨h1.1,h1.2.1,by omega⟩
  ·split
   ·exact⟨h3,QJ 0,by show(0:Int)≤_;omega⟩
   ·exact⟨h2.1.trans h3,h2.2.1,by omega⟩
theorem vheadsV_ok{B:Nat}{Q:Int}{v:Vol}{a:Arr}(h:VOk B Q v a):VOk (B+6) Q v (vheadsV a v).2∧0≤(vheadsV a v).1.1∧(vheadsV a v).1.1≤6:=by
 have hnd:=h.nd
 have hall:=aliveL_len a a.ds.length
 unfold vheadsV
 have hsm:=headsF_sm v (cfW v.conf) (aliveL a a.ds.length) 0 h.sm
 have hds:=headsF_ok v (cfW v.conf) (aliveL a a.ds.length) 0 a
 generalize headsF v (cfW v.conf) (aliveL a a.ds.length) 0 a=sh at hsm hds⊢
 have hsm':=hsm.mono (show _≤B+6 by simp at hall;omega)
 have k1:VOk (B+6) Q v a:=h.mono (by omega) (QJ _)
 have k2:VOk (B+6) Q v sh.2:=⟨hsm',by rw[hds.1];exact hnd,h.cf,by rw[hds.1];exact h.ds,h.id,h.sq⟩
 have k3:VOk (B+6) Q v (Dk.aflushed sh.2):=⟨hsm'.flushed,by rw[aflushed_ds,hds.1];exact hnd,h.cf,by rw[aflushed_ds,hds.1];exact h.ds,h.id,h.sq⟩
 (repeat' split)<;>first|exact⟨k1,QJ 0,(by decide:(0:Int)≤6)⟩|exact⟨k2,QJ 0,(by decide:(0:Int)≤6)⟩|exact⟨k3,QJ 0,(by decide:(0:Int)≤6)⟩|exact⟨k3,hds.2.1,by show sh.1.1≤6;simp at hall;omega⟩
end
def erS(e:Int):Int:=if e=10 then 0 else e
def loS(e:Int):Int:=if e=10 then 1 else 0
theorem loS_01(e:Int):0≤loS e∧loS e≤1:=by
 unfold loS
 split<;>omega
theorem s_radd{rb:Nat}{nx dn:Value}{m l:Int}{H:Heap}(hb:H[rb]? =some (.cells #[nx,.int .i64 m,.int .i64 l,dn] 219 (0,0)))(many e:Int)(hm: -1000000000≤m+many∧m+many≤1000000000)(hl: -1000000000≤l∧l≤1000000000):
  Spec prog 266 #[ptr rb 0,.int .i64 many,.int .i64 e] H (λk=>k=rb) λu H'=>u=.int .i64 (erS e)∧H'[rb]? =some (.cells #[nx,.int .i64 (m+many),.int .i64 (l+loS e),dn] 219 (0,0)):=by
 by_cases he:e=10
 ·unfold erS loS
  rw[if_pos he,if_pos he]
  refine spx func266 ?_
  conv=>whnf
  refine⟨_,cel_of hb rfl,?_⟩
  conv=>whnf
  refine⟨rfl,m+many,wr64 (by omega) (by omega),?_⟩
  conv=>whnf
  refine .k ([nx,.int .i64 (m+many),.int .i64 l,dn]) (hb) (.inl rfl) rfl rfl ?_
  intro H1 u1 _
  conv=>whnf
  refine⟨rfl,λh1=>?_,λh1=>absurd he h1⟩
  conv=>whnf
  refine⟨_,cel_of u1.1 rfl,?_⟩
  conv=>whnf
  refine⟨rfl,l+1,wr64 (by omega) (by omega),?_⟩
  conv=>whnf
  refine .k ([nx,.int .i64 (m+many),.int .i64 (l+1),dn]) (u1.1) (.inl rfl) rfl rfl ?_
  intro H2 u2 _
  exact⟨rfl,u2.1⟩
 ·unfold erS loS
  rw[if_neg he,if_neg he,Int.add_zero]
  refine spx func266 ?_
  conv=>whnf
  refine⟨_,cel_of hb rfl,?_⟩
  conv=>whnf
  refine⟨rfl,m+many,wr64 (by omega) (by omega),?_⟩
  conv=>whnf
  refine .k ([nx,.int .i64 (m+many),.int .i64 l,dn]) (hb) (.inl rfl) rfl rfl ?_
  intro H1 u1 _
  conv=>whnf
  refine⟨rfl,λh1=>absurd h1 he,λh1=>?_⟩
  exact⟨rfl,u1.1⟩
def scrubF(v:Vol):Nat→Nat→Int→Int→Arr→((Int×Int)×Int)×Arr
 |0,_,m,l,a=>(((m,l),0),a)
 |q+1,n,m,l,a=>if erS (vmendV a v n).1.2≠0 then(((0,0),erS (vmendV a v n).1.2),(vmendV a v n).2) else scrubF v q (n+1) (m+(vmendV a v n).1.1) (l+loS (vmendV a v n).1.2) (vmendV a v n).2
def scrubV(a:Arr)(v:Vol):((Int×Int)×Int)×Arr:=
 if erS (vheadsV a v).1.2≠0 then(((0,0),erS (vheadsV a v).1.2),(vheadsV a v).2) else scrubF v v.conf.st.toNat 0 (0+(vheadsV a v).1.1) (0+loS (vheadsV a v).1.2) (vheadsV a v).2
def ScR(p:Pl)(gv:Nat)(v:Vol)(U:Nat→Prop)(H:Heap)(B:Nat)(Q:Int)(t:((Int×Int)×Int)×Arr)(u:Value)(H':Heap):Prop:=
 ∃(nx:Int) (dn:Bool),u=.tuple #[.agg #[.int .i64 nx,.int .i64 t.1.1.1,.int .i64 t.1.1.2,.bool dn],.int .i64 t.1.2]∧((0≤t.1.1.1∧t.1.1.1≤10000)∧(0≤t.1.1.2∧t.1.1.2≤10000))∧VOk B Q v t.2∧∃S',AV p gv v t.2 H' S'∧Sub S' U H
theorem min_same{A B C X:Prop}(h:X)(hc:C):(A→X)∧(B→X)∧C:=⟨λ_=>h,λ_=>h,hc⟩
attribute [local irreducible] scrubF erS loS
section
variable {p:Pl}{gv:Nat}{v:Vol}{a:Arr}{H:Heap}{U:Nat→Prop}{B:Nat}{Q:Int}
theorem AV.frm1{H':Heap}{g:Nat}{cs:Array Value}{t:TypeId}{fz:Nat×Nat}(h:AV p gv v a H U)(hg:H[g]? =some (.cells cs t fz))(hS:¬U g)(h1:t≠70)(hF:Frm (λk=>k=g) H H'):AV p gv v a H' U:=
 h.frm hF (λk hk e=>hS (e▸hk)) λe=>by
  have:=h.vol
  rw[e,hg] at this
  simp at this
  exact h1 this.2.1
theorem s_sstep(h:AV p gv v a H U)(hO:VOk B Q v a)(hB:B≤800000):Spec prog 220 #[ptr gv 0,.int .i64 0,.int .i64 v.conf.st] H U (ScR p gv v U H (B+6006) Q (scrubV a v)):=by
 obtain⟨tot,htot⟩:∃t,scrubV a v=t:=⟨_,rfl⟩
 rw[htot]
 unfold scrubV at htot
 have hcb:=hO.cf.b
 obtain⟨st,hst⟩:∃st:Nat,v.conf.st=st:=⟨_,(QL (by omega)).symm⟩
 have hst2:v.conf.st.toNat=st:=by omega
 rw[hst2] at htot
 have hvh:=λ{X:Heap} (e:Frm nob H X)=>s_vheads (h.q e) hO.sm (by omega) hO.id (Qb hO.nd (by decide))
 have hvo:=vheadsV_ok hO
 generalize vheadsV a v=vh at htot hvh hvo
 obtain⟨⟨vm,ve⟩,va⟩:=vh
 dsimp only at htot hvh hvo
 have hlo:=loS_01 ve
 have hra:=λ{X:Heap} {rb:Nat} {nx dn:Value} (hb:X[rb]? =some (.cells #[nx,.int .i64 0,.int .i64 0,dn] 219 (0,0)))=>s_radd hb vm ve (by omega) (by decide)
 generalize erS ve=ee at htot hra
 generalize loS ve=le at htot hra hlo
 have hcf:=λ{X:Heap} (e:Frm nob H X)=>s_vconf (e.blk h.vol)
 refine spx func220 ?_
 conv=>whnf
 intro H1 rc f1 _
 conv=>whnf
 refine .q (hcf f1.e) ?_
 rintro _ H2 rfl e2 _
 conv=>whnf
 refine⟨rfl,λh3=>absurd h3 (by decide),λ_=>?_⟩
 conv=>whnf
 refine⟨rfl,λh3=>absurd h3 (by show ¬v.conf.st<0;omega),λ_=>?_⟩
 conv=>whnf
 refine⟨rfl,λh3=>absurd h3 (by show ¬v.conf.st<1;omega),λ_=>?_⟩
 conv=>whnf
 refine⟨rfl,?_⟩
 conv=>whnf
 intro H3 rb f3 _
 conv=>whnf
 refine .k ([.int .i64 0,.int .i64 0,.int .i64 0,.bool false]) (f3.at) (.inr (by have:=f1.e.1;have:=e2.1;have:=f3.1;show H.size≤rb;omega)) rfl rfl ?_
 intro H4 u4 _
 have e13:=(f1.e.trans e2).trans f3.e
 have z1:=f1.e.1
 have z2:=e2.1
 have z3:=f3.e.1
 have hrc:=f1.1
 have hrb:=f3.1
 have e14:Frm nob H H4:=e13.then u4.e λk hk=>.inr (by have:k=rb:=hk;omega)
 have hlt:=h.arr.lt
 have hrc4:H4[rc]? =some (.cells #[.int .i64 0,.int .i64 0,.int .i64 0,.bool false] 219 (0,0)):=(u4.2.2 rc (by have:=f1.size;omega)).trans (f3.e.blk (e2.blk f1.at))
 conv=>whnf
 refine⟨rfl,λ_=>?_,λh3=>absurd rfl h3⟩
 conv=>whnf
 refine .t (hvh e14) (λk hk=>.inl hk) ?_
 rintro _ H5 ⟨rfl,S5,ha5,hs5⟩ e5 _
 have hV5:=(h.q e14).step e5 ha5 hs5
 have hb5:=e5.blkT u4.1 (λe=>by have:=hlt rb e;omega)
 have hc5:=e5.blkT hrc4 (λe=>by have:=hlt rc e;omega)
 have hrs:=f1.size
 have z4:=u4.e.1
 have z5:=e5.1
 have hnb5:¬S5 rb:=λe=>(hs5 rb e).elim (λe=>by have:=hlt rb e;omega) λe=>by have:=(Qa.1 u4.1).1;omega
 have hnc5:¬S5 rc:=λe=>(hs5 rc e).elim (λe=>by have:=hlt rc e;omega) λe=>by have:=(Qa.1 u4.1).1;omega
 have hs5':Sub S5 U H:=λk hk=>(hs5 k hk).imp (λe=>e) λe=>by omega
 conv=>whnf
 refine .t (hra hb5) (λk hk=>.inr (by have:k=rb:=hk;show H.size≤k;omega)) ?_
 rintro _ H6 ⟨rfl,hb6⟩ e6 _
 have hV6:=hV5.frm1 hb5 hnb5 (by decide) e6
 have hc6:=e6.blkT hc5 (λ(e:rc=rb)=>by omega)
 conv=>whnf
 refine⟨rfl,λh4=>?_,λh4=>?_⟩
 ·rw[if_pos h4] at htot
  conv=>whnf
  refine⟨rfl,?_⟩
  conv=>whnf
  refine .k ([.int .i64 0,.int .i64 0,.int .i64 0,.bool false]) (hc6) (.inr (by show H.size≤rc;omega)) rfl rfl ?_
  intro H7 u7 _
  refine⟨?_⟩
  conv=>whnf
  refine⟨_,rfl,CellsAt.at u7.1,?_⟩
  subst htot
  exact⟨_,_,rfl,⟨⟨QJ 0,(by decide:(0:Int)≤10000)⟩,⟨QJ 0,(by decide:(0:Int)≤10000)⟩⟩,hvo.1.mono (by omega) (QJ _),S5,hV6.frm1 hc6 hnc5 (by decide) u7.e,hs5'⟩
 rw[if_neg (λe=>e h4)] at htot
 conv=>whnf
 refine⟨rfl,v.conf.st,by rw[Int.sub_zero];exact wr64 (by omega) (by omega),?_⟩
 conv=>whnf
 refine min_same ?_ rfl
 conv=>whnf
 refine .g [(0,ptr gv 0),(6,ptr rc 0),(8,.int .i64 v.conf.st),(9,ptr rb 0),(48,.int .i64 v.conf.st),(49,.int .i64 0)] ⟨rfl,rfl,rfl,rfl,rfl,rfl,trivial⟩ λenv0 KL hKL=>?_
 refine⟨Nat×Int×Int×Arr,λx=>[(49,.int .i64 (x.1:Int))],λx H'=>x.1≤st∧scrubF v (st-x.1) x.1 x.2.1 x.2.2.1 x.2.2.2=tot∧VOk (B+6+6*x.1) Q v x.2.2.2∧(0≤x.2.1∧x.2.1≤6*((x.1:Int)+1))∧(0≤x.2.2.1∧x.2.2.1≤(x.1:Int)+1)∧H'[rb]? =some (.cells #[.int .i64 (x.1:Int),.int .i64 x.2.1,.int .i64 x.2.2.1,.bool false] 219 (0,0))∧H'[rc]? =some (.cells #[.int .i64 0,.int .i64 0,.int .i64 0,.bool false] 219 (0,0))∧H4.size≤H'.size∧
   ∃S',AV p gv v x.2.2.2 H' S'∧Sub S' U H∧¬S' rb∧¬S' rc,λx=>st-x.1,
  ⟨(0,0+vm,0+le,va),⟨rfl,trivial⟩,Qk _,htot,hvo.1,⟨by show 0≤0+vm;omega,by show 0+vm≤6;omega⟩,⟨by show 0≤0+le;omega,by show 0+le≤1;omega⟩,hb6,hc6,by have:=e6.1;omega,S5,hV6,hs5',hnb5,hnc5⟩,?_⟩
 clear hra hvh hcf
 rintro⟨n,m,l,b⟩ HA junk ⟨hn,hto,hOk,hm,hl,hbA,hcA,hzA,SA,hVA,hsA,hnbA,hncA⟩ FA
 dsimp only at hn hto hOk hm hl hbA hVA
 have hltA:=(Qa.1 hbA).1
 conv=>whnf
 refine⟨rfl,λh5=>?_,λh5=>?_⟩
 ·have h5':n<st:=by have:(n:Int)<v.conf.st:=h5;omega
  rw[show st-n=(st-(n+1))+1 by omega,scrubF] at hto
  have hmd:=λ{X:Heap} (e:Frm nob HA X)=>s_vmend (hVA.q e) hOk.sm (by omega) (n:Int) (Qb hOk.nd (by decide)) hOk.cf hOk.id
  have hmo:=vmendV_ok hOk (n:Int)
  generalize vmendV b v (n:Int)=r at hto hmd hmo
  obtain⟨⟨rm,re⟩,ra⟩:=r
  dsimp only at hto hmd hmo
  have hlo2:=loS_01 re
  have hrd:=λ{X:Heap} (hb:X[rb]? =some (.cells #[.int .i64 (n:Int),.int .i64 m,.int .i64 l,.bool false] 219 (0,0)))=>s_radd hb rm re (by omega) (by omega)
  generalize erS re=e5 at hto hrd
  generalize loS re=l5 at hto hrd hlo2
  conv=>whnf
  refine⟨_,cel_of hbA rfl,?_⟩
  conv=>whnf
  refine .t (hmd (Frm.refl _ _)) (λk hk=>hsA k hk) ?_
  rintro _ HB ⟨rfl,SB,haB,hsB⟩ eB _
  have hVB:=hVA.step eB haB hsB
  have hbB:=eB.blkT hbA hnbA
  have hcB:=eB.blkT hcA hncA
  have zB:=eB.1
  have hsB':Sub SB U H:=λk hk=>(hsB k hk).elim (hsA k) λe=>.inr (by omega)
  have hnbB:¬SB rb:=λe=>(hsB rb e).elim hnbA λe=>by omega
  have hncB:¬SB rc:=λe=>(hsB rc e).elim hncA λe=>by omega
  conv=>whnf
  refine .t (hrd hbB) (λk hk=>.inr (by have:k=rb:=hk;show H.size≤k;omega)) ?_
  rintro _ HC ⟨rfl,hbC⟩ eC _
  have hVC:=hVB.frm1 hbB hnbB (by decide) eC
  have hcC:=eC.blkT hcB (λ(e:rc=rb)=>by omega)
  have zC:=eC.1
  conv=>whnf
  refine⟨rfl,λh6=>?_,λh6=>?_⟩
  ·rw[if_pos h6] at hto
   conv=>whnf
   refine⟨rfl,?_⟩
   conv=>whnf
   refine .k ([.int .i64 0,.int .i64 0,.int .i64 0,.bool false]) (hcC) (.inr (by show H.size≤rc;omega)) rfl rfl ?_
   intro HD uD _
   refine hKL _ _ _ ?_
   refine⟨?_⟩
   conv=>whnf
   refine⟨_,rfl,CellsAt.at uD.1,?_⟩
   subst hto
   exact⟨_,_,rfl,⟨⟨QJ 0,(by decide:(0:Int)≤10000)⟩,⟨QJ 0,(by decide:(0:Int)≤10000)⟩⟩,hmo.1.mono (by omega) (QJ _),SB,hVC.frm1 hcC hncB (by decide) uD.e,hsB'⟩
  rw[if_neg (λe=>e h6)] at hto
  conv=>whnf
  refine⟨_,cel_of hbC rfl,?_⟩
  conv=>whnf
  refine⟨rfl,((n+1:Nat):Int),by rw[wr64 (by omega) (by omega)];omega,?_⟩
  conv=>whnf
  refine .k ([.int .i64 ((n+1:Nat):Int),.int .i64 (m+rm),.int .i64 (l+l5),.bool false]) (hbC) (.inr (by show H.size≤rb;omega)) rfl rfl ?_
  intro HD uD _
  have hVD:=hVC.frm1 hbC hnbB (by decide) uD.e
  have hcD:=uD.e.blkT hcC (λ(e:rc=rb)=>by omega)
  conv=>whnf
  refine⟨rfl,((n+1:Nat):Int),by rw[wr64 (by omega) (by omega)];omega,?_⟩
  exact⟨(n+1,m+rm,l+l5,ra),⟨rfl,trivial⟩,⟨h5',hto,hmo.1.mono (by show B+6+6*n+6≤B+6+6*(n+1);omega) (QJ _),⟨by show 0≤m+rm;omega,by show m+rm≤6*(((n+1:Nat):Int)+1);omega⟩,⟨by show 0≤l+l5;omega,by show l+l5≤((n+1:Nat):Int)+1;omega⟩,uD.1,hcD,by have:=uD.e.1;omega,SB,hVD,hsB',hnbB,hncB⟩,by show st-(n+1)<st-n;omega⟩
 ·have h5':n=st:=by have:¬(n:Int)<v.conf.st:=h5;omega
  rw[h5',ZA,scrubF] at hto
  refine hKL _ _ _ ?_
  conv=>whnf
  refine⟨_,cel_of hbA rfl,?_⟩
  conv=>whnf
  refine⟨rfl,λh6=>?_,λh6=>absurd (by show(n:Int)=v.conf.st;omega) h6⟩
  conv=>whnf
  refine .k ([.int .i64 (n:Int),.int .i64 m,.int .i64 l,.bool true]) (hbA) (.inr (by show H.size≤rb;omega)) rfl rfl ?_
  intro HB uB _
  have hVB:=hVA.frm1 hbA hnbA (by decide) uB.e
  have hcB:=uB.e.blkT hcA (λ(e:rc=rb)=>by omega)
  conv=>whnf
  refine⟨_,rfl,CellsAt.at uB.1,?_⟩
  conv=>whnf
  refine .k ([.int .i64 (n:Int),.int .i64 m,.int .i64 l,.bool true]) (hcB) (.inr (by show H.size≤rc;omega)) rfl rfl ?_
  intro HC uC _
  refine⟨?_⟩
  conv=>whnf
  refine⟨_,rfl,CellsAt.at uC.1,?_⟩
  subst hto
  exact⟨_,_,rfl,⟨⟨hm.1,by show m≤10000;omega⟩,⟨hl.1,by show l≤10000;omega⟩⟩,hOk.mono (by omega) (QJ _),SA,hVB.frm1 hcB hncA (by decide) uC.e,hsA⟩
end
end Go.Proofs.YtjambljmnifknaaGreatDoor.Vc
namespace Go.Proofs.YtjambljmnifknaaGreatDoor.Vc
open Go Go.RowKit Tp
open Dk (Arr Dsk)
section
variable {p:Pl}{gv:Nat}{v:Vol}{a:Arr}{H:Heap}{U:Nat→Prop}{B:Nat}{Q:Int}
theorem s_sall(h:AV p gv v a H U)(hO:VOk B Q v a)(hB:B≤800000):Spec prog 159 #[ptr gv 0] H U (ScR p gv v U H (B+6006) Q (scrubV a v)):=by
 obtain⟨tot,htot⟩:∃t,scrubV a v=t:=⟨_,rfl⟩
 have hst:=λ{X:Heap} (e:Frm nob H X)=>s_sstep (h.q e) hO hB
 rw[htot] at hst⊢
 have hcb:=hO.cf.b
 have hlt:=h.arr.lt
 by_cases h1:v.conf.st=1
 ·obtain⟨⟨ck,cm,csh,cst,csl⟩,id,seq⟩:=v
  dsimp only at h1 hst
  subst h1
  refine spx func159 ?_
  conv=>whnf
  intro H1 rc f1 _
  conv=>whnf
  refine .q (s_vconf (f1.e.blk h.vol)) ?_
  rintro _ H2 rfl e2 _
  conv=>whnf
  refine min_same ?_ rfl
  conv=>whnf
  refine .t (hst (f1.e.trans e2)) (λk hk=>.inl hk) ?_
  rintro _ H3 ⟨nx,dn,rfl,hbd,ho,S3,hV3,hs3⟩ e3 _
  have hrc:=f1.1
  have z1:=f1.size
  have z2:=e2.1
  have hc3:H3[rc]? =some (.cells #[.int .i64 0,.int .i64 0,.int .i64 0,.bool false] 219 (0,0)):=e3.blkT (e2.blk f1.at) (λe=>by have:=hlt rc e;omega)
  have hnc:¬S3 rc:=λe=>(hs3 rc e).elim (λe=>by have:=hlt rc e;omega) λe=>by omega
  conv=>whnf
  refine .k ([.int .i64 nx,.int .i64 tot.1.1.1,.int .i64 tot.1.1.2,.bool dn]) (hc3) (.inr (by show H.size≤rc;omega)) rfl rfl ?_
  intro H4 u4 _
  refine⟨?_⟩
  conv=>whnf
  refine⟨_,rfl,CellsAt.at u4.1,?_⟩
  exact⟨nx,dn,rfl,hbd,ho,S3,hV3.frm1 hc3 hnc (by decide) u4.e,λk hk=>(hs3 k hk).imp (λe=>e) λe=>by omega⟩
 ·refine spx func159 ?_
  conv=>whnf
  intro H1 rc f1 _
  conv=>whnf
  refine .q (s_vconf (f1.e.blk h.vol)) ?_
  rintro _ H2 rfl e2 _
  conv=>whnf
  refine⟨λhle=>absurd (show v.conf.st≤1 from hle) (by omega),λ_=>?_,rfl⟩
  conv=>whnf
  refine .t (hst (f1.e.trans e2)) (λk hk=>.inl hk) ?_
  rintro _ H3 ⟨nx,dn,rfl,hbd,ho,S3,hV3,hs3⟩ e3 _
  have hrc:=f1.1
  have z1:=f1.size
  have z2:=e2.1
  have hc3:H3[rc]? =some (.cells #[.int .i64 0,.int .i64 0,.int .i64 0,.bool false] 219 (0,0)):=e3.blkT (e2.blk f1.at) (λe=>by have:=hlt rc e;omega)
  have hnc:¬S3 rc:=λe=>(hs3 rc e).elim (λe=>by have:=hlt rc e;omega) λe=>by omega
  conv=>whnf
  refine .k ([.int .i64 nx,.int .i64 tot.1.1.1,.int .i64 tot.1.1.2,.bool dn]) (hc3) (.inr (by show H.size≤rc;omega)) rfl rfl ?_
  intro H4 u4 _
  refine⟨?_⟩
  conv=>whnf
  refine⟨_,rfl,CellsAt.at u4.1,?_⟩
  exact⟨nx,dn,rfl,hbd,ho,S3,hV3.frm1 hc3 hnc (by decide) u4.e,λk hk=>(hs3 k hk).imp (λe=>e) λe=>by omega⟩
theorem s_acrash{v:Value}{bs:List Bool}{base n:Nat}(hv:Own H base 4 1 v n (boolV bs))(hn:∀k,v.ownBlock=some k→¬U k)(h:PaH p a H U):
  Spec prog 164 #[ptr p.ga 0,v] H U λu H'=>u=.int .i64 0∧∃S',PaH p (Dk.acrashed a bs) H' S'∧Sub S' U H:=by
 have hl:bs.length=n:=by have:=hv.1;simpa [boolV] using this
 rcases hv.blk with ⟨rfl,h0⟩|⟨g,cap,cs,rfl,hb,hg,hnc,hcm,hcs,hcx⟩
 ·have hb0:bs=[]:=Qm (by omega)
  subst hb0
  exact spec_arr (by kernel_rfl) λw hw=>Dk.acrash_at none 0 [] (Qd _) (by decide) (λ_=>rfl) U (λj b hj=>by cases hj) (pa_mk.2 (by rw[hw];exact h))
 ·subst hl
  refine spec_arr (by kernel_rfl) λw hw=>Dk.acrash_at (some ⟨g,0,none⟩) cap bs hnc (Qb hcm (by decide)) (λe=>by cases e) U (λj b hj=>⟨_,rfl,?_,hn g rfl⟩) (pa_mk.2 (by rw[hw];exact h))
  have hx:(boolV bs)[j]? =some (.bool b):=by simp[boolV,hj]
  rw[←hcx,QZ] at hx
  split at hx
  ·have ha:(⟨g,0,none⟩:Addr).add j=⟨g,j,none⟩:=by
    unfold Addr.add
    split
    ·rename_i hj0;rw[hj0]
    ·rw[Qr]
   rw[ha,cel_w,hw]
   exact cel_of hg (by rw[Qq];exact hx)
  ·cases hx
theorem s_anew(d n z:Nat)(h0:1≤d)(h0':d≤255)(h1:1≤n)(h2:n≤4096)(h3:1≤z)(h4:z≤4096)(H:Heap):
  Spec prog 7 #[.int .i64 (d:Int),.int .i64 (n:Int),.int .i64 (z:Int)] H nob λu H'=>∃(p:Pl) (S':Nat→Prop),u=.tuple #[ptr p.ga 0,.int .i64 0]∧PaH p (Dk.blanks d n z) H' S'∧∀k,S' k→H.size≤k:=
 ⟨by kernel_rfl,λw hw=>(Dk.anew_yes d n z h0 h0' h1 h2 h3 h4 w).mono λe w' ⟨ga,sv,gs,he,T,hP,hf,hT⟩=>
  ⟨_,he,⟨hf.os,hf.tape,hf.output⟩,⟨by rw[←hw];exact hf.size,λk hk _=>by rw[←hw] at hk⊢;exact hf.same k hk id⟩,⟨ga,sv,gs⟩,T,rfl,pa_mk.1 hP,λk hk=>by rw[←hw];exact hT k hk⟩⟩
end
structure Gl(H:Heap):Prop where
 tab:Lib.TabIs prog (mkw H) "internal/strconv.uint64pow10" .u64 Lib.pow10Tab
 syn:∃t p,(mkw H).var? prog "strconv.ErrSyntax"=some #[.iface t p]
 rng:∃t p,(mkw H).var? prog "strconv.ErrRange"=some #[.iface t p]
 ml:∃m,cel H ⟨0,0,none⟩=some (.int .i64 m)
theorem var_frm{T:Nat→Prop}{H H':Heap}{g:Nat}{n:String}{cs:Array Value}(hg:prog.globalNamed n=some g)(hF:Frm T H H')(hT:¬T g)(h:(mkw H).var? prog n=some cs):(mkw H').var? prog n=some cs:=by
 unfold World.var? at h⊢
 rw[hg] at h⊢
 simp only[YV] at h⊢
 have hx:∃o,H[g]? =some o:=by
  cases e:H[g]? with
  |none=>rw[show(mkw H).heap[g]? =none from e] at h;cases h
  |some o=>exact⟨o,rfl⟩
 obtain⟨o,ho⟩:=hx
 rw[show(mkw H').heap[g]? =some o from hF.blkT ho hT]
 rw[show(mkw H).heap[g]? =some o from ho] at h
 exact h
theorem Gl.frm{T:Nat→Prop}{H H':Heap}(h:Gl H)(hF:Frm T H H')(hT:∀k,T k→8≤k):Gl H':=by
 have hn:∀k,k<8→¬T k:=λk hk e=>by have:=hT k e;omega
 obtain⟨h1,⟨t1,p1,h2⟩,⟨t2,p2,h3⟩,⟨m,h4⟩⟩:=h
 refine⟨?_,⟨t1,p1,?_⟩,⟨t2,p2,?_⟩,⟨m,hF.celT h4 (hn 0 (by decide))⟩⟩
 ·have hg:prog.globalNamed "internal/strconv.uint64pow10"=some 5:=by kernel_rfl
  exact var_frm hg hF (hn 5 (by decide)) h1
 ·have hg:prog.globalNamed "strconv.ErrSyntax"=some 1:=by kernel_rfl
  exact var_frm hg hF (hn 1 (by decide)) h2
 ·have hg:prog.globalNamed "strconv.ErrRange"=some 2:=by kernel_rfl
  exact var_frm hg hF (hn 2 (by decide)) h3
theorem Gl.q{H H':Heap}(h:Gl H)(hF:Frm nob H H'):Gl H':=h.frm hF λ_ e=>e.elim
def digF:Nat→Nat→By
 |0,u=>[UInt8.ofNat (48+u%10)]
 |q+1,u=>if u<10 then [UInt8.ofNat (48+u)] else digF q (u/10)++[UInt8.ofNat (48+u%10)]
theorem digF_eq:∀(q u:Nat),u<10^(q+1)→digF q u=Lib.decDigits u
 |0,u,h=>by
  rw[Lib.decDigits_one (by omega)]
  unfold digF
  rw[Zc (by omega)]
 |q+1,u,h=>by
  unfold digF
  rw[Lib.decDigits]
  split
  ·rfl
  ·rw[digF_eq q (u/10) (by rw[YD] at h;omega)]
theorem digF_len:∀(q u:Nat),(digF q u).length≤q+1∧digF q u≠[]
 |0,u=>by simp[digF]
 |q+1,u=>by
  unfold digF
  split
  ·simp
  ·have:=(digF_len q (u/10)).1
   simp;omega
def itoaV(n:Int):By:=if n<0 then 45::digF 19 n.natAbs else digF 19 n.toNat
theorem itoaV_eq{n:Int}(h0: -9223372036854775808≤n)(h1:n≤9223372036854775807):itoaV n=Lib.itoa n:=by
 unfold itoaV Lib.itoa
 split
 ·rw[digF_eq _ _ (by omega)]
 ·rw[digF_eq _ _ (by omega)]
theorem itoaV_len(n:Int):(itoaV n).length≤21∧itoaV n≠[]:=by
 have h1:=digF_len 19 n.natAbs
 have h2:=digF_len 19 n.toNat
 unfold itoaV
 split
 ·simp;omega
 ·exact⟨by omega,h2.2⟩
theorem frm_grow(w:World)(k:Nat)(os:Array Obj):Frm nob w.heap (Go.Sort.grow (w.drewN k) os).heap:=by
 show Frm nob w.heap (w.heap++os)
 exact⟨by simp,λi hi _=>by rw[Z7 hi]⟩
theorem s_itoa{H:Heap}(hG:Gl H)(n:Int)(h0: -9223372036854775808≤n)(h1:n≤9223372036854775807):Spec prog 107 #[.int .i64 n] H nob λu _=>u=.string (S (itoaV n)):=
 ⟨by kernel_rfl,λw hw=>(Tryz.strconv_Itoa n h0 h1 w (by have:=hG.tab;rw[←hw] at this;exact this)).mono λe w' ⟨he,k,os,hw'⟩=>by
  subst hw'
  exact⟨_,he,⟨rfl,rfl,rfl⟩,by rw[←hw];exact frm_grow w k os,by rw[itoaV_eq h0 h1];rfl⟩⟩
attribute [irreducible] itoaV
def atoiV(s:By):Int:=match Lib.atoiAll s with
 | .ok v=>v
 | .range=>Lib.atoiSat s
 |_=>0
def atoiB(s:By):Bool:=match Lib.atoiAll s with
 | .ok _=>true
 |_=>false
theorem s_atoi{H:Heap}(hG:Gl H)(s:By)(hs:s.length≤1000000000):Spec prog 106 #[.string (S s)] H nob λu _=>(atoiB s=true→u=.tuple #[.int .i64 (atoiV s),.nilIface])∧(atoiB s=false→∃N,u=.tuple #[.int .i64 (atoiV s),.iface 285 (.pointer (some ⟨N,0,none⟩))]):=by
 have hsz:=S_size s
 have hd:(S s).data.toList=s:=L_S s
 obtain⟨t1,p1,hv1⟩:=hG.syn
 obtain⟨t2,p2,hv2⟩:=hG.rng
 unfold atoiV atoiB
 cases h:Lib.atoiAll s with
 |ok v=>
  refine⟨by kernel_rfl,λw hw=>(Tryz.strconv_Atoi_ok (S s) (by omega) v (by rw[hd];exact h) w).mono λe w' ⟨he,hw'⟩=>⟨_,he,?_,?_,λ_=>rfl,λe=>by cases e⟩⟩
  ·rcases hw' with rfl|⟨t,rfl⟩
   ·exact⟨rfl,rfl,rfl⟩
   ·exact⟨rfl,rfl,rfl⟩
  ·rcases hw' with rfl|⟨t,rfl⟩
   ·rw[hw];exact Frm.refl _ _
   ·rw[←hw]
    exact⟨by rw[Lib.bytesWorld_size];omega,λk hk _=>Lib.bytesWorld_at_old w 5 t k hk⟩
 |range=>
  refine⟨by kernel_rfl,λw hw=>(Tryz.strconv_Atoi_range_var (S s) (by omega) (by rw[hd];exact h) t2 p2 w (by subst hw;exact hv2)).mono λe w' ⟨N,he,_,_,hb⟩=>⟨_,he,⟨hb.os,hb.tape,hb.output⟩,⟨by rw[←hw];exact hb.size,λk hk _=>by rw[←hw] at hk⊢;exact hb.block k hk⟩,(λe=>by cases e),(λ_=>⟨N,by rw[hd]⟩)⟩⟩
 |_=>
  refine⟨by kernel_rfl,λw hw=>(Any.strconv_Atoi_syntax_var Tryz.laysC172 (S s) (by omega) (by rw[hd];exact h) t1 p1 w (by subst hw;exact hv1)).mono λe w' ⟨N,he,_,_,hb⟩=>⟨_,he,⟨hb.os,hb.tape,hb.output⟩,⟨by rw[←hw];exact hb.size,λk hk _=>by rw[←hw] at hk⊢;exact hb.block k hk⟩,(λe=>by cases e),(λ_=>⟨N,rfl⟩)⟩⟩
def splitW(s:By):List By:=(Lib.splitB (S [32]) 0 (Lib.countB (S s) (S [32])) (S s)).map L
theorem s_splitw{H:Heap}(hG:Gl H)(s:By)(hs:s.length≤1000000000):Spec prog 52 #[.string (S s),.string (S [32])] H nob λu H'=>∃b,u=.slice (some ⟨b,0,none⟩) (splitW s).length (splitW s).length∧b=H.size∧H'[b]? =some (.cells (strV (splitW s)).toArray 9 (0,0))∧0<(splitW s).length:=by
 obtain⟨m,hm⟩:=hG.ml
 have hl:(splitW s).length=Lib.countB (S s) (S [32])+1:=by
  unfold splitW
  rw[Qv]
  exact Lib.splitB_all (S [32]) (by decide) 0 _ _ rfl
 have hv:strV (splitW s)=(Lib.splitB (S [32]) 0 (Lib.countB (S s) (S [32])) (S s)).map Value.string:=by
  unfold splitW strV
  rw[ZB]
  exact YC λx _=>rfl
 rw[hl,hv]
 refine⟨by kernel_rfl,λw hw=>(Tryz.strings_Split (S s) (S [32]) m w (by rw[S_size];omega) (by subst hw;exact hm) (by decide)).mono λe w' ⟨he,hw'⟩=>?_⟩
 subst hw'
 subst hw
 have hf:∀o,Fresh w.heap (w.alloc o).heap w.heap.size o:=λo=>⟨rfl,rfl⟩
 exact⟨_,he,⟨rfl,rfl,rfl⟩,Fresh.e (hf _),w.heap.size,rfl,rfl,Fresh.at (hf _),by omega⟩
theorem s_trim01(s:By)(hs:s.length≤1000000000)(H:Heap):Spec prog 108 #[.string (S s),.string (S [48,49])] H nob λu _=>u=.string (S (Lib.trimS s [48,49])):=
 spec_below (by kernel_rfl) λw _=>by
  have:=Any.strings_Trim_laid Tryz.lays160 (by kernel_rfl) (S s) ⟨#[48,49]⟩ w (by rw[S_size];omega) (by decide) (ascii_of_all (by decide))
  rw[show(S s).data.toList=s from L_S s] at this
  exact this
def saidV(e:Int)(ws:List By):By:=if e≠0 then Lib.join [[101,114,114,111,114],itoaV e] [32] else Lib.join ws [32]
theorem join2(a b:By):Lib.join [a,b] [32]=a++[32]++b:=by simp[Lib.join,List.intercalate,List.intersperse]
theorem s_said{H:Heap}(hG:Gl H)(e:Int)(h0: -9223372036854775808≤e)(h1:e≤9223372036854775807){v:Value}{ws:List By}(hv:Rd H v (strV ws))(hN:ws.length≤140737488355328)(hl:(Lib.join ws [32]).length≤140737488355328):
  Spec prog 56 #[.int .i64 e,v] H nob λu _=>u=.string (S (saidV e ws)):=by
 have hit:=s_itoa hG e h0 h1
 have hil:=(itoaV_len e).1
 unfold saidV
 generalize itoaV e=it at hit hil⊢
 by_cases he:e=0
 ·rw[if_neg (λh=>h he)]
  have hj:=s_join ws [32] hv hN hl
  generalize Lib.join ws [32]=r at hj⊢
  refine spx func56 ?_
  conv=>whnf
  refine⟨rfl,λh2=>absurd he h2,λ_=>?_⟩
  conv=>whnf
  refine .q (hj) ?_
  rintro _ H1 rfl e1 _
  conv=>whnf
  exact⟨rfl⟩
 ·rw[if_pos he]
  have hj:=λ{X:Heap} {w:Value} (hw:Rd X w ([[101,114,114,111,114],it].map λx=>.string (S x)))=>s_join [[101,114,114,111,114],it] [32] hw (by show 2≤140737488355328;decide) (by rw[join2];simp;omega)
  generalize Lib.join [[101,114,114,111,114],it] [32]=r at hj⊢
  refine spx func56 ?_
  conv=>whnf
  refine⟨rfl,λ_=>?_,λh2=>absurd h2 he⟩
  conv=>whnf
  refine .q (hit) ?_
  rintro _ H1 rfl e1 _
  conv=>whnf
  refine⟨rfl,?_⟩
  conv=>whnf
  intro H2 b f2 _
  conv=>whnf
  refine .q (hj (.inr ⟨b,0,2,rfl,Qd _,CellsAt.new (cs:=[.string (S [101,114,114,111,114]),.string (S it)]) f2⟩)) ?_
  rintro _ H3 rfl e3 _
  conv=>whnf
  exact⟨rfl⟩
def entQ(i:Nat)(x:By×Value):MapEntry:={key:=.string (S x.1),val:=x.2,born:=i}
def entsQ:Nat→List (By×Value)→List MapEntry
 |_,[]=>[]
 |i,x::l=>entQ i x::entsQ (i+1) l
def mapQ(l:List (By×Value)):Obj:=.map (entsQ 0 l).toArray l.length
def findQ(k:By):List (By×Value)→Nat→Option (Nat×Value)
 |[],_=>none
 |x::l,i=>if k=x.1 then some (i,x.2) else findQ k l (i+1)
theorem entsQ_app:∀(i:Nat) (l:List (By×Value)) (x:By×Value),entsQ i (l++[x])=entsQ i l++[entQ (i+l.length) x]
 |i,[],x=>rfl
 |i,y::l,x=>by
  simp only[QR,entsQ,entsQ_app (i+1) l x,Qo]
  rw[show i+1+l.length=i+(l.length+1) by omega]
theorem bbeq(a b:By):(S a==S b)=decide (a=b):=by
 show(a.toArray==b.toArray)=_
 rw[Bool.eq_iff_iff]
 simp
theorem findNow_q(k:By):∀(l:List (By×Value)) (i:Nat),Instr.findNow .string (.string (S k)) (entsQ i l) i=some (findQ k l i)
 |[],i=>rfl
 |x::l,i=>by
  unfold entsQ Instr.findNow findQ
  have hs:Instr.sameNow .string (.string (S k)) (entQ i x).key=some (S k==S x.1):=by simp[Instr.sameNow,entQ]
  rw[hs]
  by_cases h:k=x.1
  ·have hb:(S k==S x.1)=true:=by rw[bbeq];exact QO h
   rw[hb,if_pos h]
   rfl
  ·have hb:(S k==S x.1)=false:=by rw[bbeq];exact QM h
   rw[hb,if_neg h]
   exact findNow_q k l (i+1)
theorem checkQ(b:Bool)(k:By)(w:World):(Instr.checkKey b 10000 9 (.string (S k))).run prog w=.ok () w:=by
 have hu9:=run_underlying underlying9
 rw[show(10000:Nat)=9999+1 from rfl]
 unfold Instr.checkKey
 simp[Sem.run_bind,hu9 w,Result.andThen]
theorem findKeyQ(k:By)(l:List (By×Value))(w:World):(Instr.findKey 9 (.string (S k)) (entsQ 0 l)).run prog w=.ok (findQ k l 0) w:=by
 have hu9:=run_underlying underlying9
 unfold Instr.findKey
 simp only[Sem.run_bind,hu9 w,Result.andThen]
 rw[findNow_q]
 rfl
theorem run_lookup_q(w:World)(b:Nat)(l:List (By×Value))(k:By)(hb:w.heap[b]? =some (mapQ l)):
  (Instr.lookup 116 (.map (some b)) (.string (S k)) true).run prog w=.ok (.tuple #[((findQ k l 0).map (·.2)).getD (.agg #[.string ⟨#[]⟩,.bool false,.nilFunc]),.bool (findQ k l 0).isSome]) w:=by
 unfold mapQ at hb
 have hu:=run_underlying underlying116
 have hz:(zeroValue 114).run prog w=.ok (.agg #[.string ⟨#[]⟩,.bool false,.nilFunc]) w:=by kernel_rfl
 unfold Instr.lookup
 simp only[Sem.run_bind,hu w,Result.andThen,getObj,Sem.run,hb]
 rw[show Sem.run prog (pure (entsQ 0 l).toArray) w=.ok (entsQ 0 l).toArray w from rfl]
 dsimp only
 rw[checkQ]
 dsimp only
 rw[findKeyQ]
 cases findQ k l 0 with
 |none=>simp only[Yg];rw[Sem.run_bind,hz];rfl
 |some p=>rfl
theorem run_insert_q(w:World)(b:Nat)(l:List (By×Value))(k:By)(v:Value)(hb:w.heap[b]? =some (mapQ l))(hn:findQ k l 0=none):
  (Instr.mapUpdate 116 (.map (some b)) (.string (S k)) v).run prog w=.ok () (w.putObj b (mapQ (l++[(k,v)]))):=by
 unfold mapQ at hb
 have hu:=run_underlying underlying116
 have hso:∀o,(setObj b o).run prog w=.ok () (w.putObj b o):=λo=>by
  simp[setObj,Sem.run,hb,World.putObj]
 unfold Instr.mapUpdate
 simp only[Sem.run_bind,hu w,Result.andThen,getObj,Sem.run,hb]
 rw[checkQ]
 dsimp only
 rw[findKeyQ,hn]
 dsimp only
 rw[hso,mapQ,entsQ_app]
 simp[entQ]
theorem raw_lookupQ{c:Ctx}{ρ:Operand→Value}{o:Oper}{H:Heap}{K:KK}{m x:Operand}{b:Nat}{l:List (By×Value)}{k:By}(hP:c.P=prog)(ho:o.op=.lookup 116 m x true)(hm:ρ m=.map (some b))(hx:ρ x=.string (S k))
  (hb:H[b]? =some (mapQ l)) (hF:Frm c.S c.H0 H) (hk:K (.tuple #[((findQ k l 0).map (·.2)).getD (.agg #[.string ⟨#[]⟩,.bool false,.nilFunc]),.bool (findQ k l 0).isSome]) H):RawVC c ρ o H K:=
 ⟨λw hw=>⟨_,w,.inl (by
  have hr:=run_lookup_q w b l k (by rw[hw];exact hb)
  rw[hP]
  unfold execOp
  rw[ho]
  dsimp only
  rw[hm,hx]
  exact val_run hr),Amb.refl w,by rw[hw];exact hF,by rw[hw];exact hk⟩⟩
theorem raw_makeMapQ{c:Ctx}{ρ:Operand→Value}{o:Oper}{H:Heap}{K:KK}{t:TypeId}(ho:o.op=.makeMap t none)(hF:Frm c.S c.H0 H)
  (k:∀H' b,Fresh H H' b (mapQ [])→Frm c.S c.H0 H'→K (.map (some b)) H'):RawVC c ρ o H K:=raw_makeMap ho hF k
theorem raw_insertQ{c:Ctx}{ρ:Operand→Value}{o:Oper}{H:Heap}{K:KK}{m k v:Operand}{b:Nat}{l:List (By×Value)}(x:By×Value)(hP:c.P=prog)(ho:o.op=.insert 116 m k v)(hm:ρ m=.map (some b))(hk:ρ k=.string (S x.1))(hv:ρ v=x.2)
  (hb:H[b]? =some (mapQ l)) (hn:findQ x.1 l 0=none) (hS:c.S b∨c.H0.size≤b) (hF:Frm c.S c.H0 H) (hk':∀H',Upd H H' b (mapQ (l++[x]))→Frm c.S c.H0 H'→K undef H'):RawVC c ρ o H K:=
 ⟨λw hw=>by
  have hr:=run_insert_q w b l x.1 x.2 (by rw[hw];exact hb) hn
  have hlt:b<w.heap.size:=by rw[hw];exact(Qa.1 hb).1
  have hu:Upd H (w.putObj b (mapQ (l++[x]))).heap b (mapQ (l++[x])):=⟨World.putObj_heap_same hlt,by rw[←hw];simp,λk hk=>by rw[←hw];exact World.putObj_heap_other hk⟩
  have hF':=Frm.then hF hu.e (λk hk=>by subst hk;exact hS)
  refine⟨undef,w.putObj b (mapQ (l++[x])),.inr ⟨?_,rfl⟩,⟨rfl,rfl,rfl⟩,hF',hk' _ hu hF'⟩
  rw[hP]
  unfold execOp
  rw[ho]
  dsimp only
  rw[hm,hk,hv,Sem.run_bind,hr]
  rfl⟩
structure Cmd where
 shape:By
 needs:Bool
 fn:FuncId
def cmV(c:Cmd):Value:=.agg #[.string (S c.shape),.bool c.needs,.func (.func c.fn) #[] #[]]
def cmds:List (By×Cmd):=[([112,117,116],⟨[43],true,91⟩),([100,101,108],⟨[42],true,92⟩),([103,101,116],⟨[84],true,93⟩),([108,105,115,116],⟨[],true,94⟩),([115,121,110,99],⟨[],true,95⟩),([109,101,114,103,101],⟨[],true,96⟩),
 ([115,116,97,116],⟨[],true,97⟩),([115,99,114,117,98],⟨[],true,98⟩),([111,112,101,110],⟨[],false,99⟩),([102,97,105,108],⟨[78],false,100⟩),([114,101,112,108,97,99,101],⟨[78],false,101⟩),([99,111,114,114,117,112,116],⟨[78,78,84],false,102⟩),
 ([102,117,115,101],⟨[78],false,103⟩),([99,114,97,115,104],⟨[63],false,104⟩)]
def cmL(l:List (By×Cmd)):List (By×Value):=l.map λx=>(x.1,cmV x.2)
theorem s_cmds(H:Heap):Spec prog 53 #[] H nob λu H'=>∃b,u=.map (some b)∧H.size≤b∧H'[b]? =some (mapQ (cmL cmds)):=by
 refine spec (args:=[]) func53 rfl (by kernel_rfl) (by kernel_rfl) ?_
 conv=>whnf
 refine raw_makeMapQ rfl (Frm.refl _ _) ?_
 intro H1 b f1 F1
 have hb:=f1.1
 have u0:=f1.at
 conv=>whnf
 refine⟨rfl,?_⟩
 conv=>whnf
 refine raw_insertQ ([112,117,116],cmV ⟨[43],true,91⟩) rfl rfl rfl rfl rfl u0 rfl (.inr (by show H.size≤b;omega)) F1 ?_
 intro H2 u1 F2
 conv=>whnf
 refine⟨rfl,?_⟩
 conv=>whnf
 refine raw_insertQ ([100,101,108],cmV ⟨[42],true,92⟩) rfl rfl rfl rfl rfl u1.1 rfl (.inr (by show H.size≤b;omega)) F2 ?_
 intro H3 u2 F3
 conv=>whnf
 refine⟨rfl,?_⟩
 conv=>whnf
 refine raw_insertQ ([103,101,116],cmV ⟨[84],true,93⟩) rfl rfl rfl rfl rfl u2.1 rfl (.inr (by show H.size≤b;omega)) F3 ?_
 intro H4 u3 F4
 conv=>whnf
 refine⟨rfl,?_⟩
 conv=>whnf
 refine raw_insertQ ([108,105,115,116],cmV ⟨[],true,94⟩) rfl rfl rfl rfl rfl u3.1 rfl (.inr (by show H.size≤b;omega)) F4 ?_
 intro H5 u4 F5
 conv=>whnf
 refine⟨rfl,?_⟩
 conv=>whnf
 refine raw_insertQ ([115,121,110,99],cmV ⟨[],true,95⟩) rfl rfl rfl rfl rfl u4.1 rfl (.inr (by show H.size≤b;omega)) F5 ?_
 intro H6 u5 F6
 conv=>whnf
 refine⟨rfl,?_⟩
 conv=>whnf
 refine raw_insertQ ([109,101,114,103,101],cmV ⟨[],true,96⟩) rfl rfl rfl rfl rfl u5.1 rfl (.inr (by show H.size≤b;omega)) F6 ?_
 intro H7 u6 F7
 conv=>whnf
 refine⟨rfl,?_⟩
 conv=>whnf
 refine raw_insertQ ([115,116,97,116],cmV ⟨[],true,97⟩) rfl rfl rfl rfl rfl u6.1 rfl (.inr (by show H.size≤b;omega)) F7 ?_
 intro H8 u7 F8
 conv=>whnf
 refine⟨rfl,?_⟩
 conv=>whnf
 refine raw_insertQ ([115,99,114,117,98],cmV ⟨[],true,98⟩) rfl rfl rfl rfl rfl u7.1 rfl (.inr (by show H.size≤b;omega)) F8 ?_
 intro H9 u8 F9
 conv=>whnf
 refine⟨rfl,?_⟩
 conv=>whnf
 refine raw_insertQ ([111,112,101,110],cmV ⟨[],false,99⟩) rfl rfl rfl rfl rfl u8.1 rfl (.inr (by show H.size≤b;omega)) F9 ?_
 intro H10 u9 F10
 conv=>whnf
 refine⟨rfl,?_⟩
 conv=>whnf
 refine raw_insertQ ([102,97,105,108],cmV ⟨[78],false,100⟩) rfl rfl rfl rfl rfl u9.1 rfl (.inr (by show H.size≤b;omega)) F10 ?_
 intro H11 u10 F11
 conv=>whnf
 refine⟨rfl,?_⟩
 conv=>whnf
 refine raw_insertQ ([114,101,112,108,97,99,101],cmV ⟨[78],false,101⟩) rfl rfl rfl rfl rfl u10.1 rfl (.inr (by show H.size≤b;omega)) F11 ?_
 intro H12 u11 F12
 conv=>whnf
 refine⟨rfl,?_⟩
 conv=>whnf
 refine raw_insertQ ([99,111,114,114,117,112,116],cmV ⟨[78,78,84],false,102⟩) rfl rfl rfl rfl rfl u11.1 rfl (.inr (by show H.size≤b;omega)) F12 ?_
 intro H13 u12 F13
 conv=>whnf
 refine⟨rfl,?_⟩
 conv=>whnf
 refine raw_insertQ ([102,117,115,101],cmV ⟨[78],false,103⟩) rfl rfl rfl rfl rfl u12.1 rfl (.inr (by show H.size≤b;omega)) F13 ?_
 intro H14 u13 F14
 conv=>whnf
 refine⟨rfl,?_⟩
 conv=>whnf
 refine raw_insertQ ([99,114,97,115,104],cmV ⟨[63],false,104⟩) rfl rfl rfl rfl rfl u13.1 rfl (.inr (by show H.size≤b;omega)) F14 ?_
 intro H15 u14 F15
 conv=>whnf
 exact⟨b,rfl,by omega,u14.1⟩
theorem rep1(x:UInt8):∀n,Lib.repeatL [x] n=List.replicate n x
 |0=>rfl
 |n+1=>by rw[Lib.repeatL,rep1 x n];rfl
def wideV(s:By)(n:Nat):By:=if s=[43] then List.replicate (max (n+n%2) 2) 84 else if s=[42] then List.replicate (max n 1) 84 else if s=[63] then List.replicate (min n 1) 87 else s
theorem s_rep1(x:UInt8)(n:Nat)(hn:n≤1000000000)(H:Heap):Spec prog 109 #[.string (S [x]),.int .i64 (n:Int)] H nob λu _=>u=.string (S (List.replicate n x)):=by
 have:=s_repeat (S [x]) n (by omega) (by rw[S_size];simp;omega) H
 rw[show L (S [x])=[x] from rfl,rep1] at this
 exact this
theorem s_rep2(x:UInt8)(m:Nat)(hm:m≤1000000000)(k:Int)(hk:k=(m:Int))(H:Heap):Spec prog 109 #[.string (S [x]),.int .i64 k] H nob λu _=>u=.string (S (List.replicate m x)):=by
 rw[hk];exact s_rep1 x m hm H
theorem s_wide(s:By)(n:Nat)(hn:n≤100000000)(H:Heap):Spec prog 55 #[.string (S s),.int .i64 (n:Int)] H nob λu _=>u=.string (S (wideV s n)):=by
 unfold wideV
 have hS:∀{a b:By},a≠b→¬S a=S b:=λh e=>h (S_inj e)
 by_cases h1:s=[43]
 ·rw[if_pos h1]
  obtain⟨m,hm⟩:∃m,max (n+n%2) 2=m:=⟨_,rfl⟩
  rw[hm]
  refine spx func55 ?_
  conv=>whnf
  refine⟨λ_=>?_,λh=>absurd (by rw[h1];rfl) h⟩
  conv=>whnf
  refine⟨rfl,by decide,((n%2:Nat):Int),by rw[YM (by omega)];omega,?_⟩
  conv=>whnf
  refine⟨rfl,((n+n%2:Nat):Int),by rw[wr64 (by omega) (by omega)];omega,?_⟩
  conv=>whnf
  refine⟨λhle=>?_,λhle=>?_,rfl⟩
  ·have hle:((n+n%2:Nat):Int)≤2:=hle
   conv=>whnf
   refine .q (s_rep2 84 m (by omega) 2 (by omega) _) ?_
   rintro _ H1 rfl e1 _
   conv=>whnf
   exact⟨rfl⟩
  ·have hle:2≤((n+n%2:Nat):Int):=hle
   conv=>whnf
   refine .q (s_rep2 84 m (by omega) ((n+n%2:Nat):Int) (by omega) _) ?_
   rintro _ H1 rfl e1 _
   conv=>whnf
   exact⟨rfl⟩
 rw[if_neg h1]
 by_cases h2:s=[42]
 ·rw[if_pos h2]
  obtain⟨m,hm⟩:∃m,max n 1=m:=⟨_,rfl⟩
  rw[hm]
  refine spx func55 ?_
  conv=>whnf
  refine⟨λh=>absurd h (hS h1),λ_=>?_⟩
  conv=>whnf
  refine⟨λ_=>?_,λh=>absurd (by rw[h2];rfl) h⟩
  conv=>whnf
  refine⟨λhle=>?_,λhle=>?_,rfl⟩
  ·have hle:(n:Int)≤1:=hle
   conv=>whnf
   refine .q (s_rep2 84 m (by omega) 1 (by omega) _) ?_
   rintro _ H1 rfl e1 _
   conv=>whnf
   exact⟨rfl⟩
  ·have hle:1≤(n:Int):=hle
   conv=>whnf
   refine .q (s_rep2 84 m (by omega) (n:Int) (by omega) _) ?_
   rintro _ H1 rfl e1 _
   conv=>whnf
   exact⟨rfl⟩
 rw[if_neg h2]
 by_cases h3:s=[63]
 ·rw[if_pos h3]
  obtain⟨m,hm⟩:∃m,min n 1=m:=⟨_,rfl⟩
  rw[hm]
  refine spx func55 ?_
  conv=>whnf
  refine⟨λh=>absurd h (hS h1),λ_=>?_⟩
  conv=>whnf
  refine⟨λh=>absurd h (hS h2),λ_=>?_⟩
  conv=>whnf
  refine⟨λ_=>?_,λh=>absurd (by rw[h3];rfl) h⟩
  conv=>whnf
  refine⟨λhle=>?_,λhle=>?_,rfl⟩
  ·have hle:(n:Int)≤1:=hle
   conv=>whnf
   refine .q (s_rep2 87 m (by omega) (n:Int) (by omega) _) ?_
   rintro _ H1 rfl e1 _
   conv=>whnf
   exact⟨rfl⟩
  ·have hle:1≤(n:Int):=hle
   conv=>whnf
   refine .q (s_rep2 87 m (by omega) 1 (by omega) _) ?_
   rintro _ H1 rfl e1 _
   conv=>whnf
   exact⟨rfl⟩
 rw[if_neg h3]
 refine spx func55 ?_
 conv=>whnf
 refine⟨λh=>absurd h (hS h1),λ_=>?_⟩
 conv=>whnf
 refine⟨λh=>absurd h (hS h2),λ_=>?_⟩
 conv=>whnf
 refine⟨λh=>absurd h (hS h3),λ_=>?_⟩
 conv=>whnf
 exact⟨rfl⟩
theorem drop_all{p:UInt8→Bool}:∀{l:By},l.dropWhile p=[]→∀x∈l,p x=true
 |[],_,_,hx=>by cases hx
 |a::l,h,x,hx=>by
  rw[List.dropWhile_cons] at h
  split at h
  ·rcases QB.1 hx with rfl|hx
   ·assumption
   ·exact drop_all h x hx
  ·cases h
theorem mem_drop{p:UInt8→Bool}:∀{l:By} {x:UInt8},x∈l→p x=true∨x∈l.dropWhile p
 |a::l,x,hx=>by
  rw[List.dropWhile_cons]
  split
  ·rcases QB.1 hx with rfl|hx
   ·exact .inl (by assumption)
   ·exact mem_drop hx
  ·exact .inr hx
theorem trim_all{w cs:By}(h:Lib.trimS w cs=[]):∀x∈w,cs.contains x=true:=by
 intro x hx
 rcases mem_drop (p:=(cs.contains ·)) (List.mem_reverse.2 hx) with h1|h1
 ·exact h1
 ·exact drop_all h x (by unfold Lib.trimRightS;exact List.mem_reverse.2 h1)
structure Arg where
 ts:List By
 ns:List Int
 ks:List Bool
def numE(w:By):Bool:=if atoiB w=false then true else if atoiV w<0 then true else if 4<w.length then true else decide (itoaV (atoiV w)≠w)
def keepE(w:By):Bool:=if w=[] then true else decide (Lib.trimS w [48,49]≠[])
def readF:List (UInt8×By)→Arg→Option Arg
 |[],x=>some x
 |(c,w)::r,x=>
  if c=84 then(if(unqV w).2≠0 then none else readF r ⟨x.ts++[(unqV w).1],x.ns,x.ks⟩) else
  if c=78 then(if numE w=true then none else readF r ⟨x.ts,x.ns++[atoiV w],x.ks⟩) else
  if c=87 then(if keepE w=true then none else readF r ⟨x.ts,x.ns,x.ks++w.map λb=>decide (b=49)⟩) else readF r x
def readV(shape:By)(ws:List By):Option Arg:=if shape.length≠ws.length then none else readF (shape.zip ws) ⟨[],[],[]⟩
section
variable {c:Ctx}{ρ:Operand→Value}{o:Oper}{H:Heap}{K:KK}{t:TypeId}{x:Operand}
theorem raw_ne0{n:Nat}(hP:c.P=prog)(ho:o.op=.binOp .neq 170 (.tmp n) (.const .nilIface) t)(hx:ρ (.tmp n)=.nilIface)(hy:ρ (.const .nilIface)=.nilIface)(hF:Frm c.S c.H0 H)(k:K (.bool false) H):RawVC c ρ o H K:=
 ⟨λw hw=>⟨_,w,.inl (by
  rw[hP]
  unfold execOp
  rw[ho]
  dsimp only
  rw[hx,hy]
  exact val_run (show(do eqGuard .neq 170 (.tmp n) (.const .nilIface) .nilIface .nilIface;binOp .neq 170 .nilIface .nilIface:Sem Value).run prog w=.ok (.bool false) w by kernel_rfl)),Amb.refl w,by rw[hw];exact hF,by rw[hw];exact k⟩⟩
theorem raw_ne1{n N:Nat}(hP:c.P=prog)(ho:o.op=.binOp .neq 170 (.tmp n) (.const .nilIface) t)(hx:ρ (.tmp n)=.iface 285 (.pointer (some ⟨N,0,none⟩)))(hy:ρ (.const .nilIface)=.nilIface)(hF:Frm c.S c.H0 H)(k:K (.bool true) H):RawVC c ρ o H K:=
 ⟨λw hw=>⟨_,w,.inl (by
  rw[hP]
  unfold execOp
  rw[ho]
  dsimp only
  rw[hx,hy]
  exact val_run (show(do eqGuard .neq 170 (.tmp n) (.const .nilIface) (.iface 285 (.pointer (some ⟨N,0,none⟩))) .nilIface;binOp .neq 170 (.iface 285 (.pointer (some ⟨N,0,none⟩))) .nilIface:Sem Value).run prog w=.ok (.bool true) w by kernel_rfl)),Amb.refl w,by rw[hw];exact hF,by rw[hw];exact k⟩⟩
end
end Go.Proofs.YtjambljmnifknaaGreatDoor.Vc
