/- Part 22 of the proof of TopAny: Rows of pairs, turned in place: copy, clear, cap, slices of three numbers, append of a made slice · slices.Delete, slices.Insert, of pairs · slices.Insert, of one pair · dir: Apply · dir: Compact · slices.Index, of strings. -/
import Derived.Test.YtjambljmnifknaaGreatDoorJ21
import Derived.Lib.Overlaps
set_option maxRecDepth 100000
set_option maxHeartbeats 80000000
set_option linter.all false
open Go.Proofs.Tryz
namespace Go.Proofs.YtjambljmnifknaaGreatDoor.Vc
open Go Go.RowKit Tp
theorem putL_eq:∀(cs:List Value) (o:Nat) (ys:List Value),o+ys.length≤cs.length→Vc.putL cs o ys=cs.take o++ys++cs.drop (o+ys.length)
 |cs,0,[],_=>by simp[Vc.putL]
 |[],0,y::ys,h=>by simp at h
 |x::cs,0,y::ys,h=>by
  rw[Vc.putL,putL_eq cs 0 ys (by simpa using h)]
  simp
 |[],o+1,ys,h=>by simp at h
 |x::cs,o+1,[],_=>by simp[Vc.putL]
 |x::cs,o+1,y::ys,h=>by
  rw[show Vc.putL (x::cs) (o+1) (y::ys)=x::Vc.putL cs o (y::ys) from rfl,putL_eq cs o (y::ys) (by simp at h⊢;omega)]
  rw[show o+1+(y::ys).length=o+(y::ys).length+1 by omega,List.drop_succ_cons]
  simp
section
variable {c:Ctx}{ρ:Operand→Value}{o:Oper}{H:Heap}{K:KK}{cl:Call}
theorem raw_cap{a:Option Addr}{n cp:Nat}(hP:c.P=prog)(ho:o.op=.call cl)(hc:cl.callee=.builtin .cap)(ha:cl.args.toList.map ρ=[.slice a n cp])(ht:cl.argTypes.toList=[94])(hF:Frm c.S c.H0 H)(k:K (.int .i64 (cp:Int)) H):RawVC c ρ o H K:=by
 refine⟨λw hw=>⟨.int .i64 (cp:Int),w,.inl ?_,Amb.refl w,by rw[hw];exact hF,by rw[hw];exact k⟩⟩
 have hat:cl.argTypes=#[94]:=by apply Zq;rw[ht]
 refine builtin_run ho hc w λcs=>?_
 simp only[builtin]
 refine val_run ?_
 rw[hat,ha,hP]
 simp[Builtin.cap_,run_underlying underlying94,goInt]
theorem raw_slice3{x lo hi mx:Operand}{a:Option Addr}{n cp l h m:Nat}(hP:c.P=prog)(ho:o.op=.slice 94 x (some lo) (some hi) (some mx))(hx:ρ x=.slice a n cp)(hl:ρ lo=.int .i64 (l:Int))(hh:ρ hi=.int .i64 (h:Int))(hm:ρ mx=.int .i64 (m:Int))(h1:l≤h)(h2:h≤m)(h3:m≤cp)
  (hF:Frm c.S c.H0 H) (k:∀v,K v H):RawVC c ρ o H K:=by
 have e94:prog.underlying 94=some (.slice (prog.elem 94)):=by kernel_rfl
 refine⟨λw hw=>?_⟩
 have hr:∃v,(execOp ρ o).run c.P w=.ok (.value v) w:=by
  unfold execOp
  rw[ho]
  dsimp only[Option.map_some]
  rw[hx,hl,hh,hm,hP]
  refine⟨_,val_run (v:=sliced a l h m 2) ?_⟩
  rw[run_sliceAt_slice _ _ _ _ _ _ e94,run_slice_lhm _ _ _ _ _ e94 _ _ _ _ _ _ (by omega) (by omega) (by omega) (by omega)]
  exact rfl
 obtain⟨v,hr⟩:=hr
 exact⟨v,w,.inl hr,Amb.refl w,by rw[hw];exact hF,by rw[hw];exact k v⟩
theorem raw_copy{d od dl dc bs os sl sc:Nat}{cs ys:List Value}(hP:c.P=prog)(ho:o.op=.call cl)(hc:cl.callee=.builtin .copy)(ha:cl.args.toList.map ρ=[.slice (some ⟨d,od,none⟩) dl dc,.slice (some ⟨bs,os,none⟩) sl sc])(ht:cl.argTypes.toList=[94,94])
  (hb:H[d]? =some (.cells cs.toArray 156 (0,0))) (hy:CellsAt H bs os ys) (hl:ys.length=Nat.min sl dl*2) (hfit:od+ys.length≤cs.length) (h1:∀y∈ys,oneCell y=true) (hS:c.S d∨c.H0.size≤d) (hF:Frm c.S c.H0 H)
  (k:∀v H',Upd H H' d (.cells (Vc.putL cs od ys).toArray 156 (0,0))→Frm c.S c.H0 H'→K v H'):RawVC c ρ o H K:=by
 refine⟨λw hw=>?_⟩
 have hat:cl.argTypes=#[94,94]:=by apply Zq;rw[ht]
 have hbw:w.heap[d]? =some (.cells cs.toArray 156 (0,0)):=by rw[hw];exact hb
 obtain⟨w',hr,hamb,hat',hsz,hoth⟩:=storeCells_run (P:=c.P) d od 156 ys 0 cs.toArray w hbw (by simpa using hfit) h1
 rw[ZK] at hat'
 have hu:Upd H w'.heap d (.cells (Vc.putL cs od ys).toArray 156 (0,0)):=⟨hat',by rw[hsz,hw],λk hk=>by rw[hoth k hk,hw]⟩
 have hF':=Frm.then hF hu.e (λk hk=>by subst hk;exact hS)
 refine⟨_,w',.inl (builtin_run ho hc w λcs'=>?_),hamb,hF',k (goInt (Nat.min sl dl)) _ hu hF'⟩
 simp only[builtin]
 refine val_run ?_
 rw[hat,ha,hP]
 rw[hP] at hr
 have hld:=run_loadCells_list (P:=prog) (w:=w) ⟨bs,os,none⟩ ys (λj v hj=>by
  have:=hy.get hj
  rw[←hw,←cel_w] at this
  unfold Addr.add
  by_cases h0:j=0
  ·rw[if_pos h0];subst h0;exact this
  ·rw[if_neg h0];exact this)
 rw[hl] at hld
 simp[Builtin.copy_,run_underlying underlying94,Builtin.lenOf,Builtin.firstCells,sizeOf156,hld,hr]
theorem zeroP(n:Nat):(Builtin.zeroCells (Value.agg #[.string ⟨#[]⟩,.string ⟨#[]⟩]).cells n).toList=List.replicate (n*2) (Value.string ⟨#[]⟩):=by
 unfold Builtin.zeroCells
 refine QQ λj=>?_
 by_cases h:j<n*2
 ·have h2:j%2=0∨j%2=1:=by omega
  rcases h2 with e|e<;>simp[h,Value.cells,e]
 ·simp[h,Value.cells]
theorem raw_clear2{b off n cp:Nat}{cs:List Value}(hP:c.P=prog)(ho:o.op=.call cl)(hc:cl.callee=.builtin .clear)(ha:cl.args.toList.map ρ=[.slice (some ⟨b,off,none⟩) n cp])(ht:cl.argTypes.toList=[94])(h0:0<n)
  (hb:H[b]? =some (.cells cs.toArray 156 (0,0))) (hl:off+n*2≤cs.length) (hS:c.S b∨c.H0.size≤b) (hF:Frm c.S c.H0 H)
  (k:∀H',Upd H H' b (.cells (Vc.putL cs off (List.replicate (n*2) (Value.string ⟨#[]⟩))).toArray 156 (0,0))→Frm c.S c.H0 H'→K (.tuple #[]) H'):RawVC c ρ o H K:=by
 refine⟨λw hw=>?_⟩
 have hat:cl.argTypes=#[94]:=by apply Zq;rw[ht]
 have hbw:w.heap[b]? =some (.cells cs.toArray 156 (0,0)):=by rw[hw];exact hb
 obtain⟨w',hr,hamb,hat',hsz,hoth⟩:=storeCells_run (P:=c.P) b off 156 (List.replicate (n*2) (Value.string ⟨#[]⟩)) 0 cs.toArray w hbw (by simpa using hl) (λv hv=>by rw[(Yi.1 hv).2];rfl)
 rw[ZK] at hat'
 have hu:Upd H w'.heap b (.cells (Vc.putL cs off (List.replicate (n*2) (Value.string ⟨#[]⟩))).toArray 156 (0,0)):=⟨hat',by rw[hsz,hw],λk hk=>by rw[hoth k hk,hw]⟩
 have hF':=Frm.then hF hu.e (λk hk=>by subst hk;exact hS)
 refine⟨_,w',.inl (builtin_run ho hc w λcs'=>?_),hamb,hF',k _ hu hF'⟩
 simp only[builtin]
 refine val_run ?_
 rw[hat,ha,hP]
 rw[hP] at hr
 cases n with
 |zero=>omega
 |succ n=>
 simp[Builtin.clear_,run_underlying underlying94,zeroValue156,zeroP,hr]
theorem raw_grow{b n cap m:Nat}{olds:List Value}(hP:c.P=prog)(ho:o.op=.call cl)(hc:cl.callee=.builtin .append)(ha:cl.args.toList.map ρ=[.slice (some ⟨b,0,none⟩) n cap,.int .i64 (m:Int)])(ht:cl.argTypes.toList=[94,3])
  (hold:CellsAt H b 0 olds) (hl:olds.length=n*2) (h0:0<m) (hg:cap<n+m) (hs:n+m≤1000000000) (hF:Frm c.S c.H0 H)
  (k:∀(N:Nat) (tl:List Value) (H':Heap),n+m≤N→N≤maxLen→tl.length=(N-(n+m))*2→Fresh H H' H.size (.cells (olds++List.replicate (m*2) (Value.string ⟨#[]⟩)++tl).toArray 156 (0,0))→Frm c.S c.H0 H'→K (.slice (some ⟨H.size,0,none⟩) (n+m) N) H'):RawVC c ρ o H K:=by
 refine⟨λw hw=>?_⟩
 have hat:cl.argTypes=#[94,3]:=by apply Zq;rw[ht]
 obtain⟨i,hi,hz⟩:∃i,prog.info? 156=some i∧i.zero=some (.agg #[.string ⟨#[]⟩,.string ⟨#[]⟩])∧i.bytes≤128∧i.size=2:=⟨_,rfl,rfl,by decide,rfl⟩
 have hld:=run_loadCells_list (P:=prog) (w:=w.drew) ⟨b,0,none⟩ olds (λj v hj=>by
  have:=hold.get hj
  rw[←hw,Qr] at this
  unfold Addr.add
  by_cases h0:j=0
  ·rw[if_pos h0];subst h0;exact this
  ·rw[if_neg h0,Qr];exact this)
 have hfc:(Builtin.firstCells i.size n (.slice (some ⟨b,0,none⟩) n cap)).run prog w.drew=.ok olds.toArray w.drew:=by
  unfold Builtin.firstCells
  rw[hz.2.2,←hl]
  exact hld
 have hmb:m*i.bytes≤1000000000*128:=Q9 (by omega) hz.2.1
 have hmb2:(n+m)*i.bytes≤1000000000*128:=Q9 (by omega) hz.2.1
 have hr:=Lib.run_append_grow_zeros (P:=prog) w 94 3 o.type 156 i _ .i64 .i64 underlying94 underlying3 hi hz.1 (some ⟨b,0,none⟩) n cap olds hfc m h0 (by rw[hz.2.2];omega) hg (by omega) (by omega) (growslice_fits hg (by omega))
 obtain⟨N,hN⟩:∃N,grownCap w (n+m) cap 156=N:=⟨_,rfl⟩
 have hge:n+m≤N:=by rw[←hN];exact grownCap_ge w _ _ _
 have hgm:N≤maxLen:=by rw[←hN];exact grownCap_le_maxLen w _ _ _ (by unfold maxLen;omega)
 have hobj:olds.toArray++Builtin.zeroCells (Value.agg #[.string ⟨#[]⟩,.string ⟨#[]⟩]).cells m++Builtin.zeroCells (Value.agg #[.string ⟨#[]⟩,.string ⟨#[]⟩]).cells (N-(n+m))=(olds++List.replicate (m*2) (Value.string ⟨#[]⟩)++List.replicate ((N-(n+m))*2) (Value.string ⟨#[]⟩)).toArray:=by
  apply Zq
  rw[ZS,ZS,zeroP,zeroP]
 rw[hN,hobj] at hr
 have hfr:Fresh H (w.drew.alloc (.cells (olds++List.replicate (m*2) (Value.string ⟨#[]⟩)++List.replicate ((N-(n+m))*2) (Value.string ⟨#[]⟩)).toArray 156)).heap H.size (.cells (olds++List.replicate (m*2) (Value.string ⟨#[]⟩)++List.replicate ((N-(n+m))*2) (Value.string ⟨#[]⟩)).toArray 156 (0,0)):=⟨rfl,by rw[←hw];rfl⟩
 have hA:Amb w (w.drew.alloc (.cells (olds++List.replicate (m*2) (Value.string ⟨#[]⟩)++List.replicate ((N-(n+m))*2) (Value.string ⟨#[]⟩)).toArray 156)):=⟨rfl,rfl,rfl⟩
 generalize w.drew.alloc (.cells (olds++List.replicate (m*2) (Value.string ⟨#[]⟩)++List.replicate ((N-(n+m))*2) (Value.string ⟨#[]⟩)).toArray 156)=W at hr hfr hA
 have hF':=hF.trans (hfr.frm _)
 rw[hw] at hr
 refine⟨_,W,.inl (builtin_run ho hc w λcs=>?_),hA,hF',k N _ _ hge hgm (by simp) hfr hF'⟩
 simp only[builtin]
 refine val_run ?_
 rw[hat,ha,hP]
 exact hr
end
def prsV(l:List Pr):List Value:=(l.map prL).flatten
theorem prsV_app(a b:List Pr):prsV (a++b)=prsV a++prsV b:=by simp[prsV]
theorem prsV_len(l:List Pr):(prsV l).length=l.length*2:=by
 induction l with
 |nil=>rfl
 |cons p r ih=>rw[show prsV (p::r)=prL p++prsV r from rfl,Qi,ih,Qo];simp[prL];omega
theorem prsV_one{l:List Pr}:∀y∈prsV l,oneCell y=true:=λy hy=>by
 obtain⟨a,ha,hy⟩:=List.mem_flatten.1 hy
 obtain⟨p,_,rfl⟩:=Qw.1 ha
 simp only[prL,QB,Zj,Z1] at hy
 rcases hy with rfl|rfl<;>rfl
theorem prsV_take(l:List Pr)(i:Nat):(prsV l).take (i*2)=prsV (l.take i):=by
 by_cases h:i≤l.length
 ·have h1:l=l.take i++l.drop i:=(List.take_append_drop i l).symm
  have h2:(prsV (l.take i)).length=i*2:=by rw[prsV_len,QC,Zi h]
  rw[show prsV l=prsV (l.take i)++prsV (l.drop i) by rw[←prsV_app,←h1],←h2,List.take_left]
 ·rw[QU (by rw[prsV_len];omega),QU (by omega)]
theorem prsV_drop(l:List Pr)(i:Nat):(prsV l).drop (i*2)=prsV (l.drop i):=by
 by_cases h:i≤l.length
 ·have h1:l=l.take i++l.drop i:=(List.take_append_drop i l).symm
  have h2:(prsV (l.take i)).length=i*2:=by rw[prsV_len,QC,Zi h]
  rw[show prsV l=prsV (l.take i)++prsV (l.drop i) by rw[←prsV_app,←h1],←h2,YH]
 ·rw[ZG (by rw[prsV_len];omega),ZG (by omega)];rfl
theorem putL_len(cs:List Value)(o:Nat)(ys:List Value)(h:o+ys.length≤cs.length):(Vc.putL cs o ys).length=cs.length:=by
 rw[putL_eq cs o ys h];simp;omega
theorem slc_no{l cap o sz d:Nat}(h:l≠cap)(hd:o+mulS l sz=d):(match l==cap with|true=>o=d|false=>o+mulS l sz=d):=by
 rw[show(l==cap)=false by simpa using h];exact hd
theorem slc_any(l cap o sz:Nat):(match l==cap with|true=>o=(if l=cap then o else o+mulS l sz)|false=>o+mulS l sz=(if l=cap then o else o+mulS l sz)):=by
 by_cases h:l=cap
 ·rw[show(l==cap)=true by simpa using h,if_pos h]
 ·rw[show(l==cap)=false by simpa using h,if_neg h]
theorem AppendVC.room{c:Ctx}{H:Heap}{K:KK}{g n cap b off m mc:Nat}{cs ys:List Value}(hP:c.P=prog)(hb:H[g]? =some (.cells cs.toArray 156 (0,0)))(hc:CellsAt H b off ys)(hl:ys.length=m*2)(h1:∀y∈ys,oneCell y=true)
  (hroom:n+m≤cap) (hfit:n*2+ys.length≤cs.length) (hS:c.S g∨c.H0.size≤g) (hF:Frm c.S c.H0 H) (k:∀H',Upd H H' g (.cells (Vc.putL cs (n*2) ys).toArray 156 (0,0))→Frm c.S c.H0 H'→K (.slice (some ⟨g,0,none⟩) (n+m) cap) H'):
  AppendVC c H 94 (.slice (some ⟨g,0,none⟩) n cap) (.slice (some ⟨b,off,none⟩) m mc) K:=⟨.inr λty w hw=>by
 obtain⟨i,hi,hz⟩:∃i,prog.info? 156=some i∧i.size=2:=⟨_,rfl,rfl⟩
 have hbw:w.heap[g]? =some (.cells cs.toArray 156 (0,0)):=by rw[hw];exact hb
 have hr:=run_append_room (P:=prog) w 94 ty 156 i underlying94 hi g n cap cs.toArray hbw ⟨b,off,none⟩ m mc ys (by rw[hz];exact hl) (λj u hj=>by
  have:=hc.get hj
  rw[←hw,←cel_w] at this
  unfold Addr.add
  by_cases h0:j=0
  ·rw[if_pos h0];subst h0;exact this
  ·rw[if_neg h0];exact this) (λu hu=>one_cell' (h1 u hu)) hroom (by rw[hz];simpa using hfit)
 rw[hz] at hr
 have he:(cs.take (n*2)++ys++cs.drop (n*2+ys.length))=Vc.putL cs (n*2) ys:=(putL_eq cs _ ys hfit).symm
 have hu:Upd H (w.setRow g (cs.take (n*2)++ys++cs.drop (n*2+ys.length)).toArray).heap g (.cells (Vc.putL cs (n*2) ys).toArray 156 (0,0)):=⟨by rw[←he];exact setRow_heap w g _ _ _ _ hbw,by rw[←hw];simp[World.setRow],λk hk=>by rw[←hw];exact setRow_other w g k _ hk⟩
 have hF':=Frm.then hF hu.e (λk hk=>by subst hk;exact hS)
 rw[hP]
 exact⟨_,_,hr,⟨rfl,rfl,rfl⟩,hF',k _ hu hF'⟩⟩
theorem s_delete{H:Heap}{base n:Nat}{v:Value}{l:List Pr}(hv:Own H base 156 2 v n (prsV l))(hn:n≤1000000000)(i:Nat)(hi:i<n):Spec prog 86 #[v,.int .i64 (i:Int),.int .i64 ((i+1:Nat):Int)] H (λk=>v.ownBlock=some k) λu H'=>Own H' base 156 2 u (n-1) (prsV (l.take i++l.drop (i+1)))∧u.ownBlock=v.ownBlock:=by
 rcases hv.blk with ⟨_,h0⟩|⟨g,cap,cs,rfl,hbg,hg,hnc,hcm,hcs,hcx⟩
 ·omega
 have hln:l.length=n:=by have:=hv.1;rw[prsV_len] at this;omega
 have htk:cs.take (i*2)=prsV (l.take i):=by rw[←prsV_take,←hcx,Z2,Zi (by omega)]
 have hdr:(cs.drop ((i+1)*2)).take ((n-(i+1))*2)=prsV (l.drop (i+1)):=by
  rw[←prsV_drop,←hcx,List.drop_take,show n*2-(i+1)*2=(n-(i+1))*2 by omega]
 obtain⟨cp,rfl⟩:∃k,cap=k+1:=⟨cap-1,by omega⟩
 have hyl:(prsV (l.drop (i+1))).length=(n-(i+1))*2:=by rw[prsV_len,QV,hln]
 have hys:CellsAt H g (if i+1=cp+1 then 0 else 0+mulS (i+1) 2) (prsV (l.drop (i+1))):=by
  by_cases h:i+1=cp+1
  ·have h0:prsV (l.drop (i+1))=[]:=Qm (by omega)
   rw[h0];exact trivial
  ·rw[if_neg h,←hdr]
   have:=(CellsAt.at hg).cut ((i+1)*2) ((n-(i+1))*2)
   exact this
 have hlt:=(Qa.1 hg).1
 refine spx func86 ?_
 conv=>whnf
 refine raw_slice3 (l:=i) (h:=i+1) (m:=n) rfl rfl rfl rfl rfl rfl (by omega) (by omega) hnc (Frm.refl _ _) (λ_=>?_)
 conv=>whnf
 refine⟨rfl,λh=>absurd h (by show ¬(i:Int)=((i+1:Nat):Int);omega),λ_=>?_⟩
 conv=>whnf
 refine .t (λk=>k=g) (λk hk=>.inl (by rw[hk];rfl)) (by kernel_rfl) ?_
 conv=>whnf
 refine⟨0,i,rfl,⟨_,rfl⟩,Qk _,by omega,i,0,cp+1,rfl,rfl,rfl,?_⟩
 conv=>whnf
 refine⟨i+1,n,⟨_,rfl⟩,rfl,by omega,hnc,n-(i+1),_,_,rfl,rfl,slc_any (i+1) (cp+1) 0 2,?_⟩
 conv=>whnf
 refine .room rfl hg hys hyl prsV_one (by omega) (by omega) (.inl rfl) (Frm.refl _ _) ?_
 intro H2 u2 F2
 have hl2:(Vc.putL cs (i*2) (prsV (l.drop (i+1)))).length=cs.length:=putL_len _ _ _ (by omega)
 conv=>whnf
 refine⟨i+(n-(i+1)),n,⟨_,rfl⟩,⟨_,rfl⟩,by omega,hnc,1,0+mulS (i+(n-(i+1))) 2,cp+1-(i+(n-(i+1))),by omega,rfl,slc_no (by omega) rfl,?_⟩
 conv=>whnf
 refine raw_clear2 (n:=1) rfl rfl rfl rfl rfl (by decide) u2.1 (by rw[hl2];show 0+(i+(n-(i+1)))*2+1*2≤_;omega) (.inl rfl) (Frm.then (Frm.refl _ _) u2.e λk (hk:k=g)=>.inl (by rw[hk];rfl)) ?_
 intro H3 u3 _
 have hx:(Vc.putL (Vc.putL cs (i*2) (prsV (l.drop (i+1)))) (0+mulS (i+(n-(i+1))) 2) (List.replicate (1*2) (Value.string ⟨#[]⟩))).take ((n-1)*2)=prsV (l.take i++l.drop (i+1)):=by
  rw[putL_eq _ _ _ (by rw[hl2];show 0+(i+(n-(i+1)))*2+(List.replicate (1*2) (Value.string ⟨#[]⟩)).length≤_;simp;omega),Qt,ZW (by rw[QC,hl2];show _≤min (0+(i+(n-(i+1)))*2) _;omega)]
  rw[Z2,show min ((n-1)*2) (0+mulS (i+(n-(i+1))) 2)=i*2+(n-(i+1))*2 by show min ((n-1)*2) (0+(i+(n-(i+1)))*2)=_;omega]
  rw[putL_eq _ _ _ (by omega),htk,ZW (by rw[Qi,prsV_len,QC,hyl];omega),prsV_app,QU (by rw[Qi,prsV_len,QC,hyl];omega)]
 have hln2:(l.take i++l.drop (i+1)).length=n-1:=by rw[Qi,QC,QV];omega
 have hfin:=Own.of (base:=base) (n:=n-1) (sz:=2) (cap:=cp+1) u3.1 hbg (by omega) hcm (by rw[putL_len _ _ _ (by rw[hl2];show 0+(i+(n-(i+1)))*2+(List.replicate (1*2) (Value.string ⟨#[]⟩)).length≤_;simp;omega),hl2];exact hcs) (by rw[prsV_len,hln2]) hx
 rw[show n-1=i+(n-(i+1)) by omega] at hfin⊢
 exact⟨hfin,rfl⟩
theorem raw_slice0{c:Ctx}{ρ:Operand→Value}{o:Oper}{H:Heap}{K:KK}{x lo:Operand}(hP:c.P=prog)(ho:o.op=.slice 94 x (some lo) none none)(hx:ρ x=.slice none 0 0)(hl:ρ lo=.int .i64 0)(hF:Frm c.S c.H0 H)(k:∀v,K v H):RawVC c ρ o H K:=by
 have e94:prog.underlying 94=some (.slice (prog.elem 94)):=by kernel_rfl
 refine⟨λw hw=>?_⟩
 have hr:∃v,(execOp ρ o).run c.P w=.ok (.value v) w:=by
  unfold execOp
  rw[ho]
  dsimp only[Option.map_some]
  rw[hx,hl,hP]
  refine⟨_,val_run (v:=sliced none 0 0 0 2) ?_⟩
  rw[run_sliceAt_slice _ _ _ _ _ _ e94]
  dsimp only[Option.map_none]
  rw[run_slice_l _ _ _ _ _ e94 .i64 0 (QJ _) (QJ _)]
  exact rfl
 obtain⟨v,hr⟩:=hr
 exact⟨v,w,.inl hr,Amb.refl w,by rw[hw];exact hF,by rw[hw];exact k v⟩
theorem overlaps_no{H:Heap}{q g oq og lq cq lg cg:Nat}{a b:Array Value}(hq:H[q]? =some (.cells a 156 (0,0)))(hg:H[g]? =some (.cells b 156 (0,0)))(hb:b.size≠0)(hne:q≠g):
  ∀w:World,w.heap=H→(callFunc 140 #[.slice (some ⟨q,oq,none⟩) lq cq,.slice (some ⟨g,og,none⟩) lg cg]).run prog w=.ok (.value (.bool false)) w:=λw hw=>by
 subst hw
 rw[run_callFunc_extern func140 (by kernel_rfl) (by kernel_rfl) (by kernel_rfl) (e:=Extern.SlicesOverlaps.overlaps #[94,94] #[4]) (by kernel_rfl),
  Lib.run_overlaps_apart w 94 4 156 underlying94 2 sizeOf156 ⟨q,oq,none⟩ ⟨g,og,none⟩ lq cq lg cg hne 156 156 a.size b.size (by simp[World.shape?,hq]) (by simp[World.shape?,hg]) hb (by simp[World.frozen?,hq]) (by simp[World.frozen?,hq])]
 rfl
theorem s_insert_end{H:Heap}{base n:Nat}{v:Value}{l:List Pr}(hv:Own H base 156 2 v n (prsV l))(hn:n≤1000000000)(hbs:base≤H.size){q:Nat}{p:Pr}(hq:H[q]? =some (.cells (prL p).toArray 156 (0,0)))(hqv:v.ownBlock≠some q):
  Spec prog 87 #[v,.int .i64 (n:Int),.slice (some ⟨q,0,none⟩) 1 1] H (λk=>v.ownBlock=some k) λu H'=>Own H' base 156 2 u (n+1) (prsV (l++[p]))∧∀k,u.ownBlock=some k→v.ownBlock=some k∨H.size≤k:=by
 have hq1:Own H 0 156 2 (.slice (some ⟨q,0,none⟩) 1 1) 1 (prL p):=Own.new hq rfl (Qk _) (by decide)
 have hp:prsV l++prL p=prsV (l++[p]):=by rw[prsV_app];rfl
 rcases hv.blk with ⟨rfl,rfl⟩|⟨g,cap,cs,rfl,hbg,hg,hnc,hcm,hcs,hcx⟩
 ·refine spx func87 ?_
  conv=>whnf
  refine raw_slice0 rfl rfl rfl rfl (Frm.refl _ _) (λ_=>?_)
  conv=>whnf
  refine⟨rfl,λh=>absurd h (by decide),λ_=>?_⟩
  conv=>whnf
  refine⟨rfl,λ_=>?_,λh=>absurd rfl h⟩
  conv=>whnf
  refine .own (by kernel_rfl) hv hq1 (λy hy=>by simp only[prL,QB,Zj,Z1] at hy;rcases hy with rfl|rfl<;>rfl) (by omega) hbs (λk hk=>.inl hk) (Frm.refl _ _) ?_
  intro v2 H2 ho2 _ _ hb2
  rw[hp] at ho2
  exact⟨ho2,hb2⟩
 ·refine spx func87 ?_
  conv=>whnf
  refine⟨n,n,⟨_,rfl⟩,rfl,Qd _,hnc,_,_,_,rfl,rfl,slc_any n cap 0 2,?_⟩
  conv=>whnf
  refine⟨rfl,λh=>absurd h (by decide),λ_=>?_⟩
  conv=>whnf
  refine⟨rfl,λ_=>?_,λh=>absurd rfl h⟩
  conv=>whnf
  refine .own (by kernel_rfl) hv hq1 (λy hy=>by simp only[prL,QB,Zj,Z1] at hy;rcases hy with rfl|rfl<;>rfl) (by omega) hbs (λk hk=>.inl hk) (Frm.refl _ _) ?_
  intro v2 H2 ho2 _ _ hb2
  rw[hp] at ho2
  exact⟨ho2,hb2⟩
theorem prL_one(p:Pr):∀y∈prL p,oneCell y=true:=λy hy=>by
 simp only[prL,QB,Zj,Z1] at hy
 rcases hy with rfl|rfl<;>rfl
theorem s_insert_in{H:Heap}{base n:Nat}{v:Value}{l:List Pr}(hv:Own H base 156 2 v n (prsV l))(hn:n≤900000000)(hbs:base≤H.size)(i:Nat)(hi:i<n){q:Nat}{p:Pr}(hq:H[q]? =some (.cells (prL p).toArray 156 (0,0)))(hqv:v.ownBlock≠some q):
  Spec prog 87 #[v,.int .i64 (i:Int),.slice (some ⟨q,0,none⟩) 1 1] H (λk=>v.ownBlock=some k) λu H'=>Own H' base 156 2 u (n+1) (prsV (l.take i++[p]++l.drop i))∧∀k,u.ownBlock=some k→v.ownBlock=some k∨H.size≤k:=by
 rcases hv.blk with ⟨_,h0⟩|⟨g,cap,cs,rfl,hbg,hg,hnc,hcm,hcs,hcx⟩
 ·omega
 have hln:l.length=n:=by have:=hv.1;rw[prsV_len] at this;omega
 have hqg:q≠g:=λe=>hqv (by rw[e];rfl)
 have htk:cs.take (i*2)=prsV (l.take i):=by rw[←prsV_take,←hcx,Z2,Zi (by omega)]
 have hdr:(cs.drop (i*2)).take ((n-i)*2)=prsV (l.drop i):=by
  rw[←prsV_drop,←hcx,List.drop_take,show n*2-i*2=(n-i)*2 by omega]
 have hdl:(prsV (l.drop i)).length=(n-i)*2:=by rw[prsV_len,QV,hln]
 have htl:(prsV (l.take i)).length=i*2:=by rw[prsV_len,QC];omega
 have hd0:CellsAt H g (0+mulS i 2) (prsV (l.drop i)):=by rw[←hdr];exact(CellsAt.at hg).cut (i*2) ((n-i)*2)
 have ht0:CellsAt H g 0 (prsV (l.take i)):=by rw[←htk];exact(CellsAt.at hg).cut 0 (i*2)
 have hfin:prsV (l.take i++[p]++l.drop i)=prsV (l.take i)++prL p++prsV (l.drop i):=by rw[prsV_app,prsV_app];rfl
 have hlt:=(Qa.1 hg).1
 have hqt:=(Qa.1 hq).1
 have hw1:IntKind.i64.wrap ((n:Int)+1)=((n+1:Nat):Int):=by rw[wr64 (by omega) (by omega)];omega
 have hwi:IntKind.i64.wrap ((i:Int)+1)=((i+1:Nat):Int):=by rw[wr64 (by omega) (by omega)];omega
 refine spx func87 ?_
 conv=>whnf
 refine⟨i,n,⟨_,rfl⟩,rfl,by omega,hnc,_,_,_,rfl,rfl,slc_any i cap 0 2,?_⟩
 conv=>whnf
 refine⟨rfl,λh=>absurd h (by decide),λ_=>?_⟩
 conv=>whnf
 refine⟨rfl,λh=>absurd h (by show ¬(i:Int)=(n:Int);omega),λ_=>?_⟩
 conv=>whnf
 refine⟨rfl,_,hw1,?_⟩
 conv=>whnf
 refine raw_cap rfl rfl rfl rfl rfl (Frm.refl _ _) ?_
 by_cases hcp:n+1≤cap
 ·conv=>whnf
  refine⟨rfl,λh=>absurd h (by show ¬(cap:Int)<((n+1:Nat):Int);omega),λ_=>?_⟩
  conv=>whnf
  refine⟨rfl,_,hw1,?_⟩
  conv=>whnf
  refine⟨0,n+1,rfl,⟨_,rfl⟩,Qk _,hcp,n+1,0,cap,rfl,rfl,slc_no (by omega) rfl,?_⟩
  conv=>whnf
  refine⟨rfl,_,hwi,?_⟩
  conv=>whnf
  refine⟨i+1,n+1,⟨_,rfl⟩,rfl,by omega,hcp,n+1-(i+1),0+mulS (i+1) 2,cap-(i+1),rfl,rfl,slc_no (by omega) rfl,?_⟩
  conv=>whnf
  refine .x (overlaps_no hq hg (by rw[Q8];omega) hqg) (Frm.refl _ _) ?_
  conv=>whnf
  refine .t (λk=>k=g) (λk hk=>.inl (by rw[hk];rfl)) (by kernel_rfl) ?_
  conv=>whnf
  refine⟨rfl,_,hwi,?_⟩
  conv=>whnf
  refine⟨i+1,n+1,⟨_,rfl⟩,rfl,by omega,hcp,n+1-(i+1),0+mulS (i+1) 2,cap-(i+1),rfl,rfl,slc_no (by omega) rfl,?_⟩
  conv=>whnf
  refine⟨i,n+1,⟨_,rfl⟩,rfl,by omega,hcp,n+1-i,0+mulS i 2,cap-i,rfl,rfl,slc_no (by omega) rfl,?_⟩
  conv=>whnf
  refine raw_copy rfl rfl rfl rfl rfl hg hd0 (by rw[hdl,show Nat.min (n+1-i) (n+1-(i+1))=n-i from by show min (n+1-i) (n+1-(i+1))=n-i;omega]) (by rw[hdl];show 0+(i+1)*2+_≤_;omega) prsV_one (.inl rfl) (Frm.refl _ _) ?_
  intro _ H2 u2 F2
  have e2:=putL_eq cs (0+mulS (i+1) 2) (prsV (l.drop i)) (by rw[hdl];show 0+(i+1)*2+_≤_;omega)
  have l2:=putL_len cs (0+mulS (i+1) 2) (prsV (l.drop i)) (by rw[hdl];show 0+(i+1)*2+_≤_;omega)
  have hq2:=u2.e.blkT hq hqg
  conv=>whnf
  refine⟨i,n+1,⟨_,rfl⟩,rfl,by omega,hcp,n+1-i,0+mulS i 2,cap-i,rfl,rfl,slc_no (by omega) rfl,?_⟩
  conv=>whnf
  refine raw_copy rfl rfl rfl rfl rfl u2.1 (CellsAt.at hq2) (by rw[show Nat.min 1 (n+1-i)=1 from by show min 1 (n+1-i)=1;omega];rfl) (by rw[l2];show 0+i*2+(prL p).length≤_;simp[prL];omega) (prL_one p) (.inl rfl) (Frm.then (Frm.refl _ _) u2.e λk (hk:k=g)=>.inl (by rw[hk];rfl)) ?_
  intro _ H3 u3 _
  have e3:=putL_eq _ (0+mulS i 2) (prL p) (by rw[l2];show 0+i*2+(prL p).length≤_;simp[prL];omega)
  have l3:=putL_len _ (0+mulS i 2) (prL p) (by rw[l2];show 0+i*2+(prL p).length≤_;simp[prL];omega)
  refine⟨Own.of (base:=base) (n:=n+1) (sz:=2) (cap:=cap) u3.1 hbg hcp hcm (by rw[l3,l2];exact hcs) (by rw[prsV_len];simp;omega) ?_,λk hk=>.inl hk⟩
  rw[e3,e2,hfin]
  have hm1:0+mulS (i+1) 2=i*2+2:=by show 0+(i+1)*2=_;omega
  have hm0:0+mulS i 2=i*2:=by show 0+i*2=_;omega
  have hpl:(prL p).length=2:=rfl
  rw[hm1,hm0,hdl,hpl]
  have s1:(cs.take (i*2+2)++prsV (l.drop i)++cs.drop (i*2+2+(n-i)*2)).take (i*2)=prsV (l.take i):=by
   rw[Qt,ZW (by rw[QC];omega),Z2,Zi (by omega),htk]
  have s2:(cs.take (i*2+2)++prsV (l.drop i)++cs.drop (i*2+2+(n-i)*2)).drop (i*2+2)=prsV (l.drop i)++cs.drop (i*2+2+(n-i)*2):=by
   rw[Qt,List.drop_append_of_le_length (by rw[QC];omega),ZG (by rw[QC];omega),QI]
  rw[s1,s2,←Qt]
  refine Zv ?_
  rw[Qi,Qi,htl,hdl,hpl];omega
 ·conv=>whnf
  refine⟨rfl,λ_=>?_,λh=>absurd (show(cap:Int)<((n+1:Nat):Int) by omega) h⟩
  conv=>whnf
  refine⟨0,i,rfl,⟨_,rfl⟩,Qk _,by omega,i,0,cap,rfl,rfl,slc_no (by omega) rfl,?_⟩
  conv=>whnf
  refine⟨rfl,_,hw1,?_⟩
  conv=>whnf
  refine⟨rfl,((n+1-i:Nat):Int),by rw[wr64 (by omega) (by omega)];omega,?_⟩
  conv=>whnf
  refine raw_grow rfl rfl rfl rfl rfl ht0 htl (by omega) (by omega) (by omega) (Frm.refl _ _) ?_
  rw[show i+(n+1-i)=n+1 by omega]
  intro N tl H2 hN hNm htll f2 F2
  have hcl:(prsV (l.take i)++List.replicate ((n+1-i)*2) (Value.string ⟨#[]⟩)++tl).length=N*2:=by rw[Qi,Qi,htl,Zz,htll];omega
  have htk2:(prsV (l.take i)++List.replicate ((n+1-i)*2) (Value.string ⟨#[]⟩)++tl).take (i*2)=prsV (l.take i):=by rw[Qt];exact Zv htl
  have h2:=f2.at
  generalize prsV (l.take i)++List.replicate ((n+1-i)*2) (Value.string ⟨#[]⟩)++tl=cs2 at hcl htk2 h2
  have hq2:=f2.e.blk hq
  have hg2:=f2.e.blk hg
  have hd2:=cells_keep f2.e id hd0
  have hz2:=f2.size.1
  conv=>whnf
  refine⟨i,n+1,⟨_,rfl⟩,rfl,by omega,hN,n+1-i,0+mulS i 2,N-i,rfl,rfl,slc_no (by omega) rfl,?_⟩
  conv=>whnf
  refine raw_copy rfl rfl rfl rfl rfl h2 (CellsAt.at hq2) (by rw[show Nat.min 1 (n+1-i)=1 from by show min 1 (n+1-i)=1;omega];rfl) (by rw[hcl];show 0+i*2+(prL p).length≤_;simp[prL];omega) (prL_one p) (.inr (Qd _)) F2 ?_
  intro _ H3 u3 F3
  have e3:=putL_eq cs2 (0+mulS i 2) (prL p) (by rw[hcl];show 0+i*2+(prL p).length≤_;simp[prL];omega)
  have l3:=putL_len cs2 (0+mulS i 2) (prL p) (by rw[hcl];show 0+i*2+(prL p).length≤_;simp[prL];omega)
  have hd3:=cells_keep u3.e (show ¬g=H.size by omega) hd2
  conv=>whnf
  refine .t (λk=>k=H.size) (λk hk=>.inr (by rw[hk];exact Qd _)) (by kernel_rfl) ?_
  conv=>whnf
  refine⟨rfl,_,hwi,?_⟩
  conv=>whnf
  refine⟨i+1,n+1,⟨_,rfl⟩,rfl,by omega,hN,n+1-(i+1),0+mulS (i+1) 2,N-(i+1),rfl,rfl,slc_no (by omega) rfl,?_⟩
  conv=>whnf
  refine⟨i,n,⟨_,rfl⟩,rfl,by omega,hnc,n-i,0+mulS i 2,cap-i,rfl,rfl,slc_no (by omega) rfl,?_⟩
  conv=>whnf
  refine raw_copy rfl rfl rfl rfl rfl u3.1 hd3 (by rw[hdl,show Nat.min (n-i) (n+1-(i+1))=n-i from by show min (n-i) (n+1-(i+1))=n-i;omega]) (by rw[hdl,l3,hcl];show 0+(i+1)*2+_≤_;omega) prsV_one (.inl rfl) (Frm.refl _ _) ?_
  intro _ H4 u4 _
  have e4:=putL_eq (Vc.putL cs2 (0+mulS i 2) (prL p)) (0+mulS (i+1) 2) (prsV (l.drop i)) (by rw[hdl,l3,hcl];show 0+(i+1)*2+_≤_;omega)
  have l4:=putL_len (Vc.putL cs2 (0+mulS i 2) (prL p)) (0+mulS (i+1) 2) (prsV (l.drop i)) (by rw[hdl,l3,hcl];show 0+(i+1)*2+_≤_;omega)
  refine⟨Own.of (base:=base) (n:=n+1) (sz:=2) (cap:=N) u4.1 hbs hN hNm (by rw[l4,l3];exact hcl) (by rw[prsV_len];simp;omega) ?_,λk hk=>.inr (by cases hk;exact Qd _)⟩
  rw[e4,e3,hfin]
  have hm1:0+mulS (i+1) 2=i*2+2:=by show 0+(i+1)*2=_;omega
  have hm0:0+mulS i 2=i*2:=by show 0+i*2=_;omega
  have hpl:(prL p).length=2:=rfl
  rw[hm1,hm0,hdl,hpl,htk2]
  rw[show(prsV (l.take i)++prL p++cs2.drop (i*2+2)).take (i*2+2)=prsV (l.take i)++prL p from Zv (by rw[Qi,htl,hpl])]
  refine Zv ?_
  rw[Qi,Qi,htl,hdl,hpl];omega
def app1(l:List Pr)(c:Chg):List Pr:=
 if aloneV c=false then l else
 if c.gone=true then(if(findV l c.key).2=true then l.take (findV l c.key).1++l.drop ((findV l c.key).1+1) else l)
 else if(findV l c.key).2=true then l.set (findV l c.key).1 ((l.getD (findV l c.key).1 ([],[])).1,c.value)
 else l.take (findV l c.key).1++[(c.key,c.value)]++l.drop (findV l c.key).1
def applyV(l:List Pr)(cs:List Chg):List Pr:=if mayV l=true then cs.foldl app1 l else []
theorem app1_len(l:List Pr)(c:Chg):(app1 l c).length≤l.length+1:=by
 unfold app1
 (repeat' split)<;>simp<;>omega
theorem applyV_ok{l:List Pr}{cs:List Chg}(ho:∀p∈l,prOk p)(hc:∀c∈cs,chOk c):∀p∈applyV l cs,prOk p:=by
 have h1:∀(l:List Pr) (c:Chg),(∀p∈l,prOk p)→chOk c→∀p∈app1 l c,prOk p:=λl c ho hc p hp=>by
  unfold app1 at hp
  have hg:∀i,prOk (l.getD i ([],[])):=λi=>by
   rw[Ql]
   cases h:l[i]? with
   |none=>exact⟨Qk _,Qk _⟩
   |some p=>exact ho p (Qj h)
  split at hp
  ·exact ho p hp
  ·split at hp
   ·split at hp
    ·rcases Qz.1 hp with h|h
     ·exact ho p (Z4 h)
     ·exact ho p (Yw h)
    ·exact ho p hp
   ·split at hp
    ·rcases Zy hp with h|h
     ·exact ho p h
     ·rw[h];exact⟨(hg _).1,hc.2⟩
    ·rcases Qz.1 hp with h|h
     ·rcases Qz.1 h with h|h
      ·exact ho p (Z4 h)
      ·rw[Q4.1 h];exact hc
     ·exact ho p (Yw h)
 unfold applyV
 split
 ·rename_i hm
  clear hm
  induction cs generalizing l with
  |nil=>exact ho
  |cons c r ih=>exact ih (h1 l c ho (hc c (Qs ..))) λx hx=>hc x (Qu _ hx)
 ·intro p hp;cases hp
theorem Own.rwP{H:Heap}{base n:Nat}{v:Value}{l:List Pr}(h:Own H base 156 2 v n (prsV l))(hl:l.length=n):Rw H v (l.map prL):=h.rw rfl (by simpa using hl)
theorem s_insert{H:Heap}{base n:Nat}{v:Value}{l:List Pr}(hv:Own H base 156 2 v n (prsV l))(hl:l.length=n)(hn:n≤900000000)(hbs:base≤H.size)(i:Nat)(hi:i≤n){q:Nat}{p:Pr}(hq:H[q]? =some (.cells (prL p).toArray 156 (0,0)))(hqv:v.ownBlock≠some q):
  Spec prog 87 #[v,.int .i64 (i:Int),.slice (some ⟨q,0,none⟩) 1 1] H (λk=>v.ownBlock=some k) λu H'=>Own H' base 156 2 u (n+1) (prsV (l.take i++[p]++l.drop i))∧∀k,u.ownBlock=some k→v.ownBlock=some k∨H.size≤k:=by
 by_cases h:i<n
 ·exact s_insert_in hv hn hbs i h hq hqv
 ·have:i=n:=by omega
  subst this
  rw[QU (by omega),ZG (by omega),QT]
  exact s_insert_end hv (by omega) hbs hq hqv
theorem Own.blk1{H:Heap}{base g n n' sz cap:Nat}{e:TypeId}{xs:List Value}(h:Own H base e sz (.slice (some ⟨g,0,none⟩) n' cap) n xs):∃cs:List Value,base≤g∧H[g]? =some (.cells cs.toArray e (0,0))∧n≤cap∧cap≤maxLen∧cs.length=cap*sz∧cs.take (n*sz)=xs:=by
 rcases h.blk with ⟨h,_⟩|⟨g',cap',cs,h,h1⟩
 ·cases h
 ·cases h;exact⟨cs,h1⟩
theorem prsV_set(v:By):∀(l:List Pr) (i:Nat),i<l.length→(prsV l).set (i*2+1) (.string (S v))=prsV (l.set i ((l.getD i ([],[])).1,v))
 |p::r,0,_=>rfl
 |p::r,i+1,h=>by
  have:=prsV_set v r i (by simpa using h)
  rw[show(i+1)*2+1=(i*2+1)+2 by omega]
  show prL p++(prsV r).set (i*2+1) _=prL p++prsV _
  rw[this];rfl
theorem Spec.sl{P:Program}{f:FuncId}{args:Array Value}{H:Heap}{T:Nat→Prop}{base n sz:Nat}{e:TypeId}{xs:List Value}{R:KK}(h:Spec P f args H T λu H'=>Own H' base e sz u n xs∧R u H'):Spec P f args H T λu H'=>∃ad cap,u=.slice ad n cap∧Own H' base e sz (.slice ad n cap) n xs∧R (.slice ad n cap) H':=
 h.imp λu H' ⟨h1,h2⟩=>by obtain⟨ad,cap,rfl⟩:=h1.form;exact⟨ad,cap,rfl,h1,h2⟩
theorem s_apply{H:Heap}{v cv:Value}{l:List Pr}{cs:List Chg}(hv:Rw H v (l.map prL))(hc:Rw H cv (cs.map cgL))(ho:∀p∈l,prOk p)(hco:∀c∈cs,chOk c)(hn:l.length+cs.length≤900000000):Spec prog 49 #[v,cv] H nob λu H'=>Own H' H.size 156 2 u (applyV l cs).length (prsV (applyV l cs)):=by
 obtain⟨tot,htot⟩:∃t,applyV l cs=t:=⟨_,rfl⟩
 rw[htot]
 unfold applyV at htot
 have hmay:=(s_dmay hv ho (by omega)).imp (R':=λu H'=>u=.bool (mayV l)∧True) λ_ _ h=>⟨h,trivial⟩
 have hcl:=λ{X:Heap} (e:Frm nob H X)=>Spec.sl (R:=λ_ _=>True) ((s_clonep (hv.q e) (by omega)).imp λ_ _ h=>⟨h,trivial⟩)
 obtain⟨ca,cc,rfl,_,hw⟩:=hc.at (f:=cgL) (sz:=3) (λ_=>rfl)
 generalize mayV l=mv at hmay htot
 refine spx func49 ?_
 conv=>whnf
 refine .tb hmay (λ_ h=>h.elim) (λhb=>?_) (λhb=>?_)
 ·rintro H1 _ e1 _
  rw[if_pos hb] at htot
  conv=>whnf
  refine .q (hcl e1) ?_
  rintro _ H2 ⟨ad0,cp0,rfl,hv2,_⟩ e2 _
  conv=>whnf
  refine⟨Nat×List Chg×List Pr×Option Addr×Nat,λx=>[(0,.slice x.2.2.2.1 x.2.2.1.length x.2.2.2.2),(16,.int .i64 (x.1:Int))],λx H'=>x.1+x.2.1.length=cs.length∧cs.drop x.1=x.2.1∧x.2.2.1.length+x.2.1.length≤900000000∧x.2.1.foldl app1 x.2.2.1=tot∧Own H' H.size 156 2 (.slice x.2.2.2.1 x.2.2.1.length x.2.2.2.2) x.2.2.1.length (prsV x.2.2.1)∧Frm nob H H',λx=>x.2.1.length,
   ⟨(0,cs,l,ad0,cp0),⟨rfl,rfl,trivial⟩,by simp,rfl,hn,htot,hv2.low e1.1,e1.trans e2⟩,?_⟩
  clear hmay hcl hv2 e1 e2 hv hc htot
  rintro⟨i,r,l2,ad,cap⟩ H2 junk ⟨hi,hd,hb2,ht,hv3,hF⟩ F
  dsimp only at hi hd hb2 ht hv3
  cases r with
  |nil=>
   conv=>whnf
   refine⟨rfl,λh5=>absurd h5 (by show ¬(i:Int)<(cs.length:Int);simp at hi;omega),λh5=>?_⟩
   subst ht
   exact⟨hv3⟩
  |cons c r=>
   obtain⟨hy,hd'⟩:=drop_cons hd
   obtain⟨b,o,rfl,hcc⟩:=hw i c hy
   have h':i<cs.length:=(Qe.1 hy).1
   have hcok:=hco c (Qj hy)
   have hal:=λX=>(s_alone hcok X).imp (R':=λu H'=>u=.bool (aloneV c)∧True) λ_ _ h=>⟨h,trivial⟩
   have hle:=findV_le l2 c.key
   have hfd:=λ{X:Heap} {v:Value} {b:Bool} (h:Rw X v (l2.map prL)) (e:(findV l2 c.key).2=b)=>(s_dfind h (by simp at hb2;omega) c.key).imp (R':=λu _=>u=.tuple #[.int .i64 ((findV l2 c.key).1:Int),.bool b]) λ_ _ h=>by rw[h,e]
   rw[Yh] at ht
   have F':H.size≤H2.size:=F.1
   have hw1:IntKind.i64.wrap (((findV l2 c.key).1:Int)+1)=(((findV l2 c.key).1+1:Nat):Int):=by rw[wr64 (by omega) (by simp at hb2;omega)];omega
   cases hfb:(findV l2 c.key).2 with
   |true=>
    have hlt:=hle.2 hfb
    obtain⟨g0,rfl⟩:∃g,ad=some ⟨g,0,none⟩:=by
     rcases hv3.blk with ⟨_,h⟩|⟨g,_,_,h,_⟩
     ·omega
     ·cases h;exact⟨g,rfl⟩
    have hdel:=λ{X:Heap} {v:Value} (h:Own X H.size 156 2 v l2.length (prsV l2))=>Spec.sl (n:=(l2.take (findV l2 c.key).1++l2.drop ((findV l2 c.key).1+1)).length) ((s_delete h (by simp at hb2;omega) (findV l2 c.key).1 hlt).imp λ_ _ h=>by rw[show(l2.take (findV l2 c.key).1++l2.drop ((findV l2 c.key).1+1)).length=l2.length-1 by simp;omega];exact h)
    conv=>whnf
    refine⟨rfl,λh5=>?_,λh5=>absurd (QK.2 h') h5⟩
    conv=>whnf
    refine⟨i,rfl,h',?_⟩
    conv=>whnf
    refine⟨cgL c,rfl,cells_keep hF id hcc,?_⟩
    conv=>whnf
    intro H3 g f3 _
    have hgs:=f3.size
    conv=>whnf
    refine .k (cgL c) (f3.at) (.inr (by show H.size≤g;omega)) rfl rfl ?_
    intro H4 u4 _
    have hg4:H4[g]? =some (.cells (cgL c).toArray 158 (0,0)):=u4.1
    have hF4:Frm nob H2 H4:=f3.e.upd u4 (by omega)
    have hv4:=hv3.q hF4
    conv=>whnf
    refine⟨cgL c,rfl,CellsAt.at hg4,?_⟩
    conv=>whnf
    refine .tb (hal H4) (λ_ h=>h.elim) (λhb=>?_) (λhb=>?_)
    ·rintro H5 _ e5 _
     have hv5:=hv4.q e5
     have hg5:=e5.blk hg4
     have hF5:=(hF.trans hF4).trans e5
     conv=>whnf
     refine⟨_,cel_of hg5 rfl,?_⟩
     conv=>whnf
     refine .q (hfd (hv5.rwP rfl) hfb) ?_
     rintro _ H6 rfl e6 _
     have hv6:=hv5.q e6
     have hg6:=e6.blk hg5
     have hF6:=hF5.trans e6
     have h6s:=hF6.1
     refine(ZQ c.gone).elim (λhgn=>?_) (λhgn=>?_)
     ·conv=>whnf
      refine⟨.bool true,(cel_of (v:=.bool c.gone) hg6 rfl).trans (by rw[hgn]),?_⟩
      conv=>whnf
      refine⟨rfl,_,hw1,?_⟩
      conv=>whnf
      refine .t (hdel hv6) (λk hk=>.inr (hv6.ge k hk).1) ?_
      rintro _ H7 ⟨ad7,cp7,rfl,hv7,_⟩ _ F7
      rw[show app1 l2 c=l2.take (findV l2 c.key).1++l2.drop ((findV l2 c.key).1+1) by unfold app1;rw[if_neg (by rw[hb];simp),if_pos hgn,if_pos hfb]] at ht
      refine go ?_
      exact⟨(i+1,r,_,ad7,cp7),⟨rfl,rfl,trivial⟩,⟨by simp at hi⊢;omega,hd',by simp at hb2⊢;omega,ht,hv7,F7⟩,by show r.length<r.length+1;omega⟩
     ·conv=>whnf
      refine⟨.bool false,(cel_of (v:=.bool c.gone) hg6 rfl).trans (by rw[hgn]),?_⟩
      conv=>whnf
      refine⟨.bool false,(cel_of (v:=.bool c.gone) hg6 rfl).trans (by rw[hgn]),?_⟩
      conv=>whnf
      refine⟨_,cel_of hg6 rfl,?_⟩
      conv=>whnf
      refine⟨(findV l2 c.key).1,rfl,hlt,?_⟩
      obtain⟨cs6,hbg,hg0,hcp,hcm,hcl6,htk⟩:=hv6.blk1
      conv=>whnf
      refine .one (0+(findV l2 c.key).1*2+1) hg0 (.inr hbg) rfl rfl rfl (by rw[hcl6];omega) ?_
      intro H7 u7 F7
      replace u7:H7[g0]? =some (.cells (cs6.set (0+(findV l2 c.key).1*2+1) (.string (S c.value))).toArray 156 (0,0)):=u7.1
      rw[show app1 l2 c=l2.set (findV l2 c.key).1 ((l2.getD (findV l2 c.key).1 ([],[])).1,c.value) by unfold app1;rw[if_neg (by rw[hb];simp),if_neg (by rw[hgn];simp),if_pos hfb]] at ht
      have hv7:=Own.of (base:=H.size) (n:=l2.length) (sz:=2) u7 hbg hcp hcm (by rw[Zb];exact hcl6) (xs:=prsV (l2.set (findV l2 c.key).1 ((l2.getD (findV l2 c.key).1 ([],[])).1,c.value))) (by rw[prsV_len,Zb]) (by rw[List.take_set,htk,Qr,prsV_set];exact hlt)
      refine go ?_
      exact⟨(i+1,r,_,some ⟨g0,0,none⟩,cap),⟨show Value.slice (some ⟨g0,0,none⟩) l2.length cap=.slice (some ⟨g0,0,none⟩) (l2.set (findV l2 c.key).1 ((l2.getD (findV l2 c.key).1 ([],[])).1,c.value)).length cap by rw[Zb],rfl,trivial⟩,⟨by simp at hi⊢;omega,hd',by simp at hb2⊢;omega,ht,by show Own _ _ _ _ (.slice _ (l2.set _ _).length _) (l2.set _ _).length _;rw[Zb];exact hv7,F7⟩,by show r.length<r.length+1;omega⟩
    ·rintro H5 _ e5 _
     rw[show app1 l2 c=l2 by unfold app1;rw[if_pos hb]] at ht
     refine go ?_
     exact⟨(i+1,r,l2,_,cap),⟨rfl,rfl,trivial⟩,⟨by simp at hi⊢;omega,hd',by simp at hb2⊢;omega,ht,(hv4.q e5),(hF.trans hF4).trans e5⟩,by show r.length<r.length+1;omega⟩
   |false=>
    have hins:=λ{X:Heap} {v:Value} {q:Nat} (h:Own X H.size 156 2 v l2.length (prsV l2)) (hX:H.size≤X.size) (hq:X[q]? =some (.cells (prL (c.key,c.value)).toArray 156 (0,0))) (hv:v.ownBlock≠some q)=>Spec.sl (n:=(l2.take (findV l2 c.key).1++[(c.key,c.value)]++l2.drop (findV l2 c.key).1).length) ((s_insert h rfl (by simp at hb2;omega) hX (findV l2 c.key).1 hle.1 hq hv).imp λ_ _ h=>by rw[show(l2.take (findV l2 c.key).1++[(c.key,c.value)]++l2.drop (findV l2 c.key).1).length=l2.length+1 by simp;omega];exact h)
    conv=>whnf
    refine⟨rfl,λh5=>?_,λh5=>absurd (QK.2 h') h5⟩
    conv=>whnf
    refine⟨i,rfl,h',?_⟩
    conv=>whnf
    refine⟨cgL c,rfl,cells_keep hF id hcc,?_⟩
    conv=>whnf
    intro H3 g f3 _
    have hgs:=f3.size
    conv=>whnf
    refine .k (cgL c) (f3.at) (.inr (by show H.size≤g;omega)) rfl rfl ?_
    intro H4 u4 _
    have hg4:H4[g]? =some (.cells (cgL c).toArray 158 (0,0)):=u4.1
    have hF4:Frm nob H2 H4:=f3.e.upd u4 (by omega)
    have hv4:=hv3.q hF4
    conv=>whnf
    refine⟨cgL c,rfl,CellsAt.at hg4,?_⟩
    conv=>whnf
    refine .tb (hal H4) (λ_ h=>h.elim) (λhb=>?_) (λhb=>?_)
    ·rintro H5 _ e5 _
     have hv5:=hv4.q e5
     have hg5:=e5.blk hg4
     have hF5:=(hF.trans hF4).trans e5
     conv=>whnf
     refine⟨_,cel_of hg5 rfl,?_⟩
     conv=>whnf
     refine .q (hfd (hv5.rwP rfl) hfb) ?_
     rintro _ H6 rfl e6 _
     have hv6:=hv5.q e6
     have hg6:=e6.blk hg5
     have hF6:=hF5.trans e6
     have h6s:=hF6.1
     refine(ZQ c.gone).elim (λhgn=>?_) (λhgn=>?_)
     ·conv=>whnf
      refine⟨.bool true,(cel_of (v:=.bool c.gone) hg6 rfl).trans (by rw[hgn]),?_⟩
      conv=>whnf
      refine⟨.bool true,(cel_of (v:=.bool c.gone) hg6 rfl).trans (by rw[hgn]),?_⟩
      rw[show app1 l2 c=l2 by unfold app1;rw[if_neg (by rw[hb];simp),if_pos hgn,if_neg (by rw[hfb];simp)]] at ht
      refine go ?_
      exact⟨(i+1,r,l2,_,cap),⟨rfl,rfl,trivial⟩,⟨by simp at hi⊢;omega,hd',by simp at hb2⊢;omega,ht,hv6,hF6⟩,by show r.length<r.length+1;omega⟩
     ·conv=>whnf
      refine⟨.bool false,(cel_of (v:=.bool c.gone) hg6 rfl).trans (by rw[hgn]),?_⟩
      conv=>whnf
      refine⟨.bool false,(cel_of (v:=.bool c.gone) hg6 rfl).trans (by rw[hgn]),?_⟩
      conv=>whnf
      refine⟨_,cel_of hg6 rfl,?_⟩
      conv=>whnf
      refine⟨_,cel_of hg6 rfl,?_⟩
      conv=>whnf
      refine⟨rfl,?_⟩
      conv=>whnf
      refine⟨rfl,?_⟩
      intro H7 q f7 _
      have h7s:=f7.size
      have hv7:=hv6.q f7.e
      conv=>whnf
      refine .t (hins hv7 (by omega) f7.at (λe=>by have:=(hv6.ge q e).2;omega)) (λk hk=>.inr (hv7.ge k hk).1) ?_
      rintro _ H8 ⟨ad8,cp8,rfl,hv8,_⟩ _ F8
      rw[show app1 l2 c=l2.take (findV l2 c.key).1++[(c.key,c.value)]++l2.drop (findV l2 c.key).1 by unfold app1;rw[if_neg (by rw[hb];simp),if_neg (by rw[hgn];simp),if_neg (by rw[hfb];simp)]] at ht
      refine go ?_
      exact⟨(i+1,r,_,ad8,cp8),⟨rfl,rfl,trivial⟩,⟨by simp at hi⊢;omega,hd',by simp at hb2⊢;omega,ht,hv8,F8⟩,by show r.length<r.length+1;omega⟩
    ·rintro H5 _ e5 _
     rw[show app1 l2 c=l2 by unfold app1;rw[if_pos hb]] at ht
     refine go ?_
     exact⟨(i+1,r,l2,_,cap),⟨rfl,rfl,trivial⟩,⟨by simp at hi⊢;omega,hd',by simp at hb2⊢;omega,ht,(hv4.q e5),(hF.trans hF4).trans e5⟩,by show r.length<r.length+1;omega⟩
 ·rintro H1 _ e1 _
  rw[if_neg (by rw[hb];simp)] at htot
  conv=>whnf
  subst htot
  exact⟨Own.nil _ _ _ _⟩
theorem chunkp_nil(F:Fence)(n:Nat)(h8:F.fn 302)(hro:F.round=none)(l Bs Bq:Nat)(J Jx:List Nat→World→Prop)
  (W:World) (hBs:W.cell? ⟨Bs,0,none⟩=some (.slice none 0 0)) (h0:J [] W):
  CallsIn F n prog 302 #[.func (.yield l) #[] #[],.pointer (some ⟨Bs,0,none⟩),.pointer (some ⟨Bq,0,none⟩)] W λe W'=>(∃v,e=.returned v)∧
   ((∃xs,xs=[]∧J xs W')∨(∃pre,True∧Jx pre W')):=by
 refine callsIn_of_wp func302 rfl h8 ?_ hro
 simp only[ntmps302,Q8,Qo,Q0,Nat.reduceAdd,Nat.reduceSub,Q2,Q1,Zd,Q5,QI,QR]
 gi_wp2
 gi_loopw [4] (λi wr=>i=.int .i64 0∧wr=W) (λi _=>0)
 case atStart=>exact⟨rfl,rfl⟩
 case round=>
  obtain⟨rfl,rfl⟩:=hrel
  gi_wp2
  go_end0
  exact⟨⟨_,rfl⟩,.inl ⟨_,rfl,h0⟩⟩
theorem chunkp_stops0(Bs Bq:Nat)(KS:Nat→Prop)(w:World)(hBs:w.cell? ⟨Bs,0,none⟩=some (.slice none 0 0))(_:KS Bs):
  SeqStopsK Fence.wide 1 prog 302 #[.pointer (some ⟨Bs,0,none⟩),.pointer (some ⟨Bq,0,none⟩)] (λx:Nat=>#[chAt 0 0 64 2 x 0]) (KpH KS) (λxs=>xs=[]) (λ_=>True) 0 w:=λl J Jx W hW _ _ _ h0=>
 chunkp_nil Fence.wide 1 trivial rfl l Bs Bq J Jx W ((hW.cell (p:=⟨Bs,0,none⟩) (World.block_lt_of_cell? w _ hBs)).trans hBs) h0
abbrev Gx:=List Chg×Option Addr×Nat
def gxV(x:Gx):Value:=.slice x.2.1 x.1.length x.2.2
def grp(l:List Pr)(k:Nat):List Chg:=((l.drop (k*64)).take 64).map pcg
def compV(l:List Pr):List (List Chg):=if mayV l=true then(List.range (chN l.length 64)).map (grp l) else []
structure CpH(l:List Pr)(B p ba bb bd off cd:Nat)(xs:List Gx)(H:Heap):Prop where
 row:∃u,H[p]? =some (.cells #[u] 93 (0,0))∧Own H B 104 1 u xs.length (xs.map gxV)
 gr:∀x∈xs,Own H B 158 3 (gxV x) x.1.length (cgsV x.1)
 src:CellsAt H bd off (prsV l)
 ca:H[ba]? =some (.cells #[.slice (some ⟨bd,off,none⟩) l.length cd] 94 (0,0))
 cb:H[bb]? =some (.cells #[.int .i64 64] 3 (0,0))
theorem s_compact{H:Heap}{v:Value}{l:List Pr}(hv:Rw H v (l.map prL))(ho:∀p∈l,prOk p)(hl:l.length≤900000000):Spec prog 219 #[v] H nob λu H'=>∃xs:List Gx,xs.map (·.1)=compV l∧Own H' H.size 104 1 u xs.length (xs.map gxV)∧∀x∈xs,Own H' H.size 158 3 (gxV x) x.1.length (cgsV x.1):=by
 have hmay:=(s_dmay hv ho (by omega)).imp (R':=λu H'=>u=.bool (mayV l)∧True) λ_ _ h=>⟨h,trivial⟩
 obtain⟨tot,htot⟩:∃t,compV l=t:=⟨_,rfl⟩
 rw[htot]
 unfold compV at htot
 generalize mayV l=mv at hmay htot
 cases mv with
 |false=>
  rw[if_neg (by simp)] at htot
  subst htot
  refine Spec.cut func219 rfl (by kernel_rfl) ?_
  refine CutVC.step mixed (by kernel_rfl) ?_
  conv=>whnf
  refine CutVC.step mixed (by kernel_rfl) ?_
  conv=>whnf
  refine .q (hmay) ?_
  rintro _ H1 ⟨rfl,_⟩ e1 _
  conv=>whnf
  exact⟨⟨[],rfl,Own.nil _ _ _ _,λx hx=>by cases hx⟩⟩
 |true=>
  rw[if_pos rfl] at htot
  rcases hv with ⟨rfl,hl0⟩|⟨bd,off,cd,rfl,hcd,hsrc⟩
  ·have hl0:l=[]:=by simpa using hl0
   subst hl0
   refine Spec.cut func219 rfl (by kernel_rfl) ?_
   refine CutVC.step mixed (by kernel_rfl) ?_
   conv=>whnf
   refine CutVC.step mixed (by kernel_rfl) ?_
   conv=>whnf
   refine .q (hmay) ?_
   rintro _ H1 ⟨rfl,_⟩ e1 _
   conv=>whnf
   refine CutVC.step mixed (by kernel_rfl) ?_
   conv=>whnf
   intro H2 p f2 _
   have hp2:H2[p]? =some (.cells #[.slice none 0 0] 93 (0,0)):=f2.at
   refine CutVC.last mixed (by kernel_rfl) (by kernel_rfl) (by kernel_rfl) ?_
   conv=>whnf
   refine .q (s_chunkp (.slice none 0 0) 64 (by decide) H2) ?_
   rintro _ H3 ⟨ba,bb,rfl,hba,hbb,hA3,hB3⟩ e3 _
   have hp3:=e3.blk hp2
   conv=>whnf
   refine RangeVC.of (α:=Nat) 302 _ (λx=>#[chAt 0 0 64 2 x 0]) (λk=>k=ba) (λxs=>xs=[]) (λ_=>True) 0
    (λ_ H'=>H'[p]? =some (.cells #[.slice none 0 0] 93 (0,0))) (λ_ _=>False) rfl (enters_of func302 (by kernel_rfl) rfl) (λ_=>rfl) ?_ (λw hw=>?_) ?_ (λ_ _ _ h _=>h) ?_ ?_ ?_ (λ_ _ _ h=>h.elim)
   ·rintro k rfl
    exact(Qa.1 hA3).1
   ·refine chunkp_stops0 ba bb _ w ?_ rfl
    rw[cel_w,hw];exact cel_of hA3 rfl
   ·rintro pre HA HB h hN
    exact blk_nc hN h
   ·exact hp3
   ·intro x HA
    conv=>whnf
    refine⟨rfl,rfl,?_⟩
    intro pre H' _ _ h
    exact absurd h (Nat.not_lt_zero _)
   ·rintro xs H' rfl h hF
    conv=>whnf
    refine⟨_,cel_of h rfl,?_⟩
    conv=>whnf
    subst htot
    exact⟨λH3 _=>⟨[],rfl,Own.nil _ _ _ _,λx hx=>by cases hx⟩⟩
  ·replace hsrc:CellsAt H bd off (prsV l):=hsrc
   simp only[Qv] at hmay hcd⊢
   refine Spec.cut func219 rfl (by kernel_rfl) ?_
   refine CutVC.step mixed (by kernel_rfl) ?_
   conv=>whnf
   refine CutVC.step mixed (by kernel_rfl) ?_
   conv=>whnf
   refine .q (hmay) ?_
   rintro _ H1 ⟨rfl,_⟩ e1 _
   conv=>whnf
   refine CutVC.step mixed (by kernel_rfl) ?_
   conv=>whnf
   intro H2 p f2 _
   have hp2:H2[p]? =some (.cells #[.slice none 0 0] 93 (0,0)):=f2.at
   have z2:=f2.size
   have z1:=e1.1
   refine CutVC.last mixed (by kernel_rfl) (by kernel_rfl) (by kernel_rfl) ?_
   conv=>whnf
   refine .q (s_chunkp (.slice (some ⟨bd,off,none⟩) l.length cd) 64 (by decide) H2) ?_
   rintro _ H3 ⟨ba,bb,rfl,hba,hbb,hA3,hB3⟩ e3 _
   have hp3:=e3.blk hp2
   have hs3:=cells_keep e3 id (cells_keep f2.e id (cells_keep e1 id hsrc))
   have z3:=e3.1
   conv=>whnf
   refine RangeVC.of (α:=Nat) 302 _ (λx=>#[chAt bd off 64 2 x l.length]) (λk=>k=ba∨k=bb) (λxs=>xs=List.range (chN l.length 64)) (λ_=>True) (chN l.length 64)
    (λpre H'=>∃xs:List Gx,xs.map (·.1)=pre.map (grp l)∧CpH l H.size p ba bb bd off cd xs H') (λ_ _=>False) rfl (enters_of func302 (by kernel_rfl) rfl) (λ_=>rfl) ?_ (λw hw=>?_) ?_ (λ_ _ _ h _=>h) ?_ ?_ ?_ (λ_ _ _ h=>h.elim)
   ·rintro k (rfl|rfl)
    ·exact(Qa.1 hA3).1
    ·exact(Qa.1 hB3).1
   ·refine chunkp_stops ba bb bd off l.length cd 64 (by omega) (by omega) (by omega) hcd _ (.inl rfl) (.inr rfl) w ?_ ?_
    ·rw[cel_w,hw];exact cel_of hA3 rfl
    ·rw[cel_w,hw];exact cel_of hB3 rfl
   ·rintro pre HA HB ⟨xs,hx,⟨⟨u,h1,h2⟩,h3,h4,h5,h6⟩⟩ hN
    exact⟨xs,hx,⟨⟨u,blk_nc hN h1,h2.nc hN⟩,λx hx=>(h3 x hx).nc hN,h4.nc hN,blk_nc hN h5,blk_nc hN h6⟩⟩
   ·exact⟨[],rfl,⟨⟨_,hp3,Own.nil _ _ _ _⟩,(λx hx=>by cases hx),hs3,hA3,hB3⟩⟩
   ·intro x HA
    conv=>whnf
    refine⟨rfl,rfl,?_⟩
    rintro pre H' ⟨xs,hx,⟨⟨u,h1,h2⟩,h3,h4,h5,h6⟩⟩ hHs hpl
    have hbp:u.ownBlock≠some p:=h2.ne h1 (by decide)
    have hbd:bd<H.size:=by
     cases l with
     |nil=>simp[chN] at hpl
     |cons y r=>exact hsrc.blk
    obtain⟨part,hpt⟩:∃t,(l.drop (x*64)).take 64=t:=⟨_,rfl⟩
    have hpn:part.length=chLen l.length 64 x:=by rw[←hpt];unfold chLen;simp
    have hpl2:part.length≤64:=by rw[←hpt];simp;omega
    have hps:CellsAt H' bd (off+x*64*2) (part.map prL).flatten:=by
     rw[←hpt]
     show CellsAt H' bd _ (prsV _)
     rw[←prsV_take,←prsV_drop]
     exact h4.cut _ _
    have hrw:Rw H' (.slice (some ⟨bd,off+x*64*2,none⟩) part.length part.length) (part.map prL):=.inr ⟨bd,_,part.length,by rw[Qv],by rw[Qv];exact Qd _,hps⟩
    obtain⟨ad,cap,hae,_,hw⟩:=hrw.at (f:=prL) (sz:=2) (λ_=>rfl)
    cases hae
    have hgx:grp l x=part.map pcg:=by unfold grp;rw[hpt]
    have hxl:xs.length=pre.length:=by have:=Qf List.length hx;simpa using this
    have hch:chN l.length 64≤l.length:=by unfold chN;omega
    have hce:chAt bd off 64 2 x l.length=.slice (some ⟨bd,off+x*64*2,none⟩) part.length part.length:=by unfold chAt;rw[hpn]
    rw[hce]
    refine⟨λk=>k=p∨u.ownBlock=some k,?_,?_,?_,?_⟩
    ·rintro k (rfl|hk)
     ·exact⟨_,_,_,h1⟩
     ·rcases h2.2 with ⟨rfl,_⟩|⟨gg,cap',cur,rfl,_,hgg,_⟩
      ·cases hk
      ·cases hk
       exact⟨_,_,_,hgg⟩
    ·rintro k (rfl|hk) (rfl|rfl)
     ·rw[h5] at h1;simp at h1
     ·rw[h6] at h1;simp at h1
     ·exact h2.ne h5 (by decide) hk
     ·exact h2.ne h6 (by decide) hk
    ·rintro k (rfl|hk)
     ·exact .inr (by show H.size≤k;omega)
     ·exact .inr (h2.ge k hk).1
    ·conv=>whnf
     refine⟨Nat×List Pr×Value,λx=>[(5,x.2.2),(16,.int .i64 (x.1:Int))],λx H2=>x.1+x.2.1.length=part.length∧part.drop x.1=x.2.1∧Own H2 H'.size 158 3 x.2.2 x.1 (cgsV ((part.take x.1).map pcg))∧Frm nob H' H2,λx=>x.2.1.length,
      ⟨(0,part,.slice none 0 0),⟨rfl,rfl,trivial⟩,by simp,rfl,Own.nil _ _ _ _,Frm.refl _ _⟩,?_⟩
     rintro⟨i,r,v⟩ H2 junk ⟨hi,hd,hv3,hF⟩ F
     dsimp only at hi hd hv3
     obtain⟨va,vc,rfl⟩:=hv3.form
     have F':H'.size≤H2.size:=F.1
     cases r with
     |nil=>
      conv=>whnf
      refine⟨rfl,λh5=>absurd h5 (by show ¬(i:Int)<(part.length:Int);simp at hi;omega),λ_=>?_⟩
      have hie:i=part.length:=by simpa using hi
      subst hie
      rw[Zx] at hv3
      have h1':=hF.blk h1
      have h2':=h2.q hF
      conv=>whnf
      refine⟨u,cel_of h1' rfl,?_⟩
      conv=>whnf
      refine⟨rfl,?_⟩
      intro H9 q f9 _
      have hF9:=hF.trans f9.e
      have h29:=h2'.q f9.e
      conv=>whnf
      refine .el2 [.slice va part.length vc] (by kernel_rfl) h29 (CellsAt.new (cs:=[.slice va part.length vc]) f9) rfl (by simp[oneCell]) (by omega) (by have:=hF9.1;show H.size≤_;omega) (λk hk=>.inl (.inr hk)) ?_
      intro v10 H10 ho10 e10 _ _
      conv=>whnf
      refine .var (by kernel_rfl) (e10.blkT (f9.e.blk h1') hbp) (.inl (.inl rfl)) ho10.slc ?_
      intro H11 u11 F11
      conv=>whnf
      have hnv:=((hv3.q f9.e).frm e10 λk hk hk2=>(hv3.apart h2' (by decide)) k hk hk2)
      have hp10:=e10.blkT (f9.e.blk h1') hbp
      have hnw:=hnv.frm u11.e λk hk (hk2:k=p)=>hnv.ne hp10 (by decide) (hk2▸hk)
      have hrow:=ho10.frm u11.e λk hk (hk2:k=p)=>ho10.ne hp10 (by decide) (hk2▸hk)
      refine⟨xs++[(part.map pcg,va,vc)],by rw[Qy,Qy,hx];show _++[part.map pcg]=_++[grp l x];rw[hgx],⟨⟨v10,u11.1,?_⟩,?_,cells_keep F11 (λe=>e.elim (λe=>by omega) λe=>by have:=(h2.ge _ e).1;omega) h4,F11.blkT h5 (λe=>e.elim (λe=>by rw[e,h1] at h5;simp at h5) (h2.ne h5 (by decide))),F11.blkT h6 (λe=>e.elim (λe=>by rw[e,h1] at h6;simp at h6) (h2.ne h6 (by decide)))⟩⟩
      ·rw[Qi,Qy]
       have:gxV (part.map pcg,va,vc)=.slice va part.length vc:=by unfold gxV;rw[Qv]
       rw[QX,this]
       exact hrow
      ·intro z hz
       rcases Qz.1 hz with hz|hz
       ·exact(h3 z hz).frm F11 λk hk e=>e.elim (λe=>(h3 z hz).ne h1 (by decide) (e▸hk)) ((h3 z hz).apart h2 (by decide) k hk)
       ·rw[Q4.1 hz]
        have:gxV (part.map pcg,va,vc)=.slice va part.length vc:=by unfold gxV;rw[Qv]
        rw[this,Qv]
        exact hnw.low (by omega)
     |cons y r=>
      obtain⟨hy,hd'⟩:=drop_cons hd
      obtain⟨b,o,hbo,hcy⟩:=hw i y hy
      cases hbo
      have h':i<part.length:=(Qe.1 hy).1
      conv=>whnf
      refine⟨rfl,λh5=>?_,λh5=>absurd (QK.2 h') h5⟩
      conv=>whnf
      refine⟨i,rfl,h',?_⟩
      conv=>whnf
      refine⟨prL y,rfl,cells_keep hF id hcy,?_⟩
      conv=>whnf
      intro H3 g f3 _
      have hgs:=f3.size
      conv=>whnf
      refine .k (prL y) (f3.at) (.inr (by show H'.size≤g;omega)) rfl rfl ?_
      intro H4 u4 _
      have hg4:H4[g]? =some (.cells (prL y).toArray 156 (0,0)):=u4.1
      have hF4:Frm nob H2 H4:=f3.e.upd u4 (by omega)
      conv=>whnf
      refine⟨prL y,rfl,CellsAt.at hg4,?_⟩
      conv=>whnf
      refine .q (s_dput y H4) ?_
      rintro _ H5 rfl e5 _
      conv=>whnf
      refine⟨rfl,?_⟩
      intro H6 q f6 _
      have hF6:=(hF4.trans e5).trans f6.e
      have hv6:=hv3.q hF6
      conv=>whnf
      refine .el2 (cgL (pcg y)) (by kernel_rfl) hv6 (CellsAt.new (cs:=cgL (pcg y)) f6) rfl (by simp[cgL,oneCell]) (by omega) (by have:=hF6.1;omega) (λk hk=>.inr (hv6.ge k hk).1) ?_
      intro v7 H7 ho7 e7 F7 _
      refine go ?_
      exact⟨(i+1,r,v7),⟨rfl,rfl,trivial⟩,⟨by simp at hi⊢;omega,hd',by show Own _ _ _ _ _ _ (cgsV ((part.take (i+1)).map pcg));rw[ZE,hy,Qy];exact(cgsV_app _ (pcg y))▸ho7,(hF.trans hF6).then e7 λk hk=>.inr (hv6.ge k hk).1⟩,by show r.length<r.length+1;omega⟩
   ·rintro xs H' rfl ⟨xs,hx,⟨⟨u,h1,h2⟩,h3,h4,h5,h6⟩⟩ hF
    conv=>whnf
    refine⟨_,cel_of h1 rfl,?_⟩
    conv=>whnf
    subst htot
    exact⟨λH3 hN=>⟨xs,hx,h2.nc hN,λx hx=>(h3 x hx).nc hN⟩⟩
def sixF(s:By):List By→Nat→Int
 |[],_=> -1
 |x::r,i=>if s=x then(i:Int) else sixF s r (i+1)
theorem s_sidx{H:Heap}{v:Value}{l:List By}(hv:Rw H v (l.map λx=>[.string (S x)]))(hl:l.length≤1000000000)(s:By):Spec prog 44 #[v,.string (S s)] H nob λu _=>u=.int .i64 (sixF s l 0):=by
 obtain⟨tot,htot⟩:∃t,sixF s l 0=t:=⟨_,rfl⟩
 rw[htot]
 obtain⟨ad,cap,rfl,_,hw⟩:=hv.at (f:=λx=>[.string (S x)]) (sz:=1) (λ_=>rfl)
 refine spx func44 ?_
 conv=>whnf
 refine⟨Nat×List By,λx=>[(8,.int .i64 (x.1:Int))],λx H'=>x.1+x.2.length=l.length∧l.drop x.1=x.2∧sixF s x.2 x.1=tot∧Frm nob H H',λx=>x.2.length,
  ⟨(0,l),⟨rfl,trivial⟩,by simp,rfl,htot,Frm.refl _ _⟩,?_⟩
 rintro⟨i,r⟩ H2 junk ⟨hi,hd,ht,hF⟩ F
 dsimp only at hi hd ht
 cases r with
 |nil=>
  conv=>whnf
  refine⟨rfl,λh5=>absurd h5 (by show ¬(i:Int)<(l.length:Int);simp at hi;omega),λh5=>?_⟩
  subst ht
  exact⟨rfl⟩
 |cons p r=>
  obtain⟨hy,hd'⟩:=drop_cons hd
  obtain⟨ba,o,rfl,hc⟩:=hw i p hy
  have h':i<l.length:=(Qe.1 hy).1
  unfold sixF at ht
  conv=>whnf
  refine⟨rfl,λh5=>?_,λh5=>absurd (QK.2 h') h5⟩
  conv=>whnf
  refine⟨i,rfl,h',?_⟩
  conv=>whnf
  refine⟨.string (S p),hF.cel (by rw[ZI] at hc;exact hc.1),?_⟩
  conv=>whnf
  refine⟨λh=>?_,λh=>?_⟩
  ·rw[if_pos (S_inj h)] at ht
   conv=>whnf
   subst ht
   exact⟨rfl⟩
  ·rw[if_neg (λe=>h (by rw[e]))] at ht
   refine go ?_
   exact⟨(i+1,r),⟨rfl,trivial⟩,⟨by simp at hi⊢;omega,hd',ht,hF⟩,by show r.length<r.length+1;omega⟩
theorem LoR.low{p:Pl}{gv:Nat}{v:Vol}{a:Dk.Arr}{H H1 H':Heap}{U:Nat→Prop}{B:Nat}{Q:Int}{t:Option Lg×Int}{u:Value}(h:LoR p gv v a H1 U B Q t u H')(hz:H.size≤H1.size):LoR p gv v a H U B Q t u H':=by
 obtain⟨o,e⟩:=t
 cases o with
 |none=>
  obtain⟨h1,S',h2,h3⟩:=h
  exact⟨h1,S',h2,λk hk=>(h3 k hk).imp_right (Qb hz)⟩
 |some l=>
  obtain⟨gl,b,cap,S',h1,h2,h3,h4,h5⟩:=h
  exact⟨gl,b,cap,S',h1,Qb hz h2,Qb hz h3,h4,λk hk=>(h5 k hk).imp_right (Qb hz)⟩
def lhalfV(a:Dk.Arr)(v:Vol)(n:Nat):Option Lg×Int:=lopenV a v (1+(n:Int)*((v.conf.st-1).tdiv 2)) ((v.conf.st-1).tdiv 2)
theorem s_half{p:Pl}{gv:Nat}{v:Vol}{a:Dk.Arr}{H:Heap}{U:Nat→Prop}{B:Nat}{Q:Int}(h:AV p gv v a H U)(hO:VOk B Q v a)(n:Nat)(hn:n≤1):
  Spec prog 45 #[ptr gv 0,.int .i64 (n:Int)] H U (LoR p gv v a H U B Q (lhalfV a v n)):=by
 have hcb:=hO.cf.b
 obtain⟨m,hm⟩:∃m,(v.conf.st-1).tdiv 2=m:=⟨_,rfl⟩
 have hmb:0≤m∧m≤500000:=by rw[←hm,Z6 (by omega)];omega
 have hnm:0≤(n:Int)*m∧(n:Int)*m≤500000:=by
  have:n=0∨n=1:=by omega
  rcases this with rfl|rfl<;>simp<;>omega
 have hlo:=λ{X:Heap} (e:Frm nob H X)=>s_lopen (h.q e) hO (1+(n:Int)*m) m (by omega)
 have hres:lhalfV a v n=lopenV a v (1+(n:Int)*m) m:=by unfold lhalfV;rw[hm]
 rw[hres]
 generalize lopenV a v (1+(n:Int)*m) m=res at hlo
 obtain⟨o,e⟩:=res
 cases o with
 |none=>
  refine spx func45 ?_
  conv=>whnf
  refine .q (s_vconf h.vol) ?_
  rintro _ H1 rfl e1 _
  conv=>whnf
  refine⟨rfl,(v.conf.st-1),wr64 (by omega) (by omega),?_⟩
  conv=>whnf
  refine⟨rfl,by decide,m,by rw[hm];exact wr64 (by omega) (by omega),?_⟩
  conv=>whnf
  refine⟨rfl,(n:Int)*m,wr64 (by omega) (by omega),?_⟩
  conv=>whnf
  refine⟨rfl,1+(n:Int)*m,wr64 (by omega) (by omega),?_⟩
  conv=>whnf
  refine .t (hlo e1) (λk hk=>.inl hk) ?_
  rintro _ H2 ⟨rfl,h2⟩ e2 _
  conv=>whnf
  exact⟨LoR.low (B:=B) (Q:=Q) (t:=(none,e)) ⟨rfl,h2⟩ e1.1⟩
 |some l=>
  refine spx func45 ?_
  conv=>whnf
  refine .q (s_vconf h.vol) ?_
  rintro _ H1 rfl e1 _
  conv=>whnf
  refine⟨rfl,(v.conf.st-1),wr64 (by omega) (by omega),?_⟩
  conv=>whnf
  refine⟨rfl,by decide,m,by rw[hm];exact wr64 (by omega) (by omega),?_⟩
  conv=>whnf
  refine⟨rfl,(n:Int)*m,wr64 (by omega) (by omega),?_⟩
  conv=>whnf
  refine⟨rfl,1+(n:Int)*m,wr64 (by omega) (by omega),?_⟩
  conv=>whnf
  refine .t (hlo e1) (λk hk=>.inl hk) ?_
  rintro _ H2 ⟨gl,b,cap,S',rfl,h2⟩ e2 _
  conv=>whnf
  exact⟨LoR.low (B:=B) (Q:=Q) (t:=(some l,e)) ⟨gl,b,cap,S',rfl,h2⟩ e1.1⟩
end Go.Proofs.YtjambljmnifknaaGreatDoor.Vc
