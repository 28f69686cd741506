/- Part 29 of the proof of TopAny: Proved. -/
import Derived.Test.YtjambljmnifknaaGreatDoorJ28
import Derived.Test.YtjambljmnifknaaGreatDoorTie
import Derived.Test.YtjambljmnifknaaGreatDoorCards
import Derived.ProofKit
import Derived.OpenShut
import Derived.ChangeOld
import Derived.SizedLaws
import Derived.Carry
import Derived.Lib.SmallJoins
import Derived.SliceStrings
import Derived.Lib.LaidU8
import Derived.Shelf.Vars
import Derived.LaidMore
import Derived.Lay
import Derived.Stop.Joined
import Derived.SevenTiedAt
set_option maxRecDepth 100000
set_option maxHeartbeats 80000000
set_option linter.all false
open Go.Proofs.Tryz
namespace Go.Proofs.YtjambljmnifknaaGreatDoor.topAny
open Go.ChangeShapes Go.WideShapes Go.ChangeAt Go.RowKit Go.Joins
open Vc
theorem own:ownKnob prog.godebug=none:=by kernel_rfl
theorem laidOut:laidOutB prog=true:=by kernel_rfl
theorem cells23:prog.cellsOf 23=5:=by kernel_rfl
abbrev laid:List (String×DataW Unit):=Rows.topAnyRow.laid
section
variable {H:Type}{enc:TypeId×Value→H}{P:Program}{w:World}{base:Nat}{spare:Nat→Bool}{held:Bool}
theorem array5{α:Type}{cs:Array α}(h:cs.size=5):∃c0 c1 c2 c3 c4,cs=#[c0,c1,c2,c3,c4]:=by
 obtain⟨l⟩:=cs
 match l,h with
 |[c0,c1,c2,c3,c4],_=>exact⟨c0,c1,c2,c3,c4,rfl⟩
theorem trod_struct5{t:TypeId}{f0 f1 f2 f3 f4:Field}{fuel:Nat}{cs:List Value}{x:DataW H×List MemPlace}(ht:P.underlying t=some (.struct #[f0,f1,f2,f3,f4]))(h:DataW.trod enc P w base spare held fuel t cs=some x):
  ∃y0 y1 y2 y3 y4 n,x=(.agg [y0.1,y1.1,y2.1,y3.1,y4.1],y0.2++(y1.2++(y2.2++(y3.2++y4.2))))∧cs.length=P.cellsOf t∧DataW.trod enc P w base spare held n f0.type ((cs.drop f0.offset).take (P.cellsOf f0.type))=some y0∧
   DataW.trod enc P w base spare held n f1.type ((cs.drop f1.offset).take (P.cellsOf f1.type))=some y1∧DataW.trod enc P w base spare held n f2.type ((cs.drop f2.offset).take (P.cellsOf f2.type))=some y2∧
   DataW.trod enc P w base spare held n f3.type ((cs.drop f3.offset).take (P.cellsOf f3.type))=some y3∧DataW.trod enc P w base spare held n f4.type ((cs.drop f4.offset).take (P.cellsOf f4.type))=some y4:=by
 obtain⟨xs,n,_,rfl,hl,hlen,hf⟩:=DataW.trod_struct ht h
 match xs,hlen with
 |[y0,y1,y2,y3,y4],_=>exact⟨y0,y1,y2,y3,y4,n,by simp,hl,by simpa using hf 0 f0 rfl,by simpa using hf 1 f1 rfl,by simpa using hf 2 f2 rfl,by simpa using hf 3 f3 rfl,by simpa using hf 4 f4 rfl⟩
theorem open_conf{W:World}{b:Nat}{v:Value}{d:DataW H}{p:List MemPlace}(hv:Value.okWide prog W .any b 23 v)(h:DataW.Trod enc prog W base spare held 23 v d p):∃c:Cf,v=cfV c:=by
 obtain⟨cs,rfl,hsz⟩:=okWide_struct underlying23 hv
 obtain⟨c0,c1,c2,c3,c4,rfl⟩:=array5 (hsz.trans cells23)
 obtain⟨fuel,hf⟩:=h
 obtain⟨y0,y1,y2,y3,y4,n, -, -,h0,h1,h2,h3,h4⟩:=trod_struct5 underlying23 hf
 have c3':prog.cellsOf 3=1:=by kernel_rfl
 simp only[c3'] at h0 h1 h2 h3 h4
 obtain⟨a0,e0,_⟩:=DataW.trod_int underlying3 h0
 obtain⟨a1,e1,_⟩:=DataW.trod_int underlying3 h1
 obtain⟨a2,e2,_⟩:=DataW.trod_int underlying3 h2
 obtain⟨a3,e3,_⟩:=DataW.trod_int underlying3 h3
 obtain⟨a4,e4,_⟩:=DataW.trod_int underlying3 h4
 simp[Value.cells] at e0 e1 e2 e3 e4
 exact⟨⟨a0,a1,a2,a3,a4⟩,by unfold cfV;rw[e0,e1,e2,e3,e4]⟩
theorem open_texts{W:World}{b:Nat}{v:Value}{d:DataW H}{p:List MemPlace}(hv:Value.okWide prog W .any b 24 v)(h:DataW.Trod enc prog W 0 (λ_=>true) held 24 v d p):∃ss:List Tp.By,Rd W.heap v (strV ss):=by
 obtain⟨ad,len,cap,rfl⟩:=okWide_slice underlying24 hv
 obtain⟨fuel,hf⟩:=h
 rcases open_strings underlying24 underlying9 (by kernel_rfl) hf with ⟨hcs,_⟩|⟨a,l,c,zs,hcs,_,hl,_,hz,_,hcell,_⟩
 ·simp[Value.cells] at hcs
  obtain⟨rfl,rfl,rfl⟩:=hcs
  exact⟨[],.inl ⟨rfl,rfl⟩⟩
 ·simp[Value.cells] at hcs
  obtain⟨rfl,rfl,rfl⟩:=hcs
  have hsp:a.spot=none:=by
   unfold Value.okWide at hv
   simp only[underlying24] at hv
   unfold Cell.okWide at hv
   simp only[underlying24] at hv
   unfold Cell.ok at hv
   simp only[underlying24] at hv
   exact hv.2.2.2.1
  obtain⟨k,o,sp⟩:=a
  dsimp only at hsp
  subst hsp
  simp at hz
  have hlen:(strV ((zs.take len).map Tp.L)).length=len:=by simp[strV,hz];omega
  refine⟨(zs.take len).map Tp.L,.inr ⟨k,o,cap,by rw[hlen],by rw[hlen];exact hl,CellsAt.of λj x hj=>?_⟩⟩
  have hjl:j<len:=by
   have:=(Qe.1 hj).1
   rwa[hlen] at this
  have hc:=hcell j (by omega)
  have hx:x=.string (zs.getD j ByteArray.empty):=by
   simp[strV,QZ,hjl] at hj
   obtain⟨y,hy,rfl⟩:=hj
   simp[Ql,hy]
  subst hx
  have e:(⟨k,o,none⟩:Addr).add j=⟨k,o+j,none⟩:=by unfold Addr.add;split<;>simp_all
  rw[e] at hc
  exact hc
end
theorem of_laid{W:World}(h:laidMetH prog laid W):laidMet prog laid W:=by
 rw[MakeChecks.laidMetH_plain _ _ _ (by kernel_rfl)] at h
 exact h
theorem tab_of{W:World}(h:laidMet prog laid W):Lib.TabIs prog W "internal/strconv.uint64pow10" .u64 Lib.pow10Tab:=by
 obtain⟨g,t,cs,fuel,p,hg,ht,hv,hd⟩:=Lib.laidMet.reads h (n:= "internal/strconv.uint64pow10") (d:=Rows.laid_internal_strconv_uint64pow10) (by simp[laid,Rows.topAnyRow])
 obtain rfl:=QS ((show prog.globalNamed "internal/strconv.uint64pow10"=some 5 by kernel_rfl).symm.trans hg)
 obtain rfl:=QS ((show(prog.globals[5]?).map (·.type)=some 371 by kernel_rfl).symm.trans ht)
 have e:(Rows.laid_internal_strconv_uint64pow10:DataW Unit)=Lib.tabData .u64 Lib.pow10Tab:=by kernel_rfl
 rw[e] at hd
 unfold Lib.TabIs
 rw[hv,←Lib.cells_of_tab underlying371 underlying293 (by kernel_rfl) (by kernel_rfl) hd]
theorem sent_of{W:World}{n:String}{g:Nat}{d:DataW Unit}(hg:prog.globalNamed n=some g)(hy:(prog.globals[g]?).map (·.type)=some 170)(h:Lib.VarReads prog W n (.iface "*errors.errorString" d)):∃t p,W.var? prog n=some #[.iface t p]:=by
 obtain⟨g',t,cs,fuel,p,hg',ht,hv,hd⟩:=h
 obtain rfl:=QS (hg.symm.trans hg')
 obtain rfl:=QS (hy.symm.trans ht)
 obtain⟨f1,u,v,e,_,_⟩:=iface_of_trod underlying170 hd
 refine⟨u,v,?_⟩
 rw[hv]
 obtain⟨l⟩:=cs
 dsimp only at e
 rw[e]
theorem size_of{W:World}{n:String}{g:Nat}{cs:Array Value}(hg:prog.globalNamed n=some g)(h:W.var? prog n=some cs):g<W.heap.size:=by
 unfold World.var? at h
 rw[hg] at h
 simp only[YV] at h
 cases e:W.heap[g]? with
 |none=>rw[e] at h;cases h
 |some o=>exact(Qa.1 e).1
theorem gl_of{W:World}(h:laidMet prog laid W)(hs:W.ShapedOpen prog):Gl W.heap∧8≤W.heap.size:=by
 have ht:=tab_of h
 obtain⟨t1,p1,h1⟩:=sent_of (n:= "strconv.ErrSyntax") (g:=1) (by kernel_rfl) (by kernel_rfl) (Lib.laidMet.reads h (n:= "strconv.ErrSyntax") (d:=Rows.laid_strconv_ErrSyntax) (by simp[laid,Rows.topAnyRow]))
 obtain⟨t2,p2,h2⟩:=sent_of (n:= "strconv.ErrRange") (g:=2) (by kernel_rfl) (by kernel_rfl) (Lib.laidMet.reads h (n:= "strconv.ErrRange") (d:=Rows.laid_strconv_ErrRange) (by simp[laid,Rows.topAnyRow]))
 obtain⟨m,hm⟩:=cell_of_shapedOpen_int (P:=prog) (g:=0) (t:=3) (zero:=#[.int .i64 0]) hs (Zl (by kernel_rfl)) (by kernel_rfl) rfl (by kernel_rfl) (by kernel_rfl) underlying3
 refine⟨⟨ht,⟨t1,p1,h1⟩,⟨t2,p2,h2⟩,⟨m,hm⟩⟩,?_⟩
 obtain⟨g,t,cs,fuel,p,hg,_,hv,_⟩:=Lib.laidMet.reads h (n:= "math/bits.deBruijn64tab") (d:=Rows.laid_math_bits_deBruijn64tab) (by simp[laid,Rows.topAnyRow])
 obtain rfl:=QS ((show prog.globalNamed "math/bits.deBruijn64tab"=some 7 by kernel_rfl).symm.trans hg)
 exact size_of hg hv
theorem wrap{H:Type}{enc:TypeId×Value→H}{a:Assume}{C:Checked}{os:Os}{f:FuncId}{fn:Func}{s:ChangeSpec}{conds:List PathCond}{apart fresh handsOn again:Bool}{X:World→Array Value→Prop}
  (hX:∀(w w':World) (args:Array Value),w.heap=w'.heap→X w args→X w' args)
  (own:ownKnob C.prog.godebug=none) (started:os.Started) (noInit:C.prog.inits.idxOf? f=none) (hfn:C.prog.funcs[f]? =some fn)
  (witness:∃(w:World) (tape:Tape) (i:Input),w.os=os∧(w.forCall tape i).Shaped C.prog∧i.vars=[]∧Input.okWide C.prog (w.forCall tape i) .any w.heap.size f i∧
   ((s.pre enc C.prog fn conds apart (w.forCall tape i).memory i.args∧X (w.forCall tape i).memory i.args)∧sizedMet enc C.prog fn (OpenSpec.ofChange s) apart (w.forCall tape i).memory i.args)∧a.holds C.prog (lone (Frame.enter C.prog f i.args .normal) [] (w.forCall tape i)))
  (contract:∀(W:World) (base:Nat) (args:Array Value) (ds gs:List (DataW H)) (before:List MemPlace),
   (∀(j:Nat) t v,fn.params[j]? =some t→args[j]? =some v→Value.okWide C.prog W .any base t v)→
   DataW.Whole enc C.prog fn.params.toList s.vars apart W args.toList ds gs before→X W args→W.ShapedOpen C.prog→
   Calls C.prog f args W λe W'=>∃v,e=.returned v∧s.post enc C.prog fn apart fresh handsOn again W args v W'):
  ReturnsInHanded a C os f .any (λw args=>(s.pre enc C.prog fn conds apart w args∧X w args)∧sizedMet enc C.prog fn (OpenSpec.ofChange s) apart w args) (s.post enc C.prog fn apart fresh handsOn again):=by
 refine returnsInHanded_of_calls own started noInit witness ?_
 intro w tape i _ hsh _ hok hpre hholds
 obtain⟨_,_,_,fn',hfn',_,_,_,_,hval⟩:=hok
 have e:fn'=fn:=QS (hfn'.symm.trans hfn)
 subst e
 obtain⟨⟨⟨ds,gs,before,hw,hc⟩,hx⟩,hz⟩:=hpre
 have hw':=DataW.Whole.of_heap (w':=w.forCall tape i) (by rfl) hw
 refine(contract (w.forCall tape i) w.heap.size i.args ds gs before hval hw' (hX _ _ _ (by rfl) hx) hsh).mono λe W' ⟨v,he,hp⟩=>?_
 subst he
 exact ChangeSpec.post_blind hp
theorem lifted(os:Os)(started:os.Started)(H:Type)(enc:TypeId×Value→H):
  ReturnsInHanded {} Tryz.checked os 3 .any (λw args=>(Rows.topAnySpec.pre enc prog Tryz.f3 Rows.topAnyRow.domain false w args∧laidMetH prog laid w)∧sizedMet enc prog Tryz.f3 (OpenSpec.ofChange Rows.topAnySpec) false w args)
   (Rows.topAnySpec.post enc prog Tryz.f3 false true false false):=by
 refine wrap (C:=Tryz.checked) (X:=λw _=>laidMetH prog laid w) (λ_ _ _ hh h=>h.of_heap hh) own started (by kernel_rfl) func3
  (ChangeSpec.witness_shaped (enc:=enc) (C:=Tryz.checked) (os:=os) (X:=λw _=>laidMetH prog laid w) false (World.laidAll prog os laid) #[.agg #[.int .i64 0,.int .i64 0,.int .i64 0,.int .i64 0,.int .i64 0],.slice none 0 0,.slice none 0 0] 8 (World.laidAll_os _ _ _)
   (World.shaped_of_ZipB (by kernel_rfl) (by kernel_rfl)) (by kernel_rfl) (by kernel_rfl) (by kernel_rfl)
   (by rw[MakeChecks.laidMetH_plain _ _ _ (by kernel_rfl)];exact laidMet_laidAll _ (by kernel_rfl) (by kernel_rfl))) ?_
 intro W base args ds gs before hval0 hW hL hsh
 have hval:∀(j:Nat) t v,Tryz.f3.params[j]? =some t→args[j]? =some v→Value.okWide prog W .any base t v:=hval0
 have hW':=hW
 obtain⟨p,q,hA0,hV,rfl,hfz,hnd⟩:=hW
 have hA:DataW.TrodAll enc prog W 0 (λ_=>true) true Tryz.f3.params.toList args.toList ds p:=hA0
 rw[params3] at hA hval
 obtain⟨v0,vs0,d0,ds0,p0,q0,hargs,rfl,rfl,h0,r0⟩:=trodAll_cons hA
 obtain⟨v1,vs1,d1,ds1,p1,q1,rfl,rfl,rfl,h1,r1⟩:=trodAll_cons r0
 obtain⟨v2,vs2,d2,ds2,p2,q2,rfl,rfl,rfl,h2,r2⟩:=trodAll_cons r1
 obtain⟨rfl,rfl,rfl⟩:=trodAll_nil r2
 obtain rfl:args=#[v0,v1,v2]:=by cases args;simp_all
 obtain⟨rfl,rfl⟩:=trodVars_none hV
 have lt0:∀x∈p0,x.block<W.heap.size:=by obtain⟨m,hm⟩:=h0;exact DataW.trod_lt m _ _ _ hm
 have lt1:∀x∈p1,x.block<W.heap.size:=by obtain⟨m,hm⟩:=h1;exact DataW.trod_lt m _ _ _ hm
 have lt2:∀x∈p2,x.block<W.heap.size:=by obtain⟨m,hm⟩:=h2;exact DataW.trod_lt m _ _ _ hm
 obtain⟨c,hc⟩:=open_conf (hval 0 23 v0 rfl rfl) h0
 obtain⟨ss,hss⟩:=open_texts (hval 1 24 v1 rfl rfl) h1
 obtain⟨ls,hls⟩:=open_texts (hval 2 24 v2 rfl rfl) h2
 obtain⟨hG,h8⟩:=gl_of (of_laid hL) hsh
 have ht:=(s_top new_ok hG h8 c hss hls).out W rfl
 rw[←hc] at ht
 refine ht.mono λe W' ⟨v,he,hamb,hfr,hv⟩=>?_
 subst he hv
 have bel:Below W.heap.size W W':=⟨hamb.1,hamb.2.1,hamb.2.2,hfr.1,λk hk=>hfr.2 k hk id⟩
 exact⟨_,rfl,_,_,_,[],_,[],hW',trodAll_mk1 (shut_bool underlying4 _),(trodAll_cons_mk (Below.trod laidOut (by kernel_rfl) (Zl (by kernel_rfl)) h0 bel lt0) (trodAll_cons_mk (Below.trod laidOut (by kernel_rfl) (Zl (by kernel_rfl)) h1 bel lt1) (trodAll_cons_mk (Below.trod laidOut (by kernel_rfl) (Zl (by kernel_rfl)) h2 bel lt2) trodAll_mk0))),rfl,bel.frame _,λh=>by cases h⟩
end Go.Proofs.YtjambljmnifknaaGreatDoor.topAny
