/- Part 9 of the proof of TopAny: The reckoner is sound in a round of a range over a function, too; and the range itself · What the walks by the reckoner share · The library's contracts at this program (laid by the kit's tool; cut by program to those that are used). -/
import Derived.Test.YtjambljmnifknaaGreatDoorJ05
import Derived.Test.YtjambljmnifknaaGreatDoorJ08
import Derived.RangeFuncWrites
import Derived.RangeFuncNested
import Derived.RangeFuncBound
import Derived.Shelf.Strings.Builder1
import Derived.Shelf.Strings.Builder2
import Derived.Shelf.Strings.OnBuilder
import Derived.Shelf.Strings.Trim
import Derived.Shelf.Small.Utf8
import Derived.Shelf.Small.Bits
import Derived.Shelf.Small.Strs
import Derived.Shelf.Small.Wraps
import Derived.Shelf.Strings.BuilderF
import Derived.Shelf.Strings.BuilderK
import Derived.Shelf.Utf8.RuneCount
import Derived.Shelf.Strings.Builder2Cap
import Derived.Shelf.Strconv.Atoi
import Derived.Shelf.Strconv.Itoa0
import Derived.Shelf.Strconv.Itoa1
import Derived.Shelf.LaysM
import Derived.Shelf.Strconv.Itoa2
import Derived.Shelf.Strconv.Itoa3
import Derived.Shelf.Strconv.AtoiErrFast
import Derived.Shelf.Strconv.ParseIntEmpty
import Derived.Shelf.Strconv.AtoiFail
import Derived.Shelf.Strconv.Clone
import Derived.Shelf.Strconv.SyntaxError
import Derived.Shelf.LaysC
import Derived.Shelf.Strconv.ToError
import Derived.Shelf.Strconv.AtoiErr
import Derived.Shelf.Strconv.ErrVar
import Derived.Shelf.Strconv.Lower
import Derived.Shelf.Strconv.ParseUint10
import Derived.Shelf.Strconv.ParseUint10Empty
import Derived.Shelf.Strconv.ParseUint10Any
import Derived.Shelf.Strconv.ParseInt10
import Derived.Shelf.Strconv.AtoiLong
import Derived.Shelf.Strconv.AtoiInnerAll
import Derived.Shelf.Strconv.RangeError
import Derived.Shelf.Strconv.ToErrorRange
import Derived.Shelf.Strconv.AtoiAll
import Derived.Shelf.Strconv.ErrVarAll
import Derived.Shelf.Strconv.ParseUintEmpty
import Derived.Shelf.Strconv.ParseUint10b64
import Derived.Shelf.Strconv.ParseUint10b32
import Derived.Shelf.Strconv.ParseUint10b16
import Derived.Shelf.Strconv.ParseUint10b8
import Derived.Shelf.Strconv.ParseUint10At
import Derived.Shelf.Strconv.ParseInt10At64
import Derived.Shelf.Strconv.ParseInt10At32
import Derived.Shelf.Strconv.ParseInt10At16
import Derived.Shelf.Strconv.ParseInt10At8
import Derived.Shelf.Strconv.ParseInt10All
import Derived.Shelf.Strings.Search1
import Derived.Shelf.Strings.Search2
import Derived.Shelf.Strings.Search3
import Derived.Shelf.Strings.Count
import Derived.Shelf.Strings.Shaped
import Derived.Shelf.Strings.Prefix
import Derived.Shelf.Strings.Split
import Derived.Shelf.Strings.SplitShaped
import Derived.Shelf.Unicode.Decode
import Derived.Shelf.Strings.Runes
import Derived.Shelf.Strings.RuneCount
import Derived.Shelf.Strings.AsciiSet
import Derived.Shelf.Strings.Explode
import Derived.Shelf.Bits.Mul64
import Derived.Shelf.Strings.Repeat
import Derived.Shelf.Unicode.DecodeSlow
import Derived.Shelf.Unicode.DecodeAny
import Derived.Shelf.Unicode.DecodeLast
import Derived.Shelf.Strings.BuilderCap
import Derived.Shelf.Slices.Turned
import Derived.Ground.Names2Prog
import Derived.Shelf.Slices.Clone
import Derived.Shelf.Slices.SearchI
import Derived.Ground.SlgnProg
import Derived.Shelf.SlicesE.Clone
set_option maxRecDepth 100000
set_option maxHeartbeats 80000000
set_option linter.all false
open Go.Proofs.Tryz
namespace Go.Proofs.YtjambljmnifknaaGreatDoor.Vc
open Go Go.RowKit
def ndB(o:Oper):Bool:=match o.op with
 | .defer _=>false
 |_=>true
def ndOk:Code→Bool
 | .region _ ops _=>ops.toList.all ndB
 | .seq a b=>ndOk a&&ndOk b
 | .cond _ a b=>ndOk a&&ndOk b
 | .block _ b=>ndOk b
 | .loop b=>ndOk b
 | .scope _=>false
 | .rangeFunc _ _ _ _=>false
 |_=>true
theorem nd_at{id:Nat}{ops:Array Oper}{d:Bool}(h:ndOk (.region id ops d)=true){i:Nat}{o:Oper}(ho:ops[i]? =some o):∀cl,o.op≠.defer cl:=by
 have:=Q7.1 h o (Qj (by rw[QN];exact ho))
 intro cl e
 unfold ndB at this
 rw[e] at this
 cases this
def OnlyN(Q:Exit→Act→World→Prop):Exit→Act→World→Prop
 | .normal,a,w=>Q .normal a w
 |_,_,_=>False
theorem OnlyN.imp{Q:Exit→Act→World→Prop}{e:Exit}{a:Act}{w:World}(h:OnlyN Q e a w):Q e a w:=by
 cases e<;>first|exact h|exact(show False from h).elim
section
variable {l0 n0:Nat}{P:Program}{Q:Exit→Act→World→Prop}
theorem oper_round{o:Oper}(hnd:∀cl,o.op≠.defer cl){a:Act}{w:World}{next next':Act→World→Prop}(hn:∀a w,next a w→next' a w)(h:o.wp P a w next Q):
  o.wpIn (Fence.wide.inRound l0) n0 P a w next' Q:=by
 refine⟨λ_ _=>trivial,?_⟩
 rw[show(Fence.wide.inRound l0).round=some l0 from rfl,Oper.semAt_some l0 _ o hnd]
 unfold Oper.wp at h
 generalize (execOp a.eval o).run P w=r at h⊢
 have hdep:(Fence.wide.inRound l0).depth.isSome=true→1≤n0:=λh=>by cases h
 cases r with
 |ok x w'=>
  cases x with
  |value v=>exact hn _ _ h
  |skip=>exact hn _ _ h
  |defer d=>exact hn _ _ h
  |enter f args=>exact⟨hdep,CallsIn.inRound l0 (callsIn_wide.2 (Calls.mono (show Calls P f args w' _ from h) λe w'' he=>by
    cases e with
    |returned v=>exact hn _ _ he
    |_=>exact he))⟩
  |row row args=>exact⟨hdep,λc cs _=>by
    obtain⟨v,w'',hR,hs⟩:=(show Rows P row args w' _ from h) c cs
    exact⟨v,w'',hn _ _ hR,stepsIn_wide.2 hs⟩⟩
  |_=>exact(show False from h).elim
 |halt x w'=>
  cases x with
  |panic v=>exact h
  |_=>exact(show False from h).elim
theorem list_round{ops:Array Oper}(hQ:¬LetsOut Q):∀(l:List Oper) {a:Act} {w:World},(∀o∈l,∀cl,o.op≠.defer cl)→wpList P ops Q l a w→wpListIn (Fence.wide.inRound l0) n0 P ops Q l a w
 |[],_,_,_,h=>h
 |o::l,a,w,hn,h=>by
  unfold wpList at h
  unfold wpListIn
  split at h
  ·rename_i hw
   rw[if_pos hw]
   rcases h with h|⟨_,h⟩
   ·exact oper_round (hn o (by simp)) (λa w h=>list_round hQ l (λo ho=>hn o (by simp[ho])) h) h
   ·exact(hQ h).elim
  ·rename_i hw
   rw[if_neg hw]
   exact⟨λ_ _=>trivial,list_round hQ l (λo ho=>hn o (by simp[ho])) h⟩
theorem ops_round{ops:Array Oper}(hQ:¬LetsOut Q)(hn:∀(i:Nat) (o:Oper),ops[i]? =some o→∀cl,o.op≠.defer cl):∀(l:List Nat) {a:Act} {w:World},wpOps P ops Q l a w→wpOpsIn (Fence.wide.inRound l0) n0 P ops Q l a w
 |[],_,_,h=>h
 |i::l,a,w,h=>by
  unfold wpOps at h
  unfold wpOpsIn
  cases ho:ops[i]? with
  |none=>
   rw[ho] at h
   exact ops_round hQ hn l h
  |some o=>
   rw[ho] at h
   dsimp only at h⊢
   split at h
   ·rename_i hw
    rw[if_pos hw]
    rcases h with h|⟨_,h⟩
    ·exact oper_round (hn i o ho) (λa w h=>ops_round hQ hn l h) h
    ·exact(hQ h).elim
   ·rename_i hw
    rw[if_neg hw]
    exact⟨λ_ _=>trivial,ops_round hQ hn l h⟩
end
section
variable {ds:List Deferred}{c:Ctx}{n:Nat}{w0:World}{l0 n0:Nat}
theorem vcCode_soundR(hm:c.P.follows .mixedOrders=true):∀(code:Code) {env:Env} {H:Heap} {K:KX} {a:Act} {w:World},ndOk code=true→vcCode c code env H K→RelE ds n a env→w.heap=H→Frm c.S c.H0 H→Amb w0 w→dstOk n code=true→
  code.wpIn (Fence.wide.inRound l0) n0 c.P (QE ds c n w0 (writesC code) env K) a w:=by
 intro code
 induction code with
 |skip=>intro env H K a w hnd h hr hw hF hA _;exact wpIn_skip ⟨env,hr,hA,by rw[hw];exact hF,λ_ _=>rfl,by rw[hw];exact h⟩
 |region id ops draw=>
  intro env H K a w hnd h hr hw hF hA hd
  have hno:∀(i:Nat) (o:Oper),ops[i]? =some o→∀cl,o.op≠.defer cl:=λi o ho=>nd_at hnd ho
  have hdd:∀o∈ops.toList,∀t,o.dst=some t→t<n:=λo ho t ht=>by
   have:=Q7.1 hd o ho
   rw[ht] at this
   exact Nat.blt_eq.mp this
  cases draw with
  |true=>
   refine wpIn_mono (Q:=OnlyN (QE ds c n w0 (writesC (.region id ops true)) env K)) (wpIn_region_draw λt=>?_) (λe a w h=>h.imp)
   refine ops_round (λh=>by obtain⟨_,_,h⟩:=h;exact h) hno _ ?_
   unfold Region.schedule
   rw[hm]
   simp only[Bool.true_or,if_true]
   refine wpAny_sound ops.size t _ a _ (draw_any (K:=K) (w0:=w0) (ws:=writesC (.region id ops true)) (λch a w h=>?_) (show DrawVC c ops env H (λenv' H'=>K .normal env' H') from h) hr hw hF ⟨hA.1,hA.2.1,hA.2.2⟩ hdd (λo ho t ht=>memL_yes (YI.2 ⟨o,ho,ht⟩)) λa' env' w' h1 h2 h3 h4 h5=>?_)
   ·exact h
   ·exact⟨env',h1,h2,h3,h4,h5⟩
  |false=>
   have h':vcOps c ops.toList ops.toList env H λenv' H'=>K .normal env' H':=h
   refine wpIn_mono (Q:=OnlyN (QE ds c n w0 (writesC (.region id ops false)) env K)) (wpIn_region_list ?_) (λe a w h=>h.imp)
   refine list_round (λh=>by obtain⟨_,_,h⟩:=h;exact h) _ (λo ho=>?_) (vcOps_sound ops.toList ops.toList h' hr hw hF hA hdd λa' env' w' h1 h2 h3 h4 h5=>?_)
   ·obtain⟨i,hi,he⟩:=Zh ho
    exact hno i o (by rw[←he];simp at hi;simp[hi])
   ·refine⟨env',h1,h2,h3,λi hi=>h4 i λo ho hd=>?_,h5⟩
    rw[show memL (writesC (.region id ops false)) i=true from memL_yes (YI.2 ⟨o,ho,hd⟩)] at hi
    cases hi
 |seq x y ihx ihy=>
  intro env H K a w hnd h hr hw hF hA hd
  have hd':dstOk n x=true∧dstOk n y=true:=by simpa [dstOk] using hd
  have hn':ndOk x=true∧ndOk y=true:=by simpa [ndOk] using hnd
  refine wpIn_seq (wpIn_mono (ihx (K:=λe env' H'=>match e with| .normal=>vcCode c y env' H' K|e=>K e env' H') hn'.1 h hr hw hF hA hd'.1) ?_)
  rintro e a' w' ⟨env',h1,h2,h3,h4,h5⟩
  have hout:∀i,memL (writesC (x.seq y)) i=false→env' i=env i:=λi hi=>h4 i (by
   rw[writesC,memL_append] at hi
   simp at hi
   exact hi.1)
  cases e with
  |normal=>
   refine wpIn_mono (ihy hn'.2 h5 h1 rfl h3 h2 hd'.2) ?_
   rintro e2 a2 w2 ⟨env2,k1,k2,k3,k4,k5⟩
   have hall:QE ds c n w0 (writesC (x.seq y)) env K e2 a2 w2:=⟨env2,k1,k2,k3,λi hi=>by
    rw[k4 i (by rw[writesC,memL_append] at hi;simp at hi;exact hi.2),hout i hi],k5⟩
   exact hall
  |exit id=>exact⟨env',h1,h2,h3,hout,h5⟩
  |goto l=>exact⟨env',h1,h2,h3,hout,h5⟩
  |ret=>exact⟨env',h1,h2,h3,hout,h5⟩
  |panic ch=>exact⟨env',h1,h2,h3,hout,h5⟩
  |outgrown=>exact⟨env',h1,h2,h3,hout,h5⟩
 |cond x p q ihp ihq=>
  intro env H K a w hnd h hr hw hF hA hd
  have hd':dstOk n p=true∧dstOk n q=true:=by simpa [dstOk] using hd
  have hn':ndOk p=true∧ndOk q=true:=by simpa [ndOk] using hnd
  have h':(match ev env x with
   | .bool true=>vcCode c p env H K
   | .bool false=>vcCode c q env H K
   |_=>False):=h
  have he:a.eval x=ev env x:=by rw[hr.eval]
  have hmon:∀e a' w',(QE ds c n w0 (writesC p) env K e a' w'∨QE ds c n w0 (writesC q) env K e a' w')→QE ds c n w0 (writesC (.cond x p q)) env K e a' w':=by
   rintro e a' w' (⟨env',h1,h2,h3,h4,h5⟩|⟨env',h1,h2,h3,h4,h5⟩)
   ·exact⟨env',h1,h2,h3,λi hi=>h4 i (by rw[writesC,memL_append] at hi;simp at hi;exact hi.1),h5⟩
   ·exact⟨env',h1,h2,h3,λi hi=>h4 i (by rw[writesC,memL_append] at hi;simp at hi;exact hi.2),h5⟩
  split at h'
  ·rename_i hx
   exact wpIn_cond_true (by rw[he,hx]) (wpIn_mono (ihp hn'.1 h' hr hw hF hA hd'.1) λe a' w' q=>hmon e a' w' (.inl q))
  ·rename_i hx
   exact wpIn_cond_false (by rw[he,hx]) (wpIn_mono (ihq hn'.2 h' hr hw hF hA hd'.2) λe a' w' q=>hmon e a' w' (.inr q))
  ·exact h'.elim
 |block id b ih=>
  intro env H K a w hnd h hr hw hF hA hd
  refine wpIn_block (wpIn_mono (ih (K:=λe env' H'=>match e with
   | .exit id'=>match Nat.beq id' id with
    |true=>K .normal env' H'
    |false=>K (.exit id') env' H'
   |e=>K e env' H') hnd h hr hw hF hA hd) ?_)
  rintro e a' w' ⟨env',h1,h2,h3,h4,h5⟩
  cases e with
  |exit id'=>
   unfold Exit.inBlock
   dsimp only at h5⊢
   by_cases hid:id'=id
   ·subst hid
    rw[YY] at h5
    rw[if_pos rfl]
    exact⟨env',h1,h2,h3,h4,h5⟩
   ·have:Nat.beq id' id=false:=by
     cases hb:Nat.beq id' id with
     |false=>rfl
     |true=>exact(hid (QF hb)).elim
    rw[this] at h5
    rw[if_neg hid]
    exact⟨env',h1,h2,h3,h4,h5⟩
  |normal=>exact⟨env',h1,h2,h3,h4,h5⟩
  |goto l=>exact⟨env',h1,h2,h3,h4,h5⟩
  |ret=>exact⟨env',h1,h2,h3,h4,h5⟩
  |panic ch=>exact⟨env',h1,h2,h3,h4,h5⟩
  |outgrown=>exact⟨env',h1,h2,h3,h4,h5⟩
 |loop b ih=>
  intro env H K a w hnd h hr hw hF hA hd
  obtain⟨α,E,I,μ,⟨x0,hx0,hI0⟩,hround⟩:=(show LoopVC (vcCode c b) (writesC b) env H K c.S c.H0 from h).out
  let good:Act→World→Nat→Prop:=λa2 w2 k=>∃x env2,RelE ds n a2 env2∧Amb w0 w2∧Frm c.S c.H0 w2.heap∧(∀i,memL (writesC b) i=false→env2 i=env i)∧EnvHas env2 (E x)∧I x w2.heap∧μ x=k
  refine wpIn_loop (λa2 w2=>∃k,good a2 w2 k) (λa2 w2=>leastN (good a2 w2)) ⟨_,x0,env,hr,hA,by rw[hw];exact hF,λ_ _=>rfl,hx0,by rw[hw];exact hI0,rfl⟩ ?_
  intro a2 w2 hg
  obtain⟨⟨x,env2,hr2,hA2,hF2,ho2,hE2,hI2,hm2⟩,hmin⟩:=leastN_spec hg
  have hb:=hround x w2.heap env2 hI2 hF2
  rw[over_self hE2 ho2] at hb
  refine wpIn_mono (ih hnd hb hr2 rfl hF2 hA2 hd) ?_
  rintro e a3 w3 ⟨env3,h1,h2,h3,h4,h5⟩
  have hout:∀i,memL (writesC b) i=false→env3 i=env i:=λi hi=>(h4 i hi).trans (ho2 i hi)
  cases e with
  |normal=>
   obtain⟨y,hEy,hIy,hlt⟩:=h5
   have hgy:good a3 w3 (μ y):=⟨y,env3,h1,h2,h3,hout,hEy,hIy,rfl⟩
   refine⟨⟨_,hgy⟩,?_⟩
   have:=(leastN_spec ⟨_,hgy⟩).2 _ hgy
   rw[←hm2]
   exact Nat.lt_of_le_of_lt this hlt
  |exit id=>exact⟨env3,h1,h2,h3,hout,h5⟩
  |goto l=>exact⟨env3,h1,h2,h3,hout,h5⟩
  |ret=>exact⟨env3,h1,h2,h3,hout,h5⟩
  |panic ch=>exact⟨env3,h1,h2,h3,hout,h5⟩
  |outgrown=>exact⟨env3,h1,h2,h3,hout,h5⟩
 |rangeFunc=>intro env H K a w hnd h;exact(show False from h).elim
 |exit id=>intro env H K a w hnd h hr hw hF hA _;exact wpIn_exit ⟨env,hr,hA,by rw[hw];exact hF,λ_ _=>rfl,by rw[hw];exact h⟩
 |scope b ih=>intro env H K a w hnd;cases hnd
 |label l=>intro env H K a w hnd h hr hw hF hA _;exact wpIn_label ⟨env,hr,hA,by rw[hw];exact hF,λ_ _=>rfl,by rw[hw];exact h⟩
 |goto=>intro env H K a w hnd h;exact(show False from h).elim
 |ret=>intro env H K a w hnd h hr hw hF hA _;exact wpIn_ret ⟨env,hr,hA,by rw[hw];exact hF,λ_ _=>rfl,by rw[hw];exact h⟩
 |refuse=>intro env H K a w hnd h;exact(show False from h).elim
end
def NC(B:Nat)(H:Heap):Nat→Prop:=λk=>B≤k∧∃o,H[k]? =some o∧o.isCells=false
def KpH(KS:Nat→Prop)(A B:World):Prop:=∀k,KS k→B.heap[k]? =A.heap[k]?
def psE:List (Nat×Value)→Env→Env
 |[],e=>e
 |(p,v)::r,e=>psE r (upd e p v)
theorem frm_grown{B:Nat}{W W':World}{row:Option Nat}(hg:W.grownBy W' row)(hr:∀r,row=some r→B≤r∧∃o:Obj,W.heap[r]? =some o∧o.isCells=false):Frm (NC B W.heap) W.heap W'.heap:=
 ⟨hg.size,λk hk hn=>hg.block k hk λe=>hn (hr k e.symm)⟩
theorem rel_fold{n:Nat}:∀(l:List (Nat×Value)) {t:Array Value} {env:Env},(∀p∈l,p.1<n)→RelE [] n {tmps:=t,defers:=[]} env→RelE [] n {tmps:=l.foldl (λt (p,v)=>t.setIfInBounds p v) t,defers:=[]} (psE l env)
 |[],_,_,_,h=>h
 |(p,v)::r,t,env,hp,h=>rel_fold r (λq hq=>hp q (by simp[hq])) (h.put (d:=some p) (λt e=>by cases e;exact hp (p,v) (by simp)) v)
def KpW(KS:Nat→Prop)(A B:World):Prop:=KpH KS A B∧KeepsWalks A B
structure RangeVC(c:Ctx)(rs:List ResultVar)(bid:Nat)(g:Operand)(ps:Array Tmp)(assign body post:Code)(env:Env)(H:Heap)(R:KK):Prop where
 out:∃(α:Type) (gf:Nat) (lb:Array Value) (encs:α→Array Value) (KS:Nat→Prop) (S Sp:List α→Prop) (N:Nat) (I:List α→Heap→Prop) (Ix:List α→Heap→Prop) (A:α→Env→Heap→Prop),
  (ev env g=.func (.func gf) #[] lb∧(∀args w,(callFunc gf args).run c.P w=.ok (.enter gf args) w)∧(∀x,(encs x).size=ps.size)∧(∀k,KS k→k<H.size))∧
  (∀w:World,w.heap=H→SeqStopsK Fence.wide 1 c.P gf lb encs (KpW KS) S Sp N w)∧
  ((∀pre H1 H2,I pre H1→Frm (NC H.size H1) H1 H2→I pre H2)∧(∀pre H1 H2,Ix pre H1→Frm (NC H.size H1) H1 H2→Ix pre H2)∧(∀x e H1 H2,A x e H1→Frm (NC H.size H1) H1 H2→A x e H2)∧I [] H)∧
  ((∀x pre H1,I pre H1→H.size≤H1.size→∃B:KX,vcCode ⟨c.P,H1,nob⟩ assign (psE (ps.toList.zip (encs x).toList) env) H1 B∧∀e env' H2,B e env' H2→e=.normal∧A x env' H2)∧
   ∀x env' pre H',A x env' H'→I pre H'→H.size≤H'.size→pre.length<N→∃T,(∀k,T k→∃cs t fz,H'[k]? =some (.cells cs t fz))∧(∀k,T k→¬KS k)∧(∀k,T k→c.S k∨c.H0.size≤k)∧
    vcCode ⟨c.P,H',T⟩ body env' H' (λe _ H''=>match e with
     | .normal=>I (pre++[x]) H''
     | .exit id=>id=bid∧Ix (pre++[x]) H''
     |_=>False))∧
  (∀xs H',S xs→I xs H'→Frm c.S c.H0 H'→vcCode ⟨c.P,H',nob⟩ post env H' (finK c.P rs λv H2=>∀H3,Frm (NC H.size H2) H2 H3→R v H3))∧
  (∀pre H',Sp pre→Ix pre H'→Frm c.S c.H0 H'→vcCode ⟨c.P,H',nob⟩ post env H' (finK c.P rs λv H2=>∀H3,Frm (NC H.size H2) H2 H3→R v H3))
theorem RangeVC.ofA{c:Ctx}{rs:List ResultVar}{bid:Nat}{g:Operand}{ps:Array Tmp}{assign body post:Code}{env:Env}{H:Heap}{R:KK}{α:Type}(gf:Nat)(lb:Array Value)(encs:α→Array Value)(KS:Nat→Prop)(S Sp:List α→Prop)(N:Nat)(I:List α→Heap→Prop)(Ix:List α→Heap→Prop)(A:α→Env→Heap→Prop)
  (hg:ev env g=.func (.func gf) #[] lb) (eg:∀args w,(callFunc gf args).run c.P w=.ok (.enter gf args) w) (hps:∀x,(encs x).size=ps.size) (hKS:∀k,KS k→k<H.size)
  (hseq:∀w:World,w.heap=H→SeqStopsK Fence.wide 1 c.P gf lb encs (KpW KS) S Sp N w)
  (hI:∀pre H1 H2,I pre H1→Frm (NC H.size H1) H1 H2→I pre H2) (hIx:∀pre H1 H2,Ix pre H1→Frm (NC H.size H1) H1 H2→Ix pre H2) (hA:∀x e H1 H2,A x e H1→Frm (NC H.size H1) H1 H2→A x e H2) (h0:I [] H)
  (hasg:∀x pre H1,I pre H1→H.size≤H1.size→vcCode ⟨c.P,H1,nob⟩ assign (psE (ps.toList.zip (encs x).toList) env) H1 (λe env' H2=>e=.normal∧A x env' H2))
  (hround:∀x env' pre H',A x env' H'→I pre H'→H.size≤H'.size→pre.length<N→∃T,(∀k,T k→∃cs t fz,H'[k]? =some (.cells cs t fz))∧(∀k,T k→¬KS k)∧(∀k,T k→c.S k∨c.H0.size≤k)∧
    vcCode ⟨c.P,H',T⟩ body env' H' (λe _ H''=>match e with
     | .normal=>I (pre++[x]) H''
     | .exit id=>id=bid∧Ix (pre++[x]) H''
     |_=>False))
  (hdone:∀xs H',S xs→I xs H'→Frm c.S c.H0 H'→vcCode ⟨c.P,H',nob⟩ post env H' (finK c.P rs λv H2=>∀H3,Frm (NC H.size H2) H2 H3→R v H3))
  (hstop:∀pre H',Sp pre→Ix pre H'→Frm c.S c.H0 H'→vcCode ⟨c.P,H',nob⟩ post env H' (finK c.P rs λv H2=>∀H3,Frm (NC H.size H2) H2 H3→R v H3)):RangeVC c rs bid g ps assign body post env H R:=
 ⟨⟨α,gf,lb,encs,KS,S,Sp,N,I,Ix,A,⟨hg,eg,hps,hKS⟩,hseq,⟨hI,hIx,hA,h0⟩,⟨λx pre H1 h1 h2=>⟨_,hasg x pre H1 h1 h2,λ_ _ _ h=>h⟩,hround⟩,hdone,hstop⟩⟩
theorem SeqStopsK.kpw{α:Type}{F:Fence}{n:Nat}{P:Program}{g:Nat}{lb:Array Value}{encs:α→Array Value}{KS:Nat→Prop}{S Sp:List α→Prop}{N:Nat}{w:World}(h:SeqStopsK F n P g lb encs (KpH KS) S Sp N w):SeqStopsK F n P g lb encs (KpW KS) S Sp N w:=
 λl J Jx W h1 h2 h3 h4 h5=>h l J Jx W h1 h2 h3 (λpre x W1 a1 a2=>by
  obtain⟨fn,tmps,assign,body,hy,hR⟩:=h4 pre x W1 a1 a2
  exact⟨fn,tmps,assign,body,hy,hR.mono λe W' hh=>hh.imp (λ⟨p,q,r⟩=>⟨p,q,r.1⟩) id⟩) h5
theorem RangeVC.of{c:Ctx}{rs:List ResultVar}{bid:Nat}{g:Operand}{ps:Array Tmp}{assign body post:Code}{env:Env}{H:Heap}{R:KK}{α:Type}(gf:Nat)(lb:Array Value)(encs:α→Array Value)(KS:Nat→Prop)(S Sp:List α→Prop)(N:Nat)(I:List α→Heap→Prop)(Ix:List α→Heap→Prop)
  (hg:ev env g=.func (.func gf) #[] lb) (eg:∀args w,(callFunc gf args).run c.P w=.ok (.enter gf args) w) (hps:∀x,(encs x).size=ps.size) (hKS:∀k,KS k→k<H.size)
  (hseq:∀w:World,w.heap=H→SeqStopsK Fence.wide 1 c.P gf lb encs (KpH KS) S Sp N w)
  (hI:∀pre H1 H2,I pre H1→Frm (NC H.size H1) H1 H2→I pre H2) (hIx:∀pre H1 H2,Ix pre H1→Frm (NC H.size H1) H1 H2→Ix pre H2) (h0:I [] H)
  (hround:∀x H1,vcCode ⟨c.P,H1,nob⟩ assign (psE (ps.toList.zip (encs x).toList) env) H1 (λe env' H2=>e=.normal∧H2=H1∧
   ∀pre H',I pre H'→H.size≤H'.size→pre.length<N→∃T,(∀k,T k→∃cs t fz,H'[k]? =some (.cells cs t fz))∧(∀k,T k→¬KS k)∧(∀k,T k→c.S k∨c.H0.size≤k)∧
    vcCode ⟨c.P,H',T⟩ body env' H' (λe _ H''=>match e with
     | .normal=>I (pre++[x]) H''
     | .exit id=>id=bid∧Ix (pre++[x]) H''
     |_=>False)))
  (hdone:∀xs H',S xs→I xs H'→Frm c.S c.H0 H'→vcCode ⟨c.P,H',nob⟩ post env H' (finK c.P rs λv H2=>∀H3,Frm (NC H.size H2) H2 H3→R v H3))
  (hstop:∀pre H',Sp pre→Ix pre H'→Frm c.S c.H0 H'→vcCode ⟨c.P,H',nob⟩ post env H' (finK c.P rs λv H2=>∀H3,Frm (NC H.size H2) H2 H3→R v H3)):RangeVC c rs bid g ps assign body post env H R:=
 ⟨⟨α,gf,lb,encs,KS,S,Sp,N,I,Ix,(λx env' _=>∀pre H',I pre H'→H.size≤H'.size→pre.length<N→∃T,(∀k,T k→∃cs t fz,H'[k]? =some (.cells cs t fz))∧(∀k,T k→¬KS k)∧(∀k,T k→c.S k∨c.H0.size≤k)∧
    vcCode ⟨c.P,H',T⟩ body env' H' (λe _ H''=>match e with
     | .normal=>I (pre++[x]) H''
     | .exit id=>id=bid∧Ix (pre++[x]) H''
     |_=>False)),⟨hg,eg,hps,hKS⟩,λw hw=>SeqStopsK.kpw (hseq w hw),⟨hI,hIx,λ_ _ _ _ h _=>h,h0⟩,⟨λx pre H1 _ _=>⟨_,hround x H1,λe env' H2 h=>⟨h.1,h.2.2⟩⟩,λx env' pre H' hA hI hs hn=>hA pre H' hI hs hn⟩,hdone,hstop⟩⟩
def outR(T:Nat→Prop)(H:Heap)(w0:World)(R:KK):Ending→World→Prop:=λe w'=>∃v,e=.returned v∧Amb w0 w'∧Frm T H w'.heap∧R v w'.heap
theorem frm_put{T:Nat→Prop}{H0:Heap}{W:World}{D:Nat}{o:Obj}(h:Frm T H0 W.heap)(hD:H0.size≤D):Frm T H0 (W.putObj D o).heap:=
 ⟨by simpa using h.1,λk hk hn=>(World.putObj_heap_other (by omega)).trans (h.2 k hk hn)⟩
def tmpsOnly:List ResultVar→Bool
 |[]=>true
 | .tmp _::r=>tmpsOnly r
 | .cell _ _::_=>false
theorem res_move{P:Program}{env:Env}{H H3:Heap}{R R2:KK}(hR:∀v,R v H→R2 v H3):∀(rs:List ResultVar) (acc:List Value),tmpsOnly rs=true→ResVC P env H R rs acc→ResVC P env H3 R2 rs acc
 |[],acc,_,h=>by
  have h':accR R H acc:=h
  show accR R2 H3 acc
  unfold accR at h'⊢
  split at h'<;>exact hR _ h'
 | .tmp t::r,acc,ht,h=>res_move hR r (acc++[env t]) ht h
 | .cell _ _::_,_,ht,_=>by cases ht
theorem leaves_of{P:Program}{fn:Func}{T:Nat→Prop}{H0 H':Heap}{n n1 D:Nat}{B:Nat}{w0 W w2:World}{ws:List Nat}{env:Env}{R:KK}{e:Exit}{a:Act}(hto:tmpsOnly fn.results.toList=true)
  (hA:Amb w0 W) (hF:Frm T H0 W.heap) (hWH:W.heap=H') (hB:B≤D) (hD0:H0.size≤D) (hD:W.heap[D]? =some (.deferred (some [])))
  (h:QE [{target:=.collected D,args:=#[]}] ⟨P,H',nob⟩ n W ws env (finK P fn.results.toList λv H2=>∀H3,Frm (NC B H2) H2 H3→R v H3) e a w2):bodyPostM Fence.wide n1 P fn (outR T H0 w0 R) e a w2:=by
 obtain⟨env',hr,hA2,hF2,_,hk⟩:=h
 subst hWH
 have hDl:D<W.heap.size:=(Qa.1 hD).1
 have hD2:w2.heap[D]? =some (.deferred (some [])):=(hF2.2 D hDl id).trans hD
 have hgo:FinVC P env' w2.heap (λv H2=>∀H3,Frm (NC B H2) H2 H3→R v H3) fn.results.toList→LeavesInM Fence.wide n1 P fn a.tmps (outR T H0 w0 R) a.defers .returning w2:=λhk=>by
  have hfr:Frm (NC B w2.heap) w2.heap (w2.putObj D (.deferred none)).heap:=⟨by simp,λk hk hn=>World.putObj_heap_other λe=>hn ⟨by omega,.deferred (some []),by rw[e];exact hD2,rfl⟩⟩
  obtain⟨vs,h1,h2⟩:=res_run (w:=w2.putObj D (.deferred none)) hr.get fn.results.toList [] (res_move (R2:=R) (λv hv=>hv _ hfr) _ _ hto hk.out)
  rw[hr.defers]
  refine⟨by simp,.inl ⟨_,_,rfl,run_takeDeferred hD2,?_⟩⟩
  have hF3:Frm T H0 (w2.putObj D (.deferred none)).heap:=frm_put (Frm.then hF hF2 (λ_ h=>h.elim)) hD0
  refine⟨if h:vs.toArray.size=1 then vs.toArray[0] else .tuple vs.toArray,?_,_,rfl,(hA.trans hA2),hF3,?_⟩
  ·rw[results_eq,Ye,Sem.run_bind,Sem.run_map,h1]
   rfl
  ·rw[QI] at h2
   match vs,h2 with
   |[],h2=>exact h2
   |[v],h2=>exact h2
   |a::b::r,h2=>simpa [accR] using h2
 cases e with
 |normal=>exact hgo hk
 |ret=>exact hgo hk
 |_=>exact(show False from hk).elim
theorem range_wp{c:Ctx}{fn:Func}{bid n n1:Nat}{g:Operand}{ps:Array Nat}{assign body post:Code}{env:Env}{H:Heap}{R:KK}{a:Act}{w w0:World}
  (hm:c.P.follows .mixedOrders=true) (hto:tmpsOnly fn.results.toList=true) (hnd:(ndOk assign&&ndOk body&&dstOk n assign&&dstOk n body&&dstOk n post&&ps.toList.all λp=>decide (p<n))=true) (hn1:n1=2)
  (h:RangeVC c fn.results.toList bid g ps assign body post env H R) (hr:RelE [] n a env) (hw:w.heap=H) (hF:Frm c.S c.H0 H) (hA:Amb w0 w):
  (Code.block bid (.rangeFunc g ps assign body)).wpIn Fence.wide n1 c.P (Exit.then (post.wpIn Fence.wide n1 c.P (bodyPostM Fence.wide n1 c.P fn (outR c.S c.H0 w0 R))) (bodyPostM Fence.wide n1 c.P fn (outR c.S c.H0 w0 R))) a w:=by
 subst hn1
 simp only[QA,Q7,QD] at hnd
 obtain⟨⟨⟨⟨⟨hn1,hn2⟩,hd1⟩,hd2⟩,hd3⟩,hps2⟩:=hnd
 obtain⟨α,gf,lb,encs,KS,S,Sp,N,I,Ix,A,⟨hg,eg,hps,hKS⟩,hseq,⟨hI,hIx,hAA,h0⟩,⟨hasg,hbd⟩,hdone,hstop⟩:=h.out
 subst hw
 have hev:a.eval g=.func (.func gf) #[] lb:=by rw[hr.eval];exact hg
 let J:(List α→Heap→Prop)→List α→World→Prop:=λI pre W=>I pre W.heap∧Frm c.S c.H0 W.heap∧Amb w0 W∧w.heap.size≤W.heap.size
 have hH0:c.H0.size≤w.heap.size:=hF.1
 have hJ:∀(I:List α→Heap→Prop),(∀pre H1 H2,I pre H1→Frm (NC w.heap.size H1) H1 H2→I pre H2)→OwnFrom w.heap.size (J I):=λI hI s A B row ⟨h1,h2,h3,h4⟩ hgr hrw=>
  ⟨hI _ _ _ h1 (frm_grown hgr hrw),Frm.then h2 (frm_grown hgr hrw) (λk hk=>.inr (Qb hH0 hk.1)),⟨hgr.os.trans h3.1,hgr.tape.trans h3.2.1,hgr.output.trans h3.2.2⟩,Qb h4 hgr.size⟩
 have hpost:∀(D:Nat) (W:World),w.heap.size≤D→Frm c.S c.H0 W.heap→Amb w0 W→W.heap[D]? =some (.deferred (some []))→vcCode ⟨c.P,W.heap,nob⟩ post env W.heap (finK c.P fn.results.toList λv H2=>∀H3,Frm (NC w.heap.size H2) H2 H3→R v H3)→
   post.wpIn Fence.wide 2 c.P (bodyPostM Fence.wide 2 c.P fn (outR c.S c.H0 w0 R)) {a with defers:={target:=.collected D,args:=#[]}::a.defers} W:=λD W hD hFW hAW hDW hv=>by
  refine wpIn_wide.2 (wp_mono (vcCode_sound (c:=⟨c.P,W.heap,nob⟩) (ds:=[{target:=.collected D,args:=#[]}]) (n:=n) (w0:=W) (draw_ok hm) post hv ⟨by show _::a.defers=_;rw[hr.defers],hr.size,hr.get⟩ rfl (Frm.refl _ _) (Amb.refl W) hd3) λe a' w' hq=>?_)
  exact leaves_of hto hAW hFW rfl hD (Qb hH0 hD) hDW hq
 refine wpIn_block (wpIn_rangeFunc_ownH (encs:=encs) (Kp:=KpW KS) (S:=S) (Sp:=Sp) (N:=N) (w0:=w) rfl (by decide) hev trivial eg (hseq w rfl) (λh k=>⟨λi hi=>(k.1 i hi).trans (h.1 i hi),h.2.trans k.2⟩) (λW l o o' hl ho hc hw=>⟨λk hk=>World.putObj_heap_other (by have:=hKS k hk;omega),KeepsWalks.putObj o' ho hw⟩) (Below.refl _ _) hps
  (J I) (λcd pre W=>cd=.exit bid∧J Ix pre W) (hJ I hI) (λcd s A B row ⟨h1,h2⟩ hgr hrw=>⟨h1,hJ Ix hIx s A B row h2 hgr hrw⟩) ⟨h0,hF,hA,Qd _⟩
  (λx a' W=>∃env',RelE [] n a' env'∧A x env' W.heap) (λx a' s X B row ⟨env',h1,h2⟩ hgr hrw=>⟨env',h1,hAA _ _ _ _ h2 (frm_grown hgr hrw)⟩) ?_ ?_ ?_ ?_)
 ·intro l pre x W K hJW hK
  have hrel:RelE [] n {tmps:=(ps.zip (encs x)).foldl (λt (p,v)=>t.setIfInBounds p v) a.tmps,defers:=[]} (psE (ps.toList.zip (encs x).toList) env):=by
   have:=rel_fold (n:=n) (ps.toList.zip (encs x).toList) (t:=a.tmps) (env:=env) (λp hp=>hps2 _ (List.of_mem_zip hp).1) ⟨rfl,hr.size,hr.get⟩
   rw[←Array.toList_zip] at this⊢
   rw[Array.foldl_toList] at this
   exact this
  obtain⟨B,hB1,hB2⟩:=hasg x pre W.heap hJW.1 hJW.2.2.2
  refine wpIn_mono (vcCode_soundR (c:=⟨c.P,W.heap,nob⟩) (w0:=W) hm assign hn1 hB1 hrel rfl (Frm.refl _ _) (Amb.refl W) hd1) ?_
  rintro e a' w' ⟨env',h1,h2,h3,_,h5⟩
  obtain⟨rfl,h6⟩:=hB2 _ _ _ h5
  have hkw:KeepsWalks W w':=⟨h3.1,λk o hk _=>(h3.2 k (Qa.1 hk).1 id).trans hk⟩
  exact hK a' w' ⟨h3.1,λk o _ hk _=>(h3.2 k (Qa.1 hk).1 id).trans hk⟩ ⟨λk hk=>h3.2 k (QH (hKS k hk) hJW.2.2.2) id,hkw⟩
   ⟨hI _ _ _ hJW.1 (h3.mono λ_ _ h=>h.elim),Frm.then hJW.2.1 h3 (λ_ h=>h.elim),hJW.2.2.1.trans h2,Qb hJW.2.2.2 h3.1⟩ ⟨env',h1,h6⟩
 ·rintro l pre x a' W _ _ hJW ⟨env1,hra,hbody⟩ hlen
  obtain⟨T,hTc,hTK,hTS,hv⟩:=hbd x env1 pre W.heap hbody hJW.1 hJW.2.2.2 hlen
  refine wpIn_mono (vcCode_soundR (c:=⟨c.P,W.heap,T⟩) (w0:=W) hm body hn2 hv hra rfl (Frm.refl _ _) (Amb.refl W) hd2) ?_
  rintro e a2 w2 ⟨env2,h1,h2,h3,_,h5⟩
  have hkf:KeepsFrom w.heap.size W w2:=⟨h3.1,λk o _ hk ho=>(h3.2 k (Qa.1 hk).1 λht=>by
   obtain⟨cs,t,fz,hc⟩:=hTc k ht
   rw[hk] at hc
   cases hc
   cases ho).trans hk⟩
  have hkw:KeepsWalks W w2:=⟨h3.1,λk o hk ho=>(h3.2 k (Qa.1 hk).1 λht=>by
   obtain⟨cs,t,fz,hc⟩:=hTc k ht
   rw[hk] at hc
   cases hc
   cases ho).trans hk⟩
  have hFw:Frm c.S c.H0 w2.heap:=Frm.then hJW.2.1 h3 hTS
  have hAw:Amb w0 w2:=hJW.2.2.1.trans h2
  have hsw:w.heap.size≤w2.heap.size:=Qb hJW.2.2.2 h3.1
  cases e with
  |normal=>exact⟨hkf,⟨λk hk=>h3.2 k (QH (hKS k hk) hJW.2.2.2) λht=>hTK k ht hk,hkw⟩,h5,hFw,hAw,hsw⟩
  |exit id=>
   obtain⟨rfl,h5⟩:=h5
   exact⟨hkf,rfl,h5,hFw,hAw,hsw⟩
  |_=>exact(show False from h5).elim
 ·intro D xs W hD hS hJW hDW
  exact hpost D W hD hJW.2.1 hJW.2.2.1 hDW (hdone xs W.heap hS hJW.1 hJW.2.1)
 ·rintro D cd pre W hD hS ⟨rfl,hJW⟩ hDW
  refine wpIn_exit ?_
  unfold Exit.inBlock
  dsimp only
  rw[if_pos rfl]
  exact hpost D W hD hJW.2.1 hJW.2.2.1 hDW (hstop pre W.heap hS hJW.1 hJW.2.1)
structure CutVC(c:Ctx)(fn:Func)(n:Nat)(y:Code)(env:Env)(H:Heap)(R:KK):Prop where
 out:∀(w0 w:World) (a:Act),RelE [] n a env→w.heap=H→Frm c.S c.H0 H→Amb w0 w→y.wpIn Fence.wide 2 c.P (bodyPostM Fence.wide 2 c.P fn (outR c.S c.H0 w0 R)) a w
theorem CutVC.step{c:Ctx}{fn:Func}{n:Nat}{x y:Code}{env:Env}{H:Heap}{R:KK}(hm:c.P.follows .mixedOrders=true)(hd:dstOk n x=true)
  (h:vcCode c x env H λe env' H'=>match e with
   | .normal=>CutVC c fn n y env' H' R
   |e=>finK c.P fn.results.toList R e env' H'):CutVC c fn n (x.seq y) env H R:=⟨λw0 w a hr hw hF hA=>by
 refine wpIn_seq (wpIn_wide.2 (wp_mono (vcCode_sound (ds:=[]) (n:=n) (w0:=w0) (draw_ok hm) x h hr hw hF hA hd) ?_))
 rintro e a' w' ⟨env',h1,h2,h3,_,h5⟩
 have hret:FinVC c.P env' w'.heap R fn.results.toList→LeavesInM Fence.wide 2 c.P fn a'.tmps (outR c.S c.H0 w0 R) a'.defers .returning w':=λhk=>by
  obtain⟨vs,k1,k2⟩:=res_run h1.get fn.results.toList [] hk.out
  rw[h1.defers]
  refine⟨if h:vs.toArray.size=1 then vs.toArray[0] else .tuple vs.toArray,?_,_,rfl,h2,h3,?_⟩
  ·rw[results_eq,Ye,Sem.run_bind,Sem.run_map,k1]
   rfl
  ·rw[QI] at k2
   match vs,k2 with
   |[],k2=>exact k2
   |[v],k2=>exact k2
   |a::b::r,k2=>simpa [accR] using k2
 cases e with
 |normal=>exact h5.out w0 w' a' h1 rfl h3 h2
 |ret=>exact hret h5
 |_=>exact(show False from h5).elim⟩
theorem CutVC.last{c:Ctx}{fn:Func}{n bid:Nat}{x:Code}{g:Operand}{ps:Array Nat}{assign body post:Code}{env:Env}{H:Heap}{R:KK}(hm:c.P.follows .mixedOrders=true)(hto:tmpsOnly fn.results.toList=true)
  (hnd:(ndOk assign&&ndOk body&&dstOk n assign&&dstOk n body&&dstOk n post&&ps.toList.all λp=>decide (p<n))=true) (hd:dstOk n x=true)
  (h:vcCode c x env H λe env' H'=>match e with
   | .normal=>RangeVC c fn.results.toList bid g ps assign body post env' H' R
   |_=>False):
  CutVC c fn n ((x.seq (Code.block bid (.rangeFunc g ps assign body))).seq post) env H R:=⟨λw0 w a hr hw hF hA=>by
 refine wpIn_seq (wpIn_seq (wpIn_wide.2 (wp_mono (vcCode_sound (ds:=[]) (n:=n) (w0:=w0) (draw_ok hm) x h hr hw hF hA hd) ?_)))
 rintro e a' w' ⟨env',h1,h2,h3,_,h5⟩
 cases e with
 |normal=>exact range_wp hm hto hnd rfl h5 h1 rfl h3 h2
 |_=>exact(show False from h5).elim⟩
theorem Spec.cut{P:Program}{f:FuncId}{fn:Func}{code:Code}{args:List Value}{H:Heap}{T:Nat→Prop}{R:KK}(hf:P.funcs[f]? =some fn)(hb:fn.body=some code)(hg:callB P f=true)
  (h:CutVC ⟨P,H,T⟩ fn (max args.length fn.ntmps) code (args0 args) H R):Spec P f args.toArray H T R:=by
 refine⟨hg,λw hw=>callsIn_wide.1 (callsIn_of_wp_marks (F:=Fence.wide) (n:=2) hf hb trivial ?_)⟩
 refine h.out w w _ ⟨rfl,?_,?_⟩ hw (Frm.refl _ _) (Amb.refl w)
 ·simp
  omega
 ·intro i
  rw[Z0]
  unfold args0
  by_cases hi:i<args.length
  ·rw[Z7 (by simpa using hi)]
   simp[hi]
  ·rw[Array.getElem?_append_right (by simp;omega),Qx (by omega)]
   rw[Array.getElem?_replicate]
   split<;>rfl
theorem mixed:prog.follows .mixedOrders=true:=by kernel_rfl
theorem spec{f:FuncId}{fn:Func}{code:Code}{args:List Value}{H:Heap}{T:Nat→Prop}{R:KK}(hf:prog.funcs[f]? =some fn)(hb:fn.body=some code)(hg:callB prog f=true)
  (hd:dstOk (max args.length fn.ntmps) code=true) (h:vcCode ⟨prog,H,T⟩ code (args0 args) H (finK prog fn.results.toList R)):Spec prog f args.toArray H T R:=
 Spec.of hf hb hg hd (draw_ok mixed) h
theorem spx{f:FuncId}{fn:Func}{code:Code}{args:List Value}{H:Heap}{T:Nat→Prop}{R:KK}(hf:prog.funcs[f]? =some fn)(h:vcCode ⟨prog,H,T⟩ code (args0 args) H (finK prog fn.results.toList R))(hb:fn.body=some code:=by rfl)(hg:callB prog f=true:=by kernel_rfl)
  (hd:dstOk (max args.length fn.ntmps) code=true:=by kernel_rfl):Spec prog f args.toArray H T R:=spec hf hb hg hd h
theorem CallVC.q{c:Ctx}{g:FuncId}{args:Array Value}{H:Heap}{K R:KK}(h:Spec c.P g args H nob R)(k:∀v H',R v H'→Frm nob H H'→Frm c.S c.H0 H'→K v H'):CallVC c g args H K:=⟨.inl ⟨nob,R,h,λ_ h=>h.elim,k⟩⟩
theorem CallVC.t{c:Ctx}{g:FuncId}{args:Array Value}{H:Heap}{K R:KK}{T:Nat→Prop}(h:Spec c.P g args H T R)(hT:∀k,T k→c.S k∨c.H0.size≤k)(k:∀v H',R v H'→Frm T H H'→Frm c.S c.H0 H'→K v H'):CallVC c g args H K:=⟨.inl ⟨T,R,h,hT,k⟩⟩
theorem CallVC.x{c:Ctx}{g:FuncId}{args:Array Value}{H:Heap}{K:KK}{v:Value}(h:∀w:World,w.heap=H→(callFunc g args).run c.P w=.ok (.value v) w)(hF:Frm c.S c.H0 H)(hk:K v H):CallVC c g args H K:=⟨.inr ⟨λw hw=>⟨v,h w hw,hk⟩,hF⟩⟩
theorem DrawVC.q{c:Ctx}{ops:Array Oper}{env:Env}{H:Heap}{K:Env→Heap→Prop}(hb:(Region.noSelect ops&&planB ops (lin ops.toList 0) ops.size (Array.replicate ops.size false))=true)(h:vcPlan c.P ops.toList nob H (lin ops.toList 0) env H K):DrawVC c ops env H K:=⟨.inl ⟨nob,_,hb,λ_ h=>h.elim,h⟩⟩
theorem DrawVC.t{c:Ctx}{ops:Array Oper}{env:Env}{H:Heap}{K:Env→Heap→Prop}(T:Nat→Prop)(hT:∀k,T k→c.S k∨c.H0.size≤k)(hb:(Region.noSelect ops&&planB ops (lin ops.toList 0) ops.size (Array.replicate ops.size false))=true)(h:vcPlan c.P ops.toList T H (lin ops.toList 0) env H K):DrawVC c ops env H K:=⟨.inl ⟨T,_,hb,hT,h⟩⟩
theorem DrawVC.p{c:Ctx}{ops:Array Oper}{env:Env}{H:Heap}{K:Env→Heap→Prop}(T:Nat→Prop)(pl:Plan)(hT:∀k,T k→c.S k∨c.H0.size≤k)(hb:(Region.noSelect ops&&planB ops pl ops.size (Array.replicate ops.size false))=true)(h:vcPlan c.P ops.toList T H pl env H K):DrawVC c ops env H K:=⟨.inl ⟨T,pl,hb,hT,h⟩⟩
theorem DrawVC.p2{c:Ctx}{ops:Array Oper}{env:Env}{H:Heap}{K:Env→Heap→Prop}(T0 T1:Nat→Prop)(st:Nat→Bool)(pl:Plan2)(h01:∀k,T0 k→T1 k)(hT:∀k,T1 k→c.S k∨c.H0.size≤k)(hb:(Region.noSelect ops&&planB2 ops st pl ops.size (Array.replicate ops.size false))=true)(h:vcPlan2 c.P ops.toList T0 T1 H pl env H K):DrawVC c ops env H K:=⟨.inr ⟨T0,T1,st,pl,hb,h01,hT,h⟩⟩
theorem StoreVC.k{c:Ctx}{H:Heap}{t:TypeId}{b o:Nat}{x:Value}{K:KK}{cs:List Value}{E:TypeId}(cs':List Value)(hb:H[b]? =some (.cells cs.toArray E (0,0)))(hS:c.S b∨c.H0.size≤b)(hst:stoB c.P t x o cs.length=true)(hp:putL cs o x.cells.toList=cs')
  (k:∀H',Upd H H' b (.cells cs'.toArray E (0,0))→Frm c.S c.H0 H'→K undef H'):StoreVC c H t b o x K:=⟨cs,E,cs',hb,hS,hst,hp,k⟩
theorem stoB_one{P:Program}{t:TypeId}{v:Value}{o n:Nat}(hi:(match P.info? t with|some i=>Nat.beq i.size 1|none=>false)=true)(hv:v.cells.toList=[v])(h1:oneCell v=true)(ho:o<n):stoB P t v o n=true:=by
 unfold stoB
 rw[hv]
 simp only[List.length_singleton,List.all_cons,List.all_nil,h1,Bool.and_true,QA]
 exact⟨hi,Nat.ble_eq.mpr ho⟩
theorem AppendVC.k2{c:Ctx}{H:Heap}{t:TypeId}{v:Value}{K:KK}{b off m cap base n:Nat}{e:TypeId}{i:TypeInfo}{z:Value}{xs:List Value}(ys:List Value)(he:elemI c.P t=some (e,i,z))(hown:Own H base e i.size v n xs)(hc:CellsAt H b off ys)
  (hb:(decide (z.cells.toList.length=i.size)&&decide (0<i.size))=true) (hl:ys.length=m*i.size) (h1:∀y∈ys,oneCell y=true) (hn:n+m≤140737488355328) (hby:(n+m)*i.bytes≤140737488355328) (hbase:base≤H.size)
  (hS:∀k,v.ownBlock=some k→c.S k∨c.H0.size≤k) (k:∀v' H',Own H' base e i.size v' (n+m) (xs++ys)→Frm (λk=>v.ownBlock=some k) H H'→Frm c.S c.H0 H'→(∀k,v'.ownBlock=some k→v.ownBlock=some k∨H.size≤k)→K v' H'):AppendVC c H t v (.slice (some ⟨b,off,none⟩) m cap) K:=
 ⟨.inl ⟨e,i,z,he,.inl ⟨b,off,m,cap,base,n,xs,ys,rfl,hown,hc,hl,h1,hn,hby,hbase,hS,hb,k⟩⟩⟩
theorem AppendVC.k{c:Ctx}{H:Heap}{t:TypeId}{v:Value}{K:KK}{b off m cap base n:Nat}{e:TypeId}{i:TypeInfo}{z:Value}{xs:List Value}(ys:List Value)(he:elemI c.P t=some (e,i,z))(hown:Own H base e i.size v n xs)(hc:CellsAt H b off ys)
  (hb:(decide (z.cells.toList.length=i.size)&&decide (0<i.size))=true) (hl:ys.length=m*i.size) (h1:∀y∈ys,oneCell y=true) (hn:n+m≤140737488355328) (hby:(n+m)*i.bytes≤140737488355328) (hbase:base≤H.size)
  (hS:∀k,v.ownBlock=some k→c.S k∨c.H0.size≤k) (k:∀v' H',Own H' base e i.size v' (n+m) (xs++ys)→Frm (λk=>v.ownBlock=some k) H H'→Frm c.S c.H0 H'→K v' H'):AppendVC c H t v (.slice (some ⟨b,off,none⟩) m cap) K:=
 ⟨.inl ⟨e,i,z,he,.inl ⟨b,off,m,cap,base,n,xs,ys,rfl,hown,hc,hl,h1,hn,hby,hbase,hS,hb,λv' H' h1 h2 h3 _=>k v' H' h1 h2 h3⟩⟩⟩
theorem cel_of{H:Heap}{b o:Nat}{cs:Array Value}{t:TypeId}{fr:Nat×Nat}{v:Value}(h:H[b]? =some (.cells cs t fr))(hv:cs[o]? =some v):cel H ⟨b,o,none⟩=some v:=by
 simp[cel,World.cell?,mkw,h,hv]
theorem Fresh.cel{H H':Heap}{b o:Nat}{cs:Array Value}{t:TypeId}{fr:Nat×Nat}{v:Value}(h:Fresh H H' b (.cells cs t fr))(hv:cs[o]? =some v):Vc.cel H' ⟨b,o,none⟩=some v:=cel_of h.at hv
theorem cel_lt{H:Heap}{a:Addr}{v:Value}(h:cel H a=some v):a.block<H.size:=by
 unfold cel World.cell? mkw at h
 dsimp only at h
 rcases YE a.block H.size with hl|hl
 ·exact hl
 ·rw[ZX hl] at h
  cases h
theorem Frm.celT{T:Nat→Prop}{H H':Heap}(h:Frm T H H'){a:Addr}{v:Value}(hc:Vc.cel H a=some v)(hT:¬T a.block):Vc.cel H' a=some v:=by
 have hl:=cel_lt hc
 unfold Vc.cel World.cell? mkw at*
 dsimp only at*
 rw[h.2 _ hl hT]
 exact hc
theorem Frm.cel{H H':Heap}(h:Frm nob H H'){a:Addr}{v:Value}(hc:Vc.cel H a=some v):Vc.cel H' a=some v:=h.celT hc id
theorem Frm.blk{H H':Heap}(h:Frm nob H H'){b:Nat}{o:Obj}(hb:H[b]? =some o):H'[b]? =some o:=(h.2 b (Qa.1 hb).1 id).trans hb
theorem Frm.blkT{T:Nat→Prop}{H H':Heap}(h:Frm T H H'){b:Nat}{o:Obj}(hb:H[b]? =some o)(hT:¬T b):H'[b]? =some o:=(h.2 b (Qa.1 hb).1 hT).trans hb
theorem Fresh.e{H H':Heap}{b:Nat}{o:Obj}(h:Fresh H H' b o):Frm nob H H':=h.frm _
theorem Upd.e{H H':Heap}{b:Nat}{o:Obj}(h:Upd H H' b o):Frm (λk=>k=b) H H':=⟨by rw[h.2.1];exact Qd _,λk _ hn=>h.2.2 k hn⟩
theorem spec_below{f:FuncId}{args:Array Value}{H:Heap}{v:Value}(hg:callB prog f=true)(h:∀w:World,w.heap=H→Calls prog f args w λe w'=>e=.returned v∧Below w.heap.size w w'):Spec prog f args H nob λu _=>u=v:=
 ⟨hg,λw hw=>(h w hw).mono λe w' ⟨he,hb⟩=>⟨v,he,⟨hb.os,hb.tape,hb.output⟩,⟨by rw[←hw];exact hb.size,λk hk _=>by rw[←hw] at hk⊢;exact hb.block k hk⟩,rfl⟩⟩
theorem wr64{x:Int}(h1: -9223372036854775808≤x)(h2:x≤9223372036854775807):IntKind.i64.wrap x=x:=by
 rw[IntKind.wrap_i64];omega
abbrev By:=Tp.By
open Tp
theorem s_put(n:Int)(size:Nat)(h1:1≤size)(h2:size≤7)(hn:n≤9223372036854775807)(H:Heap):Spec prog 123 #[.int .i64 n,.int .i64 (size:Int)] H nob λu _=>u=.tuple #[.string (putV n size),.int .i64 (putE n size)]:=by
 refine spec_below (by kernel_rfl) λw _=>?_
 by_cases h0:n<0
 ·have:=put_neg n size h0 w h1 h2
  unfold putV putE
  rw[if_pos (.inl h0),if_pos h0]
  exact this
 ·obtain⟨k,rfl⟩:=QW (by omega:0≤n)
  exact put_any k size h1 h2 hn w
theorem s_cut(s:ByteArray)(size:Nat)(h1:1≤size)(h2:size≤7)(H:Heap):Spec prog 113 #[.string s,.int .i64 (size:Int)] H nob λu _=>u=.tuple #[.int .i64 (cutV (L s) size),.string (S (cutR (L s) size)),.int .i64 (cutE (L s) size)]:=
 spec_below (by kernel_rfl) λw _=>cut_any s size h1 h2 w
theorem s_take(s:ByteArray)(H:Heap):Spec prog 187 #[.string s] H nob λu _=>u=.tuple #[.string (S (takeT (L s))),.string (S (takeR (L s))),.int .i64 (takeE (L s))]:=
 spec_below (by kernel_rfl) λw _=>take_any s w
theorem s_text(s:ByteArray)(hs:s.size≤140737488351232)(H:Heap):Spec prog 197 #[.string s] H nob λu _=>u=.tuple #[.string (S (textV (L s))),.int .i64 (textE (L s))]:=
 spec_below (by kernel_rfl) λw _=>text_any s hs w
theorem s_sum(s:ByteArray)(hs:s.size≤140737488351232)(H:Heap):Spec prog 198 #[.string s] H nob λu _=>u=.int .u32 (crcL (L s):Nat):=
 spec_below (by kernel_rfl) λw _=>sum_crc s hs w
end Go.Proofs.YtjambljmnifknaaGreatDoor.Vc
namespace Go.Proofs
open Go.RowKit Go.Sort Go.Lib
open Go.Shelf
def Tryz.lays167_ren:Go.Shelf.Ren:=⟨λ|167=>165|240=>224|276=>269|n=>n,λ|70=>223|5=>5|75=>170|0=>0|72=>225|37=>192|4=>4|164=>326|80=>102|9=>9|n=>n,λ|n=>n⟩
theorem Tryz.lays167:Go.Proofs.Lays.n167 prog Tryz.lays167_ren:=by constructor<;>intros<;>kernel_rfl
theorem Tryz.Builder_Extra_167:Builder.Extra prog Tryz.lays167_ren:=by constructor<;>first|(intros;kernel_rfl)|decide|(constructor<;>first|(intros;kernel_rfl)|decide)
def Tryz.lays166_ren:Go.Shelf.Ren:=⟨λ|166=>181|240=>224|276=>269|n=>n,λ|70=>223|9=>9|3=>3|75=>170|0=>0|72=>225|37=>192|4=>4|164=>326|80=>102|5=>5|n=>n,λ|n=>n⟩
theorem Tryz.lays166:Go.Proofs.Lays.n166 prog Tryz.lays166_ren:=by constructor<;>intros<;>kernel_rfl
theorem Tryz.Builder_Extra_166:Builder.Extra prog Tryz.lays166_ren:=by constructor<;>first|(intros;kernel_rfl)|decide|(constructor<;>first|(intros;kernel_rfl)|decide)
theorem Tryz.Builder_WriteByte_k(B b:Nat)(bs:List Value)(c:Int)(w:World)(h:Lib.IsBuilderF 225 5 B b bs w)(hlen:bs.length+1≤140737488355328)(hBw:B≤w.heap.size):
  Calls prog 165 #[.pointer (some ⟨b,0,none⟩),.int .u8 c] w λe w'=>e=.returned .nilIface∧(Lib.BuilderAtF 225 5 B b (.pointer (some ⟨b,0,none⟩)) (bs++[.int .u8 c]) w'∧Below B w w'∧Lib.OthersKept 5 (some b) w w'):=Any.Builder_WriteByte_k Tryz.lays167 Tryz.Builder_Extra_167 B b bs c w h hlen hBw
theorem Tryz.Builder_WriteString_k(B b:Nat)(bs:List Value)(s:ByteArray)(w:World)(h:Lib.IsBuilderF 225 5 B b bs w)(hlen:bs.length+s.size≤140737488355328)(hBw:B≤w.heap.size):
  Calls prog 181 #[.pointer (some ⟨b,0,none⟩),.string s] w λe w'=>e=.returned (.tuple #[.int .i64 s.size,.nilIface])∧(Lib.BuilderAtF 225 5 B b (.pointer (some ⟨b,0,none⟩)) (bs++Lib.strCells s) w'∧Below B w w'∧Lib.OthersKept 5 (some b) w w'):=Any.Builder_WriteString_k Tryz.lays166 Tryz.Builder_Extra_166 B b bs s w h hlen hBw
def Tryz.lays170_ren:Go.Shelf.Ren:=⟨λ|170=>182|n=>n,λ|70=>223|3=>3|0=>0|72=>225|37=>192|5=>5|n=>n,λ|n=>n⟩
theorem Tryz.lays170:Go.Proofs.Lays.n170 prog Tryz.lays170_ren:=by constructor<;>intros<;>kernel_rfl
def Tryz.lays169_ren:Go.Shelf.Ren:=⟨λ|169=>167|n=>n,λ|70=>223|9=>9|0=>0|72=>225|37=>192|127=>281|3=>3|5=>5|n=>n,λ|n=>n⟩
theorem Tryz.lays169:Go.Proofs.Lays.n169 prog Tryz.lays169_ren:=by constructor<;>intros<;>kernel_rfl
theorem Tryz.Builder_Extra_169:Builder.Extra prog Tryz.lays169_ren:=by constructor<;>first|(intros;kernel_rfl)|decide|(constructor<;>first|(intros;kernel_rfl)|decide)
def Tryz.lays156_ren:Go.Shelf.Ren:=⟨λ|156=>110|165=>180|166=>181|169=>167|240=>224|241=>238|276=>269|277=>280|n=>n,λ|31=>24|9=>9|3=>3|4=>4|0=>0|20=>20|72=>225|76=>171|70=>223|37=>192|75=>170|127=>281|164=>326|5=>5|80=>102|n=>n,λ|n=>n⟩
theorem Tryz.lays156:Go.Proofs.Lays.n156 prog Tryz.lays156_ren:=by constructor<;>intros<;>kernel_rfl
theorem Tryz.Builder_Extra_156:Builder.Extra prog Tryz.lays156_ren:=by constructor<;>first|(intros;kernel_rfl)|decide|(constructor<;>first|(intros;kernel_rfl)|decide)
theorem Tryz.strings_Join_none(a:Option Addr)(c:Nat)(sep:ByteArray)(w:World):
  Calls prog 110 #[.slice a 0 c,.string sep] w λe w'=>e=.returned (.string ⟨#[]⟩)∧w'=w:=Any.strings_Join_none Tryz.lays156 Tryz.Builder_Extra_156 a c sep w
theorem Tryz.strings_Join(bk o c:Nat)(xs:List ByteArray)(sep:ByteArray)(w:World)(hcells:∀(j:Nat) x,xs[j]? =some x→w.cell? ⟨bk,o+j,none⟩=some (.string x))(hbk:bk<w.heap.size)(hN:xs.length≤140737488355328)(hcap:xs.length≤c)(hlen:(Lib.join (xs.map (·.data.toList)) sep.data.toList).length≤140737488355328):
  Calls prog 110 #[.slice (some ⟨bk,o,none⟩) xs.length c,.string sep] w λe w'=>e=.returned (.string ⟨(Lib.join (xs.map (·.data.toList)) sep.data.toList).toArray⟩)∧Below w.heap.size w w':=Any.strings_Join Tryz.lays156 Tryz.Builder_Extra_156 bk o c xs sep w hcells hbk hN hcap hlen
def Tryz.lays160_ren:Go.Shelf.Ren:=⟨λ|160=>108|232=>172|231=>171|227=>173|234=>175|233=>174|236=>177|235=>176|228=>232|271=>234|151=>233|197=>209|120=>279|152=>278|260=>258|137=>166|119=>311|224=>260|225=>259|217=>225|266=>270|n=>n,λ|9=>9|4=>4|3=>3|5=>5|117=>233|116=>232|0=>0|124=>236|21=>21|105=>272|46=>228|119=>359|139=>362|138=>361|n=>n,λ|3=>3|4=>4|n=>n⟩
theorem Tryz.lays160:Go.Proofs.Lays.n160 prog Tryz.lays160_ren:=by constructor<;>intros<;>kernel_rfl
theorem Tryz.strings_Trim_one(s:ByteArray)(c:UInt8)(hc:c.toNat<128)(w:World)(hs:s.size≤9223372036854775807):
  Calls prog 108 #[.string s,.string ⟨#[c]⟩] w λe w'=>e=.returned (.string ⟨(Lib.trimB s.data.toList c).toArray⟩)∧(w'=w∨w'=w.drew):=Any.strings_Trim_one Tryz.lays160 s c hc w hs
def Tryz.lays106_ren:Go.Shelf.Ren:=⟨λ|106=>139|213=>204|265=>256|n=>n,λ|9=>9|3=>3|n=>n,λ|n=>n⟩
theorem Tryz.lays106:Go.Proofs.Lays.n106 prog Tryz.lays106_ren:=by constructor<;>intros<;>kernel_rfl
theorem Tryz.strings_Compare(a b:ByteArray)(w:World):
  Calls prog 139 #[.string a,.string b] w λe w'=>e=.returned (.int .i64 (Lib.compareBytes a.data.toList b.data.toList))∧w'=w:=Any.strings_Compare Tryz.lays106 a b w
def Tryz.lays137_ren:Go.Shelf.Ren:=⟨λ|137=>166|217=>225|266=>270|n=>n,λ|9=>9|5=>5|3=>3|n=>n,λ|n=>n⟩
theorem Tryz.lays137:Go.Proofs.Lays.n137 prog Tryz.lays137_ren:=by constructor<;>intros<;>kernel_rfl
theorem Tryz.strings_IndexByte(s:ByteArray)(c:Int)(w:World):
  Calls prog 166 #[.string s,.int .u8 c] w λe w'=>e=.returned (.int .i64 (Lib.indexByte s.data.toList c.toNat.toUInt8))∧w'=w:=Any.strings_IndexByte Tryz.lays137 s c w
def Tryz.lays103_ren:Go.Shelf.Ren:=⟨λ|103=>112|210=>184|206=>237|n=>n,λ|9=>9|4=>4|24=>178|3=>3|n=>n,λ|n=>n⟩
theorem Tryz.lays103:Go.Proofs.Lays.n103 prog Tryz.lays103_ren:=by constructor<;>intros<;>kernel_rfl
theorem Tryz.strings_CutPrefix(s p:ByteArray)(w:World):
  Calls prog 112 #[.string s,.string p] w λe w'=>e=.returned (.tuple #[.string ⟨(Lib.trimPrefix s.data.toList p.data.toList).toArray⟩,.bool (Lib.hasPrefix s.data.toList p.data.toList)])∧w'=w:=Any.strings_CutPrefix Tryz.lays103 s p w
def Tryz.lays122_ren:Go.Shelf.Ren:=⟨λ|122=>70|215=>121|n=>n,λ|3=>3|4=>4|n=>n,λ|n=>n⟩
theorem Tryz.lays122:Go.Proofs.Lays.n122 prog Tryz.lays122_ren:=by constructor<;>intros<;>kernel_rfl
theorem Tryz.cmp_Compare_int(x y:Int)(w:World):
  Calls prog 70 #[.int .i64 x,.int .i64 y] w λe w'=>e=.returned (.int .i64 (Lib.compareInt x y))∧w'=w:=Any.cmp_Compare_int Tryz.lays122 x y w
theorem Tryz.Builder_Len_f(B b:Nat)(bs:List Value)(w:World)(h:Lib.IsBuilderF 225 5 B b bs w):
  Calls prog 182 #[.pointer (some ⟨b,0,none⟩)] w λe w'=>e=.returned (.int .i64 bs.length)∧w'=w:=Any.Builder_Len_f Tryz.lays170 B b bs w h
theorem Tryz.Builder_String_any_k(B b:Nat)(l:List UInt8)(w:World)(h:Lib.IsBuilderF 225 5 B b (Lib.byteCells l) w)(hBw:B≤w.heap.size):
  Calls prog 167 #[.pointer (some ⟨b,0,none⟩)] w λe w'=>e=.returned (.string ⟨l.toArray⟩)∧(Lib.IsBuilderF 225 5 B b (Lib.byteCells l) w'∧Below B w w'∧Lib.OthersKept 5 (some b) w w'):=Any.Builder_String_any_k Tryz.lays169 Tryz.Builder_Extra_169 B b l w h hBw
def Tryz.laysM171_ren:Go.Shelf.Ren:=⟨λ|171=>107|243=>170|246=>231|283=>274|284=>275|285=>276|286=>277|129=>290|317=>307|318=>308|319=>309|320=>310|337=>324|338=>325|n=>n,λ|3=>3|9=>9|2=>2|4=>4|171=>333|0=>0|53=>293|37=>192|5=>5|173=>336|212=>371|51=>262|20=>20|213=>372|46=>228|232=>391|233=>392|n=>n,λ|17=>5|18=>6|19=>7|n=>n⟩
theorem Tryz.laysM171:Go.Proofs.LaysM.n171 prog Tryz.laysM171_ren:=by constructor<;>first|(intros;kernel_rfl)|(constructor<;>first|(intros;kernel_rfl)|(constructor<;>intros<;>kernel_rfl))
theorem Tryz.strconv_Itoa(n:Int)(h0: -9223372036854775808≤n)(h1:n≤9223372036854775807)(w:World)(htab:Lib.TabIs prog w "internal/strconv.uint64pow10" .u64 Lib.pow10Tab):
  Calls prog 107 #[.int .i64 n] w λe w'=>e=.returned (.string ⟨(Lib.itoa n).toArray⟩)∧∃k os,w'=grow (w.drewN k) os:=Any.strconv_Itoa Tryz.laysM171 n h0 h1 w htab
def Tryz.laysC172_ren:Go.Shelf.Ren:=⟨λ|172=>106|244=>168|245=>169|247=>226|279=>227|280=>228|281=>229|282=>230|287=>271|316=>272|171=>107|205=>273|321=>305|322=>306|243=>170|246=>231|283=>274|284=>275|285=>276|286=>277|129=>290|317=>307|318=>308|319=>309|320=>310|337=>324|338=>325|n=>n,λ|9=>9|3=>3|75=>170|76=>171|4=>4|5=>5|167=>282|37=>192|0=>0|85=>283|2=>2|168=>285|53=>293|175=>328|46=>228|210=>331|127=>281|145=>369|143=>367|21=>21|171=>333|173=>336|212=>371|51=>262|20=>20|213=>372|232=>391|233=>392|80=>102|n=>n,λ|15=>1|16=>2|17=>5|18=>6|19=>7|n=>n⟩
theorem Tryz.laysC172:Go.Proofs.LaysC.n172 prog Tryz.laysC172_ren:=by constructor<;>first|(intros;kernel_rfl)|(constructor<;>first|(intros;kernel_rfl)|(constructor<;>intros<;>kernel_rfl))
theorem Tryz.strconv_Atoi_ok(s:ByteArray)(hmax:s.size≤9223372036854775806)(v:Int)(h:Lib.atoiAll s.data.toList=.ok v)(w:World):
  Calls prog 106 #[.string s] w λe w'=>e=.returned (.tuple #[.int .i64 v,.nilIface])∧(w'=w∨∃t,w'=Lib.bytesWorld w 5 t):=Any.strconv_Atoi_ok Tryz.laysC172 s hmax v h w
theorem Tryz.strconv_Atoi_range_var(s:ByteArray)(hlim:s.size≤281474976710656)(h:Lib.atoiAll s.data.toList=.range)(tp:TypeId)(p:Value)(w:World)(hvar:w.var? prog "strconv.ErrRange"=some #[.iface tp p]):
  Calls prog 106 #[.string s] w λe w'=>∃N,e=.returned (.tuple #[.int .i64 (Lib.atoiSat s.data.toList),.iface 285 (.pointer (some ⟨N,0,none⟩))])∧w.heap.size≤N∧w'.heap[N]? =some (.cells #[.string ⟨#[65,116,111,105]⟩,.string s,.iface tp p] 331 (0,0))∧Below w.heap.size w w':=Any.strconv_Atoi_range_var Tryz.laysC172 s hlim h tp p w hvar
def Tryz.lays99_ren:Go.Shelf.Ren:=⟨λ|99=>179|206=>237|n=>n,λ|9=>9|4=>4|3=>3|n=>n,λ|n=>n⟩
theorem Tryz.lays99:Go.Proofs.Lays.n99 prog Tryz.lays99_ren:=by constructor<;>intros<;>kernel_rfl
theorem Tryz.strings_HasPrefix(s p:ByteArray)(w:World):
  Calls prog 179 #[.string s,.string p] w λe w'=>e=.returned (.bool (Lib.hasPrefix s.data.toList p.data.toList))∧w'=w:=Any.strings_HasPrefix Tryz.lays99 s p w
def Tryz.lays146_ren:Go.Shelf.Ren:=⟨λ|146=>52|221=>90|268=>147|138=>148|143=>149|195=>208|197=>209|218=>210|219=>211|260=>258|217=>225|225=>259|224=>260|267=>261|266=>270|314=>300|n=>n,λ|9=>9|31=>24|3=>3|4=>4|0=>0|105=>272|21=>21|5=>5|46=>228|119=>359|139=>362|138=>361|146=>291|51=>262|n=>n,λ|1=>0|3=>3|4=>4|n=>n⟩
theorem Tryz.lays146:Go.Proofs.Lays.n146 prog Tryz.lays146_ren:=by constructor<;>intros<;>kernel_rfl
theorem Tryz.strings_Split(s sep:ByteArray)(m:Int)(w:World)(hs:s.size<4294967281)(hm:w.cell? ⟨0,0,none⟩=some (.int .i64 m))(h1:1≤sep.size):
  Calls prog 52 #[.string s,.string sep] w λe w'=>
   e=.returned (.slice (some ⟨w.heap.size,0,none⟩) (Lib.countB s sep+1) (Lib.countB s sep+1))∧w'=w.alloc (.cells ((Lib.splitB sep 0 (Lib.countB s sep) s).map Value.string).toArray 9):=Any.strings_Split Tryz.lays146 (by kernel_rfl) s sep m w hs hm h1
def Tryz.lays105_ren:Go.Shelf.Ren:=⟨λ|105=>109|212=>178|99=>179|165=>180|166=>181|170=>182|169=>167|263=>235|264=>236|206=>237|240=>224|241=>238|276=>269|277=>280|n=>n,λ|9=>9|3=>3|4=>4|20=>20|0=>0|46=>228|109=>237|5=>5|72=>225|76=>171|51=>262|146=>291|53=>293|148=>294|70=>223|37=>192|75=>170|127=>281|164=>326|80=>102|n=>n,λ|n=>n⟩
theorem Tryz.lays105:Go.Proofs.Lays.n105 prog Tryz.lays105_ren:=by constructor<;>intros<;>kernel_rfl
theorem Tryz.Builder_Extra_105:Builder.Extra prog Tryz.lays105_ren:=by constructor<;>first|(intros;kernel_rfl)|decide|(constructor<;>first|(intros;kernel_rfl)|decide)
theorem Tryz.strings_Repeat(s:ByteArray)(c:Nat)(w:World)(hc:c≤9223372036854775807)(hlen:s.size*c≤140737488355328):
  Calls prog 109 #[.string s,.int .i64 c] w λe w'=>e=.returned (.string ⟨(Lib.repeatL s.data.toList c).toArray⟩)∧Below w.heap.size w w':=Any.strings_Repeat Tryz.lays105 Tryz.Builder_Extra_105 s c w hc hlen
def Tryz.lays113_ren:Go.Shelf.Ren:=⟨λ|113=>37|n=>n,λ|28=>71|3=>3|4=>4|9=>9|20=>20|0=>0|n=>n,λ|n=>n⟩
theorem Tryz.lays113:Go.Proofs.Lays.n113 prog Tryz.lays113_ren:=by constructor<;>intros<;>kernel_rfl
theorem Tryz.slices_Max_int(b off n c:Nat)(zs:List Int)(w:World)(hn:0<n)(hz:n≤zs.length)(hbig:n≤9223372036854775807)(hc:∀j,j<zs.length→w.cell? ⟨b,off+j,none⟩=some (.int .i64 (zs.getD j 0))):
  Calls prog 37 #[.slice (some ⟨b,off,none⟩) n c] w λe w'=>e=.returned (.int .i64 (Lib.maxOf (zs.take n)))∧w'=w:=Any.slices_Max_int Tryz.lays113 b off n c zs w hn hz hbig hc
end Go.Proofs
