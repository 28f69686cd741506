/- Part 10 of the proof of TopAny: The library's contracts, said of heaps: strings.Builder, CutPrefix, Join, Trim, Compare, IndexByte, Repeat · conf: whether a layout may be, and what follows of it · conf: written and read · block: sealed, opened, owned · block: opened, owned. -/
import Derived.Test.YtjambljmnifknaaGreatDoorJ09
import Derived.Laws.StructEq
set_option maxRecDepth 100000
set_option maxHeartbeats 80000000
set_option linter.all false
open Go.Proofs.Tryz
namespace Go.Proofs.YtjambljmnifknaaGreatDoor.Vc
open Go Go.RowKit Tp
def Bld(H:Heap)(b:Nat)(l:By):Prop:=Lib.IsBuilderF 225 5 b b (Lib.byteCells l) (mkw H)
def TB(H:Heap)(b:Nat):Nat→Prop:=λk=>b≤k∧(k=b∨∃cs fz,H[k]? =some (.cells cs 5 fz))
theorem Bld.w{b:Nat}{l:By}{w:World}:Lib.IsBuilderF 225 5 b b (Lib.byteCells l) w↔Bld w.heap b l:=Iff.rfl
theorem Bld.lt{H:Heap}{b:Nat}{l:By}(h:Bld H b l):b<H.size:=by
 have hx:∀p,Lib.BuilderAtF 225 5 b b p (Lib.byteCells l) (mkw H)→b<H.size:=λp ⟨_,v,hb,_⟩=>(Qa.1 hb).1
 exact h.elim (hx _) (hx _)
theorem Bld.ne{H:Heap}{b k:Nat}{l:By}(h:Bld H b l){cs:Array Value}{t:TypeId}{fz:Nat×Nat}(hk:H[k]? =some (.cells cs t fz))(h1:t≠5)(h2:t≠225):¬TB H b k:=by
 rintro⟨_,rfl|⟨cs',fz',hk'⟩⟩
 ·have hx:∀p,Lib.BuilderAtF 225 5 k k p (Lib.byteCells l) (mkw H)→False:=λp ⟨_,v,hb,_⟩=>by
   have:H[k]? =some (.cells #[p,v] 225 (0,0)):=hb
   rw[hk] at this
   simp at this
   exact h2 this.2.1
  exact h.elim (hx _) (hx _)
 ·rw[hk] at hk'
  simp at hk'
  exact h1 hk'.2.1
theorem Bld.keep{H H':Heap}{b:Nat}{l:By}(h:Bld H b l)(hk:∀k o,b≤k→H[k]? =some o→H'[k]? =some o):Bld H' b l:=by
 have hx:∀p,Lib.BuilderAtF 225 5 b b p (Lib.byteCells l) (mkw H)→Lib.BuilderAtF 225 5 b b p (Lib.byteCells l) (mkw H'):=λp ⟨h0,v,hb,ho,hne⟩=>by
  refine⟨h0,v,hk b _ (Qd _) hb,?_,hne⟩
  obtain⟨h1,h2⟩:=ho
  refine⟨h1,?_⟩
  rcases h2 with h2|⟨g,cap,cur,fz,e,hg,hh,r⟩
  ·exact .inl h2
  ·exact .inr ⟨g,cap,cur,fz,e,hg,hk g _ hg hh,r⟩
 exact h.elim (λh=>.inl (hx _ h)) (λh=>.inr (hx _ h))
theorem Bld.frm{H H':Heap}{b:Nat}{l:By}(h:Bld H b l)(hk:∀k,TB H b k→H'[k]? =H[k]?):Bld H' b l:=by
 have hx:∀p,Lib.BuilderAtF 225 5 b b p (Lib.byteCells l) (mkw H)→Lib.BuilderAtF 225 5 b b p (Lib.byteCells l) (mkw H'):=λp ⟨h0,v,hb,ho,hne⟩=>by
  refine⟨h0,v,(hk b ⟨Qd _,.inl rfl⟩).trans hb,?_,hne⟩
  obtain⟨h1,h2⟩:=ho
  refine⟨h1,?_⟩
  rcases h2 with h2|⟨g,cap,cur,fz,e,hg,hh,r⟩
  ·exact .inl h2
  ·exact .inr ⟨g,cap,cur,fz,e,hg,(hk g ⟨hg,.inr ⟨cur,fz,hh⟩⟩).trans hh,r⟩
 exact h.elim (λh=>.inl (hx _ h)) (λh=>.inr (hx _ h))
theorem Bld.upd{H H':Heap}{b k:Nat}{l:By}{o:Obj}(h:Bld H b l){cs:Array Value}{t:TypeId}{fz:Nat×Nat}(hk:H[k]? =some (.cells cs t fz))(h1:t≠5)(h2:t≠225)(u:Upd H H' k o):Bld H' b l:=
 h.frm λi hi=>u.2.2 i (λe=>h.ne hk h1 h2 (e▸hi))
theorem TB.upd{H H':Heap}{b k i:Nat}{cs:Array Value}{t:TypeId}{fz:Nat×Nat}(u:Upd H H' k (.cells cs t fz))(h1:t≠5)(hi:TB H' b i):TB H b i∨i=k:=by
 obtain⟨h0,hi|⟨cs',fz',hi⟩⟩:=hi
 ·exact .inl ⟨h0,.inl hi⟩
 ·by_cases e:i=k
  ·exact .inr e
  ·rw[u.2.2 i e] at hi
   exact .inl ⟨h0,.inr ⟨cs',fz',hi⟩⟩
theorem TB.back{H H':Heap}{T:Nat→Prop}{b i:Nat}(hF:Frm T H H')(hi:TB H' b i)(hlt:i<H.size)(hT:¬T i):TB H b i:=by
 obtain⟨h0,hi|⟨cs',fz',hi⟩⟩:=hi
 ·exact⟨h0,.inl hi⟩
 ·rw[hF.2 i hlt hT] at hi
  exact⟨h0,.inr ⟨cs',fz',hi⟩⟩
theorem Bld.q{H H':Heap}{b:Nat}{l:By}(h:Bld H b l)(hF:Frm nob H H'):Bld H' b l:=h.keep λ_ _ _ hk=>hF.blk hk
theorem frm_others{H:Heap}{b:Nat}{w w':World}(hw:w.heap=H)(h1:Below b w w')(h2:Lib.OthersKept 5 (some b) w w'):Frm (TB H b) H w'.heap:=by
 subst hw
 refine⟨h1.size,λk hk hn=>?_⟩
 by_cases hb:k<b
 ·exact h1.block k hb
 ·have ho:w.heap[k]? =some w.heap[k]:=by simp[hk]
  rw[ho]
  refine h2 k _ ho (λe=>hn ⟨by omega,.inl (by simpa using e)⟩) (λc fz e=>hn ⟨by omega,.inr ⟨c,fz,by rw[ho,e]⟩⟩)
theorem amb_below{w w':World}{b:Nat}(h:Below b w w'):Amb w w':=⟨h.os,h.tape,h.output⟩
theorem byteCells_append(a b:By):Lib.byteCells (a++b)=Lib.byteCells a++Lib.byteCells b:=by simp[Lib.byteCells]
theorem strCells_L(s:ByteArray):Lib.strCells s=Lib.byteCells (L s):=rfl
theorem Bld.new{H H':Heap}{b:Nat}(h:Fresh H H' b (.cells #[.pointer none,.slice none 0 0] 225)):Bld H' b []:=
 .inl ⟨Qd _,_,h.at,⟨rfl,.inl ⟨rfl,rfl⟩⟩,by simp[Value.ownBlock]⟩
theorem s_bws{H:Heap}{b:Nat}{l:By}(s:ByteArray)(h:Bld H b l)(hl:l.length+s.size≤140737488355328):Spec prog 181 #[.pointer (some ⟨b,0,none⟩),.string s] H (TB H b) λu H'=>u=.tuple #[.int .i64 s.size,.nilIface]∧Bld H' b (l++L s):=
 ⟨by kernel_rfl,λw hw=>(Tryz.Builder_WriteString_k b b (Lib.byteCells l) s w (by subst hw;exact h) (by rw[Lib.byteCells_length];exact hl) (by rw[hw];exact Yn h.lt)).mono λe w' ⟨he,hb,h1,h2⟩=>
  ⟨_,he,amb_below h1,frm_others hw h1 h2,rfl,Bld.w.1 (.inr (by rw[byteCells_append,←strCells_L];exact hb))⟩⟩
theorem s_bwb{H:Heap}{b:Nat}{l:By}(c:UInt8)(h:Bld H b l)(hl:l.length+1≤140737488355328):Spec prog 165 #[.pointer (some ⟨b,0,none⟩),.int .u8 (c.toNat:Int)] H (TB H b) λu H'=>u=.nilIface∧Bld H' b (l++[c]):=
 ⟨by kernel_rfl,λw hw=>(Tryz.Builder_WriteByte_k b b (Lib.byteCells l) c.toNat w (by subst hw;exact h) (by rw[Lib.byteCells_length];exact hl) (by rw[hw];exact Yn h.lt)).mono λe w' ⟨he,hb,h1,h2⟩=>
  ⟨_,he,amb_below h1,frm_others hw h1 h2,rfl,Bld.w.1 (.inr (by rw[byteCells_append];exact hb))⟩⟩
theorem s_bstr{H:Heap}{b:Nat}{l:By}(h:Bld H b l):Spec prog 167 #[.pointer (some ⟨b,0,none⟩)] H (TB H b) λu H'=>u=.string (S l)∧Bld H' b l:=
 ⟨by kernel_rfl,λw hw=>(Tryz.Builder_String_any_k b b l w (by subst hw;exact h) (by rw[hw];exact Yn h.lt)).mono λe w' ⟨he,hb,h1,h2⟩=>
  ⟨_,he,amb_below h1,frm_others hw h1 h2,rfl,Bld.w.1 hb⟩⟩
theorem s_blen{H:Heap}{b:Nat}{l:By}(h:Bld H b l):Spec prog 182 #[.pointer (some ⟨b,0,none⟩)] H nob λu H'=>u=.int .i64 (l.length:Int)∧H=H':=
 ⟨by kernel_rfl,λw hw=>(Tryz.Builder_Len_f b b (Lib.byteCells l) w (by subst hw;exact h)).mono λe w' ⟨he,hw'⟩=>by
  subst hw'
  rw[Lib.byteCells_length] at he
  exact⟨_,he,Amb.refl _,by rw[hw];exact Frm.refl _ _,rfl,hw.symm⟩⟩
theorem spec_same{f:FuncId}{args:Array Value}{H:Heap}{v:Value}(hg:callB prog f=true)(h:∀w:World,w.heap=H→Calls prog f args w λe w'=>e=.returned v∧w'=w):Spec prog f args H nob λu H'=>u=v∧H=H':=
 ⟨hg,λw hw=>(h w hw).mono λe w' ⟨he,hb⟩=>by subst hb;exact⟨v,he,Amb.refl _,by rw[hw];exact Frm.refl _ _,rfl,hw.symm⟩⟩
theorem s_cutp(s p:ByteArray)(H:Heap):Spec prog 112 #[.string s,.string p] H nob λu H'=>u=.tuple #[.string (S (Lib.trimPrefix (L s) (L p))),.bool (Lib.hasPrefix (L s) (L p))]∧H=H':=spec_same (by kernel_rfl) λw _=>Tryz.strings_CutPrefix s p w
theorem s_hasp(s p:ByteArray)(H:Heap):Spec prog 179 #[.string s,.string p] H nob λu H'=>u=.bool (Lib.hasPrefix (L s) (L p))∧H=H':=spec_same (by kernel_rfl) λw _=>Tryz.strings_HasPrefix s p w
theorem s_idxb(s:ByteArray)(c:Int)(H:Heap):Spec prog 166 #[.string s,.int .u8 c] H nob λu H'=>u=.int .i64 (Lib.indexByte (L s) c.toNat.toUInt8)∧H=H':=spec_same (by kernel_rfl) λw _=>Tryz.strings_IndexByte s c w
theorem s_scmp(a b:ByteArray)(H:Heap):Spec prog 139 #[.string a,.string b] H nob λu H'=>u=.int .i64 (Lib.compareBytes (L a) (L b))∧H=H':=spec_same (by kernel_rfl) λw _=>Tryz.strings_Compare a b w
theorem s_icmp(a b:Int)(H:Heap):Spec prog 70 #[.int .i64 a,.int .i64 b] H nob λu H'=>u=.int .i64 (Lib.compareInt a b)∧H=H':=spec_same (by kernel_rfl) λw _=>Tryz.cmp_Compare_int a b w
theorem s_trim1(s:ByteArray)(c:UInt8)(hc:c.toNat<128)(hs:s.size≤9223372036854775807)(H:Heap):Spec prog 108 #[.string s,.string ⟨#[c]⟩] H nob λu H'=>u=.string (S (Lib.trimB (L s) c))∧H=H':=
 ⟨by kernel_rfl,λw hw=>(Tryz.strings_Trim_one s c hc w hs).mono λe w' ⟨he,h⟩=>⟨_,he,by rcases h with rfl|rfl<;>exact⟨rfl,rfl,rfl⟩,by rcases h with rfl|rfl<;>(rw[←hw];exact Frm.refl _ _),rfl,by rcases h with rfl|rfl<;>exact hw.symm⟩⟩
theorem s_repeat(s:ByteArray)(c:Nat)(hc:c≤9223372036854775807)(hlen:s.size*c≤140737488355328)(H:Heap):Spec prog 109 #[.string s,.int .i64 (c:Int)] H nob λu _=>u=.string (S (Lib.repeatL (L s) c)):=
 spec_below (by kernel_rfl) λw _=>Tryz.strings_Repeat s c w hc hlen
def Rd(H:Heap)(v:Value)(xs:List Value):Prop:=(v=.slice none 0 0∧xs=[])∨∃b o cap,v=.slice (some ⟨b,o,none⟩) xs.length cap∧xs.length≤cap∧CellsAt H b o xs
theorem CellsAt.get{H:Heap}{b:Nat}:∀{xs:List Value} {o j:Nat} {v:Value},CellsAt H b o xs→xs[j]? =some v→cel H ⟨b,o+j,none⟩=some v
 |x::xs,o,0,v,h,hj=>by simp at hj;subst hj;exact h.1
 |x::xs,o,j+1,v,h,hj=>by
  have:=CellsAt.get h.2 (j:=j) (v:=v) (by simpa using hj)
  rw[show o+(j+1)=o+1+j by omega]
  exact this
theorem CellsAt.of{H:Heap}{b:Nat}:∀{xs:List Value} {o:Nat},(∀j v,xs[j]? =some v→cel H ⟨b,o+j,none⟩=some v)→CellsAt H b o xs
 |[],_,_=>trivial
 |x::xs,o,h=>⟨h 0 x rfl,CellsAt.of λj v hj=>by rw[show o+1+j=o+(j+1) by omega];exact h (j+1) v (by simpa using hj)⟩
theorem Rd.frm{T:Nat→Prop}{H H':Heap}{v:Value}{xs:List Value}(h:Rd H v xs)(hF:Frm T H H')(hT:∀k,v.ownBlock=some k→¬T k):Rd H' v xs:=by
 rcases h with h|⟨b,o,cap,rfl,hc,h⟩
 ·exact .inl h
 ·exact .inr ⟨b,o,cap,rfl,hc,cells_keep hF (hT b rfl) h⟩
theorem Rd.q{H H':Heap}{v:Value}{xs:List Value}(h:Rd H v xs)(hF:Frm nob H H'):Rd H' v xs:=h.frm hF λ_ _=>id
theorem CellsAt.blk{H:Heap}{b o:Nat}{v:Value}{xs:List Value}(h:CellsAt H b o (v::xs)):b<H.size:=cel_lt h.1
theorem CellsAt.new{H H':Heap}{b:Nat}{cs:List Value}{t:TypeId}{fz:Nat×Nat}(h:Fresh H H' b (.cells cs.toArray t fz)):CellsAt H' b 0 cs:=
 CellsAt.of λj v hj=>h.cel (by rw[Qq,Qr];exact hj)
theorem CellsAt.at{H:Heap}{b:Nat}{cs:List Value}{t:TypeId}{fz:Nat×Nat}(h:H[b]? =some (.cells cs.toArray t fz)):CellsAt H b 0 cs:=
 CellsAt.of λj v hj=>cel_of h (by rw[Qq,Qr];exact hj)
theorem Own.rd{H:Heap}{base n:Nat}{e:TypeId}{v:Value}{xs:List Value}(h:Own H base e 1 v n xs):Rd H v xs∧xs.length=n:=by
 obtain⟨hl,h2⟩:=h
 have hl':xs.length=n:=by simpa using hl
 refine⟨?_,hl'⟩
 rcases h2 with ⟨rfl,rfl⟩|⟨g,cap,cur,rfl,_,hg,hn,_,hcs,ht⟩
 ·exact .inl ⟨rfl,Qm hl'⟩
 ·refine .inr ⟨g,0,cap,by rw[hl'],by omega,CellsAt.of λj v hj=>cel_of (H:=H) hg ?_⟩
  rw[←ht,QZ] at hj
  split at hj
  ·rw[Qr,←QN];exact hj
  ·cases hj
theorem Own.nil(H:Heap)(base:Nat)(e:TypeId)(sz:Nat):Own H base e sz (.slice none 0 0) 0 []:=⟨by simp,.inl ⟨rfl,rfl⟩⟩
theorem Own.frm{T:Nat→Prop}{H H':Heap}{base n sz:Nat}{e:TypeId}{v:Value}{xs:List Value}(h:Own H base e sz v n xs)(hF:Frm T H H')(hT:∀k,v.ownBlock=some k→¬T k):Own H' base e sz v n xs:=by
 obtain⟨hl,h2⟩:=h
 refine⟨hl,?_⟩
 rcases h2 with h2|⟨g,cap,cur,rfl,hb,hg,r⟩
 ·exact .inl h2
 ·exact .inr ⟨g,cap,cur,rfl,hb,hF.blkT hg (hT g rfl),r⟩
theorem Own.q{H H':Heap}{base n sz:Nat}{e:TypeId}{v:Value}{xs:List Value}(h:Own H base e sz v n xs)(hF:Frm nob H H'):Own H' base e sz v n xs:=h.frm hF λ_ _=>id
theorem Own.ge{H:Heap}{base n sz:Nat}{e:TypeId}{v:Value}{xs:List Value}(h:Own H base e sz v n xs):∀k,v.ownBlock=some k→base≤k∧k<H.size:=by
 intro k hk
 rcases h.2 with ⟨rfl,_⟩|⟨g,cap,cur,rfl,hb,hg,_⟩
 ·simp[Value.ownBlock] at hk
 ·simp[Value.ownBlock] at hk
  subst hk
  exact⟨hb,(Qa.1 hg).1⟩
theorem s_join{H:Heap}{v:Value}(xs:List By)(sep:By)(h:Rd H v (xs.map λx=>.string (S x)))(hN:xs.length≤140737488355328)(hlen:(Lib.join xs sep).length≤140737488355328):Spec prog 110 #[v,.string (S sep)] H nob λu _=>u=.string (S (Lib.join xs sep)):=by
 have hmap:(xs.map S).map (·.data.toList)=xs:=by rw[ZB];exact List.map_id' _
 rcases h with ⟨rfl,hx⟩|⟨b,o,cap,rfl,hc,h⟩
 ·have:xs=[]:=by simpa using hx
  subst this
  exact spec_below (by kernel_rfl) λw _=>(Tryz.strings_Join_none none 0 (S sep) w).mono λe w' ⟨he,hw⟩=>⟨he,by rw[hw];exact Below.refl _ _⟩
 ·rw[Qv] at hc⊢
  by_cases hx:xs=[]
  ·subst hx
   exact spec_below (by kernel_rfl) λw _=>(Tryz.strings_Join_none _ cap (S sep) w).mono λe w' ⟨he,hw⟩=>⟨he,by rw[hw];exact Below.refl _ _⟩
  ·refine spec_below (by kernel_rfl) λw hw=>?_
   have hb:b<w.heap.size:=by
    rw[hw]
    cases xs with
    |nil=>exact(hx rfl).elim
    |cons x r=>exact CellsAt.blk h
   have:=Tryz.strings_Join b o cap (xs.map S) (S sep) w (λj x hj=>by
    rw[cel_w,hw]
    refine h.get ?_
    rw[Qp] at hj⊢
    cases hxj:xs[j]? with
    |none=>rw[hxj] at hj;cases hj
    |some y=>rw[hxj] at hj;simp at hj⊢;exact hj) hb (by simpa using hN) (by simpa using hc) (by rw[hmap];exact hlen)
   rw[hmap,Qv] at this
   exact this
structure Cf where
 k:Int
 m:Int
 sh:Int
 st:Int
 sl:Int
deriving DecidableEq
def cfV(c:Cf):Value:=.agg #[.int .i64 c.k,.int .i64 c.m,.int .i64 c.sh,.int .i64 c.st,.int .i64 c.sl]
def mayKM(k m:Int):Bool:=decide (1≤k∧0≤m∧k≤255∧m≤255-k)
def cfOk(c:Cf):Prop:=mayKM c.k c.m=true∧c.m≠0∧(8≤c.sh∧c.sh≤1024)∧(1≤c.st∧c.st≤1000)∧(1≤c.sl∧c.sl≤16)∧c.k*c.sh≤4000
instance (c:Cf):Decidable (cfOk c):=by unfold cfOk;infer_instance
theorem s_may(k m:Int)(H:Heap):Spec prog 58 #[.int .i64 k,.int .i64 m] H nob λu _=>u=.bool (mayKM k m):=by
 refine spx func58 ?_
 conv=>whnf
 refine⟨rfl,λh1=>?_,λh1=>?_⟩
 ·conv=>whnf
  refine⟨rfl,λh2=>?_,λh2=>?_⟩
  ·conv=>whnf
   refine⟨rfl,λh3=>?_,λh3=>?_⟩
   ·conv=>whnf
    refine⟨rfl,255-k,wr64 (by omega) (by omega),?_⟩
    conv=>whnf
    refine⟨rfl,λh4=>?_,λh4=>?_⟩
    ·exact⟨Qf Value.bool (show true=mayKM k m by simp[mayKM];omega)⟩
    ·exact⟨Qf Value.bool (show false=mayKM k m by simp[mayKM];omega)⟩
   ·exact⟨Qf Value.bool (show false=mayKM k m by simp[mayKM];omega)⟩
  ·exact⟨Qf Value.bool (show false=mayKM k m by simp[mayKM];omega)⟩
 ·exact⟨Qf Value.bool (show false=mayKM k m by simp[mayKM];omega)⟩
theorem s_within(n a b:Int)(H:Heap):Spec prog 59 #[.int .i64 n,.int .i64 a,.int .i64 b] H nob λu _=>u=.bool (decide (a≤n∧n≤b)):=by
 refine spx func59 ?_
 conv=>whnf
 refine⟨rfl,λh1=>?_,λh1=>?_⟩
 ·conv=>whnf
  refine⟨rfl,λh2=>?_,λh2=>?_⟩
  ·exact⟨Qf Value.bool (show true=decide (a≤n∧n≤b) by simp;omega)⟩
  ·exact⟨Qf Value.bool (show false=decide (a≤n∧n≤b) by simp;omega)⟩
 ·exact⟨Qf Value.bool (show false=decide (a≤n∧n≤b) by simp;omega)⟩
def cfE(c:Cf):Int:=if cfOk c then 0 else 1
theorem s_check(c:Cf)(H:Heap):Spec prog 25 #[cfV c] H nob λu _=>u=.int .i64 (cfE c):=by
 refine spx func25 ?_
 have hno:∀x:Prop,(cfOk c→x)→¬x→1=cfE c:=λx h hx=>by unfold cfE;rw[if_neg (λe=>hx (h e))]
 conv=>whnf
 intro H1 b f1 _
 conv=>whnf
 refine⟨_,f1.cel rfl,?_⟩
 conv=>whnf
 refine⟨_,f1.cel rfl,?_⟩
 conv=>whnf
 refine .q (s_may c.k c.m _) ?_
 rintro _ H2 rfl e2 _
 cases g1:mayKM c.k c.m with
 |false=>exact⟨Qf (Value.int .i64) (hno _ (λh=>h.1) (by rw[g1];decide))⟩
 |true=>
  conv=>whnf
  refine⟨_,e2.cel (f1.cel rfl),?_⟩
  conv=>whnf
  refine⟨rfl,λg2=>?_,λg2=>?_⟩
  ·exact⟨Qf (Value.int .i64) (hno _ (λh=>h.2.1) (λh=>h g2))⟩
  ·conv=>whnf
   refine⟨_,e2.cel (f1.cel rfl),?_⟩
   conv=>whnf
   refine .q (s_within c.sh 8 1024 _) ?_
   rintro _ H3 rfl e3 _
   by_cases g3:8≤c.sh∧c.sh≤1024
   ·rw[QO g3]
    conv=>whnf
    refine⟨_,e3.cel (e2.cel (f1.cel rfl)),?_⟩
    conv=>whnf
    refine .q (s_within c.st 1 1000 _) ?_
    rintro _ H4 rfl e4 _
    by_cases g4:1≤c.st∧c.st≤1000
    ·rw[QO g4]
     conv=>whnf
     refine⟨_,e4.cel (e3.cel (e2.cel (f1.cel rfl))),?_⟩
     conv=>whnf
     refine .q (s_within c.sl 1 16 _) ?_
     rintro _ H5 rfl e5 _
     by_cases g5:1≤c.sl∧c.sl≤16
     ·rw[QO g5]
      have e:=(e2.trans e3).trans (e4.trans e5)
      conv=>whnf
      refine⟨_,e.cel (f1.cel rfl),?_⟩
      conv=>whnf
      refine⟨_,e.cel (f1.cel rfl),?_⟩
      conv=>whnf
      have hk:1≤c.k∧c.k≤255:=by simp[mayKM] at g1;omega
      have hp:c.k*c.sh≤255*1024:=Z3 hk.2 g3.2 (by omega) (by omega)
      have hp2:0≤c.k*c.sh:=Yq (by omega) (by omega)
      refine⟨rfl,_,wr64 (by show _≤c.k*c.sh;omega) (by show c.k*c.sh≤_;omega),?_⟩
      conv=>whnf
      refine⟨rfl,λg6=>?_,λg6=>?_⟩
      ·exact⟨Qf (Value.int .i64) (hno _ (λh=>h.2.2.2.2.2) (λh=>by have:4000<c.k*c.sh:=g6;omega))⟩
      ·exact⟨Qf (Value.int .i64) (by unfold cfE;rw[if_pos ⟨g1,g2,g3,g4,g5,Int.not_lt.1 g6⟩])⟩
     ·rw[QM g5]
      exact⟨Qf (Value.int .i64) (hno _ (λh=>h.2.2.2.2.1) g5)⟩
    ·rw[QM g4]
     exact⟨Qf (Value.int .i64) (hno _ (λh=>h.2.2.2.1) g4)⟩
   ·rw[QM g3]
    exact⟨Qf (Value.int .i64) (hno _ (λh=>h.2.2.1) g3)⟩
def cfL(c:Cf):List Value:=[.int .i64 c.k,.int .i64 c.m,.int .i64 c.sh,.int .i64 c.st,.int .i64 c.sl]
theorem cfE0{c:Cf}:cfE c=0↔cfOk c:=by unfold cfE;split<;>simp[*]
theorem cfE1{c:Cf}(h:¬cfOk c):cfE c=1:=by unfold cfE;rw[if_neg h]
theorem s_of(c:Cf)(n:Int)(H:Heap):Spec prog 16 #[cfV c,.int .i64 n] H nob λu _=>u=.int .i64 (if cfOk c then n else 0):=by
 refine spx func16 ?_
 conv=>whnf
 intro H1 b f1 _
 conv=>whnf
 refine⟨cfL c,rfl,CellsAt.new f1,?_⟩
 conv=>whnf
 refine .q (s_check c _) ?_
 rintro _ H2 rfl e2 _
 conv=>whnf
 refine⟨rfl,λh=>?_,λh=>?_⟩
 ·exact⟨Qf (Value.int .i64) (if_neg (λe=>h (cfE0.2 e))).symm⟩
 ·exact⟨Qf (Value.int .i64) (if_pos (cfE0.1 h)).symm⟩
theorem cfOk.b{c:Cf}(h:cfOk c):(1≤c.k∧c.k≤255∧1≤c.m∧c.m≤255-c.k)∧(8≤c.sh∧c.sh≤1024)∧(1≤c.st∧c.st≤1000)∧(1≤c.sl∧c.sl≤16)∧8≤c.k*c.sh∧c.k*c.sh≤4000:=by
 obtain⟨h1,h2,h3,h4,h5,h6⟩:=h
 simp[mayKM] at h1
 refine⟨by omega,h3,h4,h5,?_,h6⟩
 have:1*8≤c.k*c.sh:=Z3 h1.1 h3.1 (by omega) (by omega)
 omega
def cfDisks(c:Cf):Int:=if cfOk c then c.k+c.m else 0
def cfSectors(c:Cf):Int:=if cfOk c then 1+c.sl+c.st else 0
def cfSize(c:Cf):Int:=if cfOk c then c.k*c.sh+42 else 0
def cfCap(c:Cf):Int:=if cfOk c then c.k*c.sh-4 else 0
theorem s_disks(c:Cf)(H:Heap):Spec prog 8 #[cfV c] H nob λu _=>u=.int .i64 (cfDisks c):=by
 refine spx func8 ?_
 conv=>whnf
 intro H1 b f1 _
 conv=>whnf
 refine⟨cfL c,rfl,CellsAt.new f1,?_⟩
 conv=>whnf
 refine⟨_,f1.cel rfl,?_⟩
 conv=>whnf
 refine⟨_,f1.cel rfl,?_⟩
 conv=>whnf
 refine⟨rfl,IntKind.i64.wrap (c.k+c.m),rfl,?_⟩
 conv=>whnf
 refine .q (s_of c _ _) ?_
 rintro _ H2 rfl e2 _
 refine⟨Qf (Value.int .i64) ?_⟩
 unfold cfDisks
 split
 ·rename_i h;have:=h.b;exact wr64 (by omega) (by omega)
 ·rfl
theorem s_sectors(c:Cf)(H:Heap):Spec prog 9 #[cfV c] H nob λu _=>u=.int .i64 (cfSectors c):=by
 refine spx func9 ?_
 conv=>whnf
 intro H1 b f1 _
 conv=>whnf
 refine⟨cfL c,rfl,CellsAt.new f1,?_⟩
 conv=>whnf
 refine⟨_,f1.cel rfl,?_⟩
 conv=>whnf
 refine⟨rfl,IntKind.i64.wrap (1+c.sl),rfl,?_⟩
 conv=>whnf
 refine⟨_,f1.cel rfl,?_⟩
 conv=>whnf
 refine⟨rfl,IntKind.i64.wrap (IntKind.i64.wrap (1+c.sl)+c.st),rfl,?_⟩
 conv=>whnf
 refine .q (s_of c _ _) ?_
 rintro _ H2 rfl e2 _
 refine⟨Qf (Value.int .i64) ?_⟩
 unfold cfSectors
 split
 ·rename_i h;have:=h.b;rw[wr64 (x:=1+c.sl) (by omega) (by omega)];exact wr64 (by omega) (by omega)
 ·rfl
theorem s_size(c:Cf)(H:Heap):Spec prog 50 #[cfV c] H nob λu _=>u=.int .i64 (cfSize c):=by
 refine spx func50 ?_
 conv=>whnf
 intro H1 b f1 _
 conv=>whnf
 refine⟨cfL c,rfl,CellsAt.new f1,?_⟩
 conv=>whnf
 refine⟨_,f1.cel rfl,?_⟩
 conv=>whnf
 refine⟨_,f1.cel rfl,?_⟩
 conv=>whnf
 refine⟨rfl,IntKind.i64.wrap (c.k*c.sh),rfl,?_⟩
 conv=>whnf
 refine⟨rfl,IntKind.i64.wrap (IntKind.i64.wrap (c.k*c.sh)+16),rfl,?_⟩
 conv=>whnf
 refine⟨rfl,IntKind.i64.wrap (IntKind.i64.wrap (IntKind.i64.wrap (c.k*c.sh)+16)+26),rfl,?_⟩
 conv=>whnf
 refine .q (s_of c _ _) ?_
 rintro _ H2 rfl e2 _
 refine⟨Qf (Value.int .i64) ?_⟩
 unfold cfSize
 split
 ·rename_i h;have:=h.b;rw[wr64 (x:=c.k*c.sh) (by omega) (by omega),wr64 (x:=c.k*c.sh+16) (by omega) (by omega)];rw[wr64 (by omega) (by omega)];omega
 ·rfl
theorem s_capa(c:Cf)(H:Heap):Spec prog 122 #[cfV c] H nob λu _=>u=.int .i64 (cfCap c):=by
 refine spx func122 ?_
 conv=>whnf
 intro H1 b f1 _
 conv=>whnf
 refine⟨cfL c,rfl,CellsAt.new f1,?_⟩
 conv=>whnf
 refine⟨_,f1.cel rfl,?_⟩
 conv=>whnf
 refine⟨_,f1.cel rfl,?_⟩
 conv=>whnf
 refine⟨rfl,IntKind.i64.wrap (c.k*c.sh),rfl,?_⟩
 conv=>whnf
 refine⟨rfl,IntKind.i64.wrap (IntKind.i64.wrap (c.k*c.sh)-4),rfl,?_⟩
 conv=>whnf
 refine .q (s_of c _ _) ?_
 rintro _ H2 rfl e2 _
 refine⟨Qf (Value.int .i64) ?_⟩
 unfold cfCap
 split
 ·rename_i h;have:=h.b;rw[wr64 (x:=c.k*c.sh) (by omega) (by omega)];exact wr64 (by omega) (by omega)
 ·rfl
def cfSlot(c:Cf)(q:Int):Int:=if cfOk c then(if q<0 then -1 else 1+q.tmod c.sl) else 0
theorem s_slot(c:Cf)(q:Int)(H:Heap):Spec prog 116 #[cfV c,.int .i64 q] H nob λu _=>u=.int .i64 (cfSlot c q):=by
 refine spx func116 ?_
 conv=>whnf
 intro H1 b f1 _
 conv=>whnf
 refine⟨cfL c,rfl,CellsAt.new f1,?_⟩
 conv=>whnf
 refine .q (s_check c _) ?_
 rintro _ H2 rfl e2 _
 have hc:=cells_keep e2 (λh=>h) (CellsAt.new (cs:=cfL c) f1)
 conv=>whnf
 refine⟨rfl,λh=>?_,λh=>?_⟩
 ·conv=>whnf
  refine⟨cfL c,rfl,hc,?_⟩
  conv=>whnf
  refine .q (s_of c _ _) ?_
  rintro _ H3 rfl e3 _
  refine⟨Qf (Value.int .i64) ?_⟩
  unfold cfSlot
  rw[if_neg (λe=>h (cfE0.2 e)),if_neg (λe=>h (cfE0.2 e))]
 ·have ho:=cfE0.1 h
  have hb:=ho.b
  conv=>whnf
  refine⟨rfl,λh2=>?_,λh2=>?_⟩
  ·conv=>whnf
   refine⟨cfL c,rfl,hc,?_⟩
   conv=>whnf
   refine .q (s_of c _ _) ?_
   rintro _ H3 rfl e3 _
   refine⟨Qf (Value.int .i64) ?_⟩
   have h2':q<0:=h2
   unfold cfSlot
   rw[if_pos ho,if_pos ho,if_pos h2']
  ·have h2':¬q<0:=h2
   conv=>whnf
   refine⟨_,e2.cel (f1.cel rfl),?_⟩
   conv=>whnf
   refine⟨rfl,(by show c.sl≠0;omega),q.tmod c.sl,rfl,?_⟩
   conv=>whnf
   have hm:0≤q.tmod c.sl:=Int.tmod_nonneg _ (by omega)
   have hm2:q.tmod c.sl<c.sl:=Int.tmod_lt_of_pos _ (by omega)
   refine⟨rfl,1+q.tmod c.sl,wr64 (by omega) (by omega),?_⟩
   refine⟨Qf (Value.int .i64) ?_⟩
   unfold cfSlot
   rw[if_pos ho,if_neg h2']
def cfStripe(c:Cf)(n:Int):Int:=if cfOk c then(if 0≤n∧n<c.st then 1+c.sl+n else -1) else 0
theorem s_stripe(c:Cf)(n:Int)(H:Heap):Spec prog 71 #[cfV c,.int .i64 n] H nob λu _=>u=.int .i64 (cfStripe c n):=by
 refine spx func71 ?_
 conv=>whnf
 intro H1 b f1 _
 conv=>whnf
 refine⟨_,f1.cel rfl,?_⟩
 conv=>whnf
 refine⟨rfl,IntKind.i64.wrap (c.st-1),rfl,?_⟩
 conv=>whnf
 refine .q (s_within n 0 _ _) ?_
 rintro _ H2 rfl e2 _
 have hc:=cells_keep e2 (λh=>h) (CellsAt.new (cs:=cfL c) f1)
 have hst:cfOk c→IntKind.i64.wrap (c.st-1)=c.st-1:=λh=>by have:=h.b;exact wr64 (by omega) (by omega)
 by_cases h:0≤n∧n≤IntKind.i64.wrap (c.st-1)
 ·rw[QO h]
  conv=>whnf
  refine⟨cfL c,rfl,hc,?_⟩
  conv=>whnf
  refine⟨_,e2.cel (f1.cel rfl),?_⟩
  conv=>whnf
  refine⟨rfl,IntKind.i64.wrap (1+c.sl),rfl,?_⟩
  conv=>whnf
  refine⟨rfl,IntKind.i64.wrap (IntKind.i64.wrap (1+c.sl)+n),rfl,?_⟩
  conv=>whnf
  refine .q (s_of c _ _) ?_
  rintro _ H3 rfl e3 _
  refine⟨Qf (Value.int .i64) ?_⟩
  unfold cfStripe
  by_cases ho:cfOk c
  ·rw[hst ho] at h
   have:=ho.b
   rw[if_pos ho,if_pos ho,if_pos (by omega),wr64 (x:=1+c.sl) (by omega) (by omega)]
   exact wr64 (by omega) (by omega)
  ·rw[if_neg ho,if_neg ho]
 ·rw[QM h]
  conv=>whnf
  refine⟨cfL c,rfl,hc,?_⟩
  conv=>whnf
  refine .q (s_of c _ _) ?_
  rintro _ H3 rfl e3 _
  refine⟨Qf (Value.int .i64) ?_⟩
  unfold cfStripe
  by_cases ho:cfOk c
  ·rw[hst ho] at h
   rw[if_pos ho,if_pos ho,if_neg (by omega)]
  ·rw[if_neg ho,if_neg ho]
attribute [irreducible] mayKM cfE cfDisks cfSectors cfSize cfCap cfSlot cfStripe
def put2(n:Int):By:=L (putV n 2)
def putsL(ns:List Int):By:=(ns.map put2).flatten
theorem putsL_snoc(ns:List Int)(n:Int):putsL (ns++[n])=putsL ns++put2 n:=by simp[putsL]
theorem putV_size(n:Int)(size:Nat):(putV n size).size≤size:=by
 unfold putV
 split
 ·exact Qk _
 ·rw[putB_L,S_size];simp[Tp.putL]
theorem putsL_len(ns:List Int):(putsL ns).length≤2*ns.length:=by
 induction ns with
 |nil=>simp[putsL]
 |cons n ns ih=>
  have:=putV_size n 2
  have h2:(put2 n).length≤2:=by unfold put2;rw[L_length];exact this
  have h3:putsL (n::ns)=put2 n++putsL ns:=by simp[putsL]
  rw[h3,Qi,Qo]
  omega
theorem s_cput(ns:List Int)(hn:∀n∈ns,n≤9223372036854775807)(hl:ns.length≤1000){b o cap:Nat}{H:Heap}(hc:CellsAt H b o (ns.map (.int .i64))):Spec prog 206 #[.slice (some ⟨b,o,none⟩) ns.length cap] H nob λu _=>u=.string (S (putsL ns)):=by
 refine spx func206 ?_
 conv=>whnf
 intro H1 g f1 _
 conv=>whnf
 refine⟨Nat,λi=>[(10,.int .i64 (i:Int))],λi H'=>i≤ns.length∧Bld H' g (putsL (ns.take i)),λi=>ns.length-i,⟨0,⟨rfl,trivial⟩,Qk _,Bld.new f1⟩,?_⟩
 rintro i H2 junk ⟨hi,hb⟩ F
 conv=>whnf
 refine⟨rfl,λh=>?_,λh=>?_⟩
 ·have h':i<ns.length:=by have:(i:Int)<(ns.length:Int):=h;omega
  conv=>whnf
  refine⟨i,rfl,h',?_⟩
  have hx:ns[i]? =some ns[i]:=by simp[h']
  have hcell:=F.cel (hc.get (j:=i) (v:=.int .i64 ns[i]) (by rw[Qp,hx];rfl))
  conv=>whnf
  refine⟨_,hcell,?_⟩
  conv=>whnf
  refine .q (s_put ns[i] 2 (by decide) (by decide) (hn _ (by simp)) _) ?_
  rintro _ H3 rfl e3 _
  conv=>whnf
  have hlen:(putsL (ns.take i)).length≤2*i:=Qb (putsL_len _) (by simp;omega)
  have hsz:=putV_size ns[i] 2
  have hb3:Bld H3 g (putsL (ns.take i)):=hb.q e3
  refine .t (s_bws (putV ns[i] 2) hb3 (by omega)) (λk hk=>.inr (Qb (Z8 f1.size.2.symm) hk.1)) ?_
  rintro _ H4 ⟨rfl,hb4⟩ e4 _
  conv=>whnf
  refine⟨rfl,((i+1:Nat):Int),wr64 (by omega) (by omega),?_⟩
  refine⟨i+1,⟨rfl,trivial⟩,⟨h',?_⟩,by show ns.length-(i+1)<ns.length-i;omega⟩
  rw[Yr h',putsL_snoc]
  exact hb4
 ·have:i=ns.length:=by have:¬(i:Int)<(ns.length:Int):=h;omega
  subst this
  conv=>whnf
  refine .t (s_bstr hb) (λk hk=>.inr (Qb (Z8 f1.size.2.symm) hk.1)) ?_
  rintro _ H4 ⟨rfl,_⟩ e4 _
  exact⟨Qf (λl=>Value.string (S (putsL l))) Zx⟩
def mCONF:By:=[67,79,78,70]
def cfW(c:Cf):By:=if cfOk c then mCONF++putsL [c.k,c.m,c.sh,c.st,c.sl] else []
theorem s_cwrite(c:Cf)(H:Heap):Spec prog 142 #[cfV c] H nob λu _=>u=.tuple #[.string (S (cfW c)),.int .i64 (cfE c)]:=by
 refine spx func142 ?_
 conv=>whnf
 intro H1 b f1 _
 conv=>whnf
 refine⟨cfL c,rfl,CellsAt.new f1,?_⟩
 conv=>whnf
 refine .q (s_check c _) ?_
 rintro _ H2 rfl e2 _
 conv=>whnf
 refine⟨rfl,λh=>?_,λh=>?_⟩
 ·have h':¬cfOk c:=λe=>h (cfE0.2 e)
  refine⟨?_⟩
  show Value.tuple #[.string (S []),.int .i64 (cfE c)]=_
  unfold cfW
  rw[if_neg h']
 ·have ho:=cfE0.1 h
  have hb:=ho.b
  conv=>whnf
  refine⟨_,e2.cel (f1.cel rfl),?_⟩
  conv=>whnf
  refine⟨_,e2.cel (f1.cel rfl),?_⟩
  conv=>whnf
  refine⟨_,e2.cel (f1.cel rfl),?_⟩
  conv=>whnf
  refine⟨_,e2.cel (f1.cel rfl),?_⟩
  conv=>whnf
  refine⟨_,e2.cel (f1.cel rfl),?_⟩
  conv=>whnf
  refine⟨rfl,?_⟩
  intro H3 r f3 _
  have hr:CellsAt H3 r 0 ([c.k,c.m,c.sh,c.st,c.sl].map (.int .i64)):=CellsAt.new (cs:=[c.k,c.m,c.sh,c.st,c.sl].map (.int .i64)) f3
  conv=>whnf
  refine .q (s_cput [c.k,c.m,c.sh,c.st,c.sl] (λn hn=>by simp at hn;rcases hn with rfl|rfl|rfl|rfl|rfl<;>omega) (by simp) hr) ?_
  rintro _ H4 rfl e4 _
  have hl:=putsL_len [c.k,c.m,c.sh,c.st,c.sl]
  conv=>whnf
  refine⟨by show(S mCONF).size+(S (putsL [c.k,c.m,c.sh,c.st,c.sl])).size≤_;rw[S_size,S_size];simp at hl;show 4+_≤_;omega,S (mCONF++putsL [c.k,c.m,c.sh,c.st,c.sl]),append_S mCONF _,?_⟩
  refine⟨?_⟩
  show Value.tuple #[.string (S (mCONF++putsL [c.k,c.m,c.sh,c.st,c.sl])),.int .i64 0]=_
  unfold cfW cfE
  rw[if_pos ho,if_pos ho]
def restN(s:By):Nat→By
 |0=>s
 |i+1=>cutR (restN s i) 2
def numN(s:By)(i:Nat):Int:=cutV (restN s i) 2
def cfOf(s:By):Cf:=⟨numN s 0,numN s 1,numN s 2,numN s 3,numN s 4⟩
def cfNf(f:Nat→Int)(i:Nat):List Value:=(List.range 5).map λj=>.int .i64 (if j<i then f j else 0)
theorem cfNf_put(f:Nat→Int)(i:Nat)(hi:i<5):Vc.putL (cfNf f i) i [.int .i64 (f i)]=cfNf f (i+1):=by
 match i,hi with
 |0,_=>rfl
 |1,_=>rfl
 |2,_=>rfl
 |3,_=>rfl
 |4,_=>rfl
theorem cfNf_all(f:Nat→Int):cfNf f 5=cfL ⟨f 0,f 1,f 2,f 3,f 4⟩:=rfl
def cf0:Cf:=⟨0,0,0,0,0⟩
def cfRead(s:By):Cf×Int:=if Lib.hasPrefix s mCONF=true∧(Lib.trimPrefix s mCONF).length=10∧cfOk (cfOf (Lib.trimPrefix s mCONF)) then(cfOf (Lib.trimPrefix s mCONF),0) else(cf0,5)
theorem s_cread(s:ByteArray)(H:Heap):Spec prog 63 #[.string s] H nob λu _=>u=.tuple #[cfV (cfRead (L s)).1,.int .i64 (cfRead (L s)).2]:=by
 refine spx func63 ?_
 have hno:¬(Lib.hasPrefix (L s) mCONF=true∧(Lib.trimPrefix (L s) mCONF).length=10∧cfOk (cfOf (Lib.trimPrefix (L s) mCONF)))→cfRead (L s)=(cf0,5):=λh=>by unfold cfRead;rw[if_neg h]
 have hyes:(Lib.hasPrefix (L s) mCONF=true∧(Lib.trimPrefix (L s) mCONF).length=10∧cfOk (cfOf (Lib.trimPrefix (L s) mCONF)))→cfRead (L s)=(cfOf (Lib.trimPrefix (L s) mCONF),0):=λh=>by unfold cfRead;rw[if_pos h]
 generalize cfRead (L s)=rd at hno hyes⊢
 conv=>whnf
 intro H1 r f1 _
 have hr1:H1[r]? =some (.cells (cfL cf0).toArray 23 (0,0)):=f1.at
 conv=>whnf
 refine .q (s_cutp s (S mCONF) _) ?_
 rintro _ _ ⟨rfl,rfl⟩ e2 _
 rw[L_S]
 generalize Lib.trimPrefix (L s) mCONF=rest at hno hyes⊢
 have hS:∀k,k=r→nob k∨H.size≤k:=λk hk=>.inr (by rw[hk,f1.size.2];exact Qd _)
 have hbad:∀{H2 H3:Heap} {env:Env},Upd H2 H3 r (.cells (cfL cf0).toArray 23 (0,0))→rd=(cf0,5)→env 2=.pointer (some ⟨r,0,none⟩)→env 3=.int .i64 5→
   FinVC prog env H3 (λu _=>u=.tuple #[cfV rd.1,.int .i64 rd.2]) [.cell 2 23,.tmp 3]:=by
  intro H2 H3 env u3 hn h2 h3
  subst hn
  refine⟨?_⟩
  unfold ResVC
  dsimp only
  rw[h2,h3]
  exact⟨cfL cf0,rfl,CellsAt.at u3.1,rfl⟩
 cases hp:Lib.hasPrefix (L s) mCONF with
 |false=>
  rw[hp] at hno hyes
  conv=>whnf
  refine⟨rfl,?_⟩
  refine .k (cfL cf0) hr1 (hS _ rfl) rfl rfl ?_
  intro H3 u3 _
  conv=>whnf
  refine hbad u3 (hno λh=>by cases h.1) ?_ ?_<;>rfl
 |true=>
  rw[hp] at hno hyes
  conv=>whnf
  refine⟨rfl,λhlen=>?_,λhlen=>?_⟩
  ·conv=>whnf
   refine⟨rfl,?_⟩
   refine .k (cfL cf0) hr1 (hS _ rfl) rfl rfl ?_
   intro H3 u3 _
   conv=>whnf
   refine hbad u3 (hno λh=>(hlen (by show((S rest).size:Int)=10;rw[S_size,h.2.1];rfl)).elim) ?_ ?_<;>rfl
  ·have hl10:rest.length=10:=by have:((S rest).size:Int)=10:=hlen;rw[S_size] at this;omega
   conv=>whnf
   intro H2 g f2 _
   have hg2:H2[g]? =some (.cells (cfNf (numN rest) 0).toArray 23 (0,0)):=f2.at
   have hr2:=f2.e.blk hr1
   have hgr:g≠r:=λe=>by have h1:=f2.size.2;have h2:=(Qa.1 hr1).1;omega
   conv=>whnf
   refine⟨rfl,?_⟩
   intro H3 q f3 _
   have hq3:H3[q]? =some (.cells ((List.range 5).map λj=>Value.pointer (some ⟨g,j,none⟩)).toArray 180 (0,0)):=f3.at
   have hg3:=f3.e.blk hg2
   have hr3:=f3.e.blk hr2
   have hqg:q≠g:=λe=>by have h1:=f3.size.2;have h2:=(Qa.1 hg2).1;omega
   conv=>whnf
   refine⟨Nat,λi=>[(29,.int .i64 (i:Int)),(4,.string (S (restN rest i)))],λi H'=>i≤5∧H'[g]? =some (.cells (cfNf (numN rest) i).toArray 23 (0,0))∧H'[r]? =some (.cells (cfL cf0).toArray 23 (0,0))∧H'[q]? =some (.cells ((List.range 5).map λj=>Value.pointer (some ⟨g,j,none⟩)).toArray 180 (0,0)),λi=>5-i,⟨0,⟨rfl,rfl,trivial⟩,by decide,hg3,hr3,hq3⟩,?_⟩
   rintro i H4 junk ⟨hi,hg4,hr4,hq4⟩ F
   have hgS:nob g∨H.size≤g:=.inr (by have h1:=f2.size.2;have h2:=f1.size;omega)
   conv=>whnf
   refine⟨rfl,λh=>?_,λh=>?_⟩
   ·have hi5:i<5:=by have:(i:Int)<5:=h;omega
    conv=>whnf
    refine⟨i,rfl,hi5,?_⟩
    have hcell:cel H4 ⟨q,0+i,none⟩=some (.pointer (some ⟨g,i,none⟩)):=cel_of hq4 (by rw[Qr,Qq,Qp,ZR hi5];rfl)
    conv=>whnf
    refine⟨_,hcell,?_⟩
    conv=>whnf
    refine .q (s_cut (S (restN rest i)) 2 (by decide) (by decide) _) ?_
    rintro _ H5 rfl e5 _
    rw[L_S]
    have hput:=cfNf_put (numN rest) i hi5
    rw[show numN rest i=cutV (restN rest i) 2 from rfl] at hput
    have hst:=λz:Int=>stoB_one (P:=prog) (t:=3) (v:=.int .i64 z) (o:=i) (n:=5) rfl rfl rfl hi5
    generalize cutV (restN rest i) 2=z at hput⊢
    conv=>whnf
    refine .k (cfNf (numN rest) (i+1)) (e5.blk hg4) hgS (hst z) hput ?_
    intro H6 u6 _
    conv=>whnf
    refine⟨rfl,((i+1:Nat):Int),wr64 (by omega) (by omega),?_⟩
    exact⟨i+1,⟨rfl,rfl,trivial⟩,⟨hi5,u6.1,(u6.2.2 r (Yu hgr)).trans (e5.blk hr4),(u6.2.2 q hqg).trans (e5.blk hq4)⟩,by show 5-(i+1)<5-i;omega⟩
   ·obtain rfl:i=5:=by have:¬(i:Int)<5:=h;omega
    rw[cfNf_all,←show cfOf rest=⟨numN rest 0,numN rest 1,numN rest 2,numN rest 3,numN rest 4⟩ from rfl] at hg4
    conv=>whnf
    refine⟨cfL (cfOf rest),rfl,CellsAt.at hg4,?_⟩
    conv=>whnf
    refine .q (s_check (cfOf rest) _) ?_
    rintro _ H5 rfl e5 _
    conv=>whnf
    refine⟨rfl,λh=>?_,λh=>?_⟩
    ·conv=>whnf
     refine⟨rfl,?_⟩
     refine .k (cfL cf0) (e5.blk hr4) (hS _ rfl) rfl rfl ?_
     intro H6 u6 _
     conv=>whnf
     refine hbad u6 (hno λe=>h (cfE0.2 e.2.2)) ?_ ?_<;>rfl
    ·conv=>whnf
     refine⟨cfL (cfOf rest),rfl,CellsAt.at (e5.blk hg4),?_⟩
     conv=>whnf
     refine .k (cfL (cfOf rest)) (e5.blk hr4) (hS _ rfl) rfl rfl ?_
     intro H6 u6 _
     conv=>whnf
     obtain rfl:=hyes ⟨rfl,hl10,cfE0.1 h⟩
     refine⟨?_⟩
     conv=>whnf
     exact⟨cfL (cfOf rest),rfl,CellsAt.at u6.1,rfl⟩
attribute [irreducible] cfW cfRead put2 putsL
def ptr(g o:Nat):Value:=.pointer (some ⟨g,o,none⟩)
structure Blk where
 array:Int
 disk:Int
 place:Int
 epoch:Int
 text:By
deriving DecidableEq
def blkL(b:Blk):List Value:=[.int .i64 b.array,.int .i64 b.disk,.int .i64 b.place,.int .i64 b.epoch,.string (S b.text)]
def blkV(b:Blk):Value:=.agg (blkL b).toArray
def fieldsL(g:Nat):List Value:=[ptr g 0,.int .i64 4,ptr g 1,.int .i64 2,ptr g 2,.int .i64 4,ptr g 3,.int .i64 7]
theorem s_fields(g:Nat)(H:Heap):Spec prog 196 #[ptr g 0] H nob λu H'=>∃r,u=.slice (some ⟨r,0,none⟩) 4 4∧H'[r]? =some (.cells (fieldsL g).toArray 261 (0,0))∧H.size≤r:=by
 refine spx func196 ?_
 conv=>whnf
 refine .q (by kernel_rfl) ?_
 conv=>whnf
 refine⟨rfl,?_⟩
 conv=>whnf
 refine⟨rfl,?_⟩
 conv=>whnf
 refine⟨rfl,?_⟩
 conv=>whnf
 refine⟨rfl,?_⟩
 conv=>whnf
 refine⟨rfl,?_⟩
 intro H1 r f1 _
 exact⟨r,rfl,f1.at,Z8 f1.size.2.symm⟩
def firstE:List Int→Int
 |[]=>0
 |e::r=>if e=0 then firstE r else e
theorem firstE_snoc(l:List Int)(x:Int):firstE (l++[x])=if firstE l=0 then x else firstE l:=by
 induction l with
 |nil=>simp[firstE];exact λh=>h.symm
 |cons e r ih=>
  simp only[QR,firstE]
  by_cases h:e=0
  ·simp[h,ih]
  ·simp[h]
def TE(H:Heap)(ge gb:Nat):Nat→Prop:=λk=>k=ge∨TB H gb k
theorem s_put1(t:ByteArray)(f e:Int){H:Heap}{ge gb:Nat}{l:By}(he:H[ge]? =some (.cells [Value.int .i64 e].toArray 29 (0,0)))(hb:Bld H gb l)(hl:l.length+t.size≤140737488355328):
  Spec prog 195 #[.string t,.int .i64 f,ptr ge 0,ptr gb 0] H (TE H ge gb) λu H'=>u=.tuple #[]∧H'[ge]? =some (.cells [Value.int .i64 (if e=0 then f else e)].toArray 29 (0,0))∧Bld H' gb (l++L t):=by
 refine spx func195 ?_
 have hgT:¬TB H gb ge:=hb.ne he (by decide) (by decide)
 conv=>whnf
 refine⟨_,cel_of he rfl,?_⟩
 conv=>whnf
 refine⟨rfl,λh0=>?_,λh0=>?_⟩
 ·conv=>whnf
  refine .k [.int .i64 f] he (.inl (.inl rfl)) rfl rfl ?_
  intro H1 u1 F1
  conv=>whnf
  refine .t (s_bws t (hb.upd he (by decide) (by decide) u1) hl) (λk hk=>(TB.upd u1 (by decide) hk).elim (λh=>.inl (.inr h)) (λh=>.inl (.inl h))) ?_
  rintro _ H2 ⟨rfl,hb2⟩ e2 _
  refine⟨⟨rfl,?_,hb2⟩⟩
  rw[if_pos h0]
  exact e2.blkT u1.1 ((hb.upd he (by decide) (by decide) u1).ne u1.1 (by decide) (by decide))
 ·conv=>whnf
  refine .t (s_bws t hb hl) (λk hk=>.inl (.inr hk)) ?_
  rintro _ H2 ⟨rfl,hb2⟩ e2 _
  refine⟨⟨rfl,?_,hb2⟩⟩
  rw[if_neg h0]
  exact e2.blkT he hgT
theorem TE.back{H H':Heap}{ge gb k:Nat}(hF:Frm nob H H')(hk:TE H' ge gb k):TE H ge gb k∨H.size≤k:=by
 rcases YE k H.size with h|h
 ·exact .inl (hk.elim .inl λhk=>.inr (TB.back hF hk h id))
 ·exact .inr h
def mSPL:By:=[83,80,76]
def numB(b:Blk)(i:Nat):Int:=match i with|0=>b.array|1=>b.disk|2=>b.place|_=>b.epoch
def szB(i:Nat):Nat:=match i with|0=>4|1=>2|2=>4|_=>7
def partsB(b:Blk)(i:Nat):By:=((List.range i).map λj=>L (putV (numB b j) (szB j))).flatten
def errsB(b:Blk)(i:Nat):List Int:=(List.range i).map λj=>putE (numB b j) (szB j)
theorem partsB_succ(b:Blk)(i:Nat):partsB b (i+1)=partsB b i++L (putV (numB b i) (szB i)):=by
 unfold partsB
 rw[ZC,Qy,Yf]
 simp
theorem errsB_succ(b:Blk)(i:Nat):errsB b (i+1)=errsB b i++[putE (numB b i) (szB i)]:=by
 unfold errsB
 rw[ZC,Qy]
 rfl
def sealE(b:Blk):Int:=firstE (errsB b 4++[textE b.text])
def sealH(b:Blk):By:=mSPL++partsB b 4++textV b.text
def sealV(b:Blk):By:=if sealE b=0 then sealH b++L (putV (crcL (sealH b)) 4) else []
def blkB(b:Blk):Prop:=b.array≤9223372036854775807∧b.disk≤9223372036854775807∧b.place≤9223372036854775807∧b.epoch≤9223372036854775807∧b.text.length≤1000000000000
theorem partsB_len(b:Blk)(i:Nat)(h:i≤4):(partsB b i).length≤28:=by
 have hs:∀j,(L (putV (numB b j) (szB j))).length≤7:=λj=>by
  rw[L_length]
  exact Qb (putV_size _ _) (by unfold szB;split<;>decide)
 have:∀i,(partsB b i).length≤7*i:=by
  intro i
  induction i with
  |zero=>simp[partsB]
  |succ i ih=>rw[partsB_succ,Qi];have:=hs i;omega
 have:=this i
 omega
theorem s_seal(b:Blk)(hB:blkB b)(H:Heap):Spec prog 126 #[blkV b] H nob λu _=>u=.tuple #[.string (S (sealV b)),.int .i64 (sealE b)]:=by
 obtain⟨h1,h2,h3,h4,h5⟩:=hB
 refine spx func126 ?_
 conv=>whnf
 intro H1 g f1 _
 have hg1:H1[g]? =some (.cells (blkL b).toArray 130 (0,0)):=f1.at
 conv=>whnf
 intro H2 gb f2 _
 have hg2:=f2.e.blk hg1
 have hgbs:H.size≤gb:=by have h1:=f2.size.2;have h2:=f1.size;omega
 have hSB:∀{X:Heap} k,TB X gb k→nob k∨H.size≤k:=λk hk=>.inr (Qb hgbs hk.1)
 conv=>whnf
 refine .t (s_bws (S mSPL) (Bld.new f2) (by rw[S_size];decide)) hSB ?_
 rintro _ H3 ⟨rfl,hb3⟩ e3 _
 rw[L_S,QI] at hb3
 have hg3:=e3.blkT hg2 ((Bld.new f2).ne hg2 (by decide) (by decide))
 conv=>whnf
 intro H4 ge f4 _
 have hge4:H4[ge]? =some (.cells [Value.int .i64 0].toArray 29 (0,0)):=f4.at
 have hb4:=hb3.q f4.e
 have hg4:=f4.e.blk hg3
 have hges:H.size≤ge:=by have h1:=f4.size.2;have h2:=e3.1;have h3:=f2.size;have h4:=f1.size;omega
 have hgge:g≠ge:=λe=>by rw[e] at hg4;rw[hg4] at hge4;simp at hge4
 have hST:∀{X:Heap} k,TE X ge gb k→nob k∨H.size≤k:=λk hk=>hk.elim (λe=>.inr (by rw[e];exact hges)) (λh=>hSB k h)
 conv=>whnf
 refine .k [.int .i64 0] hge4 (.inr hges) rfl rfl ?_
 intro H5 u5 _
 have hb5:=hb4.upd hge4 (by decide) (by decide) u5
 have hg5:H5[g]? =_:=(u5.2.2 g hgge).trans hg4
 conv=>whnf
 refine .q (s_fields g _) ?_
 rintro _ H6 ⟨r,rfl,hr6,hrs⟩ e6 _
 have hge6:=e6.blk u5.1
 have hg6:=e6.blk hg5
 have hb6:=hb5.q e6
 have hrge:r≠ge:=λe=>by rw[e] at hr6;rw[hr6] at hge6;simp[fieldsL] at hge6
 conv=>whnf
 refine⟨Nat,λi=>[(13,.int .i64 (i:Int))],λi H'=>i≤4∧H'[g]? =some (.cells (blkL b).toArray 130 (0,0))∧H'[r]? =some (.cells (fieldsL g).toArray 261 (0,0))∧H'[ge]? =some (.cells [Value.int .i64 (firstE (errsB b i))].toArray 29 (0,0))∧Bld H' gb (mSPL++partsB b i),λi=>4-i,
  ⟨0,⟨rfl,trivial⟩,by decide,hg6,hr6,hge6,hb6⟩,?_⟩
 rintro i H7 junk ⟨hi,hg7,hr7,hge7,hb7⟩ F7
 have hnT:∀{X:Heap} {k:Nat} {cs:Array Value} {t:TypeId} {l:By},Bld X gb l→X[k]? =some (.cells cs t (0,0))→k≠ge→t≠5→t≠225→¬TE X ge gb k:=λhb hk hne h1 h2 h=>h.elim hne (hb.ne hk h1 h2)
 conv=>whnf
 refine⟨rfl,λh=>?_,λh=>?_⟩
 ·have hi4:i<4:=by have:(i:Int)<4:=h;omega
  have hfi:CellsAt H7 r (0+i*2) [ptr g i,.int .i64 ((szB i:Nat):Int)]:=by
   match i,hi4 with
   |0,_=>exact⟨cel_of hr7 rfl,cel_of hr7 rfl,trivial⟩
   |1,_=>exact⟨cel_of hr7 rfl,cel_of hr7 rfl,trivial⟩
   |2,_=>exact⟨cel_of hr7 rfl,cel_of hr7 rfl,trivial⟩
   |3,_=>exact⟨cel_of hr7 rfl,cel_of hr7 rfl,trivial⟩
  have hgi:∀{X:Heap},X[g]? =some (.cells (blkL b).toArray 130 (0,0))→cel X ⟨g,i,none⟩=some (.int .i64 (numB b i)):=λhX=>by
   match i,hi4 with
   |0,_=>exact cel_of hX rfl
   |1,_=>exact cel_of hX rfl
   |2,_=>exact cel_of hX rfl
   |3,_=>exact cel_of hX rfl
  have hnb:numB b i≤9223372036854775807:=by unfold numB;split<;>assumption
  have hsz:1≤szB i∧szB i≤7:=by unfold szB;split<;>decide
  have hps:=partsB_len b i hi
  have hv:=putV_size (numB b i) (szB i)
  have hpS:=partsB_succ b i
  have heS:=errsB_succ b i
  generalize numB b i=x at*
  generalize szB i=z at*
  conv=>whnf
  refine⟨i,rfl,hi4,?_⟩
  conv=>whnf
  refine⟨[ptr g i,.int .i64 (z:Int)],rfl,hfi,?_⟩
  conv=>whnf
  intro H8 q f8 _
  have hq8:H8[q]? =some (.cells [Value.pointer none,.int .i64 0].toArray 261 (0,0)):=f8.at
  have hqs:H.size≤q:=by have h1:=f8.size.2;have h2:=F7.1;have h2':H.size≤H7.size:=h2;omega
  have hge8:=f8.e.blk hge7
  have hqge:q≠ge:=λe=>by rw[e] at hq8;rw[hq8] at hge8;simp at hge8
  conv=>whnf
  refine .k [ptr g i,.int .i64 (z:Int)] hq8 (.inr hqs) rfl rfl ?_
  intro H9 u9 _
  have hqg:g≠q:=λe=>by have h1:=f8.size.2;have h2:=(Qa.1 hg7).1;omega
  have hqr:r≠q:=λe=>by have h1:=f8.size.2;have h2:=(Qa.1 hr7).1;omega
  have hb9:=(hb7.q f8.e).upd hq8 (by decide) (by decide) u9
  have hg9:=(u9.2.2 g hqg).trans (f8.e.blk hg7)
  have hr9:=(u9.2.2 r hqr).trans (f8.e.blk hr7)
  have hge9:=(u9.2.2 ge (Yu hqge)).trans hge8
  conv=>whnf
  refine .t (TE H9 ge gb) hST (by kernel_rfl) ?_
  conv=>whnf
  refine⟨hnT hb9 u9.1 hqge (by decide) (by decide),_,cel_of u9.1 rfl,?_⟩
  conv=>whnf
  refine⟨hnT hb9 hg9 hgge (by decide) (by decide),_,hgi hg9,?_⟩
  conv=>whnf
  refine⟨hnT hb9 u9.1 hqge (by decide) (by decide),_,cel_of u9.1 rfl,?_⟩
  conv=>whnf
  refine .q (s_put x z hsz.1 hsz.2 hnb _) ?_
  rintro _ H10 rfl e10 _
  conv=>whnf
  refine .t (s_put1 (putV x z) (putE x z) _ (e10.blk hge9) (hb9.q e10) (by simp[mSPL];omega)) (λk hk=>TE.back e10 hk) ?_
  rintro _ H11 ⟨rfl,hge11,hb11⟩ e11 _
  conv=>whnf
  refine⟨rfl,((i+1:Nat):Int),wr64 (by omega) (by omega),?_⟩
  refine⟨i+1,⟨rfl,trivial⟩,⟨hi4,e11.blkT (e10.blk hg9) (hnT (hb9.q e10) (e10.blk hg9) hgge (by decide) (by decide)),e11.blkT (e10.blk hr9) (hnT (hb9.q e10) (e10.blk hr9) hrge (by decide) (by decide)),?_,?_⟩,by show 4-(i+1)<4-i;omega⟩
  ·rw[heS,firstE_snoc];exact hge11
  ·rw[hpS,←Qt];exact hb11
 ·obtain rfl:i=4:=by have:¬(i:Int)<4:=h;omega
  have hps:=partsB_len b 4 (by decide)
  have htl:=textV_len b.text
  conv=>whnf
  refine⟨_,cel_of hg7 rfl,?_⟩
  conv=>whnf
  refine .q (s_text (S b.text) (by rw[S_size];omega) _) ?_
  rintro _ H8 rfl e8 _
  rw[L_S]
  have hge8:=e8.blk hge7
  have hg8:=e8.blk hg7
  conv=>whnf
  refine .t (s_put1 (S (textV b.text)) (textE b.text) _ hge8 (hb7.q e8) (by rw[S_size];simp[mSPL];omega)) hST ?_
  rintro _ H9 ⟨rfl,hge9,hb9⟩ e9 _
  rw[←firstE_snoc] at hge9
  rw[L_S] at hb9
  have hE:firstE (errsB b 4++[textE b.text])=sealE b:=rfl
  have hH:mSPL++partsB b 4++textV b.text=sealH b:=rfl
  rw[hE] at hge9
  rw[hH] at hb9
  have hHl:(sealH b).length≤1000000000100:=by unfold sealH;simp[mSPL];omega
  conv=>whnf
  refine⟨_,cel_of hge9 rfl,?_⟩
  conv=>whnf
  refine⟨rfl,λh0=>?_,λh0=>?_⟩
  ·conv=>whnf
   refine .q (by kernel_rfl) ?_
   conv=>whnf
   refine⟨id,_,cel_of hge9 rfl,?_⟩
   refine⟨?_⟩
   show Value.tuple #[.string (S []),.int .i64 (sealE b)]=_
   unfold sealV
   rw[if_neg h0]
  ·have h0':sealE b=0:=h0
   conv=>whnf
   refine .t (s_bstr hb9) hSB ?_
   rintro _ H10 ⟨rfl,hb10⟩ e10 _
   have hge10:=e10.blkT hge9 (hb9.ne hge9 (by decide) (by decide))
   conv=>whnf
   refine .q (s_sum (S (sealH b)) (by rw[S_size];omega) _) ?_
   rintro _ H11 rfl e11 _
   rw[L_S]
   have hcl:=crcL_lt (sealH b)
   have hsv:=putV_size (crcL (sealH b):Int) 4
   have hfin:sealV b=sealH b++L (putV (crcL (sealH b):Int) 4):=by unfold sealV;rw[if_pos h0']
   generalize crcL (sealH b)=cz at*
   conv=>whnf
   refine⟨(cz:Int),wr64 (by omega) (by omega),?_⟩
   conv=>whnf
   refine .q (s_put cz 4 (by decide) (by decide) (by omega) _) ?_
   rintro _ H12 rfl e12 _
   conv=>whnf
   refine .t (s_put1 (putV cz 4) (putE cz 4) _ ((e11.trans e12).blk hge10) (hb10.q (e11.trans e12)) (by omega)) hST ?_
   rintro _ H13 ⟨rfl,_,hb13⟩ e13 _
   conv=>whnf
   refine .t (s_bstr hb13) hSB ?_
   rintro _ H14 ⟨rfl,_⟩ e14 _
   refine⟨?_⟩
   show Value.tuple #[.string (S (sealH b++L (putV cz 4))),.int .i64 0]=_
   rw[hfin,h0']
attribute [irreducible] sealV sealE sealH
theorem extract_take(s:ByteArray)(n:Nat):s.extract 0 n=S ((L s).take n):=by
 have h1:(s.extract 0 n).data.toList=(L s).take n:=by simp[Y0,L]
 exact(S_L _).symm.trans (Qf S h1)
theorem extract_drop(s:ByteArray)(n m:Nat)(h:s.size≤m):s.extract n m=S ((L s).drop n):=by
 have h1:(s.extract n m).data.toList=(L s).drop n:=by
  have hl:(L s).length=s.size:=L_length s
  simp only[L] at hl
  simp[Y0,L]
  rw[QU (by simp[hl];omega)]
 exact(S_L _).symm.trans (Qf S h1)
def restB(s:By):Nat→By
 |0=>s
 |i+1=>cutR (restB s i) (szB i)
def numC(s:By)(i:Nat):Int:=cutV (restB s i) (szB i)
def blkN(f:Nat→Int)(i:Nat):List Value:=((List.range 4).map λj=>Value.int .i64 (if j<i then f j else 0))++[.string (S [])]
theorem blkN_put(f:Nat→Int)(i:Nat)(hi:i<4):Vc.putL (blkN f i) i [.int .i64 (f i)]=blkN f (i+1):=by
 match i,hi with
 |0,_=>rfl
 |1,_=>rfl
 |2,_=>rfl
 |3,_=>rfl
def blk0:Blk:=⟨0,0,0,0,[]⟩
def blkOf(r:By):Blk:=⟨numC r 0,numC r 1,numC r 2,numC r 3,takeT (restB r 4)⟩
theorem blkN_all(f:Nat→Int)(t:By):Vc.putL (blkN f 4) 4 [.string (S t)]=blkL ⟨f 0,f 1,f 2,f 3,t⟩:=rfl
def openV(s r:By)(is:Bool):Blk×Int:=
 if s.length<26 then(blk0,4) else if is=false then(blk0,5) else
 if takeE (restB r 4)≠0 then(blk0,4) else if(takeR (restB r 4)).length<4 then(blk0,4) else if 4<(takeR (restB r 4)).length then(blk0,5) else
 if cutV (takeR (restB r 4)) 4≠crcL (s.take (s.length-4)) then(blk0,6) else(blkOf r,0)
def blkOpen(s:By):Blk×Int:=openV s (Lib.trimPrefix s mSPL) (Lib.hasPrefix s mSPL)
theorem s_bopen(s:ByteArray)(hs:s.size≤1000000000000)(H:Heap):Spec prog 183 #[.string s] H nob λu _=>u=.tuple #[blkV (blkOpen (L s)).1,.int .i64 (blkOpen (L s)).2]:=by
 have hrd:blkOpen (L s)=openV (L s) (Lib.trimPrefix (L s) mSPL) (Lib.hasPrefix (L s) mSPL):=rfl
 have hP:=λH=>s_cutp s (S mSPL) H
 rw[L_S] at hP
 generalize blkOpen (L s)=rd at hrd⊢
 generalize Lib.trimPrefix (L s) mSPL=rest at hrd hP
 generalize Lib.hasPrefix (L s) mSPL=is at hrd hP
 have hT:=λH=>s_take (S (restB rest 4)) H
 have hall:Vc.putL (blkN (numC rest) 4) 4 [.string (S (takeT (restB rest 4)))]=blkL (blkOf rest):=blkN_all _ _
 unfold openV at hrd
 rw[L_S] at hT
 generalize takeT (restB rest 4)=tt at hT hrd hall
 generalize takeR (restB rest 4)=tr at hT hrd
 generalize takeE (restB rest 4)=te at hT hrd
 have hC:=λH=>s_cut (S tr) 4 (by decide) (by decide) H
 rw[L_S] at hC
 generalize cutV tr 4=cv at hC hrd
 generalize cutR tr 4=cr at hC
 generalize cutE tr 4=ce at hC
 have hX:=λH=>s_sum (S ((L s).take (s.size-4))) (by rw[S_size,QC,L_length];omega) H
 have hcl:=crcL_lt ((L s).take (s.size-4))
 rw[L_length] at hrd
 rw[L_S] at hX
 generalize crcL ((L s).take (s.size-4))=cx at hX hcl hrd
 have hF:∀i,i<4→∀H,Spec prog 113 #[.string (S (restB rest i)),.int .i64 (szB i:Nat)] H nob λu _=>u=.tuple #[.int .i64 (numC rest i),.string (S (restB rest (i+1))),.int .i64 (cutE (restB rest i) (szB i))]:=λi hi H=>by
  have h:=s_cut (S (restB rest i)) (szB i) (by unfold szB;split<;>decide) (by unfold szB;split<;>decide) H
  rw[L_S] at h
  exact h
 have hput:=λi hi=>blkN_put (numC rest) i hi
 refine spx func183 ?_
 conv=>whnf
 intro H1 r f1 _
 have hr1:H1[r]? =some (.cells (blkL blk0).toArray 130 (0,0)):=f1.at
 have hrs:r=H.size:=f1.size.2
 conv=>whnf
 refine .q (hP _) ?_
 rintro _ _ ⟨rfl,rfl⟩ e2 _
 have hS:nob r∨H.size≤r:=.inr (Z8 hrs.symm)
 have hbad:∀{H2 H3:Heap} {env:Env} {x:Int},Upd H2 H3 r (.cells (blkL blk0).toArray 130 (0,0))→rd=(blk0,x)→env 2=.pointer (some ⟨r,0,none⟩)→env 3=.int .i64 x→
   FinVC prog env H3 (λu _=>u=.tuple #[blkV rd.1,.int .i64 rd.2]) [.cell 2 130,.tmp 3]:=by
  intro H2 H3 env x u3 hn h2 h3
  subst hn
  refine⟨?_⟩
  unfold ResVC
  dsimp only
  rw[h2,h3]
  exact⟨blkL blk0,rfl,CellsAt.at u3.1,rfl⟩
 conv=>whnf
 refine⟨rfl,λhlen=>?_,λhlen=>?_⟩
 ·have hlen':s.size<26:=by have:(s.size:Int)<26:=hlen;omega
  conv=>whnf
  refine⟨rfl,?_⟩
  refine .k (blkL blk0) hr1 hS rfl rfl ?_
  intro H3 u3 _
  conv=>whnf
  refine hbad u3 (hrd.trans (if_pos hlen')) ?_ ?_<;>rfl
 have hlen':¬s.size<26:=by have:¬(s.size:Int)<26:=hlen;omega
 rw[if_neg hlen'] at hrd
 cases is with
 |false=>
  conv=>whnf
  refine⟨rfl,?_⟩
  refine .k (blkL blk0) hr1 hS rfl rfl ?_
  intro H3 u3 _
  conv=>whnf
  refine hbad u3 (hrd.trans (if_pos rfl)) ?_ ?_<;>rfl
 |true=>
  rw[if_neg (by decide)] at hrd
  conv=>whnf
  intro H2 g f2 _
  have hg2:H2[g]? =some (.cells (blkN (numC rest) 0).toArray 130 (0,0)):=f2.at
  have hr2:=f2.e.blk hr1
  have hgs:H.size<g:=by have h1:=f2.size.2;have h2:=f1.size;omega
  have hgr:g≠r:=by omega
  conv=>whnf
  refine .q (s_fields g _) ?_
  rintro _ H3 ⟨q,rfl,hq3,hqs⟩ e3 _
  have hg3:=e3.blk hg2
  have hr3:=e3.blk hr2
  have hglt:g<H2.size:=(Qa.1 hg2).1
  have hqg:q≠g:=by omega
  have hqr:q≠r:=by omega
  conv=>whnf
  refine⟨Nat,λi=>[(29,.int .i64 (i:Int)),(4,.string (S (restB rest i)))],λi H'=>i≤4∧H'[g]? =some (.cells (blkN (numC rest) i).toArray 130 (0,0))∧H'[r]? =some (.cells (blkL blk0).toArray 130 (0,0))∧H'[q]? =some (.cells (fieldsL g).toArray 261 (0,0)),λi=>4-i,⟨0,⟨rfl,rfl,trivial⟩,by decide,hg3,hr3,hq3⟩,?_⟩
  rintro i H4 junk ⟨hi,hg4,hr4,hq4⟩ F
  have hgS:nob g∨H.size≤g:=.inr (by omega)
  conv=>whnf
  refine⟨rfl,λh=>?_,λh=>?_⟩
  ·have hi4:i<4:=by have:(i:Int)<4:=h;omega
   have hfi:CellsAt H4 q (0+i*2) [ptr g i,.int .i64 ((szB i:Nat):Int)]:=by
    match i,hi4 with
    |0,_=>exact⟨cel_of hq4 rfl,cel_of hq4 rfl,trivial⟩
    |1,_=>exact⟨cel_of hq4 rfl,cel_of hq4 rfl,trivial⟩
    |2,_=>exact⟨cel_of hq4 rfl,cel_of hq4 rfl,trivial⟩
    |3,_=>exact⟨cel_of hq4 rfl,cel_of hq4 rfl,trivial⟩
   have hFi:=hF i hi4
   have hpi:=hput i hi4
   obtain⟨z,hz⟩:∃z,z=szB i:=⟨_,rfl⟩
   rw[←hz] at hFi hfi
   conv=>whnf
   refine⟨i,rfl,hi4,?_⟩
   conv=>whnf
   refine⟨[ptr g i,.int .i64 (z:Int)],rfl,hfi,?_⟩
   conv=>whnf
   intro H5 p f5 _
   have hps:H4.size=p:=f5.size.2.symm
   have hqlt:=(Qa.1 hq4).1
   have hglt:=(Qa.1 hg4).1
   have hrlt:=(Qa.1 hr4).1
   have hF4:H.size≤H4.size:=F.1
   have hp5:H5[p]? =some (.cells [Value.pointer none,.int .i64 0].toArray 261 (0,0)):=f5.at
   conv=>whnf
   refine .k ([ptr g i,.int .i64 (z:Int)]) (hp5) (.inr (by show H.size≤_;omega)) rfl rfl ?_
   intro H6 u6 _
   have hg6:=(u6.2.2 g (by omega)).trans (f5.e.blk hg4)
   have hr6:=(u6.2.2 r (by omega)).trans (f5.e.blk hr4)
   have hq6:=(u6.2.2 q (by omega)).trans (f5.e.blk hq4)
   conv=>whnf
   refine .t (λk=>k=g) (λk hk=>.inr (by subst hk;show H.size≤_;omega)) (by kernel_rfl) ?_
   conv=>whnf
   refine⟨by show ¬p=g;omega,_,cel_of u6.1 rfl,?_⟩
   conv=>whnf
   refine⟨by show ¬p=g;omega,_,cel_of u6.1 rfl,?_⟩
   conv=>whnf
   refine .q (hFi _) ?_
   rintro _ H7 rfl e7 _
   have hst:=λz:Int=>stoB_one (P:=prog) (t:=3) (v:=.int .i64 z) (o:=i) (n:=5) rfl rfl rfl (by omega)
   conv=>whnf
   refine .k (blkN (numC rest) (i+1)) (e7.blk hg6) (.inl rfl) (hst _) hpi ?_
   intro H8 u8 _
   conv=>whnf
   refine⟨rfl,((i+1:Nat):Int),wr64 (by omega) (by omega),?_⟩
   exact⟨i+1,⟨rfl,rfl,trivial⟩,⟨hi4,u8.1,(u8.2.2 r (by omega)).trans (e7.blk hr6),(u8.2.2 q (by omega)).trans (e7.blk hq6)⟩,by show 4-(i+1)<4-i;omega⟩
  ·obtain rfl:i=4:=by have:¬(i:Int)<4:=h;omega
   conv=>whnf
   refine .q (hT _) ?_
   rintro _ H5 rfl e5 _
   conv=>whnf
   refine .k (blkL (blkOf rest)) (e5.blk hg4) hgS rfl hall ?_
   intro H6 u6 _
   have hr6:=(u6.2.2 r (by omega)).trans (e5.blk hr4)
   conv=>whnf
   refine⟨rfl,λh0=>?_,λh0=>?_⟩
   ·conv=>whnf
    refine⟨rfl,?_⟩
    refine .k (blkL blk0) hr6 hS rfl rfl ?_
    intro H7 u7 _
    conv=>whnf
    refine hbad u7 (hrd.trans (if_pos h0)) ?_ ?_<;>rfl
   rw[if_neg (λe=>e h0)] at hrd
   conv=>whnf
   refine⟨rfl,λh1=>?_,λh1=>?_⟩
   ·have h1':tr.length<4:=by have:((S tr).size:Int)<4:=h1;rw[S_size] at this;omega
    conv=>whnf
    conv=>whnf
    refine⟨rfl,?_⟩
    refine .k (blkL blk0) hr6 hS rfl rfl ?_
    intro H7 u7 _
    conv=>whnf
    refine hbad u7 (hrd.trans (if_pos h1')) ?_ ?_<;>rfl
   have h1':¬tr.length<4:=by have:¬((S tr).size:Int)<4:=h1;rw[S_size] at this;omega
   rw[if_neg h1'] at hrd
   conv=>whnf
   refine⟨rfl,λh2=>?_,λh2=>?_⟩
   ·have h2':4<tr.length:=by have:4<((S tr).size:Int):=h2;rw[S_size] at this;omega
    conv=>whnf
    conv=>whnf
    refine⟨rfl,?_⟩
    refine .k (blkL blk0) hr6 hS rfl rfl ?_
    intro H7 u7 _
    conv=>whnf
    refine hbad u7 (hrd.trans (if_pos h2')) ?_ ?_<;>rfl
   have h2':¬4<tr.length:=by have:¬4<((S tr).size:Int):=h2;rw[S_size] at this;omega
   rw[if_neg h2'] at hrd
   conv=>whnf
   conv=>whnf
   refine .q (hC _) ?_
   rintro _ H7 rfl e7 _
   conv=>whnf
   refine⟨rfl,((s.size-4:Nat):Int),(wr64 (x:=(s.size:Int)-4) (by omega) (by omega)).trans (by omega),?_⟩
   have hx:=extract_take s (s.size-4)
   conv=>whnf
   refine⟨0,s.size-4,rfl,⟨.i64,rfl⟩,Qk _,Nat.sub_le _ _,_,hx,?_⟩
   conv=>whnf
   refine .q (hX _) ?_
   rintro _ H8 rfl e8 _
   conv=>whnf
   refine⟨(cx:Int),wr64 (x:=(cx:Int)) (by omega) (by omega),?_⟩
   conv=>whnf
   refine⟨rfl,λh3=>?_,λh3=>?_⟩
   ·conv=>whnf
    refine⟨rfl,?_⟩
    refine .k (blkL blk0) (e8.blk (e7.blk hr6)) hS rfl rfl ?_
    intro H7 u7 _
    conv=>whnf
    refine hbad u7 (hrd.trans (if_pos h3)) ?_ ?_<;>rfl
   rw[if_neg (λe=>e h3)] at hrd
   conv=>whnf
   refine⟨blkL (blkOf rest),rfl,CellsAt.at (e8.blk (e7.blk u6.1)),?_⟩
   conv=>whnf
   refine .k (blkL (blkOf rest)) (e8.blk (e7.blk hr6)) (hS) rfl rfl ?_
   intro H9 u9 _
   subst hrd
   refine⟨?_⟩
   conv=>whnf
   exact⟨blkL (blkOf rest),rfl,CellsAt.at u9.1,rfl⟩
theorem raw_neq130{c:Ctx}{ρ:Operand→Value}{o:Oper}{H:Heap}{K:KK}{x y:Operand}{ty:TypeId}(a b:Blk)(ho:o.op=.binOp .neq 130 x y ty)(hP:c.P=prog)(hx:ρ x=blkV a)(hy:ρ y=blkV b)(hF:Frm c.S c.H0 H)(hk:K (.bool (decide (a≠b))) H):RawVC c ρ o H K:=by
 refine⟨λw hw=>⟨.bool (decide (a≠b)),w,.inl ?_,Amb.refl w,by rw[hw];exact hF,by rw[hw];exact hk⟩⟩
 unfold execOp
 rw[ho]
 refine val_run ?_
 rw[hP,hx,hy]
 unfold blkV
 rw[run_bind (run_eqGuard_agg w .neq 130 x y _ _ (by kernel_rfl))]
 have hS:prog.underlying 130=some (.struct (prog.fieldsOf 130)):=by kernel_rfl
 have u3:=underlying3
 have a3:=isAgg3
 have z3:=sizeOf3
 simp only[binOp,Op.equal]
 rw[run_bind (x:=decide (a=b)) (w':=w)]
 ·simp[pure]
 ·rw[show Op.maxDepth=9999+1 from rfl,run_equalIn_agg w 9999 130 _ _ hS (by kernel_rfl)]
  simp only[Program.fieldsOf,underlying130]
  have u9:=underlying9
  have a9:=isAgg9
  have z9:=sizeOf9
  cases a
  cases b
  simp only[blkL,Blk.mk.injEq]
  go_simp
  have hb:∀a b:By,((S a).toList=(S b).toList)↔a=b:=λa b=>by rw[ByteArray.toList_eq,ByteArray.toList_eq];exact Iff.rfl
  simp only[hb]
  repeat' split
  all_goals simp_all
def ownV(o:Blk×Int)(ar di pl:Int):Blk×Int:=if o.2=0 then if o.1≠⟨ar,di,pl,o.1.epoch,o.1.text⟩ then(blk0,5) else o else(blk0,o.2)
def blkOwn(s:By)(ar di pl:Int):Blk×Int:=ownV (blkOpen s) ar di pl
theorem s_own(s:ByteArray)(hs:s.size≤1000000000000)(ar di pl:Int)(H:Heap):Spec prog 111 #[.string s,.int .i64 ar,.int .i64 di,.int .i64 pl] H nob λu _=>u=.tuple #[blkV (blkOwn (L s) ar di pl).1,.int .i64 (blkOwn (L s) ar di pl).2]:=by
 unfold blkOwn
 have hO:=λH=>s_bopen s hs H
 generalize blkOpen (L s)=o at hO
 obtain⟨o,x⟩:=o
 dsimp only at hO
 have hrd:ownV (o,x) ar di pl=if x=0 then if o≠⟨ar,di,pl,o.epoch,o.text⟩ then(blk0,5) else(o,x) else(blk0,x):=rfl
 generalize ownV (o,x) ar di pl=rd at hrd⊢
 refine spx func111 ?_
 conv=>whnf
 intro H1 r f1 _
 have hr1:H1[r]? =some (.cells (blkL blk0).toArray 130 (0,0)):=f1.at
 have hS:nob r∨H.size≤r:=.inr (Z8 f1.size.2.symm)
 have hrl:=(Qa.1 hr1).1
 conv=>whnf
 refine .q (hO _) ?_
 rintro _ H2 rfl e2 _
 have hr2:=e2.blk hr1
 have hend:∀{H2 H3:Heap} {env:Env},Upd H2 H3 r (.cells (blkL rd.1).toArray 130 (0,0))→env 8=.pointer (some ⟨r,0,none⟩)→env 9=.int .i64 rd.2→
   FinVC prog env H3 (λu _=>u=.tuple #[blkV rd.1,.int .i64 rd.2]) [.cell 8 130,.tmp 9]:=by
  intro H2 H3 env u3 h2 h3
  refine⟨?_⟩
  unfold ResVC
  dsimp only
  rw[h2,h3]
  exact⟨blkL rd.1,rfl,CellsAt.at u3.1,rfl⟩
 conv=>whnf
 intro H3 g f3 _
 have hg3:H3[g]? =some (.cells (blkL blk0).toArray 130 (0,0)):=f3.at
 have hr3:=f3.e.blk hr2
 have hrg:r≠g:=by have:=f3.size.2;have:=e2.1;omega
 conv=>whnf
 refine .k (blkL o) (hg3) (.inr (by have h1:=f3.size.2;have h2:=e2.1;show H.size≤g;have:=f1.size.2;omega)) rfl rfl ?_
 intro H4 u4 _
 have hr4:=(u4.2.2 r hrg).trans hr3
 conv=>whnf
 refine⟨rfl,λh0=>?_,λh0=>?_⟩
 ·rw[if_pos h0] at hrd
  conv=>whnf
  refine⟨blkL o,rfl,CellsAt.at u4.1,?_⟩
  conv=>whnf
  refine⟨_,cel_of u4.1 rfl,?_⟩
  conv=>whnf
  refine⟨_,cel_of u4.1 rfl,?_⟩
  conv=>whnf
  refine⟨rfl,?_⟩
  refine raw_neq130 o ⟨ar,di,pl,o.epoch,o.text⟩ rfl rfl rfl rfl ?_ ?_
  ·assumption
  by_cases hne:o≠⟨ar,di,pl,o.epoch,o.text⟩
  ·rw[if_pos hne] at hrd
   rw[QO hne]
   subst hrd
   conv=>whnf
   refine⟨rfl,λ_=>?_,λh=>absurd h (by decide)⟩
   conv=>whnf
   refine⟨rfl,?_⟩
   conv=>whnf
   refine .k (blkL blk0) (hr4) (hS) rfl rfl ?_
   intro H5 u5 _
   exact hend u5 rfl rfl
  ·rw[if_neg hne] at hrd
   rw[QM hne]
   subst hrd
   conv=>whnf
   refine⟨rfl,λh=>absurd h0 h,λ_=>?_⟩
   conv=>whnf
   refine⟨blkL o,rfl,CellsAt.at u4.1,?_⟩
   conv=>whnf
   refine .k (blkL o) (hr4) (hS) rfl rfl ?_
   intro H5 u5 _
   exact hend u5 rfl (Qf (Value.int .i64) h0.symm)
 ·rw[if_neg h0] at hrd
  subst hrd
  conv=>whnf
  refine⟨rfl,λ_=>?_,λh=>absurd h h0⟩
  conv=>whnf
  refine⟨rfl,?_⟩
  conv=>whnf
  refine .k (blkL blk0) (hr4) (hS) rfl rfl ?_
  intro H5 u5 _
  exact hend u5 rfl rfl
attribute [irreducible] blkOpen blkOwn
end Go.Proofs.YtjambljmnifknaaGreatDoor.Vc
