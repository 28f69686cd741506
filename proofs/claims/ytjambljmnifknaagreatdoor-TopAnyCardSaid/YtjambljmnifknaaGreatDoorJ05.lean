/- Part 5 of the proof of TopAny: wire.Cut of TopAny's program: the number that a text's first bytes are, the lowest first; and what is left. -/
import Derived.Test.YtjambljmnifknaaGreatDoorJ01
import Derived.Test.YtjambljmnifknaaGreatDoorJ04
import Derived.Sort.QuietIn
set_option maxRecDepth 100000
set_option maxHeartbeats 80000000
set_option linter.all false
open Go.Proofs.Tryz
namespace Go.Proofs.YtjambljmnifknaaGreatDoor.Tp
open Go.RowKit Go.Shelf Go.Proofs.YtjambljmnifknaaGreatDoor.Gf Go.Proofs.YtjambljmnifknaaGreatDoor.Dk
abbrev By:=List UInt8
def S(l:By):ByteArray:=⟨l.toArray⟩
def L(s:ByteArray):By:=s.data.toList
@[simp] theorem L_S (l:By):L (S l)=l:=rfl
@[simp] theorem S_L (s:ByteArray):S (L s)=s:=rfl
@[simp] theorem L_length (s:ByteArray):(L s).length=s.size:=by simp[L]
@[simp] theorem S_size (l:By):(S l).size=l.length:=by show l.toArray.size=_;simp
theorem S_inj{a b:By}(h:S a=S b):a=b:=by have:=Qf L h;simpa using this
@[simp] theorem L_extract (s:ByteArray) (a b:Nat):L (s.extract a b)=((L s).drop a).take (b-a):=by
 unfold L
 rw[Y0,Array.toList_extract]
theorem size_extract(s:ByteArray)(a b:Nat)(h:b≤s.size):(s.extract a b).size=b-a:=by
 rw[←L_length,L_extract,QC,QV,L_length]
 omega
def cutN:By→Nat
 |[]=>0
 |b::r=>b.toNat+256*cutN r
theorem cutN_lt:∀l:By,cutN l<256^l.length
 |[]=>by decide
 |b::r=>by
  have h:=cutN_lt r
  have hb:=Zo b
  show b.toNat+256*cutN r<256^(r.length+1)
  rw[YD]
  omega
theorem pow7{n:Nat}(h:n≤7):256^n≤72057594037927936:=Qb (Y8 (by decide) h) (by decide)
abbrev Eb:=Nat×UInt8
def eb(b:UInt8):Value:=.int .u8 (b.toNat:Int)
def nthB(ws:By)(k:Nat):Eb:=(ws.length-1-k,ws.getD (ws.length-1-k) 0)
def KB(n g:Nat)(A B:World):Prop:=∀i,i<n→i≠g→B.heap[i]? =A.heap[i]?
theorem KB.refl(n g:Nat)(A:World):KB n g A A:=λ_ _ _=>rfl
theorem KB.trans{n g:Nat}{A B C:World}(h:KB n g A B)(k:KB n g B C):KB n g A C:=λi hi hg=>(k i hi hg).trans (h i hi hg)
theorem KB.cell{n g:Nat}{A B:World}(h:KB n g A B){p:Addr}{v:Value}(hc:A.cell? p=some v)(hn:p.block<n)(hg:p.block≠g):B.cell? p=some v:=
 (World.cell?_of_block (h p.block hn hg)).trans hc
theorem KB.of_below{n g:Nat}{A B:World}(h:Below n A B):KB n g A B:=λi hi _=>h.block i hi
theorem KB.put{w:World}{n g:Nat}(hn:n≤w.heap.size)(W:World)(l:Nat)(o o':Obj)(hl:w.heap.size≤l)(h:W.heap[l]? =some o)(h1:o.isCells=false)(h2:o.isWalk=false):KB n g W (W.putObj l o'):=
 KB.of_below (belowK_b hn W l o o' hl h h1 h2)
attribute [local go_sem] Oper.semAt_some
theorem backb1_in(F:Fence)(n:Nat)(h8:F.fn 239)(hro:F.round=none)(hn:1≤n)(l Bs n₀ b cap:Nat)(g:Nat)(hbg:b≠g)(hBg:Bs≠g)(ws:By)(hreach:ws.length≤9223372036854775807)(hb:b<n₀)(hBn:Bs<n₀)(J Jx:List Eb→World→Prop)
  (hY:∀pre x W,J pre W→pre.length<ws.length→YieldAt F (n-1) prog l #[.int .i64 (x.1:Int),eb x.2] W λe W'=>
   (e=.returned (.bool true)∧J (pre++[x]) W'∧KB n₀ g W W')∨(e=.returned (.bool false)∧Jx (pre++[x]) W'))
  (W:World) (hBs:W.cell? ⟨Bs,0,none⟩=some (.slice (some ⟨b,0,none⟩) ws.length cap)) (hc:∀j,j<ws.length→W.cell? ⟨b,j,none⟩=some (eb (ws.getD j 0))) (h0:J [] W):
  CallsIn F n prog 239 #[.func (.yield l) #[] #[],.pointer (some ⟨Bs,0,none⟩)] W λe W'=>(∃v,e=.returned v)∧
   ((∃ys,ys=upto (nthB ws) ws.length∧J ys W')∨(∃pre,(∃k,k≤ws.length∧pre=upto (nthB ws) k)∧Jx pre W')):=by
 refine callsIn_of_wp func239 rfl h8 ?_ hro
 simp only[ntmps239,Q8,Qo,Q0,Nat.reduceAdd,Nat.reduceSub,Q2,Q1,Zd,Q5,QI,QR]
 gi_wp2
 gi_loopw [3] (λi wr=>∃k:Nat,k≤ws.length∧i=.int .i64 (((ws.length-k:Nat):Int)-1)∧J (upto (nthB ws) k) wr∧KB n₀ g W wr)
  (λi _=>(intOf i+1).toNat)
 case atStart=>exact⟨0,Qk _,rfl,h0,KB.refl _ _ _⟩
 case round=>
  obtain⟨k,hk,rfl,hJs,hnx⟩:=hrel
  by_cases hlt:k<ws.length
  ·obtain⟨j,hj⟩:∃j,ws.length-k=j+1:=⟨ws.length-k-1,by omega⟩
   have hj1:((ws.length-k:Nat):Int)-1=(j:Int):=by omega
   have hnth:nthB ws k=(j,ws.getD j 0):=by
    unfold nthB
    rw[show ws.length-1-k=j by omega]
   have hjl:j<ws.length:=by omega
   have hji:(j:Int)<(ws.length:Int):=by omega
   have hcx:wr.cell? ⟨b,j,none⟩=some (eb (ws.getD j 0)):=hnx.cell (hc j hjl) hb hbg
   have hbx:wr.cell? ⟨Bs,0,none⟩=some (.slice (some ⟨b,0,none⟩) ws.length cap):=hnx.cell hBs hBn hBg
   obtain⟨fn,tmps,assign,body,hy,hR⟩:=hY _ (nthB ws k) wr hJs (by rw[upto_length];exact hlt)
   rw[hnth] at hy hR
   dsimp only at hy
   rw[hj1]
   generalize hev:eb (ws.getD j 0)=xv at hcx hy
   gi_wp2
   refine hR.mono ?_
   rintro e W3 (⟨rfl,hJ3,hk3⟩|⟨rfl,hJx3⟩)
   ·gi_wp2
    go_roundw
    case rel=>exact⟨k+1,by omega,by rw[show ws.length-(k+1)=j by omega],by rw[upto_succ,hnth];exact hJ3,hnx.trans hk3⟩
    case measure=>simp[intOf]
   ·gi_wp2
    refine bodyPost_ret (results_none rfl _ _ _) rfl ?_
    exact⟨⟨_,rfl⟩,.inr ⟨_,⟨k+1,by omega,(upto_succ _ _).symm⟩,by rw[hnth];exact hJx3⟩⟩
  ·obtain rfl:k=ws.length:=by omega
   rw[ZA]
   gi_wp2
   go_end0
   exact⟨⟨_,rfl⟩,.inl ⟨_,rfl,hJs⟩⟩
theorem backwardb_in(F:Fence)(n:Nat)(h6:F.fn 185)(hro:F.round=none)(a:Option Addr)(len cap:Nat)(w:World):
  CallsIn F n prog 185 #[.slice a len cap] w λe w'=>e=.returned (.func (.func 239) #[] #[.pointer (some ⟨w.heap.size,0,none⟩)])∧w'=w.alloc (.cells #[.slice a len cap] 192):=by
 refine callsIn_of_wp func185 rfl h6 ?_ hro
 simp only[ntmps185,Q8,Qo,Q0,Nat.reduceAdd,Nat.reduceSub,Q2,Q1,Zd,Q5,QI,QR]
 gi_wp2
 go_ret
 exact⟨rfl,rfl⟩
theorem backb_stops(F:Fence)(n:Nat)(h8:F.fn 239)(hro:F.round=none)(hn:1≤n)(Bs n₀ b cap:Nat)(g:Nat)(hbg:b≠g)(hBg:Bs≠g)(ws:By)(hreach:ws.length≤9223372036854775807)(w:World)(hBn:Bs<n₀)(hb:b<n₀)(hn₀:n₀≤w.heap.size)
  (hc:w.cell? ⟨Bs,0,none⟩=some (.slice (some ⟨b,0,none⟩) ws.length cap)) (hI:∀j,j<ws.length→w.cell? ⟨b,j,none⟩=some (eb (ws.getD j 0))):
  SeqStopsK F n prog 239 #[.pointer (some ⟨Bs,0,none⟩)] (λx:Eb=>#[Value.int .i64 (x.1:Int),eb x.2]) (KB n₀ g) (λys=>ys=upto (nthB ws) ws.length)
   (λpre=>∃k,k≤ws.length∧pre=upto (nthB ws) k) ws.length w:=λl J Jx W hW _ _ hY h0=>by
 have hc':=(hW.cell (p:=⟨Bs,0,none⟩) (show Bs<w.heap.size by omega)).trans hc
 exact backb1_in F n h8 hro hn l Bs n₀ b cap g hbg hBg ws hreach hb hBn J Jx hY W hc' (λj hj=>(hW.cell (p:=⟨b,j,none⟩) (show b<w.heap.size by omega)).trans (hI j hj)) h0
def numOf(l:List Eb):Nat:=l.foldl (λn x=>n*256+x.2.toNat) 0
theorem numOf_snoc(l:List Eb)(x:Eb):numOf (l++[x])=numOf l*256+x.2.toNat:=by simp[numOf]
theorem numOf_upto(ws:By):∀k,k≤ws.length→numOf (upto (nthB ws) k)=cutN (ws.drop (ws.length-k))
 |0,_=>by simp[upto,numOf,cutN]
 |k+1,h=>by
  rw[upto_succ,numOf_snoc,numOf_upto ws k (by omega),List.drop_eq_getElem_cons (show ws.length-(k+1)<ws.length by omega)]
  show _=_+256*cutN _
  rw[show ws.length-(k+1)+1=ws.length-k by omega,YF,Ym]
  unfold nthB
  dsimp only
  rw[show ws.length-1-k=ws.length-(k+1) by omega,Ql,Qc (show ws.length-(k+1)<ws.length by omega)]
  rfl
theorem numOf_lt(l:List Eb):numOf l<256^l.length:=by
 suffices h:∀(l:List Eb) (n m:Nat),n<256^m→l.foldl (λn x=>n*256+x.2.toNat) n<256^(m+l.length) from by
  have:=h l 0 0 (by decide)
  simpa [numOf] using this
 intro l
 induction l with
 |nil=>intro n m h;exact h
 |cons x l ih=>
  intro n m h
  have hx:=Zo x.2
  have:=ih (n*256+x.2.toNat) (m+1) (by rw[YD];omega)
  simpa [Nat.add_assoc,YF,Nat.add_left_comm] using this
theorem cut_short(s:ByteArray)(size:Nat)(h1:1≤size)(h2:size≤7)(h:s.size<size)(w:World):
  Calls prog 113 #[.string s,.int .i64 (size:Int)] w λe w'=>e=.returned (.tuple #[.int .i64 0,.string ByteArray.empty,.int .i64 4])∧Below w.heap.size w w':=by
 have g1:¬(size:Int)<1:=by omega
 have g2:¬7<(size:Int):=by omega
 have g3:(s.size:Int)<(size:Int):=by omega
 go_enter func113,ntmps113
 go_wp2
 go_ret3
 exact⟨rfl,Below.refl _ _⟩
theorem cut_in(F:Fence)(k:Nat)(hro:F.round=none)(hk3:3≤k)(h113:F.fn 113)(h185:F.fn 185)(h239:F.fn 239)
  (s:ByteArray) (size:Nat) (h1:1≤size) (h2:size≤7) (h:size≤s.size) (w:World):
  CallsIn F k prog 113 #[.string s,.int .i64 (size:Int)] w λe w'=>e=.returned (.tuple #[.int .i64 (cutN ((L s).take size):Nat),.string (S ((L s).drop size)),.int .i64 0])∧Below w.heap.size w w':=by
 have g1:¬(size:Int)<1:=by omega
 have g2:¬7<(size:Int):=by omega
 have g3:¬(s.size:Int)<(size:Int):=by omega
 have hk1:1≤k:=by omega
 refine callsIn_of_wp_marks func113 rfl h113 ?_ hro
 simp only[ntmps113,Q8,Qo,Q0,Nat.reduceAdd,Nat.reduceSub,Q2,Q1,Zd,Q5,QI,QR]
 have HTs:=Qg (show(s.extract 0 size).size=size by rw[size_extract _ _ _ h];omega)
 have HTl:=Qg (show L (s.extract 0 size)=(L s).take size by rw[L_extract];simp)
 have hcv:=Lib.run_convert_string_bytes (P:=prog) (w.alloc (.cells #[.int .i64 0] 3)) 9 192 5 (s.extract 0 size) underlying9 underlying192 underlying5
 obtain⟨cap,hcap⟩:∃cap,grownCap (w.alloc (.cells #[.int .i64 0] 3)) (s.extract 0 size).size 0 5=cap:=⟨_,rfl⟩
 rw[hcap] at hcv
 clear hcap
 gi_wp2_with (first|(gi_at_call 185;refine(backwardb_in _ _ h185 hro _ _ _ _).mono ?_;rintro e w' ⟨rfl,rfl⟩))
 obtain⟨w4,hw4⟩:∃w4,(Lib.bytesWorld (w.alloc (.cells #[.int .i64 0] 3)) 5 (s.extract 0 size)).alloc (.cells #[.slice (some ⟨w.heap.size+1,0,none⟩) size cap] 192)=w4:=⟨_,rfl⟩
 have hbs:(Lib.bytesWorld (w.alloc (.cells #[.int .i64 0] 3)) 5 (s.extract 0 size)).heap.size=w.heap.size+1+1:=by rw[Lib.bytesWorld_size];simp
 have hsz4:w4.heap.size=w.heap.size+1+1+1:=by rw[←hw4];simp[hbs]
 have hbox:Boxed w4 w.heap.size 3 (.int .i64 0):=by
  have h0:=Boxed.new w 3 (.int .i64 0)
  rw[←hw4]
  exact Boxed.alloc (B:=w.heap.size) (show Boxed (Lib.bytesWorld _ 5 _) w.heap.size 3 _ from(Lib.bytesWorld_at_old _ 5 _ _ (by simp)).trans h0) _
 have hsl:w4.cell? ⟨w.heap.size+1+1,0,none⟩=some (.slice (some ⟨w.heap.size+1,0,none⟩) size cap):=by
  have:=(Boxed.new (Lib.bytesWorld (w.alloc (.cells #[.int .i64 0] 3)) 5 (s.extract 0 size)) 192 (.slice (some ⟨w.heap.size+1,0,none⟩) size cap)).cell
  rw[hbs,hw4] at this
  exact this
 have hby:∀j,j<((L s).take size).length→w4.cell? ⟨w.heap.size+1,j,none⟩=some (eb (((L s).take size).getD j 0)):=by
  intro j hj
  have hjs:j<(s.extract 0 size).size:=by rw[HTs.out];simp at hj;omega
  have:=Lib.bytesWorld_cell (w.alloc (.cells #[.int .i64 0] 3)) 5 (s.extract 0 size) j hjs
  rw[←HTl.out,←hw4]
  rw[World.size_alloc] at this
  exact(World.cell?_of_block (Below.heap_alloc _ _ _ (by rw[hbs];simp))).trans this
 have hlen:((L s).take size).length=size:=by simp;omega
 have hB4:Below w.heap.size w w4:=by
  rw[←hw4]
  have hB1:Below w.heap.size (w.alloc (.cells #[.int .i64 0] 3)) (Lib.bytesWorld (w.alloc (.cells #[.int .i64 0] 3)) 5 (s.extract 0 size)):=⟨rfl,rfl,rfl,by rw[hbs];simp,λj hj=>Lib.bytesWorld_at_old _ 5 _ j (by simp;omega)⟩
  exact Below.alloc (((Below.refl _ w).alloc (Qd _) _).trans hB1) (by rw[hbs];omega) _
 rw[hw4,hbs]
 clear hw4 hcv
 refine wpIn_rangeFunc_ownG hro hk1 (gf:=239) (lb:=#[.pointer (some ⟨w.heap.size+1+1,0,none⟩)]) rfl h239 (enters_of func239 (by kernel_rfl) rfl)
  (backb_stops F (k-1) h239 hro (by omega) (w.heap.size+1+1) (w.heap.size+1+1+1) (w.heap.size+1) cap w.heap.size (by omega) (by omega) ((L s).take size) (by omega) w4 (by omega) (by omega) (by omega) (by rw[hlen];exact hsl) hby)
  KB.trans (KB.put (by omega)) (Below.refl _ _) (λ_=>rfl)
  (λpre W=>Boxed W w.heap.size 3 (.int .i64 (numOf pre:Nat))∧Below w.heap.size w W∧KB (w.heap.size+1+1+1) w.heap.size w4 W∧w4.heap.size≤W.heap.size)
  (λ_ _ _=>False)
  ?hI (λc s A B row hs _ _=>hs.elim)
  ⟨hbox,hB4,KB.refl _ _ _,Qd _⟩
  (λx=>{tmps:=#[Value.string s,Value.int IntKind.i64 ↑size,undef,undef,Value.int IntKind.i64 0,
     Value.string {data:=#[]},Value.int IntKind.i64 0,
     Value.pointer (some {block:=w.heap.size,off:=0}),undef,eb x.2,Value.bool false,
     Value.int IntKind.i64 ↑size,Value.bool false,Value.bool false,Value.int IntKind.i64 ↑size,
     Value.bool false,Value.bool false,Value.bool false,Value.string s,Value.int IntKind.i64 ↑s.size,
     Value.int IntKind.i64 ↑size,Value.bool false,Value.string s,Value.int IntKind.i64 ↑size,
     Value.string (s.extract 0 size),Value.slice (some {block:=w.heap.size+1,off:=0}) size cap,
     Value.func (Fn.func 239) #[] #[Value.pointer (some {block:=w.heap.size+1+1,off:=0})],
     .int .i64 (x.1:Int),eb x.2,undef,undef,undef,undef,undef,undef,undef,undef,undef],defers:=[]}) ?assign ?body ?done ?stop
 case hI=>
  rintro s A B row ⟨hb,hB,hK,hz⟩ hg hr
  exact⟨hb.kept hg (λe=>by have:=(hr _ e.symm).1;omega),hB.grown hg (by omega) (λk e=>by have:=(hr _ e).1;omega),λi hi hn=>(hg.block i (by omega) (λe=>by have:=(hr _ e.symm).1;omega)).trans (hK i hi hn),Qb hz hg.size⟩
 case assign=>
  intro l x W K hK
  gi_wp2
  exact hK
 case body=>
  rintro l pre x W ⟨hb,hB,hK,hz⟩ hlt
  have hc:=hb.cell
  have hf:=hb.frozen
  have hx:=Zo x.2
  have hn:numOf pre<256^6:=QH (numOf_lt pre) (Y8 (by decide) (by omega))
  have hsn:=numOf_snoc pre x
  have HS:=Qg hsn
  obtain⟨N,hN⟩:∃N,numOf pre=N:=⟨_,rfl⟩
  rw[hN] at hc hn HS
  clear hsn hN
  have hn2:N<281474976710656:=hn
  clear hn
  unfold eb
  gi_wp2
  have hn3:(N:Int)*256+(x.2.toNat:Int)=((N*256+x.2.toNat:Nat):Int):=by omega
  refine⟨(KeepsOthers.setCell _ _ _).from _,?_,?_,?_,?_,?_⟩
  ·exact λi _ hn=>heap_setCell_other W _ i _ hn
  ·rw[HS.out,hn3]
   exact hb.set _
  ·exact hB.setCell (Qd _) _
  ·exact λi hi hn=>(heap_setCell_other W _ i _ hn).trans (hK i hi hn)
  ·simpa using hz
 case done=>
  rintro D ys W hD rfl ⟨hb,hB,hK,hz⟩ hDf
  have hc:=hb.cell
  rw[numOf_upto _ _ (Qd _),ZA] at hc
  gi_wp2
  refine wpIn_region_quiet_lit hro (by kernel_rfl) (by kernel_rfl) ?_
  repeat (gi_big_quiet_step (fail))
  refine wpQuietIn_nil ?_
  rintro _ ⟨nq,rfl⟩
  gi_wp2
  have hDf':(W.drewN nq).heap[D]? =some (.deferred (some [])):=hDf
  refine⟨by simp,.inl ⟨_,_,rfl,run_takeDeferred hDf',?_⟩⟩
  refine⟨.tuple #[.int .i64 (cutN ((L s).take size):Nat),.string (S ((L s).drop size)),.int .i64 0],?_,rfl,(show Below w.heap.size w (W.drewN nq) from⟨hB.os,hB.tape,hB.output,hB.size,hB.block⟩).trans (belowK_b (w:=w) (Qd _) _ D _ _ (by omega) hDf' rfl rfl)⟩
  rw[show S ((L s).drop size)=s.extract size s.size by rw[←S_L (s.extract size s.size),L_extract,QU (by simp)]]
  exact results_tmp3 (fn:=Tryz.f113) rfl _ _ _
 case stop=>
  rintro D c pre W hD _ h
  exact h.elim
def cutV(s:By)(n:Nat):Int:=if s.length<n then 0 else(cutN (s.take n):Nat)
def cutR(s:By)(n:Nat):By:=if s.length<n then [] else s.drop n
def cutE(s:By)(n:Nat):Int:=if s.length<n then 4 else 0
theorem cut_any(s:ByteArray)(size:Nat)(h1:1≤size)(h2:size≤7)(w:World):
  Calls prog 113 #[.string s,.int .i64 (size:Int)] w λe w'=>e=.returned (.tuple #[.int .i64 (cutV (L s) size),.string (S (cutR (L s) size)),.int .i64 (cutE (L s) size)])∧Below w.heap.size w w':=by
 unfold cutV cutR cutE
 rw[L_length]
 by_cases h:s.size<size
 ·rw[if_pos h,if_pos h,if_pos h]
  exact cut_short s size h1 h2 h w
 ·rw[if_neg h,if_neg h,if_neg h]
  exact callsIn_wide.1 (cut_in Fence.wide 3 rfl (Qd _) trivial trivial trivial s size h1 h2 (by omega) w)
theorem cutV_nn(s:By)(n:Nat):0≤cutV s n:=by unfold cutV;split<;>omega
theorem cutV_le(s:By)(n:Nat)(hn:n≤7):cutV s n≤72057594037927935:=by
 unfold cutV
 split
 ·omega
 ·have:=cutN_lt (s.take n)
  have h2:=pow7 (n:=(s.take n).length) (by simp;omega)
  omega
theorem cutR_len(s:By)(n:Nat):(cutR s n).length≤s.length:=by unfold cutR;split<;>simp
theorem cutE_01(s:By)(n:Nat):cutE s n=0∨cutE s n=4:=by unfold cutE;split<;>simp
theorem cut2_any(s:ByteArray)(w:World):
  Calls prog 113 #[.string s,.int .i64 2] w λe w'=>e=.returned (.tuple #[.int .i64 (cutV (L s) 2),.string (S (cutR (L s) 2)),.int .i64 (cutE (L s) 2)])∧Below w.heap.size w w':=cut_any s 2 (by decide) (by decide) w
def takeOk(s:By):Bool:=decide (cutE s 2=0)&&decide (cutV s 2≤(cutR s 2).length)
def takeT(s:By):By:=if takeOk s then(cutR s 2).take (cutV s 2).toNat else []
def takeR(s:By):By:=if takeOk s then(cutR s 2).drop (cutV s 2).toNat else []
def takeE(s:By):Int:=if takeOk s then 0 else 4
theorem takeT_len(s:By):(takeT s).length≤s.length:=by
 unfold takeT
 split
 ·have:=cutR_len s 2;simp;omega
 ·simp
theorem takeR_len(s:By):(takeR s).length≤s.length:=by
 unfold takeR
 split
 ·have:=cutR_len s 2;simp;omega
 ·simp
theorem L_inj{a b:ByteArray}(h:L a=L b):a=b:=by rw[←S_L a,←S_L b,h]
theorem extract_S(l:By)(a b:Nat):(S l).extract a b=S ((l.drop a).take (b-a)):=L_inj (by rw[L_extract,L_S,L_S])
theorem append_S(a b:By):S a++S b=S (a++b):=L_inj (by
 show(S a++S b).data.toList=_
 rw[ByteArray.data_append,ZS]
 rfl)
theorem take_any(s:ByteArray)(w:World):
  Calls prog 187 #[.string s] w λe w'=>e=.returned (.tuple #[.string (S (takeT (L s))),.string (S (takeR (L s))),.int .i64 (takeE (L s))])∧Below w.heap.size w w':=by
 have KC:=Qg (cut2_any s w)
 have HV:=cutV_nn (L s) 2
 have HV2:=cutV_le (L s) 2 (by decide)
 have HR:=cutR_len (L s) 2
 rw[L_length] at HR
 have HT:=Qg (show takeT (L s)=if takeOk (L s) then(cutR (L s) 2).take (cutV (L s) 2).toNat else [] from rfl)
 have HRR:=Qg (show takeR (L s)=if takeOk (L s) then(cutR (L s) 2).drop (cutV (L s) 2).toNat else [] from rfl)
 have HE:=Qg (show takeE (L s)=if takeOk (L s) then 0 else 4 from rfl)
 have HO:=Qg (show takeOk (L s)=(decide (cutE (L s) 2=0)&&decide (cutV (L s) 2≤(cutR (L s) 2).length)) from rfl)
 obtain⟨v,hv⟩:∃v,cutV (L s) 2=v:=⟨_,rfl⟩
 obtain⟨r,hr⟩:∃r,cutR (L s) 2=r:=⟨_,rfl⟩
 obtain⟨z,hz⟩:∃z,cutE (L s) 2=z:=⟨_,rfl⟩
 rw[hv,hr,hz] at KC HO
 rw[hv] at HV HV2
 rw[hr] at HR
 rw[hv,hr] at HT HRR
 clear hv hr hz
 go_enter func187,ntmps187
 obtain⟨v,rfl⟩:=QW HV
 by_cases h0:z=0
 ·subst h0
  by_cases hc:(v:Int)≤(r.length:Int)
  ·have ho:takeOk (L s)=true:=by rw[HO.out];simpa using hc
   have hc':v≤(S r).size:=by rw[S_size];omega
   rw[HT.out,HRR.out,HE.out,if_pos ho,if_pos ho,if_pos ho,Qn]
   clear HT HRR HE HO ho
   obtain⟨rs,hrs⟩:∃rs,S r=rs:=⟨_,rfl⟩
   rw[hrs] at KC hc'
   have HRS:=Qg hrs
   clear hrs
   go_wp2_with (first|(go_at_call 113;refine(KC.out).mono ?_;rintro e w1 ⟨rfl,hb1⟩))
   go_quiet (fail)
   go_wp2
   go_ret3
   refine⟨?_,⟨hb1.os,hb1.tape,hb1.output,hb1.size,hb1.block⟩⟩
   rw[←HRS.out,extract_S,extract_S]
   simp only[List.drop_zero,Nat.sub_zero,S_size]
   rw[QU (by simp:(List.drop v r).length≤r.length-v)]
   rfl
  ·have ho:takeOk (L s)=false:=by rw[HO.out];simpa using hc
   rw[HT.out,HRR.out,HE.out,ho]
   clear HT HRR HE HO ho
   go_wp2_with (first|(go_at_call 113;refine(KC.out).mono ?_;rintro e w1 ⟨rfl,hb1⟩))
   go_ret3
   exact⟨rfl,hb1⟩
 ·have ho:takeOk (L s)=false:=by rw[HO.out];simp[h0]
  rw[HT.out,HRR.out,HE.out,ho]
  clear HT HRR HE HO ho
  go_wp2_with (first|(go_at_call 113;refine(KC.out).mono ?_;rintro e w1 ⟨rfl,hb1⟩))
  go_ret3
  exact⟨rfl,hb1⟩
def putL(size n:Nat):By:=(List.range size).map λi=>UInt8.ofNat (putF n i)
theorem putB_L(size n:Nat):putB size n=S (putL size n):=by
 unfold putB putL S strOfNums
 simp
def textOk(s:By):Bool:=decide (s.length<65536)
def textV(s:By):By:=if textOk s then putL 2 s.length++s else []
def textE(s:By):Int:=if textOk s then 0 else 12
theorem text_any(s:ByteArray)(hs:s.size≤140737488351232)(w:World):
  Calls prog 197 #[.string s] w λe w'=>e=.returned (.tuple #[.string (S (textV (L s))),.int .i64 (textE (L s))])∧Below w.heap.size w w':=by
 have KP:=Qg (show Calls prog 123 #[.int .i64 (s.size:Int),.int .i64 2] w _ from put_any s.size 2 (by decide) (by decide) (by omega) w)
 have hE:putE (s.size:Int) 2=textE (L s):=by
  unfold putE textE textOk
  rw[L_length,if_neg (by omega),Qn]
  by_cases h:s.size<65536
  ·rw[if_neg (by omega),if_pos (by simpa using h)]
  ·rw[if_pos (by omega),if_neg (by simpa using h)]
 have hV:putV (s.size:Int) 2=if textOk (L s) then S (putL 2 s.size) else ByteArray.empty:=by
  unfold putV textOk
  rw[L_length,Qn,putB_L]
  by_cases h:s.size<65536
  ·rw[if_neg (by omega),if_pos (by simpa using h)]
  ·rw[if_pos (by omega),if_neg (by simpa using h)]
 rw[hE,hV] at KP
 go_enter func197,ntmps197
 unfold textV textE at*
 rw[L_length]
 by_cases h:textOk (L s)=true
 ·rw[if_pos h,if_pos h] at*
  have HS:=Qg (append_S (putL 2 s.size) (L s))
  clear hE hV
  obtain⟨p,hp⟩:∃p,S (putL 2 s.size)=p:=⟨_,rfl⟩
  rw[hp] at KP HS
  have hps:p.size=2:=by rw[←hp,S_size];simp[putL]
  have hg:¬9223372036854775807<p.size+s.size:=by omega
  clear hp hps
  go_wp2_with (first|(go_at_call 123;refine(KP.out).mono ?_;rintro e w1 ⟨rfl,hb1⟩))
  go_ret2
  exact⟨by rw[←HS.out,S_L];rfl,hb1⟩
 ·rw[if_neg h,if_neg h] at*
  clear hE hV
  go_wp2_with (first|(go_at_call 123;refine(KP.out).mono ?_;rintro e w1 ⟨rfl,hb1⟩))
  go_ret2
  exact⟨rfl,hb1⟩
theorem textV_len(s:By):(textV s).length≤s.length+2:=by
 unfold textV
 split
 ·simp[putL];omega
 ·simp
def crcL(s:By):Nat:=((s.map UInt8.toNat).foldl crcStep 4294967295)^^^4294967295
theorem sum_crc(s:ByteArray)(hs:s.size≤140737488351232)(w:World):
  Calls prog 198 #[.string s] w λe w'=>e=.returned (.int .u32 (crcL (L s):Nat))∧Below w.heap.size w w':=by
 have K:=Qg (show Calls prog 250 #[.int .u32 0,.string s] w _ from crc_more 0 (by decide) s hs w)
 rw[show crcN 0 s=crcL (L s) by unfold crcN crcL byteL L;rw[Nat.zero_xor]] at K
 obtain⟨z,hz⟩:∃z,crcL (L s)=z:=⟨_,rfl⟩
 rw[hz] at K⊢
 clear hz
 go_enter func198,ntmps198
 go_wp2_with (first|(go_at_call 250;refine(K.out).mono ?_;rintro e w1 ⟨rfl,hb1⟩))
 go_ret
 exact⟨rfl,hb1⟩
theorem crcL_lt(s:By):crcL s<4294967296:=by
 have h:∀(l:List Nat) (x:Nat),x<4294967296→(∀c∈l,c<4294967296)→l.foldl crcStep x<4294967296:=by
  intro l
  induction l with
  |nil=>intro x hx _;exact hx
  |cons c l ih=>intro x hx hc;exact ih _ (crcStep_lt hx (hc c (by simp))) (λd hd=>hc d (by simp[hd]))
 refine Zg (n:=32) (h _ _ (by decide) (λc hc=>?_)) (by decide)
 obtain⟨b,_,rfl⟩:=Qw.1 hc
 have:=Zo b
 omega
attribute [irreducible] cutV cutR cutE takeT takeR takeE textV textE crcL
end Go.Proofs.YtjambljmnifknaaGreatDoor.Tp
