/- Part 4 of the proof of TopAny: Plain arithmetic of the numbers of 256 that layer 1 speaks of · The walks of gf · vec.Scale's walk: a row scaled is each of its bytes multiplied, whatever the row · The walks of layer 1's functions that use the tables · vec.sum's walk: rows of one length, added: each byte is the sum of the rows' bytes, whatever the rows · wire of TopAny's program: Put, Cut, Text, Take · crc of TopAny's program. -/
import Derived.Test.YtjambljmnifknaaGreatDoorJ00
import Derived.Test.YtjambljmnifknaaGreatDoorProg
import Derived.WalkKit
import Derived.KernelRfl
import Derived.Deep.LoopGhost
import Derived.Laws.BitsAllLaws
import Derived.Lib.ConvBytes
import Derived.Laws.BytesArg
import Derived.Laws.Rows
import Derived.WalkSmall
import Derived.Deep.WholeRow
import Derived.Deep.QuietTactic
import Derived.BigQuiet
import Derived.Laws.ResultCell
import Derived.Deep.OwnRows
import Derived.StillTailTactics
set_option maxRecDepth 100000
set_option maxHeartbeats 80000000
set_option linter.all false
open Go.Proofs.Tryz
namespace Go.Proofs.YtjambljmnifknaaGreatDoor.Gf
def tw(x:Nat):Nat:=if 255<x*2 then(x*2)^^^285 else x*2
def mulL:Nat→Nat→Nat→Nat→Nat
 |0,_,p,_=>p
 |n+1,b,p,x=>mulL n (b/2) (if b%2=1 then p^^^x else p) (tw x)
def mul(a b:Nat):Nat:=mulL 8 b 0 a
def ex:Nat→Nat
 |0=>1
 |n+1=>tw (ex n)
theorem tw_lt{x:Nat}(h:x<256):tw x<256:=by
 have:∀y,y<256→tw y<256:=by decide+kernel
 exact this x h
theorem ex_lt:∀n,ex n<256
 |0=>by decide
 |n+1=>tw_lt (ex_lt n)
theorem tw_xor{x y:Nat}(hx:x<256)(hy:y<256):tw (x^^^y)=tw x^^^tw y:=by
 have hx':x<2^8:=hx
 have hy':y<2^8:=hy
 have key:∀z,z<256→tw z=(z*2%256)^^^(if z.testBit 7 then 29 else 0):=by decide+kernel
 rw[key _ (Zg hx' hy'),key x hx,key y hy]
 have h1:(x^^^y)*2%256=(x*2%256)^^^(y*2%256):=by
  apply Y9
  intro i
  simp[Nat.testBit_mod_two_pow _ 8,show(256:Nat)=2^8 from rfl,Nat.testBit_mul_two_pow,show ∀z:Nat,z*2=z*2^1 from λz=>by simp]
  cases decide (i<8)<;>cases decide (1≤i)<;>simp
 rw[h1,Y2]
 cases x.testBit 7<;>cases y.testBit 7<;>simp<;>first|ac_rfl|skip
 rw[show x*2%256^^^29^^^(y*2%256^^^29)=x*2%256^^^y*2%256^^^(29^^^29) by ac_rfl]
 simp
theorem xor4(a b c d:Nat):(a^^^b)^^^(c^^^d)=(a^^^c)^^^(b^^^d):=by ac_rfl
theorem xor_lt{x y:Nat}(hx:x<256)(hy:y<256):x^^^y<256:=Zg (n:=8) hx hy
theorem mulL_x:∀(n b p q x y:Nat),x<256→y<256→mulL n b (p^^^q) (x^^^y)=mulL n b p x^^^mulL n b q y
 |0,_,_,_,_,_,_,_=>rfl
 |n+1,b,p,q,x,y,hx,hy=>by
  simp only[mulL]
  rw[tw_xor hx hy]
  split
  ·rw[xor4];exact mulL_x n _ _ _ _ _ (tw_lt hx) (tw_lt hy)
  ·exact mulL_x n _ _ _ _ _ (tw_lt hx) (tw_lt hy)
theorem xor_mod_two(b c:Nat):(b^^^c)%2=1↔¬(b%2=1↔c%2=1):=by
 have h:=Y2 b c 0
 simp only[Nat.testBit_zero] at h
 by_cases h1:b%2=1<;>by_cases h2:c%2=1<;>simp_all
theorem xor_div_two(b c:Nat):(b^^^c)/2=b/2^^^c/2:=by
 apply Y9
 intro i
 simp[Nat.testBit_div_two,Y2]
theorem mulL_b:∀(n b c p q x:Nat),mulL n (b^^^c) (p^^^q) x=mulL n b p x^^^mulL n c q x
 |0,_,_,_,_,_=>rfl
 |n+1,b,c,p,q,x=>by
  simp only[mulL]
  rw[xor_div_two,←mulL_b n]
  congr 1
  have h:=xor_mod_two b c
  by_cases h1:b%2=1<;>by_cases h2:c%2=1
  ·rw[if_neg (by rw[h];simp[h1,h2]),if_pos h1,if_pos h2,xor4,Nat.xor_self,Nat.xor_zero]
  ·rw[if_pos (by rw[h];simp[h1,h2]),if_pos h1,if_neg h2];ac_rfl
  ·rw[if_pos (by rw[h];simp[h1,h2]),if_neg h1,if_pos h2];ac_rfl
  ·rw[if_neg (by rw[h];simp[h1,h2]),if_neg h1,if_neg h2]
theorem mul_xor_left{x y:Nat}(b:Nat)(hx:x<256)(hy:y<256):mul (x^^^y) b=mul x b^^^mul y b:=
 mulL_x 8 b 0 0 x y hx hy
theorem mul_xor_right(a b c:Nat):mul a (b^^^c)=mul a b^^^mul a c:=mulL_b 8 b c 0 0 a
theorem mulL_zero:∀(n p x:Nat),mulL n 0 p x=p
 |0,_,_=>rfl
 |n+1,p,x=>mulL_zero n p (tw x)
theorem mulL_lt:∀(n b p x:Nat),p<256→x<256→mulL n b p x<256
 |0,_,_,_,hp,_=>hp
 |n+1,b,p,x,hp,hx=>by
  simp only[mulL]
  refine mulL_lt n _ _ _ ?_ (tw_lt hx)
  split
  ·exact xor_lt hp hx
  ·exact hp
theorem mul_lt{a:Nat}(b:Nat)(ha:a<256):mul a b<256:=mulL_lt 8 b 0 a (by decide) ha
theorem bits_ind(P:Nat→Prop)(h0:P 0)(hb:∀i,i<8→P (2^i))(hx:∀a b,a<256→b<256→P a→P b→P (a^^^b)):∀a,a<256→P a:=by
 have step:∀n,n≤8→∀a,a<2^n→P a:=by
  intro n
  induction n with
  |zero=>
   intro _ a ha
   have:a=0:=by simpa using ha
   subst this
   exact h0
  |succ n ih=>
   intro hn a ha
   by_cases h:a<2^n
   ·exact ih (by omega) a h
   ·have hp:2^(n+1)=2*2^n:=by rw[YD,Ym]
    have hr:a-2^n<2^n:=by omega
    have h8:2^n≤2^7:=Y8 (by decide) (by omega)
    have he:a=2^n^^^(a-2^n):=by
     have h1:=Nat.two_pow_add_eq_or_of_lt hr 1
     have h2:2^n*1+(a-2^n)=a:=by omega
     rw[h2] at h1
     rw[h1]
     apply Y9
     intro i
     simp only[ZI,Nat.testBit_or,Y2,Nat.testBit_two_pow]
     by_cases hi:n=i
     ·subst hi
      have h3:(2^n|||(a-2^n))-2^n=a-2^n:=by rw[ZI] at h1;rw[←h1]
      rw[h3]
      simp[Nat.testBit_lt_two_pow hr]
     ·have h3:(2^n|||(a-2^n))-2^n=a-2^n:=by rw[ZI] at h1;rw[←h1]
      rw[h3]
      simp[hi]
    rw[he]
    exact hx _ _ (by omega) (by omega) (hb n (by omega)) (ih (by omega) _ hr)
 exact λa ha=>step 8 (Qd _) a ha
theorem mul_zero_right(a:Nat)(ha:a<256):mul a 0=0:=by
 have:∀a,a<256→mul a 0=0:=by decide+kernel
 exact this a ha
theorem mul_zero_left(b:Nat)(hb:b<256):mul 0 b=0:=by
 have:∀a,a<256→mul 0 a=0:=by decide+kernel
 exact this b hb
theorem mul_comm{a b:Nat}(ha:a<256)(hb:b<256):mul a b=mul b a:=by
 have base:∀i,i<8→∀j,j<8→mul (2^i) (2^j)=mul (2^j) (2^i):=by decide+kernel
 have p256:∀i,i<8→2^i<256:=by decide
 refine bits_ind (λa=>∀b,b<256→mul a b=mul b a) ?_ ?_ ?_ a ha b hb
 ·intro b hb;rw[mul_zero_left b hb,mul_zero_right b hb]
 ·intro i hi b hb
  refine bits_ind (λb=>mul (2^i) b=mul b (2^i)) ?_ (λj hj=>base i hi j hj) ?_ b hb
  ·show mul (2^i) 0=mul 0 (2^i)
   rw[mul_zero_left _ (p256 i hi),mul_zero_right _ (p256 i hi)]
  ·intro x y hx hy h1 h2
   show mul (2^i) (x^^^y)=mul (x^^^y) (2^i)
   rw[mul_xor_right,mul_xor_left _ hx hy,h1,h2]
 ·intro x y hx hy h1 h2 b hb
  rw[mul_xor_left _ hx hy,mul_xor_right,h1 b hb,h2 b hb]
theorem mul_assoc{a b c:Nat}(ha:a<256)(hb:b<256)(hc:c<256):mul a (mul b c)=mul (mul a b) c:=by
 have base:∀i,i<8→∀j,j<8→∀k,k<8→mul (2^i) (mul (2^j) (2^k))=mul (mul (2^i) (2^j)) (2^k):=by decide+kernel
 have p256:∀i,i<8→2^i<256:=by decide
 refine bits_ind (λa=>∀b,b<256→∀c,c<256→mul a (mul b c)=mul (mul a b) c) ?_ ?_ ?_ a ha b hb c hc
 ·intro b hb c hc
  show mul 0 (mul b c)=mul (mul 0 b) c
  rw[mul_zero_left b hb,mul_zero_left c hc,mul_zero_left _ (mul_lt c hb)]
 ·intro i hi b hb
  refine bits_ind (λb=>∀c,c<256→mul (2^i) (mul b c)=mul (mul (2^i) b) c) ?_ ?_ ?_ b hb
  ·intro c hc
   show mul (2^i) (mul 0 c)=mul (mul (2^i) 0) c
   rw[mul_zero_left c hc,mul_zero_right _ (p256 i hi),mul_zero_left c hc]
  ·intro j hj c hc
   refine bits_ind (λc=>mul (2^i) (mul (2^j) c)=mul (mul (2^i) (2^j)) c) ?_ (λk hk=>base i hi j hj k hk) ?_ c hc
   ·show mul (2^i) (mul (2^j) 0)=mul (mul (2^i) (2^j)) 0
    rw[mul_zero_right _ (p256 j hj),mul_zero_right _ (p256 i hi),mul_zero_right _ (mul_lt _ (p256 i hi))]
   ·intro x y hx hy h1 h2
    show mul (2^i) (mul (2^j) (x^^^y))=mul (mul (2^i) (2^j)) (x^^^y)
    rw[mul_xor_right,mul_xor_right,mul_xor_right,h1,h2]
  ·intro x y hx hy h1 h2 c hc
   rw[mul_xor_left _ hx hy,mul_xor_right,mul_xor_right,mul_xor_left _ (mul_lt _ (p256 i hi)) (mul_lt _ (p256 i hi)),h1 c hc,h2 c hc]
 ·intro x y hx hy h1 h2 b hb c hc
  rw[mul_xor_left _ hx hy,mul_xor_left _ hx hy,mul_xor_left _ (mul_lt _ hx) (mul_lt _ hy),h1 b hb c hc,h2 b hb c hc]
theorem mul_one{a:Nat}(ha:a<256):mul a 1=a:=by
 have:∀a,a<256→mul a 1=a:=by decide+kernel
 exact this a ha
theorem one_mul{a:Nat}(ha:a<256):mul 1 a=a:=by rw[mul_comm (by decide) ha,mul_one ha]
theorem two_mul{a:Nat}(ha:a<256):mul 2 a=tw a:=by
 have:∀a,a<256→mul 2 a=tw a:=by decide+kernel
 exact this a ha
theorem ex_add(i:Nat):∀j,mul (ex i) (ex j)=ex (i+j)
 |0=>mul_one (ex_lt i)
 |j+1=>by
  show mul (ex i) (tw (ex j))=tw (ex (i+j))
  rw[←two_mul (ex_lt j),←ex_add i j,←two_mul (mul_lt _ (ex_lt i)),mul_assoc (ex_lt i) (by decide) (ex_lt j),mul_comm (ex_lt i) (by decide:2<256),←mul_assoc (by decide) (ex_lt i) (ex_lt j)]
theorem ex_255:ex 255=1:=by decide+kernel
theorem ex_period(i:Nat):ex (i+255)=ex i:=by rw[←ex_add i 255,ex_255,mul_one (ex_lt i)]
theorem ex_mod(i:Nat):ex (i%255)=ex i:=by
 have h:∀q r,ex (r+255*q)=ex r:=by
  intro q
  induction q with
  |zero=>intro r;rfl
  |succ q ih=>intro r;rw[show r+255*(q+1)=(r+255*q)+255 by omega,ex_period,ih]
 have:=h (i/255) (i%255)
 rw[Nat.mod_add_div] at this
 exact this.symm
def lgT:List Nat:=[
 0,0,1,25,2,50,26,198,3,223,51,238,27,104,199,75,4,100,224,14,52,141,239,129,28,193,105,248,200,8,76,113,
 5,138,101,47,225,36,15,33,53,147,142,218,240,18,130,69,29,181,194,125,106,39,249,185,201,154,9,120,77,228,114,166,
 6,191,139,98,102,221,48,253,226,152,37,179,16,145,34,136,54,208,148,206,143,150,219,189,241,210,19,92,131,56,70,64,
 30,66,182,163,195,72,126,110,107,58,40,84,250,133,186,61,202,94,155,159,10,21,121,43,78,212,229,172,115,243,167,87,
 7,112,192,247,140,128,99,13,103,74,222,237,49,197,254,24,227,165,153,119,38,184,180,124,17,68,146,217,35,32,137,46,
 55,63,209,91,149,188,207,205,144,135,151,178,220,252,190,97,242,86,211,171,20,42,93,158,132,60,57,83,71,109,65,162,
 31,45,67,216,183,123,164,118,196,23,73,236,127,12,111,246,108,161,59,82,41,157,85,170,251,96,134,177,187,204,62,90,
 203,89,95,176,156,169,160,81,11,245,22,235,122,117,44,215,79,174,213,233,230,231,173,232,116,214,244,234,168,80,88,175]
def lg(v:Nat):Nat:=lgT.getD v 0
theorem ex_lg{v:Nat}(h0:v≠0)(h:v<256):ex (lg v)=v:=by
 have:∀v,v<256→v≠0→ex (lg v)=v:=by decide+kernel
 exact this v h h0
theorem lg_lt(v:Nat):lg v<255:=by
 by_cases h:v<256
 ·have:∀v,v<256→lg v<255:=by decide+kernel
  exact this v h
 ·unfold lg
  rw[Ql,Qx (Qb (by decide+kernel:lgT.length≤256) (by omega))]
  decide
theorem lg_ex{i:Nat}(h:i<255):lg (ex i)=i:=by
 have:∀i,i<255→lg (ex i)=i:=by decide+kernel
 exact this i h
theorem ex_ne(i:Nat):ex i≠0:=by
 have:∀i,i<255→ex i≠0:=by decide+kernel
 rw[←ex_mod]
 exact this _ (Nat.mod_lt _ (by decide))
def divT(a b:Nat):Nat:=ex (lg a+255-lg b)
def pw(a:Nat):Nat→Nat
 |0=>1
 |n+1=>mul (pw a n) a
end Go.Proofs.YtjambljmnifknaaGreatDoor.Gf
namespace Go.Proofs.YtjambljmnifknaaGreatDoor.Gf
open Go.RowKit
theorem bits_i64'(a b:Nat)(ha:a<65536)(hb:b<65536):bits .xor .i64 (a:Int) (b:Int)=((a^^^b:Nat):Int):=by
 have h:a^^^b<65536:=Zg (n:=16) ha hb
 simp only[bits,Yy,BitVec.toNat_xor,YK]
 rw[Zc (QH ha (by decide)),Zc (QH hb (by decide)),IntKind.wrap_i64]
 omega
theorem tw_hi'(x:Nat)(h:255<x*2)(hx:x<256):bits .xor .i64 ((x:Int)*2) 285=((tw x:Nat):Int):=by
 have:=bits_i64' (x*2) 285 (by omega) (by decide)
 rw[tw,if_pos h,←this]
 rfl
theorem tw_lo'(x:Nat)(h:¬255<x*2):(x:Int)*2=((tw x:Nat):Int):=by
 rw[tw,if_neg h]
 rfl
theorem mulL_step(n b p x:Nat):mulL (n+1) b p x=mulL n (b/2) (if b%2=1 then p^^^x else p) (tw x):=rfl
theorem mul_any(a b:Nat)(ha:a<256)(hb:b<256)(w:World):
  Calls prog 318 #[.int .u8 (a:Int),.int .u8 (b:Int)] w λe w'=>e=.returned (.int .u8 (mul a b:Nat))∧w=w':=by
 have HR:=Qg (show mul a b=mulL 8 b 0 a from rfl)
 have ha':(a:Int)<256:=by omega
 go_enter func318,ntmps318
 go_wp2
 go_loopg [1,5,6] 8 (λg v1 v5 v6 wx=>∃c p x:Nat,v1=.int .u8 (c:Int)∧v5=.int .u8 (p:Int)∧v6=.int .i64 (x:Int)∧c<2^g∧c<256∧p<256∧x<256∧Aside (mulL g c p x=mul a b)∧w=wx)
 case atStart=>exact⟨b,0,a,rfl,rfl,rfl,hb,hb,by omega,ha,HR.out.symm,rfl⟩
 case round=>
  obtain⟨c,p,x,rfl,rfl,rfl,hc,hc8,hp,hx,HA,rfl⟩:=hrel
  have hp':(p:Int)<256:=by omega
  have hx':(x:Int)<256:=by omega
  have hc':(c:Int)<256:=by omega
  cases gk with
  |zero=>
   obtain rfl:c=0:=by simpa using hc
   have hm:=mulL_zero 0 p x
   rw[HA.out] at hm
   subst hm
   go_wp2
   go_ret
   exact⟨rfl,rfl⟩
  |succ g=>
   have hc2:c/2<2^g:=by rw[YD] at hc;omega
   clear hc
   have hstep:=HA.out
   by_cases h0:c=0
   ·subst h0
    have hm:=mulL_zero (g+1) p x
    rw[hstep] at hm
    clear hstep HA hc2
    subst hm
    go_wp2
    go_ret
    exact⟨rfl,rfl⟩
   ·rw[mulL_step] at hstep
    have ht:=tw_lt hx
    have hx1:=u8_xor_nat p x hp hx
    have hxl:=xor_lt hp hx
    have hand:bits .and .u8 (c:Int) 1=((c%2:Nat):Int):=by
     have:=u8_and_nat c 1 hc8 (by decide)
     rw[nat_mask1] at this
     exact this
    have h00:((c:Int)==0)=false:=by simpa using h0
    have h01:((c:Int) !=0)=true:=by simpa using h0
    by_cases hbit:c%2=1
    ·rw[if_pos hbit] at hstep
     rw[hbit] at hand
     have HS:=Qg hstep
     have HX:=Qg hx1
     clear hstep hx1 hbit HA
     by_cases h2:255<(x:Int)*2
     ·have HT:=Qg (tw_hi' x (by omega) hx)
      go_wp2
      go_roundg g
      case measure=>omega
      case rel=>exact⟨c/2,p^^^x,tw x,by go_num,by rw[HX.out],by rw[HT.out],hc2,by omega,hxl,ht,HS.out,rfl⟩
     ·have HT:=Qg (tw_lo' x (by omega))
      go_wp2
      go_roundg g
      case measure=>omega
      case rel=>exact⟨c/2,p^^^x,tw x,by go_num,by rw[HX.out],by rw[HT.out],hc2,by omega,hxl,ht,HS.out,rfl⟩
    ·rw[if_neg hbit] at hstep
     rw[show c%2=0 by omega] at hand
     have HS:=Qg hstep
     clear hstep hx1 hbit HA
     by_cases h2:255<(x:Int)*2
     ·have HT:=Qg (tw_hi' x (by omega) hx)
      go_wp2
      go_roundg g
      case measure=>omega
      case rel=>exact⟨c/2,p,tw x,by go_num,rfl,by rw[HT.out],hc2,by omega,hp,ht,HS.out,rfl⟩
     ·have HT:=Qg (tw_lo' x (by omega))
      go_wp2
      go_roundg g
      case measure=>omega
      case rel=>exact⟨c/2,p,tw x,by go_num,rfl,by rw[HT.out],hc2,by omega,hp,ht,HS.out,rfl⟩
theorem add_any(a b:Nat)(ha:a<256)(hb:b<256)(w:World):
  Calls prog 319 #[.int .u8 (a:Int),.int .u8 (b:Int)] w λe w'=>e=.returned (.int .u8 (a^^^b:Nat))∧w=w':=by
 have HX:=Qg (u8_xor_nat a b ha hb)
 go_enter func319,ntmps319
 go_wp2
 go_ret
 exact⟨by rw[HX.out];rfl,rfl⟩
def scl(s:ByteArray)(c:Nat)(k i:Nat):Int:=if i<k then((mul (s.data.toList.getD i 0).toNat c:Nat):Int) else((s.data.toList.getD i 0).toNat:Int)
def sclRow(s:ByteArray)(c:Nat)(k:Nat):List Int:=(List.range s.size).map (scl s c k)
theorem scl_hit(s:ByteArray)(c k:Nat):scl s c (k+1) k=((mul (s.data.toList.getD k 0).toNat c:Nat):Int):=by unfold scl;rw[if_pos (by omega)]
theorem scl_at(s:ByteArray)(c k:Nat):scl s c k k=((s.data.toList.getD k 0).toNat:Int):=by unfold scl;rw[if_neg (by omega)]
theorem scl_else(s:ByteArray)(c k i:Nat)(h:i≠k):scl s c (k+1) i=scl s c k i:=by
 unfold scl
 by_cases h1:i<k
 ·rw[if_pos h1,if_pos (by omega)]
 ·rw[if_neg h1,if_neg (by omega)]
theorem scl_zero(s:ByteArray)(c i:Nat):scl s c 0 i=((s.data.toList.getD i 0).toNat:Int):=by unfold scl;rw[if_neg (by omega)]
theorem byte_lt(s:ByteArray)(i:Nat):(s.data.toList.getD i 0).toNat<256:=Zo _
structure SclW(w:World)(s:ByteArray)(c k:Nat)(wx:World):Prop where
 size:w.heap.size<wx.heap.size
 cell:∀i,i<s.size→wx.cell? ⟨w.heap.size,i,none⟩=some (.int .u8 (scl s c k i))
 free:∀i,i<s.size→wx.frozen? ⟨w.heap.size,i,none⟩=false
 below:Below w.heap.size w wx
theorem SclW.start(w:World)(s:ByteArray)(c:Nat):SclW w s c 0 (Lib.bytesWorld w 5 s):=by
 refine⟨by rw[Lib.bytesWorld_size];omega,λi hi=>?_,λi hi=>?_,?_⟩
 ·rw[Lib.bytesWorld_cell w 5 s i hi,scl_zero]
 ·have hsz:i<(Lib.bytesCells w 5 s).size:=by
   have:s.size=s.data.toList.length:=by simp
   simp[Lib.bytesCells]
   omega
  simp[World.frozen?,Lib.bytesWorld_at_new]
  omega
 ·exact⟨rfl,rfl,rfl,by rw[Lib.bytesWorld_size];omega,λj hj=>Lib.bytesWorld_at_old w 5 s j hj⟩
theorem SclW.step{w wx:World}{s:ByteArray}{c k:Nat}(h:SclW w s c k wx)(hk:k<s.size):
  SclW w s c (k+1) (wx.setCell ⟨w.heap.size,k,none⟩ (.int .u8 ((mul (s.data.toList.getD k 0).toNat c:Nat):Int))):=by
 refine⟨by simpa using h.size,λi hi=>?_,λi hi=>?_,h.below.setCell (Qd _) _⟩
 ·by_cases e:i=k
  ·subst e
   rw[scl_hit,World.cell?_setCell_same _ _ _ (h.cell i hi)]
  ·rw[World.cell?_setCell_other _ _ _ _ (by simp[e]),h.cell i hi,scl_else s c k i e]
 ·rw[World.frozen?_setCell,h.free i hi]
def scaleB(s:ByteArray)(c:Nat):ByteArray:=strOfNums (sclRow s c s.size)
theorem scale_any(s:ByteArray)(c:Nat)(hs:s.size≤140737488351232)(hc:c<256)(w:World):
  Calls prog 295 #[.string s,.int .u8 (c:Int)] w λe w'=>e=.returned (.string (scaleB s c))∧Below w.heap.size w w':=by
 have hcv:=Lib.run_convert_string_bytes (P:=prog) w 9 192 5 s underlying9 underlying192 underlying5
 have hst:=SclW.start w s c
 obtain⟨cap,hcap⟩:∃cap,grownCap w s.size 0 5=cap:=⟨_,rfl⟩
 obtain⟨W1,hW1⟩:∃W1,Lib.bytesWorld w 5 s=W1:=⟨_,rfl⟩
 rw[hcap,hW1] at hcv
 rw[hW1] at hst
 have HST:=Qg hst
 clear hst hcap hW1
 go_enter func295,ntmps295
 go_wp2
 clear hcv
 go_loopg [12] s.size (λg v12 wx=>∃k:Nat,k+g=s.size∧v12=.int .i64 (k:Int)∧Aside (SclW w s c k wx))
 case atStart=>exact⟨0,by omega,rfl,HST.out⟩
 case round=>
  obtain⟨k,hkg,rfl,HI⟩:=hrel
  cases gk with
  |zero=>
   obtain rfl:k=s.size:=by omega
   have hbk:=run_convert_bytes_arg (P:=prog) wr 192 5 underlying192 underlying5 w.heap.size 0 s.size cap (sclRow s c s.size) (by simp[sclRow]) (λi hi=>by
    have:=HI.out.cell i hi
    rw[Qr,this]
    simp[sclRow,hi]) 9 underlying9
   go_wp2
   go_ret
   exact⟨rfl,HI.out.below⟩
  |succ g=>
   have hk:k<s.size:=by omega
   have hki:(k:Int)<(s.size:Int):=by omega
   obtain⟨b,hb⟩:∃b,(s.data.toList.getD k 0).toNat=b:=⟨_,rfl⟩
   have hb8:b<256:=by rw[←hb];exact byte_lt s k
   have hc0:=HI.out.cell k hk
   rw[scl_at,hb] at hc0
   have hf0:=HI.out.free k hk
   have hsz:=HI.out.size
   have hnx:=HI.out.step hk
   rw[hb] at hnx
   have HN:=Qg hnx
   clear hnx hb HST
   go_wp2_with (go_at_call 318;refine(mul_any b c hb8 hc _).mono ?_;rintro e w1 ⟨rfl,rfl⟩)
   go_roundg g
   case measure=>omega
   case rel=>exact⟨k+1,by omega,by go_num,HN.out⟩
def expAt(k i:Nat):Value:=.int .u8 (if i%255<k then(ex i:Nat) else 0:Nat)
def logAt(k v:Nat):Value:=.int .i64 (if v≠0∧lg v<k then(lg v:Nat) else 0:Nat)
def tab(k:Nat):Array Value:=((List.range 510).map (expAt k)++(List.range 256).map (logAt k)).toArray
theorem tab_size(k:Nat):(tab k).size=766:=by simp[tab]
theorem tab_exp(k i:Nat)(h:i<510):(tab k)[i]? =some (expAt k i):=by
 simp[tab,Yx,h]
theorem tab_log(k v:Nat)(h:v<256):(tab k)[510+v]? =some (logAt k v):=by
 simp[tab,Yx,h]
theorem tab_one(k:Nat):(tab k).all (·.oneCell')=true:=by
 rw[Array.all_eq_true_iff_forall_mem]
 intro x hx
 simp only[tab,List.mem_toArray,Qz,Qw,Zt] at hx
 rcases hx with ⟨i,_,rfl⟩|⟨i,_,rfl⟩<;>rfl
theorem tab_step(k:Nat)(hk:k<255):
  (((tab k).setIfInBounds k (.int .u8 (ex k:Nat))).setIfInBounds (k+255) (.int .u8 (ex k:Nat))).setIfInBounds (510+ex k) (.int .i64 (k:Nat))=tab (k+1):=by
 have hx:=ex_lt k
 apply YL
 intro i
 simp only[YA,Array.size_setIfInBounds,tab_size]
 by_cases h:i<510
 ·rw[tab_exp _ i h,tab_exp _ i h,if_neg (by omega)]
  unfold expAt
  by_cases h1:i=k+255
  ·subst h1
   rw[if_pos rfl,if_pos (by omega),ex_period,if_pos (by omega)]
  ·rw[if_neg (by omega)]
   by_cases h2:i=k
   ·subst h2
    rw[if_pos rfl,if_pos (by omega),if_pos (by omega)]
   ·rw[if_neg (by omega)]
    congr 4
    apply propext
    omega
 ·by_cases h':i<766
  ·obtain⟨v,rfl⟩:∃v,i=510+v:=⟨i-510,by omega⟩
   have hv:v<256:=by omega
   rw[tab_log _ v hv,tab_log _ v hv]
   unfold logAt
   by_cases h1:v=ex k
   ·subst h1
    rw[if_pos rfl,if_pos (by omega),lg_ex hk,if_pos ⟨ex_ne k,by omega⟩]
   ·rw[if_neg (by omega),if_neg (by omega),if_neg (by omega)]
    by_cases h0:v=0
    ·subst h0;simp
    ·have hne:lg v≠k:=λe=>h1 (by rw[←e,ex_lg h0 hv])
     congr 4
     apply propext
     omega
  ·have:∀k,(tab k)[i]? =none:=λk=>ZX (by rw[tab_size];omega)
   rw[this,this,if_neg (by omega),if_neg (by omega),if_neg (by omega)]
theorem bits_i64(a b:Nat)(ha:a<65536)(hb:b<65536):bits .xor .i64 (a:Int) (b:Int)=((a^^^b:Nat):Int):=by
 have h:a^^^b<65536:=Zg (n:=16) ha hb
 simp only[bits,Yy,BitVec.toNat_xor,YK]
 rw[Zc (QH ha (by decide)),Zc (QH hb (by decide)),IntKind.wrap_i64]
 omega
theorem tw_hi(x:Nat)(h:255<x*2)(hx:x<256):bits .xor .i64 ((x:Int)*2) 285=((tw x:Nat):Int):=by
 have:=bits_i64 (x*2) 285 (by omega) (by decide)
 rw[tw,if_pos h,←this]
 rfl
theorem tw_lo(x:Nat)(h:¬255<x*2):(x:Int)*2=((tw x:Nat):Int):=by
 rw[tw,if_neg h]
 rfl
theorem alloc2_setRow(w:World)(a b c:Array Value)(t u:TypeId):
  ((w.alloc (.cells a t)).alloc (.cells b u)).setRow w.heap.size c=(w.alloc (.cells c t)).alloc (.cells b u):=by
 simp only[World.setRow,World.alloc]
 congr 1
 apply YL
 intro i
 rw[ZM]
 by_cases h:w.heap.size=i
 ·subst h
  simp[Je]
 ·have h':¬i=w.heap.size:=λe=>h e.symm
  simp[h,h',Je]
theorem info41:(prog.info? 382).map (λi=>(i.zero,i.size))=some (some (.agg (tab 0)),766):=by kernel_rfl
theorem make1_calls(w:World):
  Calls prog 317 #[] w λe w'=>e=.returned (.agg (tab 255))∧w'=(w.alloc (.cells (tab 255) 382)).alloc (.cells (tab 255) 382):=by
 obtain⟨hz41,hi41⟩:=zero_of_info info41
 go_enter func317,ntmps317
 go_wp2
 go_loopg [2,4] 255 (λg s2 s4 wx=>∃k:Nat,k+g=255∧s2=.int .i64 (ex k:Nat)∧s4=.int .i64 (k:Nat)∧wx=(w.alloc (.cells (tab 0) 382)).alloc (.cells (tab k) 382))
 case atStart=>exact⟨0,by omega,rfl,rfl,rfl⟩
 case round=>
  obtain⟨k,hkg,rfl,rfl,rfl⟩:=hrel
  cases gk with
  |zero=>
   obtain rfl:k=255:=by omega
   have hi:(prog.info? 382).map (·.size)=some (tab 255).size:=by rw[tab_size];exact hi41
   have hu:∃d,prog.underlying 382=some d∧(match d with| .struct _| .array _ _=>true|_=>false)=true:=⟨_,underlying382,rfl⟩
   have HI:=Qg hi
   clear hi
   have hW0:=heap_alloc2_old w (.cells (tab 0) 382) (.cells (tab 255) 382)
   have hW1:=heap_alloc2_new w (.cells (tab 0) 382) (.cells (tab 255) 382)
   have HW0:=Qg hW0
   have HW1:=Qg hW1
   clear hW0 hW1 hz41 hi41
   go_wp2_with (first|(refine wpList_load_row rfl 382 (.tmp 1) rfl (w.heap.size+1) rfl 382 (tab 255) (0,0) _ HW1.out underlying382 rfl HI.out ?_)|(refine wpList_store_row rfl 382 (.tmp 0) (.tmp 29) rfl w.heap.size (tab 255) rfl rfl 382 (tab 0) HW0.out HI.out (by rw[tab_size,tab_size]) (tab_one 255) ?_))
   refine bodyPost_ret (v:=.agg (tab 255)) ?_ rfl ⟨rfl,alloc2_setRow w _ _ _ _ _⟩
   exact results_cell_row rfl _ _ w.heap.size 382 (tab 255) (0,0) _ rfl (setRow_heap _ _ _ _ _ _ HW0.out) underlying382 rfl HI.out
  |succ g=>
   have hk:(k:Int)<255:=by omega
   obtain⟨x,hx⟩:∃x:Nat,ex k=x:=⟨_,rfl⟩
   rw[hx]
   have hx256:(x:Int)<256:=by have:=ex_lt k;omega
   have HX:=Qg hx
   clear hx
   have hst:=tab_step k (by omega)
   rw[HX.out] at hst
   have HST:=Qg hst
   clear hst
   obtain⟨v1,c1⟩:∃v,(tab k)[k]? =some v:=⟨_,tab_exp k k (by omega)⟩
   obtain⟨v2,c2⟩:∃v,(tab k)[k+255]? =some v:=⟨_,tab_exp k (k+255) (by omega)⟩
   obtain⟨v3,c3⟩:∃v,(((tab k).setIfInBounds k (.int .u8 (x:Int))).setIfInBounds (k+255) (.int .u8 (x:Int)))[510+x]? =some v:=
    ⟨_,Array.getElem?_eq_getElem (by simp[tab_size];omega)⟩
   by_cases hx2:255<(x:Int)*2
   ·go_wp2
    go_roundg g
    case measure=>omega
    case rel=>exact⟨k+1,by omega,by show Value.int _ _=Value.int _ ((tw (ex k):Nat):Int);rw[HX.out,tw_hi x (by omega) (by omega)],by go_num,by rw[HST.out]⟩
   ·go_wp2
    go_roundg g
    case measure=>omega
    case rel=>exact⟨k+1,by omega,by show Value.int _ _=Value.int _ ((tw (ex k):Nat):Int);rw[HX.out,tw_lo x (by omega)],by go_num,by rw[HST.out]⟩
def tabW(w:World):World:=((w.alloc (.cells (tab 255) 382)).alloc (.cells (tab 255) 382)).alloc (.cells (tab 255) 382)
theorem tabW_below(w:World):Below w.heap.size w (tabW w):=
 (((Below.refl _ _).alloc (Qd _) _).alloc (by simp) _).alloc (by simp;omega) _
theorem tabW_new(w:World):(((w.alloc (.cells (tab 255) 382)).alloc (.cells (tab 255) 382)).alloc (.cells (tab 0) 382)).heap[w.heap.size+1+1]? =some (.cells (tab 0) 382):=by
 have h:=heap_alloc_new ((w.alloc (.cells (tab 255) 382)).alloc (.cells (tab 255) 382)) (.cells (tab 0) 382)
 have e:((w.alloc (.cells (tab 255) 382)).alloc (.cells (tab 255) 382)).heap.size=w.heap.size+1+1:=by simp
 rwa[e] at h
theorem tabW_set(w:World):(((w.alloc (.cells (tab 255) 382)).alloc (.cells (tab 255) 382)).alloc (.cells (tab 0) 382)).setRow (w.heap.size+1+1) (tab 255)=tabW w:=by
 have h:=World.setRow_alloc_new ((w.alloc (.cells (tab 255) 382)).alloc (.cells (tab 255) 382)) (tab 0) (tab 255) 382
 have e:((w.alloc (.cells (tab 255) 382)).alloc (.cells (tab 255) 382)).heap.size=w.heap.size+1+1:=by simp
 rwa[e] at h
theorem tabW_cell(w:World)(i:Nat)(v:Value)(h:(tab 255)[i]? =some v):(tabW w).cell? ⟨w.heap.size+1+1,i,none⟩=some v:=by
 have:(tabW w).heap[w.heap.size+1+1]? =some (.cells (tab 255) 382):=by
  have h:=heap_alloc_new ((w.alloc (.cells (tab 255) 382)).alloc (.cells (tab 255) 382)) (.cells (tab 255) 382)
  have e:((w.alloc (.cells (tab 255) 382)).alloc (.cells (tab 255) 382)).heap.size=w.heap.size+1+1:=by simp
  rwa[e] at h
 rw[cell_of_row _ _ _ _ _ _ this]
 exact h
theorem tabW_exp(w:World)(i:Nat)(h:i<510):(tabW w).cell? ⟨w.heap.size+1+1,i,none⟩=some (.int .u8 (ex i:Nat)):=by
 rw[tabW_cell w i _ (tab_exp 255 i h),expAt,if_pos (by omega)]
theorem tabW_log(w:World)(v:Nat)(h0:v≠0)(h:v<256):(tabW w).cell? ⟨w.heap.size+1+1,510+v,none⟩=some (.int .i64 (lg v:Nat)):=by
 rw[tabW_cell w _ _ (tab_log 255 v h),logAt,if_pos ⟨h0,lg_lt v⟩]
theorem below_refl(w:World):Below w.heap.size w w:=Below.refl _ _
theorem div_null(a:Int)(w:World):
  Calls prog 293 #[.int .u8 a,.int .u8 0] w λe w'=>e=.returned (.tuple #[.int .u8 0,.int .i64 1])∧Below w.heap.size w w':=by
 go_enter func293,ntmps293
 go_wp2
 go_ret2
 exact⟨rfl,below_refl w⟩
theorem div_zero(b:Nat)(h:b≠0)(w:World):
  Calls prog 293 #[.int .u8 0,.int .u8 (b:Int)] w λe w'=>e=.returned (.tuple #[.int .u8 0,.int .i64 0])∧Below w.heap.size w w':=by
 have hv0:((b:Int)==0)=false:=by simpa using h
 go_enter func293,ntmps293
 go_wp2
 go_ret2
 exact⟨rfl,below_refl w⟩
theorem div_calls(a b:Nat)(ha0:a≠0)(ha:a<256)(hb0:b≠0)(hb:b<256)(w:World):
  Calls prog 293 #[.int .u8 (a:Int),.int .u8 (b:Int)] w λe w'=>e=.returned (.tuple #[.int .u8 (divT a b:Nat),.int .i64 0])∧Below w.heap.size w w':=by
 obtain⟨hz41,hi41⟩:=zero_of_info info41
 have hi:(prog.info? 382).map (·.size)=some (tab 255).size:=by rw[tab_size];exact hi41
 have HI:=Qg hi
 clear hi hi41
 have HN:=Qg (tabW_new w)
 have hb00:((b:Int)==0)=false:=by simpa using hb0
 have ha00:((a:Int)==0)=false:=by simpa using ha0
 have ha1:(a:Int)<256:=by omega
 have hb1:(b:Int)<256:=by omega
 have hla:=lg_lt a
 have hlb:=lg_lt b
 have hc1:=tabW_log w a ha0 ha
 have hc2:=tabW_log w b hb0 hb
 have hc3:=tabW_exp w (lg a+255-lg b) (by omega)
 unfold divT
 obtain⟨l,hl1⟩:∃l,lg a=l:=⟨_,rfl⟩
 obtain⟨m,hm1⟩:∃m,lg b=m:=⟨_,rfl⟩
 rw[hl1,hm1] at hc3⊢
 rw[hl1] at hc1 hla
 rw[hm1] at hc2 hlb
 have hla':(l:Int)<255:=by omega
 have hlb':(m:Int)<255:=by omega
 have hlm0:0≤(l:Int)+255-m:=by omega
 have hlm1:(l:Int)+255-m<510:=by omega
 have HC1:=Qg hc1
 have HC2:=Qg hc2
 obtain⟨j,hj⟩:∃j,l+255-m=j:=⟨_,rfl⟩
 rw[hj] at hc3⊢
 have hw2:IntKind.i64.wrap ((l:Int)+255-m)=(j:Int):=by rw[IntKind.wrap_i64];omega
 have hj1:(j:Int)<510:=by omega
 have HC3:=Qg hc3
 have HW2:=Qg hw2
 clear hc1 hc2 hc3 hl1 hm1 hlm0 hlm1 hj hw2
 go_enter func293,ntmps293
 go_wp2_with (first|(go_at_call 317;refine(make1_calls _).mono ?_;rintro e w' ⟨rfl,rfl⟩)|(refine wpList_store_row rfl 382 (.tmp 6) (.tmp 11) rfl (w.heap.size+1+1) (tab 255) rfl rfl 382 (tab 0) HN.out HI.out (by rw[tab_size,tab_size]) (tab_one 255) ?_;rw[tabW_set];have hc1:=HC1.out;have hc2:=HC2.out;have hc3:=HC3.out))
 have hw1:IntKind.i64.wrap ((l:Int)+255)=(l:Int)+255:=by rw[IntKind.wrap_i64];omega
 have hw2:=HW2.out
 go_quiet (fail)
 clear hw1 hw2
 go_wp2
 go_ret2
 exact⟨rfl,(tabW_below w).trans ⟨rfl,rfl,rfl,Qd _,λ_ _=>rfl⟩⟩
def divF(a b:Int):Option (Int×Int):=
 if 0≤a∧a<256∧0≤b∧b<256 then some (if b=0 then(0,1) else if a=0 then(0,0) else((divT a.toNat b.toNat:Nat),0)) else none
theorem divF_calls(a b r1 r2:Int)(w:World)(h:divF a b=some (r1,r2)):
  Calls prog 293 #[.int .u8 a,.int .u8 b] w λe w'=>e=.returned (.tuple #[.int .u8 r1,.int .i64 r2])∧Below w.heap.size w w':=by
 unfold divF at h
 split at h
 ·rename_i hc
  obtain⟨ha0,ha1,hb0,hb1⟩:=hc
  have h:=QS h
  by_cases hb:b=0
  ·rw[if_pos hb] at h
   obtain⟨rfl,rfl⟩:=Prod.mk.inj h
   subst hb
   exact div_null a w
  ·rw[if_neg hb] at h
   obtain⟨b,rfl⟩:=QW hb0
   by_cases ha:a=0
   ·rw[if_pos ha] at h
    obtain⟨rfl,rfl⟩:=Prod.mk.inj h
    subst ha
    exact div_zero b (by omega) w
   ·rw[if_neg ha] at h
    obtain⟨a,rfl⟩:=QW ha0
    obtain⟨rfl,rfl⟩:=Prod.mk.inj h
    exact div_calls a b (by omega) (by omega) (by omega) (by omega) w
 ·exact absurd h (by simp)
def byteAt(s:ByteArray)(i:Nat):Nat:=(s.data.toList.getD i 0).toNat
theorem byteAt_get(s:ByteArray)(i:Nat)(h:i<s.size):byteAt s i=(s[i]'h).toNat:=by
 unfold byteAt
 rw[Ql,Qc (by simpa using h)]
 rfl
theorem byteAt_lt(s:ByteArray)(i:Nat):byteAt s i<256:=Zo _
def accR:List ByteArray→Nat→Nat
 |[],_=>0
 |r::rs,i=>byteAt r i^^^accR rs i
theorem accR_lt:∀(rs:List ByteArray) (i:Nat),accR rs i<256
 |[],_=>(by decide:0<256)
 |r::rs,i=>xor_lt (byteAt_lt r i) (accR_lt rs i)
theorem accR_snoc(r:ByteArray)(i:Nat):∀(rs:List ByteArray),accR (rs++[r]) i=accR rs i^^^byteAt r i
 |[]=>by simp[accR]
 |x::rs=>by
  show byteAt x i^^^accR (rs++[r]) i=(byteAt x i^^^accR rs i)^^^byteAt r i
  rw[accR_snoc r i rs]
  ac_rfl
structure RowW(w:World)(B n:Nat)(f:Nat→Nat)(wx:World):Prop where
 lo:w.heap.size≤B
 hi:B<wx.heap.size
 cell:∀i,i<n→wx.cell? ⟨B,i,none⟩=some (.int .u8 (f i:Nat))
 free:∀i,i<n→wx.frozen? ⟨B,i,none⟩=false
 below:Below w.heap.size w wx
theorem RowW.congr{w wx:World}{B n:Nat}{f g:Nat→Nat}(h:RowW w B n f wx)(e:∀i,i<n→f i=g i):RowW w B n g wx:=
 ⟨h.lo,h.hi,λi hi=>by rw[h.cell i hi,e i hi],h.free,h.below⟩
theorem RowW.drew{w wx:World}{B n:Nat}{f:Nat→Nat}(h:RowW w B n f wx):RowW w B n f wx.drew:=
 ⟨h.lo,h.hi,h.cell,h.free,h.below.drew⟩
theorem RowW.put{w wx:World}{B n:Nat}{f:Nat→Nat}(h:RowW w B n f wx){k:Nat}(hk:k<n)(v:Nat):
  RowW w B n (λi=>if i=k then v else f i) (wx.setCell ⟨B,k,none⟩ (.int .u8 (v:Nat))):=by
 refine⟨h.lo,by simpa using h.hi,λi hi=>?_,λi hi=>?_,h.below.setCell h.lo _⟩
 ·by_cases e:i=k
  ·subst e
   rw[World.cell?_setCell_same _ _ _ (h.cell i hi),if_pos rfl]
  ·rw[World.cell?_setCell_other _ _ _ _ (by intro e';exact e (by simpa using e'.symm)),h.cell i hi,if_neg e]
 ·rw[World.frozen?_setCell,h.free i hi]
def accK(rs:List ByteArray)(r:ByteArray)(k i:Nat):Nat:=if i<k then accR rs i^^^byteAt r i else accR rs i
def sumB(n:Nat)(rs:List ByteArray):ByteArray:=strOfNums ((List.range n).map λi=>((accR rs i:Nat):Int))
theorem RowW.made(w:World)(n:Nat):RowW w w.heap.size n (accR []) (w.alloc (.cells (madeCells #[.int .u8 0] n) 5)):=by
 have h:=World.rowIs_made w (.int .u8 0) n 5
 exact⟨Qd _,by simp,λi hi=>by rw[h.cell hi];rfl,λi hi=>h.frozen i,(Below.refl _ _).alloc (Qd _) _⟩
theorem addr_block(A:Addr)(m:Nat):(A.add m).block=A.block:=by unfold Addr.add;split<;>rfl
theorem u8info:(prog.info? 5).map (λi=>(i.zero,i.size,i.bytes))=some (some (.int .u8 0),1,1):=by kernel_rfl
theorem sum_any(n:Nat)(rs:List ByteArray)(A:Addr)(cap:Nat)(w:World)(hn:n≤140737488351232)(hl:rs.length≤140737488351232)
  (hrow:∀(j:Nat) r,rs[j]? =some r→w.cell? (A.add j)=some (.string r)∧A.block<w.heap.size∧n≤r.size):
  Calls prog 296 #[.int .i64 (n:Int),.slice (some A) rs.length cap] w λe w'=>e=.returned (.string (sumB n rs))∧Below w.heap.size w w':=by
 have HROW:=Qg hrow
 clear hrow
 have hmk:=run_make_row' (P:=prog) 192 5 (.int .u8 0) 1 underlying192 u8info rfl .i64 .i64 n (by omega) (by omega)
 go_enter func296,ntmps296
 go_wp2
 clear hmk
 go_loopg [13] rs.length (λg v13 wx=>∃m:Nat,m+g=rs.length∧v13=.int .i64 (m:Int)∧Aside (RowW w w.heap.size n (accR (rs.take m)) wx))
 case atStart=>exact⟨0,by omega,rfl,RowW.made w n⟩
 case round=>
  obtain⟨m,hmg,rfl,HI⟩:=hrel
  cases gk with
  |zero=>
   obtain rfl:m=rs.length:=by omega
   have hbk:=run_convert_bytes_arg (P:=prog) wr 192 5 underlying192 underlying5 w.heap.size 0 n n ((List.range n).map λi=>((accR rs i:Nat):Int)) (by simp) (λi hi=>by
    have:=HI.out.cell i hi
    rw[Qr,this,QU (Qd _)]
    simp[hi]) 9 underlying9
   go_wp2
   go_ret
   exact⟨rfl,HI.out.below⟩
  |succ g=>
   have hm:m<rs.length:=by omega
   have hmi:(m:Int)<(rs.length:Int):=by omega
   obtain⟨r,hr⟩:∃r,rs[m]? =some r:=⟨_,Qc hm⟩
   obtain⟨hc0,hA,hnr⟩:=HROW.out m r hr
   have hcw:wr.cell? (A.add m)=some (.string r):=(HI.out.below.cell (p:=A.add m) (by rw[addr_block];exact hA)).trans hc0
   have hnr':(n:Int)≤(r.size:Int):=by omega
   have HR:=Qg hr
   clear hr hc0 hA
   go_wp2
   obtain⟨wo,hwo⟩:∃wo:World,wo=wr:=⟨_,rfl⟩
   clear hcw
   go_loopg [19] n (λh v19 wx=>∃k:Nat,k+h=n∧v19=.int .i64 (k:Int)∧Aside (RowW w w.heap.size n (accK (rs.take m) r k) wx))
   case atStart=>exact⟨0,by omega,rfl,HI.out.congr λi _=>by unfold accK;rw[if_neg (by omega)]⟩
   case round=>
    obtain⟨k,hkg,rfl,HK⟩:=hrel
    cases gk with
    |zero=>
     obtain rfl:k=n:=by omega
     go_wp2
     go_roundg g
     case measure=>omega
     case rel=>exact⟨m+1,by omega,by go_num,HK.out.congr λi hi=>by rw[ZE,HR.out];unfold accK;rw[if_pos hi];exact(accR_snoc r i _).symm⟩
    |succ h=>
     have hk:k<n:=by omega
     have hki:(k:Int)<(n:Int):=by omega
     have hkr:(k:Int)<(r.size:Int):=by omega
     have hc1:=HK.out.cell k hk
     have hf1:=HK.out.free k hk
     have hsz:=HK.out.hi
     obtain⟨x,hx⟩:∃x,accK (rs.take m) r k k=x:=⟨_,rfl⟩
     obtain⟨y,hy⟩:∃y,byteAt r k=y:=⟨_,rfl⟩
     rw[hx] at hc1
     have hx8:x<256:=by rw[←hx];unfold accK;split<;>first|exact accR_lt _ _|exact xor_lt (accR_lt _ _) (byteAt_lt _ _)
     have hy8:y<256:=by rw[←hy];exact byteAt_lt _ _
     have hkn:k<r.size:=by omega
     have hidx:(r[k]'hkn).toNat=y:=by rw[←hy];exact(byteAt_get r k hkn).symm
     have hput:=HK.out.put hk (x^^^y)
     have hnext:∀i,i<n→(if i=k then x^^^y else accK (rs.take m) r k i)=accK (rs.take m) r (k+1) i:=by
      intro i _
      by_cases e:i=k
      ·subst e
       rw[if_pos rfl,←hx,←hy]
       unfold accK
       rw[if_neg (by omega),if_pos (by omega)]
      ·rw[if_neg e]
       unfold accK
       by_cases e2:i<k
       ·rw[if_pos e2,if_pos (by omega)]
       ·rw[if_neg e2,if_neg (by omega)]
     have hput2:=hput.congr hnext
     have HP:=Qg hput2.drew
     clear hput hput2 hnext hx hy
     go_wp2_with fail
     go_still_tail 11,(by kernel_rfl)
     still_call ((add_any x y hx8 hy8 _).mono (λ_ _ h=>⟨h.1,h.2.symm⟩))
     repeat still_step
     refine wpStill_nil ?_
     change wpList _ _ _ _ _ wr.drew
     go_wp2
     go_roundg h
     case measure=>omega
     case rel=>exact⟨k+1,by omega,by go_num,HP.out⟩
end Go.Proofs.YtjambljmnifknaaGreatDoor.Gf
namespace Go.Proofs.YtjambljmnifknaaGreatDoor.Tp
open Go.RowKit Go.Proofs.YtjambljmnifknaaGreatDoor.Gf
def putF(n:Nat)(i:Nat):Nat:=n/256^i%256
def putK(n k:Nat)(i:Nat):Nat:=if i<k then putF n i else 0
def putB(size n:Nat):ByteArray:=strOfNums ((List.range size).map λi=>((putF n i:Nat):Int))
def putV(n:Int)(size:Nat):ByteArray:=if n<0∨0<n.toNat/256^size then ByteArray.empty else putB size n.toNat
def putE(n:Int)(size:Nat):Int:=if n<0 then 1 else if 0<n.toNat/256^size then 12 else 0
theorem put_neg(n:Int)(size:Nat)(hn:n<0)(w:World)(h1:1≤size)(h2:size≤7):
  Calls prog 123 #[.int .i64 n,.int .i64 (size:Int)] w λe w'=>e=.returned (.tuple #[.string ByteArray.empty,.int .i64 1])∧Below w.heap.size w w':=by
 have g1:¬(size:Int)<1:=by omega
 have g2:¬7<(size:Int):=by omega
 go_enter func123,ntmps123
 go_wp2
 go_ret2
 exact⟨rfl,Below.refl _ _⟩
theorem put_any(n size:Nat)(h1:1≤size)(h2:size≤7)(hn:(n:Int)≤9223372036854775807)(w:World):
  Calls prog 123 #[.int .i64 (n:Int),.int .i64 (size:Int)] w λe w'=>e=.returned (.tuple #[.string (putV n size),.int .i64 (putE n size)])∧Below w.heap.size w w':=by
 have hmk:=run_make_row' (P:=prog) 192 5 (.int .u8 0) 1 underlying192 u8info rfl .i64 .i64 size (by omega) (by omega)
 have g1:¬(size:Int)<1:=by omega
 have g2:¬7<(size:Int):=by omega
 have g3:¬(n:Int)<0:=by omega
 go_enter func123,ntmps123
 go_wp2
 clear hmk
 go_loopg [0,22] size (λq v0 v22 wx=>∃k:Nat,k+q=size∧v22=.int .i64 (k:Int)∧v0=.int .i64 ((n/256^k:Nat):Int)∧Aside (RowW w w.heap.size size (putK n k) wx))
 case atStart=>exact⟨0,by omega,rfl,by simp,(RowW.made w size).congr (λi _=>by simp[accR,putK])⟩
 case round=>
  obtain⟨k,hkq,rfl,rfl,HI⟩:=hrel
  obtain⟨N,hN⟩:∃N,n/256^k=N:=⟨_,rfl⟩
  have hNn:N≤n:=by rw[←hN];exact Nat.div_le_self _ _
  rw[hN]
  cases gk with
  |succ q=>
   have hm:k<size:=by omega
   have hmi:(k:Int)<(size:Int):=by omega
   have hrem:(N:Int).tmod 256=((N%256:Nat):Int):=rfl
   have hquo:(N:Int).tdiv 256=((N/256:Nat):Int):=rfl
   have hwr:IntKind.u8.wrap ((N%256:Nat):Int)=((N%256:Nat):Int):=by rw[IntKind.wrap_u8];omega
   have hcell:=HI.out.cell k hm
   have hfree:=HI.out.free k hm
   have hput:=(HI.out.put hm (N%256)).congr (g:=putK n (k+1)) (λi hi=>by
    unfold putK
    by_cases e:i=k
    ·subst e
     rw[if_pos rfl,if_pos (by omega)]
     unfold putF
     rw[hN]
    ·rw[if_neg e]
     by_cases e2:i<k
     ·rw[if_pos e2,if_pos (by omega)]
     ·rw[if_neg e2,if_neg (by omega)])
   have HP:=Qg hput
   have hnext:N/256=n/256^(k+1):=by rw[←hN,YZ,←YD]
   have hwq:wrap64 ((N/256:Nat):Int)=((N/256:Nat):Int):=by unfold wrap64;omega
   have HNx:=Qg hnext
   clear HI hput hnext hN
   go_wp2
   go_roundg q
   case measure=>omega
   case rel=>exact⟨k+1,by omega,by go_num,by rw[←HNx.out];rfl,HP.out⟩
  |zero=>
   obtain rfl:k=size:=by omega
   by_cases hbig:0<N
   ·have hbi:(0:Int)<(N:Int):=by omega
    have hv:putV (n:Int) k=ByteArray.empty∧putE (n:Int) k=12:=by
     have hb:0<(n:Int).toNat/256^k:=by rw[Qn,hN];exact hbig
     unfold putV putE
     rw[if_pos (.inr hb),if_neg (by omega),if_pos hb]
     exact⟨rfl,rfl⟩
    have HV:=Qg hv
    clear hv hN
    go_wp2
    go_ret2
    exact⟨by rw[HV.out.1,HV.out.2];rfl,HI.out.below⟩
   ·have hbi:¬(0:Int)<(N:Int):=by omega
    have hv:putV (n:Int) k=putB k n∧putE (n:Int) k=0:=by
     have hb:¬0<(n:Int).toNat/256^k:=by rw[Qn,hN];exact hbig
     unfold putV putE
     rw[if_neg (λh=>h.elim (by omega) hb),if_neg (by omega),if_neg hb,Qn]
     exact⟨rfl,rfl⟩
    have HV:=Qg hv
    clear hv hN
    have hbk:=run_convert_bytes_arg (P:=prog) wr 192 5 underlying192 underlying5 w.heap.size 0 k k ((List.range k).map λi=>((putF n i:Nat):Int)) (by simp) (λi hi=>by
     have:=HI.out.cell i hi
     rw[Qr,this]
     simp[hi,putK]) 9 underlying9
    go_wp2
    go_ret2
    exact⟨by rw[HV.out.1,HV.out.2];rfl,HI.out.below⟩
attribute [irreducible] putV putE
theorem u32_bits(a b:Nat)(ha:a<4294967296)(hb:b<4294967296):bits .xor .u32 (a:Int) (b:Int)=((a^^^b:Nat):Int)∧bits .and .u32 (a:Int) (b:Int)=((a&&& b:Nat):Int):=by
 have h:a^^^b<4294967296:=Zg (n:=32) ha hb
 have h2:a&&& b<4294967296:=Nat.lt_of_le_of_lt Nat.and_le_left ha
 refine⟨?_,?_⟩
 ·simp only[bits,Yy,BitVec.toNat_xor,YK]
  rw[Zc (QH ha (by decide)),Zc (QH hb (by decide)),IntKind.wrap_u32]
  omega
 ·simp only[bits,Yy,BitVec.toNat_and,YK]
  rw[Zc (QH ha (by decide)),Zc (QH hb (by decide)),IntKind.wrap_u32]
  omega
def ch(x:Nat):Nat:=if x%2=1 then(x/2)^^^2197175160 else x/2
def chN:Nat→Nat→Nat
 |0,x=>x
 |j+1,x=>chN j (ch x)
theorem ch_lt{x:Nat}(h:x<4294967296):ch x<4294967296:=by
 unfold ch
 split
 ·exact Zg (n:=32) (by omega) (by decide)
 ·omega
theorem chN_lt:∀(j:Nat) {x:Nat},x<4294967296→chN j x<4294967296
 |0,_,h=>h
 |j+1,_,h=>chN_lt j (ch_lt h)
def ctabK(k i:Nat):Nat:=if i<k then chN 4 i else 0
def row16(f:Nat→Nat):List Value:=(List.range 16).map λi=>Value.int .u32 ((f i:Nat):Int)
theorem row16_get(f:Nat→Nat)(i:Nat)(h:i<16):(row16 f)[i]? =some (.int .u32 ((f i:Nat):Int)):=by simp[row16,h]
theorem row16_set(k:Nat)(h:k<16):(row16 (ctabK k)).set k (.int .u32 (chN 4 k:Nat))=row16 (ctabK (k+1)):=by
 apply QQ
 intro j
 by_cases hj:j<16
 ·by_cases e:k=j
  ·subst e
   rw[Zn (by simpa [row16] using h),row16_get _ _ hj]
   simp[ctabK]
  ·rw[Zf e,row16_get _ _ hj,row16_get _ _ hj]
   unfold ctabK
   by_cases e2:j<k
   ·rw[if_pos e2,if_pos (by omega)]
   ·rw[if_neg e2,if_neg (by omega)]
 ·rw[Qx (by simp[row16];omega),Qx (by simp[row16];omega)]
structure CrcW(w:World)(k:Nat)(wx:World):Prop where
 res:wx.heap[w.heap.size]? =some (.cells (row16 λ_=>0).toArray 355 (0,0))
 tab:wx.heap[w.heap.size+1]? =some (.cells (row16 (ctabK k)).toArray 355 (0,0))
 below:Below w.heap.size w wx
theorem CrcW.first(w:World):CrcW w 0 ((w.alloc (.cells (row16 λ_=>0).toArray 355)).alloc (.cells (row16 λ_=>0).toArray 355)):=by
 refine⟨?_,?_,((Below.refl _ w).alloc (Qd _) _).alloc (by simp) _⟩
 ·rw[Below.heap_alloc _ _ _ (by simp)]
  exact heap_alloc_new w _
 ·have:=heap_alloc_new (w.alloc (.cells (row16 λ_=>0).toArray 355)) (.cells (row16 λ_=>0).toArray 355)
  rw[World.size_alloc] at this
  exact this
theorem CrcW.put{w wx:World}{k:Nat}(h:CrcW w k wx)(hk:k<16):CrcW w (k+1) (wx.setCell ⟨w.heap.size+1,k,none⟩ (.int .u32 (chN 4 k:Nat))):=by
 refine⟨?_,?_,h.below.setCell (by simp) _⟩
 ·rw[heap_setCell_other _ _ _ _ (by simp)]
  exact h.res
 ·have:=heap_setCell_same wx (w.heap.size+1) k _ _ (.int .u32 (chN 4 k:Nat)) h.tab
  rw[this]
  simp only[List.setIfInBounds_toArray]
  rw[row16_set k hk]
theorem row16_one(f:Nat→Nat):(row16 f).toArray.all (·.oneCell')=true:=by
 rw[Array.all_eq_true_iff_forall_mem]
 intro v hv
 simp only[row16,List.mem_toArray,Qw,Zt] at hv
 obtain⟨i,_,rfl⟩:=hv
 rfl
theorem below_setRow{w wx:World}{g:Nat}{cs:Array Value}(h:Below w.heap.size w wx)(hg:w.heap.size≤g):Below w.heap.size w (wx.setRow g cs):=
 ⟨h.os,h.tape,h.output,by simpa using h.size,λi hi=>(setRow_other wx g i cs (by omega)).trans (h.block i hi)⟩
theorem crc_make(w:World):
  Calls prog 297 #[] w λe w'=>e=.returned (.agg (row16 (chN 4)).toArray)∧Below w.heap.size w w':=by
 have H0:=Qg (CrcW.first w)
 go_enter func297,ntmps297
 go_wp2
 go_loopg [4] 16 (λq v4 wx=>∃k:Nat,k+q=16∧v4=.int .i64 (k:Int)∧Aside (CrcW w k wx))
 case atStart=>exact⟨0,by omega,rfl,H0.out⟩
 case round=>
  obtain⟨k,hkq,rfl,HI⟩:=hrel
  cases gk with
  |zero=>
   obtain rfl:k=16:=by omega
   have hr:=HI.out.res
   have ht:=HI.out.tab
   have e:row16 (ctabK 16)=row16 (chN 4):=by
    apply QQ
    intro i
    by_cases hi:i<16
    ·rw[row16_get _ _ hi,row16_get _ _ hi]
     simp[ctabK,hi]
    ·rw[Qx (by simp[row16];omega),Qx (by simp[row16];omega)]
   rw[e] at ht
   have hi:(prog.info? 355).map (·.size)=some (row16 (chN 4)).toArray.size:=by
    rw[show(row16 (chN 4)).toArray.size=16 by simp[row16]]
    kernel_rfl
   have HI2:=Qg hi
   have HW0:=Qg hr
   have HW1:=Qg ht
   have HB:=Qg HI.out.below
   clear hi hr ht e HI
   go_wp2_with (first|(refine wpList_load_row rfl 355 (.tmp 1) rfl (w.heap.size+1) rfl 355 (row16 (chN 4)).toArray (0,0) _ HW1.out underlying355 rfl HI2.out ?_)|(refine wpList_store_row rfl 355 (.tmp 0) (.tmp 24) rfl w.heap.size (row16 (chN 4)).toArray rfl rfl 355 (row16 λ_=>0).toArray HW0.out HI2.out (by simp[row16]) (row16_one (chN 4)) ?_))
   refine bodyPost_ret (v:=.agg (row16 (chN 4)).toArray) ?_ rfl ⟨rfl,below_setRow HB.out (Qd _)⟩
   exact results_cell_row rfl _ _ w.heap.size 355 (row16 (chN 4)).toArray (0,0) _ rfl (setRow_heap _ _ _ _ _ _ HW0.out) underlying355 rfl HI2.out
  |succ q=>
   have hm:k<16:=by omega
   have hmi:(k:Int)<16:=by omega
   have hc:=cell_of_row _ _ k _ _ _ HI.out.tab
   rw[Qq,row16_get _ _ hm] at hc
   have hf:=frozen_of_row _ _ k _ _ HI.out.tab
   have HP:=Qg (HI.out.put hm)
   have hwk:IntKind.u32.wrap (k:Int)=(k:Int):=by rw[IntKind.wrap_u32];omega
   clear HI
   go_wp2
   obtain⟨wo,hwo⟩:∃wo:World,wo=wr:=⟨_,rfl⟩
   go_loopg [3,9] 4 (λp v3 v9 wx=>∃j y:Nat,j+p=4∧v9=.int .i64 (j:Int)∧v3=.int .u32 (y:Int)∧y<4294967296∧Aside (chN p y=chN 4 k)∧wx=wr)
   case atStart=>exact⟨0,k,by omega,rfl,rfl,by omega,rfl,rfl⟩
   case round=>
    obtain⟨j,y,hjp,rfl,rfl,hy,HY,rfl⟩:=hrel
    cases gk with
    |zero=>
     obtain rfl:j=4:=by omega
     have hye:chN 4 k=y:=HY.out.symm
     rw[hye] at HP
     clear hye HY
     go_wp2
     go_roundg q
     case measure=>omega
     case rel=>exact⟨k+1,by omega,by go_num,HP.out⟩
    |succ p=>
     have hji:(j:Int)<4:=by omega
     have hand:bits .and .u32 (y:Int) 1=((y%2:Nat):Int):=by
      have:=(u32_bits y 1 hy (by decide)).2
      rw[show y&&& 1=y%2 from Nat.and_one_is_mod y] at this
      exact this
     have hstep:chN p (ch y)=chN 4 k:=HY.out
     have hlt:=ch_lt hy
     have hyi:(y:Int)<4294967296:=by omega
     by_cases hb:y%2=1
     ·rw[hb] at hand
      have hx:=(u32_bits (y/2) 2197175160 (by omega) (by decide)).1
      have he:ch y=y/2^^^2197175160:=by unfold ch;rw[if_pos hb]
      rw[he] at hstep hlt
      have HST:=Qg hstep
      have HX:=Qg hx
      clear hstep HY hb he hx
      go_wp2
      go_roundg p
      case measure=>omega
      case rel=>exact⟨j+1,y/2^^^2197175160,by omega,by go_num,by rw[←HX.out];rfl,hlt,HST.out,rfl⟩
     ·rw[show y%2=0 by omega] at hand
      have he:ch y=y/2:=by unfold ch;rw[if_neg hb]
      rw[he] at hstep hlt
      have HST:=Qg hstep
      clear hstep HY hb he
      go_wp2
      go_roundg p
      case measure=>omega
      case rel=>exact⟨j+1,y/2,by omega,by go_num,by go_num,hlt,HST.out,rfl⟩
def crcStep(x c:Nat):Nat:=
 let y:=x^^^c
 let z:=(y/16)^^^chN 4 (y%16)
 (z/16)^^^chN 4 (z%16)
def byteL(s:ByteArray):List Nat:=s.data.toList.map UInt8.toNat
def crcN(x:Nat)(s:ByteArray):Nat:=((byteL s).foldl crcStep (x^^^4294967295))^^^4294967295
theorem half_lt{y:Nat}(hy:y<4294967296):(y/16)^^^chN 4 (y%16)<4294967296:=
 Zg (n:=32) (by omega) (chN_lt 4 (by omega))
theorem crcStep_lt{x c:Nat}(hx:x<4294967296)(hc:c<4294967296):crcStep x c<4294967296:=by
 unfold crcStep
 exact half_lt (half_lt (Zg (n:=32) hx hc))
theorem byteL_get(s:ByteArray)(k:Nat)(h:k<s.size):(byteL s)[k]? =some (s.data.toList.getD k 0).toNat:=by
 have hl:k<s.data.toList.length:=by simpa using h
 unfold byteL
 rw[Qp,Qc hl,Ql,Qc hl]
 rfl
structure MoreW(w:World)(B C:Nat)(s:ByteArray)(wx:World):Prop where
 tab:∀i,i<16→wx.cell? ⟨B,i,none⟩=some (.int .u32 (chN 4 i:Nat))
 byt:∀i,i<s.size→wx.cell? ⟨C,i,none⟩=some (.int .u8 ((s.data.toList.getD i 0).toNat:Nat))
 below:Below w.heap.size w wx
theorem crc_more(x:Nat)(hx:x<4294967296)(s:ByteArray)(hs:s.size≤140737488351232)(w:World):
  Calls prog 250 #[.int .u32 (x:Int),.string s] w λe w'=>e=.returned (.int .u32 (crcN x s:Nat))∧Below w.heap.size w w':=by
 have KM:=Qg (λw=>crc_make w)
 have hnot:bits .xor .u32 (IntKind.max .u32) (x:Int)=((x^^^4294967295:Nat):Int):=by
  have:=(u32_bits 4294967295 x (by decide) hx).1
  rw[Nat.xor_comm] at this
  exact this
 go_enter func250,ntmps250
 go_wp2_with fail
 refine(KM.out _).mono ?_
 rintro e w1 ⟨rfl,hb⟩
 have hi:(prog.info? 355).map (·.size)=some (row16 (chN 4)).toArray.size:=by
  rw[show(row16 (chN 4)).toArray.size=16 by simp[row16]]
  kernel_rfl
 have HI2:=Qg hi
 have HW0:=Qg (heap_alloc_new w1 (.cells (row16 λ_=>0).toArray 355))
 obtain⟨W0,hW0⟩:∃W0,(w1.alloc (.cells (row16 λ_=>0).toArray 355)).setRow w1.heap.size (row16 (chN 4)).toArray=W0:=⟨_,rfl⟩
 have hcv:=Lib.run_convert_string_bytes (P:=prog) W0 9 192 5 s underlying9 underlying192 underlying5
 obtain⟨cap,hcap⟩:∃cap,grownCap W0 s.size 0 5=cap:=⟨_,rfl⟩
 rw[hcap] at hcv
 have hsz0:W0.heap.size=w1.heap.size+1:=by rw[←hW0];simp
 have hM:MoreW w w1.heap.size W0.heap.size s (Lib.bytesWorld W0 5 s):=by
  have hrow:W0.heap[w1.heap.size]? =some (.cells (row16 (chN 4)).toArray 355 (0,0)):=by
   rw[←hW0]
   exact setRow_heap _ _ _ _ _ _ HW0.out
  refine⟨λi hi=>?_,λi hi=>Lib.bytesWorld_cell W0 5 s i hi,?_⟩
  ·rw[Lib.bytesWorld_old W0 5 s _ (by rw[hsz0];simp),cell_of_row _ _ i _ _ _ hrow,Qq,row16_get _ _ hi]
  ·have hbw:Below w.heap.size w W0:=by rw[←hW0];exact below_setRow (hb.alloc hb.size _) hb.size
   exact hbw.trans (⟨rfl,rfl,rfl,by rw[Lib.bytesWorld_size];have:=hbw.size;omega,λj hj=>Lib.bytesWorld_at_old W0 5 s j (by have:=hbw.size;omega)⟩)
 have HMM:=Qg hM
 have HB:=Qg hb
 clear hi hM hb hcap
 go_wp2_with (first|(refine wpList_store_row rfl 355 (.tmp 5) (.tmp 9) rfl w1.heap.size (row16 (chN 4)).toArray rfl rfl 355 (row16 λ_=>0).toArray HW0.out HI2.out (by simp[row16]) (row16_one (chN 4)) ?_;change wpList _ _ _ _ _ ((w1.alloc (.cells (row16 λ_=>0).toArray 355)).setRow w1.heap.size (row16 (chN 4)).toArray);rw[hW0]))
 clear hcv
 have hfirst:x^^^4294967295<4294967296:=Zg (n:=32) hx (by decide)
 obtain⟨wo,hwo⟩:∃wo,Lib.bytesWorld W0 5 s=wo:=⟨_,rfl⟩
 rw[hwo] at HMM⊢
 rw[hsz0] at HMM
 clear hwo
 go_loopg [6,15] s.size (λq v6 v15 wx=>∃k y:Nat,k+q=s.size∧v15=.int .i64 (k:Int)∧v6=.int .u32 (y:Int)∧y<4294967296∧Aside (((byteL s).take k).foldl crcStep (x^^^4294967295)=y)∧wx=wo)
 case atStart=>exact⟨0,x^^^4294967295,by omega,rfl,rfl,hfirst,rfl,rfl⟩
 case round=>
  obtain⟨k,y,hkq,rfl,rfl,hy,HY,rfl⟩:=hrel
  cases gk with
  |zero=>
   obtain rfl:k=s.size:=by omega
   have hl:(byteL s).length=s.size:=by simp[byteL]
   have he:=HY.out
   rw[QU (by omega)] at he
   have hfin:bits .xor .u32 (IntKind.max .u32) (y:Int)=((crcN x s:Nat):Int):=by
    have:=(u32_bits 4294967295 y (by decide) hy).1
    rw[Nat.xor_comm] at this
    unfold crcN
    rw[he]
    exact this
   have HF:=Qg hfin
   clear he HY hfin hnot
   go_wp2
   go_ret
   exact⟨by rw[HF.out];rfl,HMM.out.below⟩
  |succ q=>
   have hm:k<s.size:=by omega
   have hmi:(k:Int)<(s.size:Int):=by omega
   have hbyt:=HMM.out.byt k hm
   obtain⟨b,hb⟩:∃b,(s.data.toList.getD k 0).toNat=b:=⟨_,rfl⟩
   have hb8:b<256:=by rw[←hb];exact Zo _
   have hnx:((byteL s).take (k+1)).foldl crcStep (x^^^4294967295)=crcStep y b:=by
    rw[ZE,byteL_get s k hm,hb,List.foldl_append,HY.out]
    rfl
   rw[hb] at hbyt
   have hxb:=(u32_bits y b hy (by omega)).1
   have hy1:y^^^b<4294967296:=Zg (n:=32) hy (by omega)
   have hst:crcStep y b=((((y^^^b)/16)^^^chN 4 ((y^^^b)%16))/16)^^^chN 4 ((((y^^^b)/16)^^^chN 4 ((y^^^b)%16))%16):=rfl
   obtain⟨y1,e1⟩:∃y1,y^^^b=y1:=⟨_,rfl⟩
   rw[e1] at hxb hy1 hst
   have ht1:=HMM.out.tab (y1%16) (by omega)
   have hc1:chN 4 (y1%16)<4294967296:=chN_lt 4 (by omega)
   have hxz:=(u32_bits (y1/16) (chN 4 (y1%16)) (by omega) hc1).1
   have hz:=half_lt hy1
   obtain⟨z,e2⟩:∃z,(y1/16)^^^chN 4 (y1%16)=z:=⟨_,rfl⟩
   rw[e2] at hxz hz hst
   have ht2:=HMM.out.tab (z%16) (by omega)
   have hc2:chN 4 (z%16)<4294967296:=chN_lt 4 (by omega)
   have hxw:=(u32_bits (z/16) (chN 4 (z%16)) (by omega) hc2).1
   have hw2:=half_lt hz
   rw[←hst] at hxw hw2
   obtain⟨y2,e3⟩:∃y2,crcStep y b=y2:=⟨_,rfl⟩
   rw[e3] at hxw hw2 hnx
   obtain⟨t1,f1⟩:∃t1,chN 4 (y1%16)=t1:=⟨_,rfl⟩
   obtain⟨t2,f2⟩:∃t2,chN 4 (z%16)=t2:=⟨_,rfl⟩
   rw[f1] at ht1 hxz hc1
   rw[f2] at ht2 hxw hc2
   rw[show((y1/16:Nat):Int)=(y1:Int)/16 by omega] at hxz
   rw[show((z/16:Nat):Int)=(z:Int)/16 by omega] at hxw
   have m1:y1%16<16:=by omega
   have m2:z%16<16:=by omega
   have HN:=Qg hnx
   clear hst e1 e2 e3 f1 f2 hnx HY hb hnot
   go_wp2
   go_roundg q
   case measure=>omega
   case rel=>exact⟨k+1,y2,by omega,by go_num,rfl,hw2,HN.out,rfl⟩
end Go.Proofs.YtjambljmnifknaaGreatDoor.Tp
