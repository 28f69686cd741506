/- Part 2 of the proof of TopAny: Things that lie apart; a call's step on one of them; live of layer 9 · slices.Clone and Copy of layer 9 · slices.Repeat of one truth, as Flush of layer 9 uses it · Corrupt of layer 9: the closure, slices.IndexFunc, slices.DeleteFunc · Disks together (layer 10): how they lie in memory; a call's step on one of them · The walks of power, disk, Fuse, Down, Disks, Read, Alive of layer 10. -/
import Derived.Test.YtjambljmnifknaaGreatDoorJ01
import Derived.RegionCalls
import Derived.Deep.RegionHeld3
import Derived.Shelf.Bits.Mul64
import Derived.Laws.CopyRow
import Derived.RegionTactic
set_option maxRecDepth 100000
set_option maxHeartbeats 80000000
set_option linter.all false
open Go.Proofs.Tryz
namespace Go.Proofs.YtjambljmnifknaaGreatDoor.Dk
open Go.RowKit
abbrev Thing:=World→(Nat→Prop)→Prop
structure Res(A:Thing):Prop where
 lt:∀{w S},A w S→∀k,S k→k<w.heap.size
 frame:∀{w w' S T},A w S→Fr T w w'→(∀k,S k→¬T k)→A w' S
def D(g:Nat)(m:Dsk):Thing:=λw S=>At w g S m
theorem D.res(g:Nat)(m:Dsk):Res (D g m):=⟨λh=>h.lt,λh f d=>h.frame f d⟩
def Both(A B:Thing):Thing:=λw U=>∃S T,A w S∧B w T∧(∀k,S k→¬T k)∧U=λk=>S k∨T k
theorem Both.res{A B:Thing}(a:Res A)(b:Res B):Res (Both A B):=by
 refine⟨?_,?_⟩
 ·rintro w U ⟨S,T,hA,hB,hd,rfl⟩ k (h|h)
  ·exact a.lt hA k h
  ·exact b.lt hB k h
 ·rintro w w' U V ⟨S,T,hA,hB,hd,rfl⟩ hf hn
  exact⟨S,T,a.frame hA hf (λk h=>hn k (.inl h)),b.frame hB hf (λk h=>hn k (.inr h)),hd,rfl⟩
theorem Step.left{A' B:Thing}(b:Res B){w w':World}{S T:Nat→Prop}(hs:Step w w' S (A' w'))(hB:B w T)(hd:∀k,S k→¬T k):Step w w' (λk=>S k∨T k) (Both A' B w'):=by
 obtain⟨S',hA,hf,hg⟩:=hs
 refine⟨_,⟨S',T,hA,b.frame hB hf (λk ht hk=>hd k hk ht),λk h ht=>?_,rfl⟩,hf.mono (λk _ h=>.inl h),?_⟩
 ·rcases hg k h with h|h
  ·exact hd k h ht
  ·have:=b.lt hB k ht;omega
 ·rintro k (h|h)
  ·exact(hg k h).imp .inl id
  ·exact .inl (.inr h)
theorem Step.right{A B':Thing}(a:Res A){w w':World}{S T:Nat→Prop}(hA:A w S)(hs:Step w w' T (B' w'))(hd:∀k,S k→¬T k):Step w w' (λk=>S k∨T k) (Both A B' w'):=by
 obtain⟨T',hB,hf,hg⟩:=hs
 refine⟨_,⟨S,T',a.frame hA hf hd,hB,λk h ht=>?_,rfl⟩,hf.mono (λk _ h=>.inr h),?_⟩
 ·rcases hg k ht with ht|ht
  ·exact hd k h ht
  ·have:=a.lt hA k h;omega
 ·rintro k (h|h)
  ·exact .inl (.inl h)
  ·exact(hg k h).imp .inr id
def Made(w w':World)(B:(Nat→Prop)→Prop):Prop:=∃T,B T∧Fr fresh w w'∧∀k,T k→w.heap.size≤k
theorem Made.with{A B:Thing}(a:Res A){w w':World}{S:Nat→Prop}(hA:A w S)(hs:Made w w' (B w')):Step w w' S (Both A B w'):=by
 obtain⟨T,hB,hf,hg⟩:=hs
 refine⟨_,⟨S,T,a.frame hA hf (λ_ _ h=>h),hB,λk h ht=>?_,rfl⟩,hf.mono (λ_ _ h=>h.elim),?_⟩
 ·have:=hg k ht;have:=a.lt hA k h;omega
 ·rintro k (h|h)
  ·exact .inl h
  ·exact .inr (hg k h)
theorem Step.same{A:Thing}(a:Res A){w w':World}{S:Nat→Prop}(hA:A w S)(hf:Fr fresh w w'):Step w w' S (A w'):=⟨S,a.frame hA hf (λ_ _ h=>h),hf.mono (λ_ _ h=>h.elim),λ_ h=>.inl h⟩
theorem new_made(n z:Nat)(h1:1≤n)(h2:n≤4096)(h3:1≤z)(h4:z≤4096)(w:World):
  Calls prog 15 #[.int .i64 (n:Int),.int .i64 (z:Int)] w λe w'=>e=.returned (.tuple #[.pointer (some ⟨w.heap.size+1,0,none⟩),.int .i64 0])∧Made w w' (D (w.heap.size+1) (blank n z) w'):=by
 refine(new_yes n z h1 h2 h3 h4 w).mono ?_
 rintro e w' ⟨he,hd,hf⟩
 refine⟨he,_,⟨_,_,hd,rfl⟩,hf,?_⟩
 rintro k (rfl|rfl|hk)
 ·omega
 ·omega
 ·simp[Value.ownBlock] at hk
section
variable {w:World}{g:Nat}{S:Nat→Prop}{m:Dsk}
theorem write_step(n:Int)(x:ByteArray)(hmany:m.wait.length≤1000000)(S:Nat→Prop)(h:D g m w S):Calls prog 200 #[.pointer (some ⟨g,0,none⟩),.int .i64 n,.string x] w λe w'=>e=.returned (.int .i64 (checkE m n x.size))∧Step w w' S (D g (wrote m n x) w'):=write_at h n x hmany
theorem fail_step(S:Nat→Prop)(h:D g m w S):Calls prog 221 #[.pointer (some ⟨g,0,none⟩)] w λe w'=>e=.returned (.int .i64 0)∧Step w w' S (D g {m with gone:=true,wait:=[]} w'):=fail_at h
theorem replace_step(S:Nat→Prop)(h:D g m w S):Calls prog 222 #[.pointer (some ⟨g,0,none⟩)] w λe w'=>e=.returned (.int .i64 0)∧Step w w' S (D g {m with gone:=false,wait:=[],sec:=List.replicate m.sec.length ByteArray.empty} w'):=replace_at h
theorem alive_step(S:Nat→Prop)(h:D g m w S):Calls prog 114 #[.pointer (some ⟨g,0,none⟩)] w λe w'=>e=.returned (.bool (!m.gone))∧Step w w' S (D g m w'):=
 (alive_at h).mono λ_ _ ⟨he,hw⟩=>⟨he,by subst hw;exact Step.same (D.res g m) h (Fr.refl _ _)⟩
theorem read_step(n:Int)(S:Nat→Prop)(h:D g m w S):Calls prog 115 #[.pointer (some ⟨g,0,none⟩),.int .i64 n] w λe w'=>e=.returned (.tuple #[.string (readV m n),.int .i64 (checkE m n 0)])∧Step w w' S (D g m w'):=
 (read_at h n).mono λ_ _ ⟨he,hf⟩=>⟨he,Step.same (D.res g m) h hf⟩
theorem crash_step(A:Option Addr)(c:Nat)(bs:List Bool)(S:Nat→Prop)(hr:ReadsBools w S A bs)(h:D g m w S):Calls prog 128 #[.pointer (some ⟨g,0,none⟩),.slice A bs.length c] w λe w'=>e=.returned (.int .i64 (worksE m))∧Step w w' S (D g (crashed m bs) w'):=crash_at h A c bs hr
end
theorem owns_empty(w:World)(e:TypeId):(w.alloc (.cells #[] e)).ownsRow 0 e 1 (.slice (some ⟨w.heap.size,0,none⟩) 0 0) 0 []:=
 ⟨rfl,.inr ⟨w.heap.size,0,#[],rfl,Qk _,heap_alloc_new w _,Qd _,Qk _,rfl,rfl⟩⟩
def Cloned(w:World)(e:TypeId)(xs:List Value)(v:Value)(w':World):Prop:=Fr fresh w w'∧w'.ownsRow 0 e 1 v xs.length xs∧∀k,v.ownBlock=some k→w.heap.size≤k
theorem clone_strs(w:World)(a:Addr)(cap:Nat)(xs:List ByteArray)(h2:xs.length≤1000000)(hx:∀(j:Nat) x,xs[j]? =some x→w.cell? (a.add j)=some (Value.string x)):
  Calls prog 251 #[.slice (some a) xs.length cap] w λe w'=>∃g c,e=.returned (.slice (some ⟨g,0,none⟩) xs.length c)∧Cloned w 9 (xs.map Value.string) (.slice (some ⟨g,0,none⟩) xs.length c) w':=by
 obtain⟨i0,hi,hz0,hz1,hz2⟩:=info_parts strInfo
 have hown:=Qg (owns_empty w 9)
 have hnil:=Lib.run_eql_slice_nil (P:=prog) w 24 9 (some a) xs.length cap 0 0 underlying24
 have hnews:∀j u,(xs.map Value.string)[j]? =some u→(w.alloc (.cells #[] 9)).cell? (a.add j)=some u:=by
  intro j u hj
  rw[Qp] at hj
  obtain⟨x,hxj,rfl⟩:=Option.map_eq_some_iff.1 hj
  exact Fr.cell ((Fr.refl fresh w).alloc _) (hx j x hxj) (λh=>h)
 have HN:=Qg hnews
 clear hnews hx
 go_enter func251,ntmps251
 go_wp2_with (at_builtin;go_loud (refine wpList_append_own_at _ rfl _ _ 24 rfl 0 9 i0 (.string ByteArray.empty) 1 16 underlying24 hi hz0 hz1 hz2 rfl (by decide) (.slice (some ⟨w.heap.size,0,none⟩) 0 0) 0 [] rfl hown.out a xs.length cap (xs.map Value.string) rfl (by simp) HN.out ?c2 ?c3 ?c4 (Qk _) ?_))
 case c2=>intro u hu;obtain⟨x,_,rfl⟩:=Qw.1 hu;rfl
 case c3=>unfold maxLen;omega
 case c4=>omega
 intro v' w1 hown' hgrow hnil' hat
 have hfr:Fr fresh w w1:=((Fr.refl _ w).alloc _).grown hgrow (λk hk=>.inr (by simp[Value.ownBlock] at hk;omega))
 have hnew:∀k,v'.ownBlock=some k→w.heap.size≤k:=by
  intro k hk
  rcases hat with e|e
  ·rw[hk] at e;simp[Value.ownBlock] at e;omega
  ·rw[hk] at e;simp at e;omega
 obtain⟨gv,cv,rfl⟩:∃gv cv,v'=.slice (some ⟨gv,0,none⟩) xs.length cv:=by
  rcases owns_form hown' with ⟨h0,_⟩|⟨gv,cv,h0,_⟩
  ·exact absurd h0 (by simpa using hnil')
  ·exact⟨gv,cv,h0⟩
 go_wp2
 go_ret
 exact⟨gv,cv,rfl,hfr,by simpa using hown',hnew⟩
theorem clone_evs(w:World)(a:Addr)(cap:Nat)(xs:List Ev)(h2:xs.length≤1000000)(hx:∀(j:Nat) x,xs[j]? =some x→w.cell? (a.add j)=some (ev x)):
  Calls prog 252 #[.slice (some a) xs.length cap] w λe w'=>∃g c,e=.returned (.slice (some ⟨g,0,none⟩) xs.length c)∧Cloned w 66 (xs.map ev) (.slice (some ⟨g,0,none⟩) xs.length c) w':=by
 obtain⟨i0,hi,hz0,hz1,hz2⟩:=info_parts evInfo
 have hown:=Qg (owns_empty w 66)
 have hnil:=Lib.run_eql_slice_nil (P:=prog) w 60 66 (some a) xs.length cap 0 0 underlying60
 have hnews:∀j u,(xs.map ev)[j]? =some u→(w.alloc (.cells #[] 66)).cell? (a.add j)=some u:=by
  intro j u hj
  rw[Qp] at hj
  obtain⟨x,hxj,rfl⟩:=Option.map_eq_some_iff.1 hj
  exact Fr.cell ((Fr.refl fresh w).alloc _) (hx j x hxj) (λh=>h)
 have HN:=Qg hnews
 clear hnews hx
 go_enter func252,ntmps252
 go_wp2_with (at_builtin;go_loud (refine wpList_append_own_at _ rfl _ _ 60 rfl 0 66 i0 .nilIface 1 16 underlying60 hi hz0 hz1 hz2 rfl (by decide) (.slice (some ⟨w.heap.size,0,none⟩) 0 0) 0 [] rfl hown.out a xs.length cap (xs.map ev) rfl (by simp) HN.out ?c2 ?c3 ?c4 (Qk _) ?_))
 case c2=>intro u hu;obtain⟨x,_,rfl⟩:=Qw.1 hu;rfl
 case c3=>unfold maxLen;omega
 case c4=>omega
 intro v' w1 hown' hgrow hnil' hat
 have hfr:Fr fresh w w1:=((Fr.refl _ w).alloc _).grown hgrow (λk hk=>.inr (by simp[Value.ownBlock] at hk;omega))
 have hnew:∀k,v'.ownBlock=some k→w.heap.size≤k:=by
  intro k hk
  rcases hat with e|e
  ·rw[hk] at e;simp[Value.ownBlock] at e;omega
  ·rw[hk] at e;simp at e;omega
 obtain⟨gv,cv,rfl⟩:∃gv cv,v'=.slice (some ⟨gv,0,none⟩) xs.length cv:=by
  rcases owns_form hown' with ⟨h0,_⟩|⟨gv,cv,h0,_⟩
  ·exact absurd h0 (by simpa using hnil')
  ·exact⟨gv,cv,h0⟩
 go_wp2
 go_ret
 exact⟨gv,cv,rfl,hfr,by simpa using hown',hnew⟩
theorem clone_evs_nil(w:World):Calls prog 252 #[.slice none 0 0] w λe w'=>e=.returned (.slice none 0 0)∧w=w':=by
 have hnil:=Lib.run_eql_slice_nil (P:=prog) w 60 66 none 0 0 0 0 underlying60
 go_enter func252,ntmps252
 go_wp2
 go_ret
 exact⟨rfl,rfl⟩
theorem IsDisk.wait_nil{w:World}{g s:Nat}{m:Dsk}(w2:World){v:Value}(hv:v=.slice none 0 0)(h:IsDisk w g s v m):w2.ownsRow 0 66 1 v m.wait.length (m.wait.map ev):=by
 subst hv
 have:=h.wait
 rcases owns_form this with ⟨_,hn⟩|⟨_,_,e,_⟩
 ·have h0:m.wait=[]:=Qm hn
  rw[h0]
  exact World.ownsRow_nil _ _ _ _
 ·simp at e
theorem copy_made{w w1 w2:World}{m:Dsk}{g1 c1:Nat}{v:Value}(hok:∀x∈m.wait,x.1<m.sec.length)(hpos:0<m.sec.length)(hmost:m.sec.length≤4096)(hfit:m.size≤4096)
  (hf1:Fr fresh w w1) (h1:w1.ownsRow 0 9 1 (.slice (some ⟨g1,0,none⟩) m.sec.length c1) m.sec.length (m.sec.map .string)) (hn1:w.heap.size≤g1)
  (hf2:Fr fresh w1 w2) (h2:w2.ownsRow 0 66 1 v m.wait.length (m.wait.map ev)) (hn2:∀k,v.ownBlock=some k→w.heap.size≤k):
  Made w (w2.alloc (.cells #[.slice (some ⟨g1,0,none⟩) m.sec.length c1,.int .i64 (m.size:Int),v,.bool m.gone] 62)) (D w2.heap.size m (w2.alloc (.cells #[.slice (some ⟨g1,0,none⟩) m.sec.length c1,.int .i64 (m.size:Int),v,.bool m.gone] 62))):=by
 have hr1:=h1.lt g1 rfl
 refine⟨_,⟨g1,v,⟨⟨c1,heap_alloc_new w2 _,?_⟩,?_,hok,hpos,hmost,hfit⟩,rfl⟩,(hf1.trans hf2).alloc _,?_⟩
 ·exact owns_move h1 (λk hk=>by
   obtain rfl:g1=k:=by simpa [Value.ownBlock] using hk
   exact(Below.heap_alloc w2 _ g1 (QH hr1.2 hf2.size)).trans (hf2.same g1 hr1.2 (λh=>h)))
 ·exact owns_move h2 (λk hk=>Below.heap_alloc w2 _ k (h2.lt k hk).2)
 ·rintro k (rfl|rfl|hk)
  ·exact(hf1.trans hf2).size
  ·exact hn1
  ·exact hn2 k hk
theorem copy_yes{w:World}{g s:Nat}{wv:Value}{m:Dsk}(h:IsDisk w g s wv m)(hmany:m.wait.length≤1000000):
  Calls prog 199 #[.pointer (some ⟨g,0,none⟩)] w λe w'=>∃g',e=.returned (.pointer (some ⟨g',0,none⟩))∧Made w w' (D g' m w'):=by
 have H:=Qg h
 obtain⟨cap,hcap,c0,c1,c2,c3, -,cs, -⟩:=h.reads
 have d0:∀w',Fr fresh w w'→w'.cell? ⟨g,0,none⟩=some (.slice (some ⟨s,0,none⟩) m.sec.length cap):=λw' hf=>hf.cell c0 (λh=>h)
 have d1:∀w',Fr fresh w w'→w'.cell? ⟨g,1,none⟩=some (.int .i64 (m.size:Int)):=λw' hf=>hf.cell c1 (λh=>h)
 have d3:∀w',Fr fresh w w'→w'.cell? ⟨g,3,none⟩=some (.bool m.gone):=λw' hf=>hf.cell c3 (λh=>h)
 have K1:=Qg (λw' (hf:Fr fresh w w')=>(clone_strs w' ⟨s,0,none⟩ cap m.sec (by have:=h.most;omega) (λj x hj=>by
  have hadd:(⟨s,0,none⟩:Addr).add j=⟨s,j,none⟩:=by unfold Addr.add;split<;>simp_all
  rw[hadd]
  exact hf.cell (cs j x hj) (λh=>h))).mono (λe w'' ⟨g1,c1,he,hfr,ho,hn⟩=>(⟨g1,c1,he,hf.trans hfr,by simpa using ho,Qb hf.size (hn g1 rfl)⟩:∃g1 c1,e=Ending.returned (.slice (some ⟨g1,0,none⟩) m.sec.length c1)∧Fr fresh w w''∧w''.ownsRow 0 9 1 (.slice (some ⟨g1,0,none⟩) m.sec.length c1) m.sec.length (m.sec.map .string)∧w.heap.size≤g1)))
 rcases owns_form h.wait with ⟨rfl,hn0⟩|⟨gw,cw,rfl, -, -, -, -⟩
 ·have d2:∀w',Fr fresh w w'→w'.cell? ⟨g,2,none⟩=some (.slice none 0 0):=λw' hf=>hf.cell c2 (λh=>h)
  have K2:=Qg (λw' (hf:Fr fresh w w')=>(clone_evs_nil w').mono (λe w'' ⟨he,hw⟩=>(⟨he,hw▸hf,hw▸Fr.refl _ _⟩:e=Ending.returned (.slice none 0 0)∧Fr fresh w w''∧Fr fresh w' w'')))
  clear c0 c1 c2 c3 cs h
  go_enter func199,ntmps199
  go_wp2_with fail
  go_region_held3 (λw'=>Fr fresh w w') (first|assumption|exact(Fr.refl fresh w).drew|exact Fr.alloc (by assumption) _)
   (first|(go_at_call 251;refine(K1.out _ (by assumption)).mono ?_;rintro e w1 ⟨g1,c1,rfl,hf1,ho1,hn1⟩)|(go_at_call 252;refine(K2.out _ (by assumption)).mono ?_;rintro e w2 ⟨rfl,hf2,hf12⟩))
  all_goals
   go_wp2
   go_ret
   exact⟨w2.heap.size,rfl,copy_made H.out.ok H.out.pos H.out.most H.out.fits hf1 ho1 hn1 hf12 (IsDisk.wait_nil _ rfl H.out) (λk hk=>by simp[Value.ownBlock] at hk)⟩
 ·have d2:∀w',Fr fresh w w'→w'.cell? ⟨g,2,none⟩=some (.slice (some ⟨gw,0,none⟩) m.wait.length cw):=λw' hf=>hf.cell c2 (λh=>h)
  have hev:=h.wait
  have K2:=Qg (λw' (hf:Fr fresh w w')=>(clone_evs w' ⟨gw,0,none⟩ cw m.wait hmany (λj x hj=>hf.cell (hev.cells rfl j (ev x) (by rw[Qp,hj];rfl)) (λh=>h))).mono
   (λe w'' ⟨g2,c2,he,hfr,ho,hn⟩=>(⟨g2,c2,he,hf.trans hfr,hfr,by simpa using ho,Qb hf.size (hn g2 rfl)⟩:∃g2 c2,e=Ending.returned (.slice (some ⟨g2,0,none⟩) m.wait.length c2)∧Fr fresh w w''∧Fr fresh w' w''∧w''.ownsRow 0 66 1 (.slice (some ⟨g2,0,none⟩) m.wait.length c2) m.wait.length (m.wait.map ev)∧w.heap.size≤g2)))
  clear c0 c1 c2 c3 cs hev h
  go_enter func199,ntmps199
  go_wp2_with fail
  go_region_held3 (λw'=>Fr fresh w w') (first|assumption|exact(Fr.refl fresh w).drew|exact Fr.alloc (by assumption) _)
   (first|(go_at_call 251;refine(K1.out _ (by assumption)).mono ?_;rintro e w1 ⟨g1,c1,rfl,hf1,ho1,hn1⟩)|(go_at_call 252;refine(K2.out _ (by assumption)).mono ?_;rintro e w2 ⟨g2,c2,rfl,hf2,hf12,ho2,hn2⟩))
  all_goals
   go_wp2
   go_ret
   exact⟨w2.heap.size,rfl,copy_made H.out.ok H.out.pos H.out.most H.out.fits hf1 ho1 hn1 hf12 ho2 (λk hk=>(show g2=k by simpa [Value.ownBlock] using hk)▸hn2)⟩
theorem copy_at{w:World}{g:Nat}{S:Nat→Prop}{m:Dsk}(hmany:m.wait.length≤1000000)(h:D g m w S):
  Calls prog 199 #[.pointer (some ⟨g,0,none⟩)] w λe w'=>∃g',e=.returned (.pointer (some ⟨g',0,none⟩))∧Made w w' (D g' m w'):=by
 obtain⟨s,wv,h,rfl⟩:=h
 exact copy_yes h hmany
end Go.Proofs.YtjambljmnifknaaGreatDoor.Dk
namespace Go.Proofs.YtjambljmnifknaaGreatDoor.Dk
open Go.RowKit Go.Lib
theorem bits_Mul64(x y:Nat)(hx:x<18446744073709551616)(hy:y<18446744073709551616)(w:World):
  Calls prog 236 #[.int .u64 x,.int .u64 y] w λe w'=>e=.returned (.tuple #[.int .u64 ((x*y/18446744073709551616:Nat):Int),.int .u64 ((x*y%18446744073709551616:Nat):Int)])∧w'=w:=by
 obtain⟨bd,bt,bw,hhi⟩:=Lib.mul64_hi x y hx hy
 have ba:=Lib.half_mul_le (a:=x/4294967296) (b:=y/4294967296) (by omega) (by omega)
 have bb:=Lib.half_mul_le (a:=x/4294967296) (b:=y%4294967296) (by omega) (by omega)
 have bc:=Lib.half_mul_le (a:=x%4294967296) (b:=y/4294967296) (by omega) (by omega)
 have ba':x/4294967296*(y/4294967296)<18446744073709551616:=by omega
 have bb':x/4294967296*(y%4294967296)<18446744073709551616:=by omega
 have bc':x%4294967296*(y/4294967296)<18446744073709551616:=by omega
 have bh1:x/4294967296*(y/4294967296)+(x/4294967296*(y%4294967296)+x%4294967296*(y%4294967296)/4294967296)/4294967296<18446744073709551616:=by omega
 have bh:x/4294967296*(y/4294967296)+(x/4294967296*(y%4294967296)+x%4294967296*(y%4294967296)/4294967296)/4294967296+((x/4294967296*(y%4294967296)+x%4294967296*(y%4294967296)/4294967296)%4294967296+x%4294967296*(y/4294967296))/4294967296<18446744073709551616:=by omega
 go_enter func236,ntmps236
 go_wp2
 simp only[Mul64.maskN x hx,Mul64.maskN y hy,Mul64.divN,Mul64.mulN,Mul64.addN,Mul64.wrapN _ bd,Mul64.wrapN _ bb',Mul64.wrapN _ bt,Mul64.maskN _ bt,Mul64.wrapN _ bc',Mul64.wrapN _ bw,Mul64.wrapN _ ba',Mul64.wrapN _ bh1,Mul64.wrapN _ bh,Mul64.wrapM (x*y)]
 rw[hhi]
 go_ret2
 exact⟨rfl,rfl⟩
theorem bits_Mul(x y:Nat)(hx:x<18446744073709551616)(hy:y<18446744073709551616)(w:World):
  Calls prog 178 #[.int .u64 x,.int .u64 y] w λe w'=>e=.returned (.tuple #[.int .u64 ((x*y/18446744073709551616:Nat):Int),.int .u64 ((x*y%18446744073709551616:Nat):Int)])∧w'=w:=by
 have c64:=Qg (bits_Mul64 x y hx hy w)
 go_enter func178,ntmps178
 go_wp2_with (go_at_call 236;refine c64.out.mono ?_;rintro e w' ⟨rfl,hw⟩;rw[hw])
 go_ret2
 exact⟨rfl,rfl⟩
theorem boolInfo:(prog.info? 4).map (λi=>(i.zero,i.size,i.bytes))=some (some (.bool false),1,1):=by kernel_rfl
theorem boolSize:(prog.info? 4).map (·.size)=some 1:=by kernel_rfl
def upTo(n k:Nat):List Value:=List.replicate k (.bool true)++List.replicate (n-k) (.bool false)
theorem upTo_len(n k:Nat)(h:k≤n):(upTo n k).length=n:=by simp[upTo];omega
theorem upTo_get(n k j:Nat)(h:j<k):(upTo n k)[j]? =some (.bool true):=by
 unfold upTo
 rw[QG (by simpa using h)]
 simp[h]
theorem upTo_more(n k m:Nat)(h:k+m≤n):(upTo n k).take k++List.replicate m (.bool true)++(upTo n k).drop (k+m)=upTo n (k+m):=by
 unfold upTo
 rw[Zv (by simp),List.drop_append,Zz,ZG (by simp),QI,List.drop_replicate,←List.replicate_append_replicate,
  show n-k-(k+m-k)=n-(k+m) by omega]
structure RepW(w:World)(B n k:Nat)(wx:World):Prop where
 row:wx.heap[B]? =some (.cells (upTo n k).toArray 4 (0,0))
 fr:Fr fresh w wx
 new:w.heap.size≤B
theorem RepW.copies{w wx:World}{B n k:Nat}(h:RepW w B n k wx)(hk:k≤n)(o m dLen dCap sLen sCap:Nat)(a:Addr)(ho:o=k)(hm:m=Nat.min sLen dLen)(hfit:k+m≤n)
  (hsrc:∀j,j<m→wx.cell? (a.add j)=some (.bool true)):
  ∃w',(Builtin.copy_ #[83,83] 3 #[.slice (some ⟨B,o,none⟩) dLen dCap,.slice (some a) sLen sCap]).run prog wx=.ok (.int .i64 (m:Int)) w'∧RepW w B n (k+m) w':=by
 subst ho
 have hlt:=(Qa.1 h.row).1
 refine⟨wx.setRow B _,?_,setRow_heap wx B _ (upTo n (o+m)).toArray _ _ h.row,⟨h.fr.os,h.fr.tape,h.fr.output,by simpa using h.fr.size,λi hi hn=>?_⟩,h.new⟩
 ·have:=run_copy_row (P:=prog) wx 83 83 3 4 B o dLen dCap a sLen sCap _ _ (List.replicate m (.bool true)) underlying83 boolSize h.row (by simpa using hm)
   (by intro j v hj;have hl:=(Qe.1 hj).1;simp at hl;simp[hl] at hj;subst hj;exact hsrc j hl) (by simp[upTo_len n o hk];exact hfit) (by intro v hv;rw[YT hv];rfl)
  rw[this]
  simp only[Zz]
  rw[upTo_more n o m hfit]
  rfl
 ·have:=h.new
  rw[setRow_other wx B i _ (by omega)]
  exact h.fr.same i hi hn
theorem RepW.drew{w wx:World}{B n k:Nat}(h:RepW w B n k wx):RepW w B n k wx.drew:=⟨h.row,h.fr.drew,h.new⟩
theorem RepW.first(w:World)(n:Nat):RepW w w.heap.size n 0 (w.alloc (.cells (madeCells #[.bool false] n) 4)):=by
 refine⟨?_,(Fr.refl _ w).alloc _,Qd _⟩
 rw[heap_alloc_new]
 have:(madeCells #[.bool false] n)=(upTo n 0).toArray:=by
  apply Zq
  rw[toList_madeCells_one]
  simp[upTo]
 rw[this]
theorem repeat_pos(n:Nat)(hn1:1≤n)(hn:n≤1000000)(b:Nat)(w:World)(hb:w.cell? ⟨b,0,none⟩=some (.bool true)):
  Calls prog 129 #[.slice (some ⟨b,0,none⟩) 1 1,.int .i64 (n:Int)] w λe w'=>e=.returned (.slice (some ⟨w.heap.size,0,none⟩) n n)∧RepW w w.heap.size n n w':=by
 have hM:=bits_Mul 1 n (by omega) (by omega) w
 rw[show 1*n/18446744073709551616=0 by omega,show 1*n%18446744073709551616=n by omega] at hM
 have HM:=Qg hM
 have hmk:=run_make_row' (P:=prog) 83 4 (.bool false) 1 underlying83 boolInfo rfl .i64 .i64 n (by omega) (by omega)
 have g1:¬(n:Int)<0:=by omega
 have g2:¬9223372036854775807<(n:Int):=by omega
 obtain⟨w2,hc1,hR⟩:=(RepW.first w n).copies (Qk _) 0 1 n n 1 1 ⟨b,0,none⟩ rfl (Zi hn1).symm (by omega) (λj hj=>by
  obtain rfl:j=0:=by omega
  exact(Fr.cell ((Fr.refl fresh w).alloc _) (p:=⟨b,0,none⟩) hb (λh=>h)))
 have H2:=Qg hR
 clear hR hM
 go_enter func129,ntmps129
 go_wp2_with (go_at_call 178;refine HM.out.mono ?_;rintro e w' ⟨rfl,hw⟩;rw[hw])
 clear hc1 hb
 go_loopg [8] n (λq v8 wx=>∃k:Nat,k≤n∧n≤k+q∧1≤k∧v8=.int .i64 (k:Int)∧Aside (RepW w w.heap.size n k wx))
 case atStart=>exact⟨1,by omega,by omega,by omega,rfl,by rw[Qr] at H2;exact H2.out⟩
 case round=>
  obtain⟨k,hkn',hkq,hk1,rfl,HI⟩:=hrel
  by_cases hlt:k=n
  ·subst hlt
   go_wp2
   go_ret
   exact⟨rfl,HI.out⟩
  ·obtain⟨q,rfl⟩:∃q,gk=q+1:=⟨gk-1,by omega⟩
   have hkle:(k:Int)≤(n:Int):=by omega
   have hk0:0≤(k:Int):=by omega
   have hnk:¬n=k:=by omega
   have hkn:(k:Int)<(n:Int):=by omega
   obtain⟨m,hm⟩:∃m,m=Nat.min k (n-k):=⟨_,rfl⟩
   have hm1:m≤k:=by rw[hm];exact Nat.min_le_left _ _
   have hm2:m≤n-k:=by rw[hm];exact Nat.min_le_right _ _
   have hm0:1≤m:=by rw[hm];exact Nat.le_min.2 ⟨hk1,by omega⟩
   obtain⟨w3,hc,hR⟩:=(HI.out.drew).copies (by omega) k m (n-k) (n-k) k n ⟨w.heap.size,0,none⟩ rfl hm (by omega) (λj hj=>by
    have hadd:(⟨w.heap.size,0,none⟩:Addr).add j=⟨w.heap.size,j,none⟩:=by unfold Addr.add;split<;>simp_all
    rw[hadd,cell_of_row _ w.heap.size j _ _ _ HI.out.drew.row]
    have:=upTo_get n k j (by omega)
    simpa using this)
   have H3:=Qg hR
   clear hR hm
   go_wp2_with fail
   go_region
   all_goals
    go_wp2
    go_roundg q
    case measure=>omega
    case rel=>exact⟨k+m,by omega,by omega,by omega,by go_num,H3.out⟩
theorem repeat_zero(b:Nat)(w:World):
  Calls prog 129 #[.slice (some ⟨b,0,none⟩) 1 1,.int .i64 0] w λe w'=>e=.returned (.slice (some ⟨w.heap.size,0,none⟩) 0 0)∧Fr fresh w w':=by
 have hM:=bits_Mul 1 0 (by omega) (by omega) w
 have HM:=Qg hM
 have hmk:=run_make_row' (P:=prog) 83 4 (.bool false) 1 underlying83 boolInfo rfl .i64 .i64 0 (by omega) (by omega)
 simp only[Int.ofNat_zero] at hmk
 have hcp:=run_copy_none (P:=prog) (w.alloc (.cells (madeCells #[.bool false] 0) 4)) 83 83 3 4 (some ⟨w.heap.size,0,none⟩) (some ⟨b,0,none⟩) 0 0 1 1 underlying83 boolSize rfl
 clear hM
 go_enter func129,ntmps129
 go_wp2_with (go_at_call 178;refine HM.out.mono ?_;rintro e w' ⟨rfl,hw⟩;rw[hw])
 go_loopg [8] 0 (λq v8 wx=>v8=.int .i64 0∧wx=w.alloc (.cells (madeCells #[.bool false] 0) 4))
 case atStart=>exact⟨rfl,rfl⟩
 case round=>
  obtain⟨rfl,rfl⟩:=hrel
  go_wp2
  go_ret
  exact⟨rfl,(Fr.refl _ w).alloc _⟩
theorem repeat_any(n:Nat)(hn:n≤1000000)(b:Nat)(w:World)(hb:w.cell? ⟨b,0,none⟩=some (.bool true)):
  Calls prog 129 #[.slice (some ⟨b,0,none⟩) 1 1,.int .i64 (n:Int)] w λe w'=>e=.returned (.slice (some ⟨w.heap.size,0,none⟩) n n)∧Fr fresh w w'∧
   ∀j,j<n→w'.cell? ⟨w.heap.size,j,none⟩=some (.bool true):=by
 by_cases h0:n=0
 ·subst h0
  refine(repeat_zero b w).mono ?_
  rintro e w' ⟨he,hf⟩
  exact⟨he,hf,λj hj=>by omega⟩
 ·refine(repeat_pos n (by omega) hn b w hb).mono ?_
  rintro e w' ⟨he,hR⟩
  refine⟨he,hR.fr,λj hj=>?_⟩
  rw[cell_of_row _ _ j _ _ _ hR.row]
  have:=upTo_get n n j hj
  simpa using this
def flushed(m:Dsk):Dsk:=crashed m (List.replicate m.wait.length true)
theorem flush_gone{w:World}{g:Nat}{S:Nat→Prop}{m:Dsk}(h:At w g S m)(hg:m.gone=true):Calls prog 75 #[.pointer (some ⟨g,0,none⟩)] w λe w'=>e=.returned (.int .i64 8)∧w=w':=by
 have hk:=works_at h
 unfold worksE at hk
 rw[if_pos hg] at hk
 have HK:=Qg hk
 clear hk h
 go_enter func75,ntmps75
 go_wp2_with (go_at_call 60;refine(HK.out).mono ?_;rintro e w1 ⟨rfl,rfl⟩)
 go_ret
 exact⟨rfl,rfl⟩
theorem flush_yes{w:World}{g:Nat}{S:Nat→Prop}{m:Dsk}(h:At w g S m)(hg:m.gone=false)(hmany:m.wait.length≤1000000):
  Calls prog 75 #[.pointer (some ⟨g,0,none⟩)] w λe w'=>e=.returned (.int .i64 0)∧Step w w' S λS'=>At w' g S' (flushed m):=by
 have hk:=works_at h
 unfold worksE at hk
 rw[if_neg (by rw[hg];decide)] at hk
 have HK:=Qg hk
 clear hk
 have h1:=Qg (h.alloc (.cells #[.bool true] 4))
 have hlt:=h.lt
 obtain⟨s,wv,hd,rfl⟩:=h
 obtain⟨cap, -, -, -,c2, -, -, -, -⟩:=(hd.alloc (.cells #[.bool true] 4)).reads
 obtain⟨W,cw,hwv,hlen, -⟩:=hd.waits
 rw[hwv] at c2
 have hb:=cell_of_row _ w.heap.size 0 _ _ _ (heap_alloc_new w (.cells #[.bool true] 4))
 simp only[Qq,ZJ] at hb
 have hrp:=repeat_any m.wait.length hmany w.heap.size _ hb
 rw[World.size_alloc] at hrp
 have HRP:=Qg hrp
 clear hb hrp
 go_enter func75,ntmps75
 go_wp2_with (go_at_call 60;refine(HK.out).mono ?_;rintro e w1 ⟨rfl,rfl⟩)
 refine HRP.out.mono ?_
 rintro e w2 ⟨rfl,hf,hcell⟩
 have hA2:=h1.out.frame hf (λ_ _ h=>h)
 have hwk:worksE m=0:=by unfold worksE;rw[if_neg (by rw[hg];decide)]
 have hcr:=crash_at hA2 (some ⟨w.heap.size+1,0,none⟩) m.wait.length (List.replicate m.wait.length true) (by
  intro j b hj
  have hl:=(Qe.1 hj).1
  simp at hl
  simp[hl] at hj
  subst hj
  refine⟨_,rfl,?_,λhk=>?_⟩
  ·have hadd:(⟨w.heap.size+1,0,none⟩:Addr).add j=⟨w.heap.size+1,j,none⟩:=by unfold Addr.add;split<;>simp_all
   rw[hadd]
   exact hcell j hl
  ·have h2:w.heap.size+1<w.heap.size:=hlt _ hk
   omega)
 rw[Zz,hwk] at hcr
 have HCR:=Qg hcr
 clear hcr hcell
 go_wp2_with fail
 refine HCR.out.mono ?_
 rintro e w3 ⟨rfl,S',hA3,hf3,hg3⟩
 go_wp2_with fail
 go_ret
 have hfA:Fr (foot g s wv) w w2:=((Fr.refl _ w).alloc _).then (hf.mono (λ_ _ h=>h.elim)) (λ_ _ h=>h)
 refine⟨rfl,S',hA3,hfA.then hf3 (λ_ _ h=>h),λk hk=>?_⟩
 rcases hg3 k hk with h|h
 ·exact .inl h
 ·exact .inr (Qb hfA.size h)
theorem flush_at{w:World}{g:Nat}{m:Dsk}(hmany:m.wait.length≤1000000)(S:Nat→Prop)(h:D g m w S):
  Calls prog 75 #[.pointer (some ⟨g,0,none⟩)] w λe w'=>e=.returned (.int .i64 (worksE m))∧Step w w' S (D g (flushed m) w'):=by
 cases hg:m.gone with
 |true=>
  have e1:worksE m=8:=by unfold worksE;rw[if_pos hg]
  have e2:flushed m=m:=by unfold flushed crashed;rw[if_pos hg]
  rw[e1,e2]
  refine(flush_gone h hg).mono ?_
  rintro e w' ⟨he,rfl⟩
  exact⟨he,Step.same (D.res g m) h (Fr.refl _ _)⟩
 |false=>
  have e1:worksE m=0:=by unfold worksE;rw[if_neg (by rw[hg];decide)]
  rw[e1]
  exact flush_yes h hg hmany
end Go.Proofs.YtjambljmnifknaaGreatDoor.Dk
namespace Go.Proofs.YtjambljmnifknaaGreatDoor.Dk
open Go.RowKit
theorem del_any(x:Ev)(n:Int)(b:Nat)(w:World)(h:w.cell? ⟨b,0,none⟩=some (.int .i64 n)):Calls prog 29 #[ev x,.pointer (some ⟨b,0,none⟩)] w λe w'=>e=.returned (.bool ((x.1:Int)==n))∧w'=w.alloc (.cells #[.int .i64 (x.1:Int),.string x.2] 127):=by
 have HO:=Qg (of_any x n w)
 go_enter func29,ntmps29
 go_wp2_with (go_at_call 30;refine(HO.out).mono ?_;rintro e w1 ⟨rfl,rfl⟩)
 go_ret
 exact⟨rfl,rfl⟩
def firstOf(ws:List Ev)(n:Int):Int:=match ws.findIdx? (λx=>(x.1:Int)==n) with
 |some k=>(k:Int)
 |none=> -1
theorem firstOf_none(ws:List Ev)(n:Int)(h:∀(j:Nat) x,ws[j]? =some x→((x.1:Int)==n)=false):firstOf ws n= -1:=by
 unfold firstOf
 have:ws.findIdx? (λx=>(x.1:Int)==n)=none:=by
  rw[YO]
  intro x hx
  obtain⟨j,hj,e⟩:=Zh hx
  exact h j x (by rw[Qc hj,e])
 rw[this]
theorem firstOf_some(ws:List Ev)(n:Int)(k:Nat)(x:Ev)(hx:ws[k]? =some x)(hxn:((x.1:Int)==n)=true)(h:∀j y,j<k→ws[j]? =some y→((y.1:Int)==n)=false):firstOf ws n=(k:Int):=by
 unfold firstOf
 obtain⟨hk,e⟩:=Qe.1 hx
 have:ws.findIdx? (λx=>(x.1:Int)==n)=some k:=by
  rw[ZD]
  refine⟨hk,by rw[e];exact hxn,λj hj=>?_⟩
  have:=h j (ws[j]'(by omega)) hj (Qc (by omega))
  simp[this]
 rw[this]
theorem index_any(ws:List Ev)(n:Int)(b c:Nat)(A:Option Addr)(w:World)(hl:ws.length≤1000000)(h:w.cell? ⟨b,0,none⟩=some (.int .i64 n))(hr:∀(j:Nat) x,ws[j]? =some x→∃ad,A=some ad∧w.cell? (ad.add j)=some (ev x)):
  Calls prog 61 #[.slice A ws.length c,.func (.func 29) #[] #[.pointer (some ⟨b,0,none⟩)]] w λe w'=>e=.returned (.int .i64 (firstOf ws n))∧Fr fresh w w':=by
 have HR:=Qg hr
 clear hr
 go_enter func61,ntmps61
 go_wp2
 go_loopg [8] ws.length (λq v8 wx=>∃k:Nat,k+q=ws.length∧v8=.int .i64 (k:Int)∧Aside ((∀j x,j<k→ws[j]? =some x→((x.1:Int)==n)=false)∧Fr fresh w wx))
 case atStart=>exact⟨0,by omega,rfl,λj x hj=>by omega,Fr.refl _ _⟩
 case round=>
  obtain⟨k,hkq,rfl,HI⟩:=hrel
  cases gk with
  |zero=>
   obtain rfl:k=ws.length:=by omega
   have hf:=firstOf_none ws n (λj x hj=>HI.out.1 j x (Qe.1 hj).1 hj)
   go_wp2
   go_ret
   exact⟨by rw[hf];rfl,HI.out.2⟩
  |succ q=>
   have hm:k<ws.length:=by omega
   have hmi:(k:Int)<(ws.length:Int):=by omega
   obtain⟨x,hx⟩:∃x,ws[k]? =some x:=⟨_,Qc hm⟩
   obtain⟨ad,rfl,e1⟩:=HR.out k x hx
   have e1':=Fr.cell HI.out.2 e1 (λh=>h)
   have hb':=Fr.cell HI.out.2 h (λh=>h)
   have HD:=Qg (del_any x n b wr hb')
   have HX:=Qg hx
   clear e1 hx hb'
   cases hxn:((x.1:Int)==n) with
   |true=>
    rw[hxn] at HD
    go_wp2_with (go_at_call 29;refine(HD.out).mono ?_;rintro e w1 ⟨rfl,rfl⟩)
    go_ret
    have hf:=firstOf_some ws n k x HX.out hxn HI.out.1
    exact⟨by rw[hf];rfl,HI.out.2.alloc _⟩
   |false=>
    rw[hxn] at HD
    go_wp2_with (go_at_call 29;refine(HD.out).mono ?_;rintro e w1 ⟨rfl,rfl⟩)
    go_roundg q
    case measure=>omega
    case rel=>
     refine⟨k+1,by omega,by go_num,λj y hj hy=>?_,HI.out.2.alloc _⟩
     by_cases e:j=k
     ·subst e
      rw[HX.out] at hy
      obtain rfl:=QS hy
      exact hxn
     ·exact HI.out.1 j y (by omega) hy
def stay(ws:List Ev)(n:Int):List Ev:=ws.filter λx=>!((x.1:Int)==n)
structure DelW(w:World)(gw:Nat)(ws:List Ev)(n:Int)(cap:Nat)(i j:Nat)(wx:World):Prop where
 row:∃xs:List Ev,wx.ownsRow 0 66 1 (.slice (some ⟨gw,0,none⟩) ws.length cap) ws.length (xs.map ev)∧xs.length=ws.length∧xs.take i=stay (ws.take j) n∧xs.drop j=ws.drop j
 fr:Fr (λk=>k=gw) w wx
 le:i<j
 ij:i=(stay (ws.take j) n).length
theorem firstOf_spec(ws:List Ev)(n:Int)(k:Nat)(h:firstOf ws n=(k:Int)):∃x,ws[k]? =some x∧((x.1:Int)==n)=true∧∀j y,j<k→ws[j]? =some y→((y.1:Int)==n)=false:=by
 unfold firstOf at h
 split at h
 ·rename_i k' hk'
  obtain rfl:k'=k:=by omega
  rw[ZD] at hk'
  obtain⟨hl,hm,hb⟩:=hk'
  refine⟨ws[k'],Qc hl,hm,λj y hj hy=>?_⟩
  obtain⟨hjl,rfl⟩:=Qe.1 hy
  have:=hb j hj
  simpa using this
 ·omega
theorem stay_take(ws:List Ev)(n:Int)(j:Nat)(x:Ev)(hx:ws[j]? =some x):stay (ws.take (j+1)) n=stay (ws.take j) n++(if((x.1:Int)==n)=true then [] else [x]):=by
 unfold stay
 rw[ZE,hx,List.filter_append]
 cases hm:((x.1:Int)==n)<;>simp[hm]
theorem stay_all(ws:List Ev)(n:Int)(k:Nat)(h:∀j y,j<k→ws[j]? =some y→((y.1:Int)==n)=false):stay (ws.take k) n=ws.take k:=by
 unfold stay
 rw[List.filter_eq_self]
 intro y hy
 obtain⟨j,hj,e⟩:=Zh hy
 rw[QC] at hj
 rw[List.getElem_take] at e
 have:=h j y (by omega) (by rw[Qc (by omega),e])
 simp[this]
section
variable {w wx:World}{gw:Nat}{ws:List Ev}{n:Int}{cap i j:Nat}
theorem DelW.first(hown:w.ownsRow 0 66 1 (.slice (some ⟨gw,0,none⟩) ws.length cap) ws.length (ws.map ev))(hf:firstOf ws n=(i:Int)){w1:World}(hf1:Fr fresh w w1):DelW w gw ws n cap i (i+1) w1:=by
 obtain⟨x,hx,hm,hb⟩:=firstOf_spec ws n i hf
 have hst:stay (ws.take (i+1)) n=ws.take i:=by
  rw[stay_take ws n i x hx,if_pos hm,QT,stay_all ws n i hb]
 have hil:=(Qe.1 hx).1
 exact⟨⟨ws,owns_move hown (λk hk=>hf1.same k (hown.lt k hk).2 (λh=>h)),rfl,hst.symm,rfl⟩,hf1.mono (λ_ _ h=>h.elim),by omega,by rw[hst,QC];omega⟩
theorem DelW.alloc(h:DelW w gw ws n cap i j wx)(o:Obj):DelW w gw ws n cap i j (wx.alloc o):=by
 obtain⟨⟨xs,hr,a,b,c⟩,d,e,f⟩:=h
 exact⟨⟨xs,hr.alloc o,a,b,c⟩,d.alloc o,e,f⟩
theorem DelW.skip(h:DelW w gw ws n cap i j wx){x:Ev}(hx:ws[j]? =some x)(hm:((x.1:Int)==n)=true):DelW w gw ws n cap i (j+1) wx:=by
 obtain⟨⟨xs,hr,a,b,c⟩,d,e,f⟩:=h
 have hst:stay (ws.take (j+1)) n=stay (ws.take j) n:=by rw[stay_take ws n j x hx,if_pos hm,QT]
 refine⟨⟨xs,hr,a,by rw[b,hst],?_⟩,d,by omega,by rw[hst];exact f⟩
 have:=Qf (List.drop 1) c
 simpa [Yp,YF] using this
theorem DelW.put(h:DelW w gw ws n cap i j wx){x:Ev}(hx:ws[j]? =some x)(hm:((x.1:Int)==n)=false):DelW w gw ws n cap (i+1) (j+1) (wx.setCell ⟨gw,i,none⟩ (ev x)):=by
 obtain⟨⟨xs,hr,a,b,c⟩,d,e,f⟩:=h
 have hjl:=(Qe.1 hx).1
 have hst:stay (ws.take (j+1)) n=stay (ws.take j) n++[x]:=by rw[stay_take ws n j x hx,if_neg (by rw[hm];decide)]
 refine⟨⟨xs.set i x,by rw[ZO];exact(hr.stored i (ev x)).1,by simpa using a,?_,?_⟩,d.setCell (p:=⟨gw,i,none⟩) (.inl rfl) _,by omega,by rw[hst,Qi,←f];rfl⟩
 ·rw[hst,←b,ZE,Zn (by omega),List.take_set_of_le (Qd _)]
  rfl
 ·rw[List.drop_set_of_lt (by omega)]
  have:=Qf (List.drop 1) c
  simpa [Yp,YF] using this
theorem DelW.reads(h:DelW w gw ws n cap i j wx){x:Ev}(hx:ws[j]? =some x):wx.cell? ⟨gw,j,none⟩=some (ev x):=by
 obtain⟨⟨xs,hr,a,b,c⟩,d,e,f⟩:=h
 have hjl:=(Qe.1 hx).1
 rw[hr.cellAt j (by omega),Qp]
 have:xs[j]? =some x:=by
  have:=Qf (λl=>l[0]?) c
  simpa [List.getElem?_drop,hx] using this
 rw[this]
 rfl
theorem DelW.caps(h:DelW w gw ws n cap i j wx):ws.length≤cap:=by
 obtain⟨⟨xs,hr,a,b,c⟩,d,e,f⟩:=h
 rcases owns_form hr with ⟨e,_⟩|⟨g',c',e,_,_,h1,_⟩
 ·simp at e
 ·simp at e;omega
theorem DelW.there(h:DelW w gw ws n cap i j wx)(hi:i<ws.length):(wx.cell? ⟨gw,i,none⟩).isSome=true∧wx.frozen? ⟨gw,i,none⟩=false:=by
 obtain⟨⟨xs,hr,a,b,c⟩,d,e,f⟩:=h
 refine⟨?_,hr.frozenAt i⟩
 rw[hr.cellAt i (by omega),Qp,Qc (by omega)]
 rfl
end
theorem zero_event(w:World):(zeroValue 66).run prog w=.ok .nilIface w:=by
 obtain⟨i0,hi,hz0,hz1,hz2⟩:=info_parts evInfo
 simp[zeroValue,typeInfo,hi,hz0]
theorem DelW.clears{w wx:World}{gw:Nat}{ws:List Ev}{n:Int}{cap i j:Nat}(h:DelW w gw ws n cap i j wx)(hj:j=ws.length):∃w',(Builtin.clear_ #[60] 0 #[.slice (some ⟨gw,i,none⟩) (ws.length-i) (cap-i)]).run prog wx=.ok (.tuple #[]) w'∧
  Fr (λk=>k=gw) w w'∧w'.ownsRow 0 66 1 (.slice (some ⟨gw,0,none⟩) i cap) i ((stay ws n).map ev):=by
 subst hj
 obtain⟨⟨xs,hr,a,b,c⟩,d,e,f⟩:=h
 rw[QU (Qd _)] at b f
 rcases hr.2 with ⟨e',_⟩|⟨g',c',cur,e',hg',hh,hn,hm,hs,ht⟩
 ·simp at e'
 ·simp only[Value.slice.injEq,Option.some.injEq,Addr.mk.injEq,and_true,true_and] at e'
  obtain⟨rfl,rfl⟩:=e'
  obtain⟨q,hq⟩:∃q,ws.length-i=q+1:=⟨ws.length-i-1,by omega⟩
  have hzc:(Builtin.zeroCells Value.nilIface.cells (q+1)).toList=List.replicate (q+1) .nilIface:=by
   simp[Builtin.zeroCells,Value.cells]
   apply Zp
   ·simp
   ·intro i h1 h2
    simp[YP]
  have hzero:=zero_event wx
  have hst:=run_storeCells_at prog gw i 66 (List.replicate (q+1) .nilIface) 0 cur wx hh (by simp;omega) (by intro v hv;rw[YT hv];rfl)
  simp only[ZK,Zz] at hst
  refine⟨wx.setRow gw (cur.toList.take i++List.replicate (q+1) Value.nilIface++cur.toList.drop (i+(q+1))).toArray,?_,⟨d.os,d.tape,d.output,by simpa using d.size,λk hk hne=>(setRow_other wx gw k _ (λe=>hne e)).trans (d.same k hk hne)⟩,by simp;omega,.inr ⟨gw,cap,_,rfl,hg',setRow_heap wx gw cur _ _ _ hh,by omega,hm,?_,?_⟩⟩
  ·rw[hq]
   simp[Builtin.clear_,run_underlying underlying60,hzero,hzc,hst]
  ·simp at hs⊢
   omega
  ·have h2:cur.toList.take i=(stay ws n).map ev:=by
    have:=Qf (List.take i) ht
    rw[Z2,←List.map_take,b] at this
    rw[←this]
    exact Qf (λq=>List.take q _) (by omega)
   simp only[ZI]
   rw[Qt,ZW (by simp;omega),Z2,Nat.min_self,h2]
theorem delete_none(ws:List Ev)(n:Int)(b c:Nat)(A:Option Addr)(w:World)(hl:ws.length≤1000000)(h:w.cell? ⟨b,0,none⟩=some (.int .i64 n))(hr:∀(j:Nat) x,ws[j]? =some x→∃ad,A=some ad∧w.cell? (ad.add j)=some (ev x))(hf:firstOf ws n= -1):
  Calls prog 28 #[.slice A ws.length c,.func (.func 29) #[] #[.pointer (some ⟨b,0,none⟩)]] w λe w'=>e=.returned (.slice A ws.length c)∧Fr fresh w w':=by
 have hi:=index_any ws n b c A w hl h hr
 rw[hf] at hi
 have HI:=Qg hi
 clear hi hr
 go_enter func28,ntmps28
 go_wp2_with (go_at_call 61;refine(HI.out).mono ?_;rintro e w1 ⟨rfl,hf1⟩)
 go_ret
 exact⟨rfl,hf1⟩
theorem delete_some(ws:List Ev)(n:Int)(b gw cap k0:Nat)(w:World)(hl:ws.length≤1000000)(h:w.cell? ⟨b,0,none⟩=some (.int .i64 n))(hbg:b≠gw)(hown:w.ownsRow 0 66 1 (.slice (some ⟨gw,0,none⟩) ws.length cap) ws.length (ws.map ev))(hf:firstOf ws n=(k0:Int))(hk0:k0<ws.length):
  Calls prog 28 #[.slice (some ⟨gw,0,none⟩) ws.length cap,.func (.func 29) #[] #[.pointer (some ⟨b,0,none⟩)]] w λe w'=>∃l,e=.returned (.slice (some ⟨gw,0,none⟩) l cap)∧Fr (λk=>k=gw) w w'∧w'.ownsRow 0 66 1 (.slice (some ⟨gw,0,none⟩) l cap) l ((stay ws n).map ev):=by
 have hi:=index_any ws n b cap (some ⟨gw,0,none⟩) w hl h (λj x hj=>⟨_,rfl,hown.cells rfl j (ev x) (by rw[Qp,hj];rfl)⟩)
 rw[hf] at hi
 have HI:=Qg hi
 clear hi
 have hk1:¬(k0:Int)= -1:=by omega
 go_enter func28,ntmps28
 go_wp2_with (go_at_call 61;refine(HI.out).mono ?_;rintro e w1 ⟨rfl,hf1⟩)
 have HW:=Qg (DelW.first hown hf hf1)
 have HB:=Qg h
 clear h hown hf hf1 HI
 go_loopg [5,6] ws.length (λq v5 v6 wx=>∃i j:Nat,j≤ws.length∧ws.length≤j+q∧v5=.int .i64 (i:Int)∧v6=.int .i64 (j:Int)∧Aside (DelW w gw ws n cap i j wx))
 case atStart=>exact⟨k0,k0+1,by omega,by omega,rfl,by go_num,HW.out⟩
 case round=>
  obtain⟨i,j,hj1,hjq,rfl,rfl,HI⟩:=hrel
  have hij:=HI.out.le
  by_cases hjl:j=ws.length
  ·obtain⟨w3,hc,hf3,hr3⟩:=HI.out.clears hjl
   have H3:=Qg (And.intro hf3 hr3)
   have hcap:=HI.out.caps
   clear hf3 hr3
   have hjl':¬(j:Int)<(ws.length:Int):=by omega
   have hil:(i:Int)≤(ws.length:Int):=by omega
   have hic:(i:Int)≤(cap:Int):=by omega
   have hne:¬cap=i:=by omega
   have hi0:0≤(i:Int):=by omega
   go_wp2
   go_ret
   exact⟨i,rfl,H3.out.1,H3.out.2⟩
  ·obtain⟨q,rfl⟩:∃q,gk=q+1:=⟨gk-1,by omega⟩
   have hjl':(j:Int)<(ws.length:Int):=by omega
   have hil:(i:Int)<(ws.length:Int):=by omega
   obtain⟨x,hx⟩:∃x,ws[j]? =some x:=⟨_,Qc (by omega)⟩
   have e1:=HI.out.reads hx
   have hb':=HI.out.fr.cell HB.out hbg
   have HD:=Qg (del_any x n b wr hb')
   cases hxn:((x.1:Int)==n) with
   |true=>
    rw[hxn] at HD
    have HK:=Qg ((HI.out.skip hx hxn).alloc (.cells #[.int .i64 (x.1:Int),.string x.2] 127))
    clear hx hb'
    go_wp2_with (go_at_call 29;refine(HD.out).mono ?_;rintro e w1 ⟨rfl,rfl⟩)
    go_roundg q
    case measure=>omega
    case rel=>exact⟨i,j+1,by omega,by omega,rfl,by go_num,HK.out⟩
   |false=>
    rw[hxn] at HD
    have HK:=Qg ((HI.out.alloc (.cells #[.int .i64 (x.1:Int),.string x.2] 127)).put hx hxn)
    obtain⟨hs1,hz1⟩:=(HI.out.alloc (.cells #[.int .i64 (x.1:Int),.string x.2] 127)).there (by omega)
    obtain⟨u,hu⟩:=Option.isSome_iff_exists.1 hs1
    clear hx hb' hs1
    unfold ev at HK
    unfold ev at e1
    unfold ev at HD
    go_wp2_with (go_at_call 29;refine(HD.out).mono ?_;rintro e w1 ⟨rfl,rfl⟩)
    go_roundg q
    case measure=>omega
    case rel=>exact⟨i+1,j+1,by omega,by omega,by go_num,by go_num,HK.out⟩
theorem stay_none(ws:List Ev)(n:Int)(h:firstOf ws n= -1):stay ws n=ws:=by
 unfold stay
 rw[List.filter_eq_self]
 intro x hx
 unfold firstOf at h
 split at h
 ·omega
 ·rename_i hn
  rw[YO] at hn
  have:=hn x hx
  simpa using this
theorem firstOf_range(ws:List Ev)(n:Int):firstOf ws n= -1∨∃k:Nat,firstOf ws n=(k:Int)∧k<ws.length:=by
 unfold firstOf
 split
 ·rename_i k hk
  rw[ZD] at hk
  obtain⟨hl,_⟩:=hk
  exact .inr ⟨k,rfl,hl⟩
 ·exact .inl rfl
theorem delete_disk{w:World}{g s:Nat}{wv:Value}{m:Dsk}(h:IsDisk w g s wv m)(hmany:m.wait.length≤1000000)(n:Int)(b:Nat)(hb:w.cell? ⟨b,0,none⟩=some (.int .i64 n))(hbf:¬foot g s wv b)(A:Option Addr)(c:Nat)(hwv:wv=.slice A m.wait.length c):
  Calls prog 28 #[.slice A m.wait.length c,.func (.func 29) #[] #[.pointer (some ⟨b,0,none⟩)]] w λe w'=>∃A' l c',e=.returned (.slice A' l c')∧Fr (λk=>wv.ownBlock=some k) w w'∧
   w'.ownsRow 0 66 1 (.slice A' l c') (stay m.wait n).length ((stay m.wait n).map ev)∧∀k,(Value.slice A' l c').ownBlock=some k→wv.ownBlock=some k:=by
 have hwait:=h.wait
 rcases firstOf_range m.wait n with hf|⟨k0,hf,hk0⟩
 ·obtain⟨W,cw,hwv', -,hW⟩:=h.waits
  rw[hwv] at hwv'
  simp only[Value.slice.injEq,true_and] at hwv'
  obtain⟨rfl,rfl⟩:=hwv'
  refine(delete_none m.wait n b c A w hmany hb (λj x hj=>by obtain⟨ad,e,hc, -⟩:=hW w m h rfl j x hj;exact⟨ad,e,hc⟩) hf).mono ?_
  rintro e w' ⟨he,hfr⟩
  refine⟨A,_,c,he,hfr.mono (λ_ _ h=>h.elim),?_,λk hk=>by rw[hwv];exact hk⟩
  rw[stay_none m.wait n hf,←hwv]
  exact owns_move hwait (λk hk=>hfr.same k (hwait.lt k hk).2 (λh=>h))
 ·rcases owns_form hwait with ⟨e,h0⟩|⟨gw,cw,e, -, -, -, -⟩
  ·omega
  ·have e2:=e
   rw[hwv] at e2
   simp only[Value.slice.injEq,true_and] at e2
   obtain⟨rfl,rfl⟩:=e2
   rw[e] at hwait
   have hbg:b≠gw:=λhh=>hbf (.inr (.inr (by rw[e,hh];rfl)))
   refine(delete_some m.wait n b gw c k0 w hmany hb hbg hwait hf hk0).mono ?_
   rintro e' w' ⟨l,he,hfr,hown⟩
   have hl:l=(stay m.wait n).length:=by have:=hown.1;simpa using this.symm
   refine⟨_,l,c,he,hfr.mono (λk _ hk=>by rw[e,hk];rfl),by rw[←hl];exact hown,λk hk=>by rw[e];simpa [Value.ownBlock] using hk⟩
theorem frozen_of_disk{w:World}{g s:Nat}{wv:Value}{m:Dsk}(h:IsDisk w g s wv m)(j:Nat):w.frozen? ⟨g,j,none⟩=false:=by
 obtain⟨cap, -, -, -, -, -,cf, -, -⟩:=h.reads
 exact cf j
def corrupted(m:Dsk)(n:Int)(x:ByteArray):Dsk:=if checkE m n x.size=0 then {m with wait:=stay m.wait n,sec:=m.sec.set n.toNat x} else m
theorem corrupt_not{w:World}{g:Nat}{n:Int}{x:ByteArray}(z:Int)(hz:z≠0)
  (h:Calls prog 27 #[.pointer (some ⟨g,0,none⟩),.int .i64 n,.string x] (w.alloc (.cells #[.int .i64 n] 3)) λe w'=>e=.returned (.int .i64 z)∧w.alloc (.cells #[.int .i64 n] 3)=w'):
  Calls prog 19 #[.pointer (some ⟨g,0,none⟩),.int .i64 n,.string x] w λe w'=>e=.returned (.int .i64 z)∧Fr fresh w w':=by
 have HK:=Qg h
 clear h
 go_enter func19,ntmps19
 go_wp2_with (go_at_call 27;refine(HK.out).mono ?_;rintro e w1 ⟨rfl,rfl⟩)
 go_ret
 exact⟨rfl,(Fr.refl _ w).alloc _⟩
theorem corrupt_yes{w:World}{g s:Nat}{wv:Value}{m:Dsk}(h:IsDisk w g s wv m)(n:Nat)(x:ByteArray)(hgone:m.gone=false)(hn:n<m.sec.length)(hx:x.size≤m.size)(hmany:m.wait.length≤1000000):
  Calls prog 19 #[.pointer (some ⟨g,0,none⟩),.int .i64 (n:Int),.string x] w λe w'=>e=.returned (.int .i64 0)∧
   Step w w' (foot g s wv) (D g {m with wait:=stay m.wait n,sec:=m.sec.set n x} w'):=by
 have h1:=h.alloc (.cells #[.int .i64 (n:Int)] 3)
 have hk:=check_any h1 n x
 have he:checkE m n x.size=0:=by
  unfold checkE
  rw[if_neg (by rw[hgone];decide),if_neg (by omega),if_neg (by omega)]
 rw[he] at hk
 have HK:=Qg hk
 have hb:=cell_of_row _ w.heap.size 0 _ _ _ (heap_alloc_new w (.cells #[.int .i64 (n:Int)] 3))
 simp only[Qq,ZJ] at hb
 have hbf:¬foot g s wv w.heap.size:=λhh=>by have:=h.lt _ hh;omega
 obtain⟨W,cw,hwv,hlen, -⟩:=h.waits
 have HDL:=Qg (delete_disk h1 hmany n w.heap.size hb hbf W cw hwv)
 have HB:=Qg hb
 obtain⟨cap,hcap, -, -,c2, -,cf, -, -⟩:=h1.reads
 rw[hwv] at c2
 have H:=Qg h
 have H1:=Qg h1
 have HV:=Qg hwv
 clear h h1 hk he hb hwv cf
 go_enter func19,ntmps19
 go_wp2_with (first|(go_at_call 27;refine(HK.out).mono ?_;rintro e w1 ⟨rfl,rfl⟩))
 refine HDL.out.mono ?_
 rintro e w2 ⟨A',l,c',rfl,hf2,hr2,hk2⟩
 have hg1:=H1.out.lt g (foot_g _ _ _)
 have hs1:=H1.out.lt s (foot_s _ _ _)
 have bg:=hf2.same g hg1 (λhh=>H1.out.gw hh)
 have bs:=hf2.same s hs1 (λhh=>H1.out.sw hh)
 have hbn:¬wv.ownBlock=some w.heap.size:=λhh=>hbf (.inr (.inr hh))
 have hbox:=hf2.cell HB.out hbn
 have hfin:=H1.out.setWait' bg bs (.slice A' l c') (stay m.wait n) hr2 (λy hy=>H.out.ok y (Yz.1 hy).1)
 have c2':=(World.cell?_of_block (a:=⟨g,2,none⟩) bg).trans c2
 have f2':=(World.frozen?_of_block (a:=⟨g,2,none⟩) bg).trans (frozen_of_disk H1.out 2)
 have hbox':(w2.setCell ⟨g,2,none⟩ (.slice A' l c')).drew.cell? ⟨w.heap.size,0,none⟩=some (.int .i64 (n:Int)):=(World.cell?_setCell_other _ _ _ _ (by simp)).trans hbox
 obtain⟨cap',hcap',c0, -, -, -, -,cs,cz⟩:=hfin.drew.reads
 have cn:=cs n m.sec[n] (Qc hn)
 have zn:=cz n
 have hni:(n:Int)<(m.sec.length:Int):=by omega
 have HF:=Qg (And.intro hfin (And.intro hf2 hk2))
 clear cs cz hfin hf2 hk2 bg bs hr2 hbox
 go_wp2_with fail
 go_still_tail 7,(by kernel_rfl)
 first
  |(change wpStill _ _ (w2.setCell ⟨g,2,none⟩ (.slice A' l c')).drew _ _ _
    repeat still_step
    refine wpStill_nil ?_)
  |skip
 change wpList _ _ _ _ _ (w2.setCell _ _).drew
 go_wp2
 go_ret
 refine⟨rfl,foot g s (.slice A' l c'),⟨s,.slice A' l c',(HF.out.1.setSec n x).drew,rfl⟩,((((((Fr.refl (foot g s wv) w).alloc _).then (HF.out.2.1.mono (λk _ hk=>.inr (.inr hk))) (λ_ _ h=>h)).setCell (p:=⟨g,2,none⟩) (.inl (foot_g _ _ _)) _).setCell (p:=⟨s,n,none⟩) (.inl (foot_s _ _ _)) _).drew),?_⟩
 rintro k (rfl|rfl|hk)
 ·exact .inl (foot_g _ _ _)
 ·exact .inl (foot_s _ _ _)
 ·exact .inl (.inr (.inr (HF.out.2.2 k hk)))
theorem corrupt_at{w:World}{g:Nat}{m:Dsk}(n:Int)(x:ByteArray)(hmany:m.wait.length≤1000000)(S:Nat→Prop)(h:D g m w S):
  Calls prog 19 #[.pointer (some ⟨g,0,none⟩),.int .i64 n,.string x] w λe w'=>e=.returned (.int .i64 (checkE m n x.size))∧Step w w' S (D g (corrupted m n x) w'):=by
 unfold corrupted
 by_cases he:checkE m n x.size=0
 ·obtain⟨h1,h2,h3,h4⟩:=checkE_zero he
  rw[if_pos he,he]
  obtain⟨s,wv,h,rfl⟩:=h
  obtain⟨k,rfl⟩:=QW h2
  exact corrupt_yes h k x h1 (by omega) h4 hmany
 ·rw[if_neg he]
  have hk:=check_at (At.alloc h (.cells #[.int .i64 n] 3)) n x
  refine(corrupt_not _ he hk).mono ?_
  rintro e w' ⟨he',hf⟩
  exact⟨he',Step.same (D.res g m) h hf⟩
theorem op_left{A A' B:Thing}(b:Res B){w:World}{f:FuncId}{args:Array Value}{X:Ending}(hop:∀S,A w S→Calls prog f args w λe w'=>e=X∧Step w w' S (A' w')):
  ∀S,Both A B w S→Calls prog f args w λe w'=>e=X∧Step w w' S (Both A' B w'):=by
 rintro U ⟨S,T,hA,hB,hd,rfl⟩
 exact(hop S hA).mono λe w' ⟨he,hs⟩=>⟨he,Step.left b hs hB hd⟩
theorem op_right{A B B':Thing}(a:Res A){w:World}{f:FuncId}{args:Array Value}{X:Ending}(hop:∀S,B w S→Calls prog f args w λe w'=>e=X∧Step w w' S (B' w')):
  ∀S,Both A B w S→Calls prog f args w λe w'=>e=X∧Step w w' S (Both A B' w'):=by
 rintro U ⟨S,T,hA,hB,hd,rfl⟩
 exact(hop T hB).mono λe w' ⟨he,hs⟩=>⟨he,Step.right a hA hs hd⟩
def All:List Thing→Thing
 |[]=>λ_ S=>S=λ_=>False
 |A::r=>Both A (All r)
theorem All.res:∀(l:List Thing),(∀A∈l,Res A)→Res (All l)
 |[],_=>⟨by rintro w S rfl k h;exact h.elim,by rintro w w' S T rfl _ _;rfl⟩
 |A::r,h=>Both.res (h A (by simp)) (All.res r λB hB=>h B (by simp[hB]))
theorem All.get:∀(l:List Thing) (i:Nat) (A:Thing) (w:World) (S:Nat→Prop),l[i]? =some A→All l w S→∃T,A w T∧∀k,T k→S k
 |[],_,_,_,_,h,_=>by simp at h
 |B::r,0,A,w,S,h,hl=>by
  simp at h
  subst h
  obtain⟨S1,S2,h1,h2,hd,rfl⟩:=hl
  exact⟨S1,h1,λk hk=>.inl hk⟩
 |B::r,i+1,A,w,S,h,hl=>by
  obtain⟨S1,S2,h1,h2,hd,rfl⟩:=hl
  obtain⟨T,hT,hs⟩:=All.get r i A w S2 (by simpa using h) h2
  exact⟨T,hT,λk hk=>.inr (hs k hk)⟩
theorem All.op{w:World}{f:FuncId}{args:Array Value}{X:Ending}{A A':Thing}(hop:∀S,A w S→Calls prog f args w λe w'=>e=X∧Step w w' S (A' w')):
  ∀(l:List Thing) (i:Nat),(∀B∈l,Res B)→l[i]? =some A→∀S,All l w S→Calls prog f args w λe w'=>e=X∧Step w w' S (All (l.set i A') w')
 |[],_,_,h=>by simp at h
 |B::r,0,hr,h=>by
  simp at h
  subst h
  exact op_left (All.res r λC hC=>hr C (by simp[hC])) hop
 |B::r,i+1,hr,h=>op_right (hr B (by simp)) (All.op hop r i (λC hC=>hr C (by simp[hC])) (by simpa using h))
theorem All.snoc:∀(l:List Thing) (A:Thing) (w:World) (S:Nat→Prop),Both (All l) A w S→All (l++[A]) w S
 |[],A,w,S,h=>by
  obtain⟨S1,S2,rfl,h2,hd,rfl⟩:=h
  exact⟨S2,λ_=>False,h2,rfl,λ_ _ h=>h,by funext k;simp⟩
 |B::r,A,w,S,h=>by
  obtain⟨S1,S2,⟨T1,T2,t1,t2,hd1,rfl⟩,h2,hd,rfl⟩:=h
  exact⟨T1,λk=>T2 k∨S2 k,t1,All.snoc r A w _ ⟨T2,S2,t2,h2,λk hk=>hd k (.inr hk),rfl⟩,λk h1 h2=>h2.elim (hd1 k h1) (hd k (.inl h1)),by funext k;simp[or_assoc]⟩
structure Arr where
 ds:List Dsk
 left:Int
 down:Bool
def ptr(g:Nat):Value:=.pointer (some ⟨g,0,none⟩)
def Head(T P:TypeId)(ga:Nat)(sv:Value)(gs:List Nat)(left:Int)(down:Bool):Thing:=λw S=>
 w.heap[ga]? =some (.cells #[sv,.int .i64 left,.bool down] T (0,0))∧w.ownsRow 0 P 1 sv gs.length (gs.map ptr)∧sv.ownBlock≠some ga∧S=λk=>k=ga∨sv.ownBlock=some k
theorem Head.res(T P:TypeId)(ga:Nat)(sv:Value)(gs:List Nat)(left:Int)(down:Bool):Res (Head T P ga sv gs left down):=by
 refine⟨?_,?_⟩
 ·rintro w S ⟨h,hr,hn,rfl⟩ k (rfl|hk)
  ·exact(Qa.1 h).1
  ·exact(hr.lt k hk).2
 ·rintro w w' S V ⟨h,hr,hn,rfl⟩ hf hd
  refine⟨hf.heap h (hd ga (.inl rfl)),owns_move hr (λk e=>?_),hn,rfl⟩
  exact hf.same k ((hr.lt k e).2) (hd k (.inr e))
def Ar(X:Nat→Dsk→Thing)(T P:TypeId)(ga:Nat)(sv:Value)(gs:List Nat)(a:Arr):Thing:=λw S=>
 gs.length=a.ds.length∧Both (Head T P ga sv gs a.left a.down) (All (List.zipWith X gs a.ds)) w S
section
variable {X:Nat→Dsk→Thing}(hX:∀g m,Res (X g m)){T P:TypeId}{ga:Nat}{sv:Value}{gs:List Nat}{a:Arr}
include hX
theorem Ar.disks:∀(gs:List Nat) (ds:List Dsk),∀B∈List.zipWith X gs ds,Res B
 |[],_,B,h=>by simp at h
 |_::_,[],B,h=>by simp at h
 |g::gs,m::ds,B,h=>by
  simp at h
  rcases h with rfl|h
  ·exact hX _ _
  ·exact Ar.disks gs ds B h
theorem Ar.res:Res (Ar X T P ga sv gs a):=by
 have h:=Both.res (Head.res T P ga sv gs a.left a.down) (All.res _ (Ar.disks hX gs a.ds))
 refine⟨?_,?_⟩
 ·rintro w S ⟨_,hb⟩
  exact h.lt hb
 ·rintro w w' S V ⟨hl,hb⟩ hf hd
  exact⟨hl,h.frame hb hf hd⟩
theorem Ar.op{w:World}{f:FuncId}{args:Array Value}{E:Ending}{i g:Nat}{m m':Dsk}(hi:a.ds[i]? =some m)(hg:gs[i]? =some g)
  (hop:∀S,X g m w S→Calls prog f args w λe w'=>e=E∧Step w w' S (X g m' w')):
  ∀S,Ar X T P ga sv gs a w S→Calls prog f args w λe w'=>e=E∧Step w w' S (Ar X T P ga sv gs {a with ds:=a.ds.set i m'} w'):=by
 rintro S ⟨hl,hb⟩
 have hz:(List.zipWith X gs a.ds)[i]? =some (X g m):=by simp[Za,hi,hg]
 refine(op_right (Head.res T P ga sv gs a.left a.down) (All.op hop _ i (Ar.disks hX gs a.ds) hz) S hb).mono ?_
 rintro e w' ⟨he,S',hB,hf,hg'⟩
 refine⟨he,S',⟨by simpa using hl,?_⟩,hf,hg'⟩
 have hset:(List.zipWith X gs a.ds).set i (X g m')=List.zipWith X gs (a.ds.set i m'):=by
  apply QQ
  intro j
  by_cases e:i=j
  ·subst e
   have h1:=(Qe.1 hi).1
   have h2:=(Qe.1 hg).1
   rw[Zn (by simp;omega),Za,hg,Zn h1]
  ·rw[Zf e,Za,Za,Zf e]
 rw[hset] at hB
 exact hB
omit hX in
theorem Ar.get{w:World}{S:Nat→Prop}{i g:Nat}{m:Dsk}(hi:a.ds[i]? =some m)(hg:gs[i]? =some g)(h:Ar X T P ga sv gs a w S):∃U,X g m w U∧∀k,U k→S k:=by
 obtain⟨hl,S1,S2,h1,h2,hd,rfl⟩:=h
 have hz:(List.zipWith X gs a.ds)[i]? =some (X g m):=by simp[Za,hi,hg]
 obtain⟨U,hU,hs⟩:=All.get _ i _ w S2 hz h2
 exact⟨U,hU,λk hk=>.inr (hs k hk)⟩
omit hX in
theorem Ar.reads{w:World}{S:Nat→Prop}(h:Ar X T P ga sv gs a w S):∃A c,sv=.slice A a.ds.length c∧a.ds.length≤9223372036854775807∧gs.length=a.ds.length∧
  w.cell? ⟨ga,0,none⟩=some sv∧w.cell? ⟨ga,1,none⟩=some (.int .i64 a.left)∧w.cell? ⟨ga,2,none⟩=some (.bool a.down)∧(∀j,w.frozen? ⟨ga,j,none⟩=false)∧
  ∀(j:Nat) g,gs[j]? =some g→∃ad,A=some ad∧w.cell? (ad.add j)=some (.pointer (some ⟨g,0,none⟩)):=by
 obtain⟨hl,S1,S2,⟨hb,hr,hn,rfl⟩,h2,hd,rfl⟩:=h
 have hcells:=And.intro (cell_of_row w ga 0 _ _ _ hb) (And.intro (cell_of_row w ga 1 _ _ _ hb) (cell_of_row w ga 2 _ _ _ hb))
 rw[←hl]
 rcases owns_form hr with ⟨rfl,h0⟩|⟨gw,cw,rfl, -, -,hnc,hcm⟩
 ·refine⟨none,0,by rw[h0],by omega,rfl,?_,?_,?_,λj=>frozen_of_row w ga j _ _ hb,λj g hj=>?_⟩
  ·rw[hcells.1];rfl
  ·rw[hcells.2.1];rfl
  ·rw[hcells.2.2];rfl
  ·have:=(Qe.1 hj).1
   omega
 ·refine⟨some ⟨gw,0,none⟩,cw,rfl,by unfold maxLen at hcm;omega,rfl,?_,?_,?_,λj=>frozen_of_row w ga j _ _ hb,λj g hj=>⟨_,rfl,?_⟩⟩
  ·rw[hcells.1];rfl
  ·rw[hcells.2.1];rfl
  ·rw[hcells.2.2];rfl
  ·exact hr.cells rfl j _ (by simp[hj,ptr])
theorem Ar.setLeft{w:World}{S:Nat→Prop}(h:Ar X T P ga sv gs a w S)(x:Int):Step w (w.setCell ⟨ga,1,none⟩ (.int .i64 x)) S (Ar X T P ga sv gs {a with left:=x} (w.setCell ⟨ga,1,none⟩ (.int .i64 x))):=by
 obtain⟨hl,S1,S2,⟨hb,hr,hn,rfl⟩,h2,hd,rfl⟩:=h
 have hs:Step w (w.setCell ⟨ga,1,none⟩ (.int .i64 x)) (λk=>k=ga∨sv.ownBlock=some k) (Head T P ga sv gs x a.down (w.setCell ⟨ga,1,none⟩ (.int .i64 x))):=by
  refine⟨_,⟨?_,owns_move hr (λk e=>heap_setCell_other w _ k _ (λe'=>?_)),hn,rfl⟩,(Fr.refl _ w).setCell (p:=⟨ga,1,none⟩) (.inl (.inl rfl)) _,λk hk=>.inl hk⟩
  ·have:=heap_setCell_same w ga 1 _ _ (.int .i64 x) hb
   simpa using this
  ·simp at e'
   subst e'
   exact hn e
 obtain⟨S',hB,hf,hg⟩:=Step.left (All.res _ (Ar.disks hX gs a.ds)) hs h2 hd
 exact⟨S',⟨hl,hB⟩,hf,hg⟩
theorem Ar.setDown{w:World}{S:Nat→Prop}(h:Ar X T P ga sv gs a w S)(x:Bool):Step w (w.setCell ⟨ga,2,none⟩ (.bool x)) S (Ar X T P ga sv gs {a with down:=x} (w.setCell ⟨ga,2,none⟩ (.bool x))):=by
 obtain⟨hl,S1,S2,⟨hb,hr,hn,rfl⟩,h2,hd,rfl⟩:=h
 have hs:Step w (w.setCell ⟨ga,2,none⟩ (.bool x)) (λk=>k=ga∨sv.ownBlock=some k) (Head T P ga sv gs a.left x (w.setCell ⟨ga,2,none⟩ (.bool x))):=by
  refine⟨_,⟨?_,owns_move hr (λk e=>heap_setCell_other w _ k _ (λe'=>?_)),hn,rfl⟩,(Fr.refl _ w).setCell (p:=⟨ga,2,none⟩) (.inl (.inl rfl)) _,λk hk=>.inl hk⟩
  ·have:=heap_setCell_same w ga 2 _ _ (.bool x) hb
   simpa using this
  ·simp at e'
   subst e'
   exact hn e
 obtain⟨S',hB,hf,hg⟩:=Step.left (All.res _ (Ar.disks hX gs a.ds)) hs h2 hd
 exact⟨S',⟨hl,hB⟩,hf,hg⟩
end
theorem Step.then{w w1 w2:World}{S:Nat→Prop}{A B:World→(Nat→Prop)→Prop}(h:Step w w1 S (A w1))(k:∀S',A w1 S'→Step w1 w2 S' (B w2)):Step w w2 S (B w2):=by
 obtain⟨S1,hA,hf,hg⟩:=h
 obtain⟨S2,hB,hf2,hg2⟩:=k S1 hA
 refine⟨S2,hB,hf.then hf2 (λi hi hs=>(hg i hs).elim id (λe=>by omega)),λi hi=>?_⟩
 rcases hg2 i hi with e|e
 ·exact hg i e
 ·have:=hf.size;exact .inr (by omega)
abbrev Pa(ga:Nat)(sv:Value)(gs:List Nat)(a:Arr):Thing:=Ar D 43 44 ga sv gs a
theorem Pa.res(ga:Nat)(sv:Value)(gs:List Nat)(a:Arr):Res (Pa ga sv gs a):=Ar.res D.res
def powerE(a:Arr):Int:=if a.down=true then 9 else 0
theorem power_nil(w:World):Calls prog 74 #[.pointer none] w λe w'=>e=.returned (.int .i64 1)∧w=w':=by
 go_enter func74,ntmps74
 go_wp2
 go_ret
 exact⟨rfl,rfl⟩
theorem power_at{w:World}{ga:Nat}{sv:Value}{gs:List Nat}{a:Arr}{S:Nat→Prop}(h:Pa ga sv gs a w S):
  Calls prog 74 #[.pointer (some ⟨ga,0,none⟩)] w λe w'=>e=.returned (.int .i64 (powerE a))∧w=w':=by
 obtain⟨A,c,rfl,hm,hl,c0,c1,c2,cf,cs⟩:=h.reads
 clear cs cf c0 c1 h
 unfold powerE
 by_cases hd:a.down=true
 ·rw[hd] at c2⊢
  go_enter func74,ntmps74
  go_wp2
  go_ret
  exact⟨rfl,rfl⟩
 ·simp only[YX] at hd
  rw[hd] at c2⊢
  go_enter func74,ntmps74
  go_wp2
  go_ret
  exact⟨rfl,rfl⟩
theorem disk_no{w:World}{ga:Nat}{sv:Value}{gs:List Nat}{a:Arr}{S:Nat→Prop}(h:Pa ga sv gs a w S)(d:Int)(hd:d<0∨(a.ds.length:Int)≤d):
  Calls prog 26 #[.pointer (some ⟨ga,0,none⟩),.int .i64 d] w λe w'=>e=.returned (.tuple #[.pointer none,.int .i64 1])∧w=w':=by
 obtain⟨A,c,rfl,hm,hl,c0,c1,c2,cf,cs⟩:=h.reads
 clear cs cf c1 c2 h hl
 by_cases h1:d<0
 ·clear hd
  go_enter func26,ntmps26
  go_wp2
  go_ret2
  exact⟨rfl,rfl⟩
 ·have h2:¬d<(a.ds.length:Int):=by omega
  clear hd
  go_enter func26,ntmps26
  go_wp2
  go_ret2
  exact⟨rfl,rfl⟩
theorem disk_yes{w:World}{ga:Nat}{sv:Value}{gs:List Nat}{a:Arr}{S:Nat→Prop}(h:Pa ga sv gs a w S)(d g:Nat)(hg:gs[d]? =some g):
  Calls prog 26 #[.pointer (some ⟨ga,0,none⟩),.int .i64 (d:Int)] w λe w'=>e=.returned (.tuple #[.pointer (some ⟨g,0,none⟩),.int .i64 0])∧w=w':=by
 obtain⟨A,c,rfl,hm,hl,c0,c1,c2,cf,cs⟩:=h.reads
 obtain⟨ad,rfl,hc⟩:=cs d g hg
 have hd:=(Qe.1 hg).1
 have hd1:¬(d:Int)<0:=by omega
 have hd2:(d:Int)<(a.ds.length:Int):=by omega
 have hd3:d<a.ds.length:=by omega
 clear cs cf c1 c2 h hl hg hd
 go_enter func26,ntmps26
 go_wp2
 go_ret2
 exact⟨rfl,rfl⟩
def fused(a:Arr)(n:Int):Arr:=if n<0 then a else {a with left:=n}
theorem fuse_at{ga:Nat}{sv:Value}{gs:List Nat}{a:Arr}{w:World}(n:Int)(S:Nat→Prop)(h:Pa ga sv gs a w S):
  Calls prog 163 #[.pointer (some ⟨ga,0,none⟩),.int .i64 n] w λe w'=>e=.returned (.int .i64 (if n<0 then 1 else 0))∧Step w w' S (Pa ga sv gs (fused a n) w'):=by
 obtain⟨A,c,rfl,hm,hl,c0,c1,c2,cf,cs⟩:=h.reads
 have f1:=cf 1
 have H:=Qg h
 clear cs cf c0 c2 h hl
 unfold fused
 by_cases hn:n<0
 ·rw[if_pos hn,if_pos hn]
  go_enter func163,ntmps163
  go_wp2
  go_ret
  exact⟨rfl,Step.same (Pa.res _ _ _ _) H.out (Fr.refl _ _)⟩
 ·rw[if_neg hn,if_neg hn]
  go_enter func163,ntmps163
  go_wp2
  go_ret
  exact⟨rfl,H.out.setLeft D.res n⟩
theorem down_at{ga:Nat}{sv:Value}{gs:List Nat}{a:Arr}{w:World}(S:Nat→Prop)(h:Pa ga sv gs a w S):
  Calls prog 31 #[.pointer (some ⟨ga,0,none⟩)] w λe w'=>e=.returned (.bool a.down)∧Step w w' S (Pa ga sv gs a w'):=by
 obtain⟨A,c,rfl,hm,hl,c0,c1,c2,cf,cs⟩:=h.reads
 have H:=Qg h
 clear cs cf c0 c1 h hl
 go_enter func31,ntmps31
 go_wp2
 go_ret
 exact⟨rfl,Step.same (Pa.res _ _ _ _) H.out (Fr.refl _ _)⟩
theorem disks_at{ga:Nat}{sv:Value}{gs:List Nat}{a:Arr}{w:World}(S:Nat→Prop)(h:Pa ga sv gs a w S):
  Calls prog 34 #[.pointer (some ⟨ga,0,none⟩)] w λe w'=>e=.returned (.int .i64 (a.ds.length:Int))∧Step w w' S (Pa ga sv gs a w'):=by
 obtain⟨A,c,rfl,hm,hl,c0,c1,c2,cf,cs⟩:=h.reads
 have H:=Qg h
 clear cs cf c1 c2 h hl
 go_enter func34,ntmps34
 go_wp2
 go_ret
 exact⟨rfl,Step.same (Pa.res _ _ _ _) H.out (Fr.refl _ _)⟩
end Go.Proofs.YtjambljmnifknaaGreatDoor.Dk
