/- Part 3 of the proof of TopAny: The walks of Read, Alive, Fail, Replace, Corrupt of layer 10 · The walks of on, Fail, Replace, Corrupt of layer 10 · The walk of Write of layer 10 · The walk of Flush of layer 10 · The walk of Crash of layer 10 · The walk of New of layer 10 · New of layer 10 where there is no such array; Copy. -/
import Derived.Test.YtjambljmnifknaaGreatDoorJ02
import Derived.Deep.Slices
import Derived.Deep.Strs
import Derived.Deep.AppendLies
set_option maxRecDepth 100000
set_option maxHeartbeats 80000000
set_option linter.all false
open Go.Proofs.Tryz
namespace Go.Proofs.YtjambljmnifknaaGreatDoor.Dk
open Go.RowKit
def dk(a:Arr)(d:Int):Dsk:=a.ds.getD d.toNat ⟨[],0,[],false⟩
abbrev noDisk(a:Arr)(d:Int):Prop:=d<0∨(a.ds.length:Int)≤d
theorem dk_at{a:Arr}{d:Int}(h:¬noDisk a d):a.ds[d.toNat]? =some (dk a d)∧((d.toNat:Nat):Int)=d:=by
 have h1:d.toNat<a.ds.length:=by omega
 refine⟨?_,QL (by omega)⟩
 unfold dk
 rw[Ql,Qc h1]
 rfl
def withDk(a:Arr)(d:Int)(m:Dsk):Arr:={a with ds:=a.ds.set d.toNat m}
theorem withDk_same{a:Arr}{d:Int}(h:¬noDisk a d):withDk a d (dk a d)=a:=by
 unfold withDk
 have:=(dk_at h).1
 obtain⟨h1,h2⟩:=Qe.1 this
 rw[←h2,List.set_getElem_self]
section
variable {X:Nat→Dsk→Thing}(hX:∀g m,Res (X g m)){T P:TypeId}{ga:Nat}{sv:Value}{gs:List Nat}{a:Arr}
include hX
theorem Ar.opAt{w:World}{S:Nat→Prop}{d:Int}(h:Ar X T P ga sv gs a w S)(hd:¬noDisk a d){f:FuncId}{rest:List Value}{E:Ending}{m':Dsk}
  (hop:∀g U,X g (dk a d) w U→Calls prog f (.pointer (some ⟨g,0,none⟩)::rest).toArray w λe w'=>e=E∧Step w w' U (X g m' w')):
  ∃g,gs[d.toNat]? =some g∧Calls prog f (.pointer (some ⟨g,0,none⟩)::rest).toArray w λe w'=>e=E∧Step w w' S (Ar X T P ga sv gs (withDk a d m') w'):=by
 obtain⟨h1,h2⟩:=dk_at hd
 have hlt:d.toNat<gs.length:=by rw[h.1];exact(Qe.1 h1).1
 have hg:gs[d.toNat]? =some gs[d.toNat]:=Qc hlt
 exact⟨_,hg,Ar.op hX h1 hg (hop _) S h⟩
end
def areadV(a:Arr)(d n:Int):ByteArray:=if a.down=true then ByteArray.empty else if noDisk a d then ByteArray.empty else readV (dk a d) n
def areadE(a:Arr)(d n:Int):Int:=if a.down=true then 9 else if noDisk a d then 1 else checkE (dk a d) n 0
theorem aread_at{ga:Nat}{sv:Value}{gs:List Nat}{a:Arr}{w:World}(d n:Int)(S:Nat→Prop)(h:Pa ga sv gs a w S):
  Calls prog 65 #[.pointer (some ⟨ga,0,none⟩),.int .i64 d,.int .i64 n] w λe w'=>e=.returned (.tuple #[.string (areadV a d n),.int .i64 (areadE a d n)])∧Step w w' S (Pa ga sv gs a w'):=by
 have hp:=power_at h
 have H:=Qg h
 unfold areadV areadE
 unfold powerE at hp
 by_cases hd:a.down=true
 ·rw[if_pos hd] at hp
  rw[if_pos hd,if_pos hd]
  have K:=Qg hp
  clear hp h
  go_enter func65,ntmps65
  go_wp2_with fail
  refine K.out.mono ?_
  rintro e w1 ⟨rfl,rfl⟩
  go_wp2_with fail
  go_ret2
  exact⟨rfl,Step.same (Pa.res _ _ _ _) H.out (Fr.refl _ _)⟩
 rw[if_neg hd] at hp
 rw[if_neg hd,if_neg hd]
 have K:=Qg hp
 clear hp
 by_cases hn:noDisk a d
 ·rw[if_pos hn,if_pos hn]
  have K2:=Qg (disk_no h d hn)
  clear h hn
  go_enter func65,ntmps65
  go_wp2_with fail
  refine K.out.mono ?_
  rintro e w1 ⟨rfl,rfl⟩
  go_wp2_with fail
  refine K2.out.mono ?_
  rintro e w1 ⟨rfl,rfl⟩
  go_wp2_with fail
  go_ret2
  exact⟨rfl,Step.same (Pa.res _ _ _ _) H.out (Fr.refl _ _)⟩
 rw[if_neg hn,if_neg hn]
 obtain⟨g,hg,hop⟩:=Ar.opAt D.res h hn (rest:=[.int .i64 n]) (λg U hU=>read_step n U hU)
 rw[withDk_same hn] at hop
 have hk:=disk_yes h d.toNat g hg
 rw[(dk_at hn).2] at hk
 have K2:=Qg hk
 have K3:=Qg hop
 clear h hn hk hop
 go_enter func65,ntmps65
 go_wp2_with fail
 refine K.out.mono ?_
 rintro e w1 ⟨rfl,rfl⟩
 go_wp2_with fail
 refine K2.out.mono ?_
 rintro e w1 ⟨rfl,rfl⟩
 go_wp2_with fail
 refine K3.out.mono ?_
 rintro e w1 ⟨rfl,hs⟩
 have HS:=Qg hs
 clear hs
 go_wp2_with fail
 go_ret2
 exact⟨rfl,HS.out⟩
def aalive(a:Arr)(d:Int):Bool:=if noDisk a d then false else !(dk a d).gone
theorem aalive_at{ga:Nat}{sv:Value}{gs:List Nat}{a:Arr}{w:World}(d:Int)(S:Nat→Prop)(h:Pa ga sv gs a w S):
  Calls prog 64 #[.pointer (some ⟨ga,0,none⟩),.int .i64 d] w λe w'=>e=.returned (.bool (aalive a d))∧Step w w' S (Pa ga sv gs a w'):=by
 have H:=Qg h
 unfold aalive
 by_cases hn:noDisk a d
 ·rw[if_pos hn]
  have K2:=Qg (disk_no h d hn)
  clear h hn
  go_enter func64,ntmps64
  go_wp2_with fail
  refine K2.out.mono ?_
  rintro e w1 ⟨rfl,rfl⟩
  go_wp2_with fail
  go_ret
  exact⟨rfl,Step.same (Pa.res _ _ _ _) H.out (Fr.refl _ _)⟩
 rw[if_neg hn]
 obtain⟨g,hg,hop⟩:=Ar.opAt D.res h hn (rest:=[]) (λg U hU=>alive_step U hU)
 rw[withDk_same hn] at hop
 have hk:=disk_yes h d.toNat g hg
 rw[(dk_at hn).2] at hk
 have K2:=Qg hk
 have K3:=Qg hop
 clear h hn hk hop
 go_enter func64,ntmps64
 go_wp2_with fail
 refine K2.out.mono ?_
 rintro e w1 ⟨rfl,rfl⟩
 go_wp2_with fail
 refine K3.out.mono ?_
 rintro e w1 ⟨rfl,hs⟩
 have HS:=Qg hs
 clear hs
 go_wp2_with fail
 go_ret
 exact⟨rfl,HS.out⟩
theorem on_no{ga:Nat}{sv:Value}{gs:List Nat}{a:Arr}{w:World}(d:Int)(v:Value){S:Nat→Prop}(h:Pa ga sv gs a w S)(hn:noDisk a d):
  Calls prog 17 #[.pointer (some ⟨ga,0,none⟩),.int .i64 d,v] w λe w'=>e=.returned (.int .i64 1)∧w=w':=by
 have K2:=Qg (disk_no h d hn)
 clear h hn
 go_enter func17,ntmps17
 go_wp2_with fail
 refine K2.out.mono ?_
 rintro e w1 ⟨rfl,rfl⟩
 go_wp2_with fail
 go_ret
 exact⟨rfl,rfl⟩
theorem on_fail{ga:Nat}{sv:Value}{gs:List Nat}{a:Arr}{w:World}(d:Int){S:Nat→Prop}(h:Pa ga sv gs a w S)(hn:¬noDisk a d):
  Calls prog 17 #[.pointer (some ⟨ga,0,none⟩),.int .i64 d,.func (.func 221) #[] #[]] w λe w'=>e=.returned (.int .i64 (0))∧Step w w' S (Pa ga sv gs (withDk a d ({dk a d with gone:=true,wait:=[]})) w'):=by
 obtain⟨g,hg,hop⟩:=Ar.opAt D.res h hn (rest:=[]) (λg U hU=>fail_step U hU)
 have hk:=disk_yes h d.toNat g hg
 rw[(dk_at hn).2] at hk
 have K2:=Qg hk
 have K3:=Qg hop
 clear h hn hk hop
 go_enter func17,ntmps17
 go_wp2_with fail
 refine K2.out.mono ?_
 rintro e w1 ⟨rfl,rfl⟩
 go_wp2_with fail
 refine K3.out.mono ?_
 rintro e w1 ⟨rfl,hs⟩
 have HS:=Qg hs
 clear hs
 go_wp2_with fail
 go_ret
 exact⟨rfl,HS.out⟩
theorem on_replace{ga:Nat}{sv:Value}{gs:List Nat}{a:Arr}{w:World}(d:Int){S:Nat→Prop}(h:Pa ga sv gs a w S)(hn:¬noDisk a d):
  Calls prog 17 #[.pointer (some ⟨ga,0,none⟩),.int .i64 d,.func (.func 222) #[] #[]] w λe w'=>e=.returned (.int .i64 (0))∧Step w w' S (Pa ga sv gs (withDk a d ({dk a d with gone:=false,wait:=[],sec:=List.replicate (dk a d).sec.length ByteArray.empty})) w'):=by
 obtain⟨g,hg,hop⟩:=Ar.opAt D.res h hn (rest:=[]) (λg U hU=>replace_step U hU)
 have hk:=disk_yes h d.toNat g hg
 rw[(dk_at hn).2] at hk
 have K2:=Qg hk
 have K3:=Qg hop
 clear h hn hk hop
 go_enter func17,ntmps17
 go_wp2_with fail
 refine K2.out.mono ?_
 rintro e w1 ⟨rfl,rfl⟩
 go_wp2_with fail
 refine K3.out.mono ?_
 rintro e w1 ⟨rfl,hs⟩
 have HS:=Qg hs
 clear hs
 go_wp2_with fail
 go_ret
 exact⟨rfl,HS.out⟩
theorem aclo{g b1 b2:Nat}{m:Dsk}{w:World}(n:Int)(s:ByteArray)(h1:w.cell? ⟨b1,0,none⟩=some (.int .i64 n))(h2:w.cell? ⟨b2,0,none⟩=some (.string s))(hmany:m.wait.length≤1000000)(U:Nat→Prop)(hU:D g m w U):
  Calls prog 18 #[.pointer (some ⟨g,0,none⟩),.pointer (some ⟨b1,0,none⟩),.pointer (some ⟨b2,0,none⟩)] w λe w'=>e=.returned (.int .i64 (checkE m n s.size))∧Step w w' U (D g (corrupted m n s) w'):=by
 have K:=Qg (corrupt_at n s hmany U hU)
 clear hU
 go_enter func18,ntmps18
 go_wp2_with fail
 refine K.out.mono ?_
 rintro e w1 ⟨rfl,hs⟩
 have HS:=Qg hs
 clear hs
 go_wp2_with fail
 go_ret
 exact⟨rfl,HS.out⟩
theorem on_corrupt{ga:Nat}{sv:Value}{gs:List Nat}{a:Arr}{w:World}(d:Int)(n:Int)(s:ByteArray){b1 b2:Nat}(h1:w.cell? ⟨b1,0,none⟩=some (.int .i64 n))(h2:w.cell? ⟨b2,0,none⟩=some (.string s)){S:Nat→Prop}(h:Pa ga sv gs a w S)(hn:¬noDisk a d)(hmany:(dk a d).wait.length≤1000000):
  Calls prog 17 #[.pointer (some ⟨ga,0,none⟩),.int .i64 d,.func (.func 18) #[] #[.pointer (some ⟨b1,0,none⟩),.pointer (some ⟨b2,0,none⟩)]] w λe w'=>e=.returned (.int .i64 (checkE (dk a d) n s.size))∧Step w w' S (Pa ga sv gs (withDk a d (corrupted (dk a d) n s)) w'):=by
 obtain⟨g,hg,hop⟩:=Ar.opAt D.res h hn (rest:=[.pointer (some ⟨b1,0,none⟩),.pointer (some ⟨b2,0,none⟩)]) (λg U hU=>aclo n s h1 h2 hmany U hU)
 have hk:=disk_yes h d.toNat g hg
 rw[(dk_at hn).2] at hk
 have K2:=Qg hk
 have K3:=Qg hop
 clear h hn hk hop
 go_enter func17,ntmps17
 go_wp2_with fail
 refine K2.out.mono ?_
 rintro e w1 ⟨rfl,rfl⟩
 go_wp2_with fail
 refine K3.out.mono ?_
 rintro e w1 ⟨rfl,hs⟩
 have HS:=Qg hs
 clear hs
 go_wp2_with fail
 go_ret
 exact⟨rfl,HS.out⟩
def afaild(a:Arr)(d:Int):Arr:=if noDisk a d then a else withDk a d {dk a d with gone:=true,wait:=[]}
theorem afail_at{ga:Nat}{sv:Value}{gs:List Nat}{a:Arr}{w:World}(d:Int)(S:Nat→Prop)(h:Pa ga sv gs a w S):
  Calls prog 161 #[.pointer (some ⟨ga,0,none⟩),.int .i64 d] w λe w'=>e=.returned (.int .i64 (if noDisk a d then 1 else 0))∧Step w w' S (Pa ga sv gs (afaild a d) w'):=by
 unfold afaild
 by_cases hn:noDisk a d
 ·rw[if_pos hn,if_pos hn]
  have K2:=Qg (λv=>on_no d v h hn)
  have H:=Qg h
  clear hn h
  go_enter func161,ntmps161
  go_wp2_with fail
  refine(K2.out _).mono ?_
  rintro e w1 ⟨rfl,rfl⟩
  go_wp2_with fail
  go_ret
  exact⟨rfl,Step.same (Pa.res _ _ _ _) H.out (Fr.refl _ _)⟩
 rw[if_neg hn,if_neg hn]
 have K2:=Qg (on_fail d h hn)
 clear hn h
 go_enter func161,ntmps161
 go_wp2_with fail
 refine K2.out.mono ?_
 rintro e w1 ⟨rfl,hs⟩
 have HS:=Qg hs
 clear hs
 go_wp2_with fail
 go_ret
 exact⟨rfl,HS.out⟩
def areplaced(a:Arr)(d:Int):Arr:=if noDisk a d then a else withDk a d {dk a d with gone:=false,wait:=[],sec:=List.replicate (dk a d).sec.length ByteArray.empty}
theorem areplace_at{ga:Nat}{sv:Value}{gs:List Nat}{a:Arr}{w:World}(d:Int)(S:Nat→Prop)(h:Pa ga sv gs a w S):
  Calls prog 162 #[.pointer (some ⟨ga,0,none⟩),.int .i64 d] w λe w'=>e=.returned (.int .i64 (if noDisk a d then 1 else 0))∧Step w w' S (Pa ga sv gs (areplaced a d) w'):=by
 unfold areplaced
 by_cases hn:noDisk a d
 ·rw[if_pos hn,if_pos hn]
  have K2:=Qg (λv=>on_no d v h hn)
  have H:=Qg h
  clear hn h
  go_enter func162,ntmps162
  go_wp2_with fail
  refine(K2.out _).mono ?_
  rintro e w1 ⟨rfl,rfl⟩
  go_wp2_with fail
  go_ret
  exact⟨rfl,Step.same (Pa.res _ _ _ _) H.out (Fr.refl _ _)⟩
 rw[if_neg hn,if_neg hn]
 have K2:=Qg (on_replace d h hn)
 clear hn h
 go_enter func162,ntmps162
 go_wp2_with fail
 refine K2.out.mono ?_
 rintro e w1 ⟨rfl,hs⟩
 have HS:=Qg hs
 clear hs
 go_wp2_with fail
 go_ret
 exact⟨rfl,HS.out⟩
def acorruptE(a:Arr)(d n:Int)(l:Nat):Int:=if noDisk a d then 1 else checkE (dk a d) n l
def acorrupted(a:Arr)(d n:Int)(s:ByteArray):Arr:=if noDisk a d then a else withDk a d (corrupted (dk a d) n s)
theorem acorrupt_at{ga:Nat}{sv:Value}{gs:List Nat}{a:Arr}{w:World}(d n:Int)(s:ByteArray)(hmany:(dk a d).wait.length≤1000000)(S:Nat→Prop)(h:Pa ga sv gs a w S):
  Calls prog 10 #[.pointer (some ⟨ga,0,none⟩),.int .i64 d,.int .i64 n,.string s] w λe w'=>e=.returned (.int .i64 (acorruptE a d n s.size))∧Step w w' S (Pa ga sv gs (acorrupted a d n s) w'):=by
 have h0:Step w ((w.alloc (.cells #[.int .i64 n] 3)).alloc (.cells #[.string s] 9)) S (Pa ga sv gs a ((w.alloc (.cells #[.int .i64 n] 3)).alloc (.cells #[.string s] 9))):=Step.same (Pa.res _ _ _ _) h (((Fr.refl _ w).alloc _).alloc _)
 have b1:((w.alloc (.cells #[.int .i64 n] 3)).alloc (.cells #[.string s] 9)).cell? ⟨w.heap.size,0,none⟩=some (.int .i64 n):=((Boxed.new w 3 (.int .i64 n)).alloc _).cell
 have b2:((w.alloc (.cells #[.int .i64 n] 3)).alloc (.cells #[.string s] 9)).cell? ⟨w.heap.size+1,0,none⟩=some (.string s):=by
  have:=(Boxed.new (w.alloc (.cells #[.int .i64 n] 3)) 9 (.string s)).cell
  rwa[World.size_alloc] at this
 have hp:Pa ga sv gs a ((w.alloc (.cells #[.int .i64 n] 3)).alloc (.cells #[.string s] 9)) S:=(Pa.res _ _ _ _).frame h ((((Fr.refl fresh w).alloc _).alloc _)) (λ_ _ h=>h)
 unfold acorrupted acorruptE
 have K0:=Qg h0
 by_cases hn:noDisk a d
 ·rw[if_pos hn,if_pos hn]
  have K2:=Qg (λv=>on_no d v hp hn)
  clear hn h h0 hp b1 b2
  go_enter func10,ntmps10
  go_wp2_with fail
  refine(K2.out _).mono ?_
  rintro e w1 ⟨rfl,rfl⟩
  go_wp2_with fail
  go_ret
  exact⟨rfl,K0.out⟩
 rw[if_neg hn,if_neg hn]
 have K2:=Qg (on_corrupt d n s b1 b2 hp hn hmany)
 clear hn h h0 hp b1 b2
 go_enter func10,ntmps10
 go_wp2_with fail
 refine K2.out.mono ?_
 rintro e w1 ⟨rfl,hs⟩
 have HS:=Qg hs
 clear hs
 go_wp2_with fail
 go_ret
 obtain⟨S',hA,hf,hg⟩:=HS.out
 refine⟨rfl,S',hA,(((Fr.refl S w).alloc _).alloc _).trans hf,λk hk=>(hg k hk).imp id (λe=>?_)⟩
 simp at e
 omega
theorem awrite_nil(d n:Int)(s:ByteArray)(w:World):Calls prog 127 #[.pointer none,.int .i64 d,.int .i64 n,.string s] w λe w'=>e=.returned (.int .i64 1)∧w=w':=by
 have K:=Qg (power_nil w)
 go_enter func127,ntmps127
 go_wp2_with fail
 refine K.out.mono ?_
 rintro e w1 ⟨rfl,rfl⟩
 go_wp2_with fail
 go_ret
 exact⟨rfl,rfl⟩
def awriteE(a:Arr)(d n:Int)(l:Nat):Int:=if a.down=true then 9 else if noDisk a d then 1 else if checkE (dk a d) n l≠0 then checkE (dk a d) n l else if a.left=0 then 9 else 0
def awrote(a:Arr)(d n:Int)(s:ByteArray):Arr:=if a.down=true then a else if noDisk a d then a else if checkE (dk a d) n s.size≠0 then a else if a.left=0 then {a with down:=true}
 else {withDk a d (wrote (dk a d) n s) with left:=if 0<a.left then a.left-1 else a.left}
theorem Step.on{w w1 w2:World}{S S1:Nat→Prop}{B:(Nat→Prop)→Prop}(hf:Fr S w w1)(hg:∀k,S1 k→S k∨w.heap.size≤k)(hs:Step w1 w2 S1 B):Step w w2 S B:=by
 obtain⟨S2,hB,hf2,hg2⟩:=hs
 refine⟨S2,hB,hf.then hf2 (λi hi h=>(hg i h).elim id (λe=>by omega)),λi hi=>?_⟩
 rcases hg2 i hi with e|e
 ·exact hg i e
 ·have:=hf.size;exact .inr (by omega)
theorem Step.dropR{w w':World}{S:Nat→Prop}{A B:Thing}(h:Step w w' S (Both A B w')):Step w w' S (A w'):=by
 obtain⟨U,⟨S1,S2,hA,hB,hd,rfl⟩,hf,hg⟩:=h
 exact⟨S1,hA,hf,λk hk=>hg k (.inl hk)⟩
theorem copied_write{ga:Nat}{sv:Value}{gs:List Nat}{a:Arr}{w w1:World}{g':Nat}{m:Dsk}(n:Int)(s:ByteArray)(hmany:m.wait.length≤1000000){S:Nat→Prop}(h:Pa ga sv gs a w S)(hm:Made w w1 (D g' m w1)):
  Calls prog 200 #[.pointer (some ⟨g',0,none⟩),.int .i64 n,.string s] w1 λe w'=>e=.returned (.int .i64 (checkE m n s.size))∧Step w w' S (Pa ga sv gs a w'):=by
 obtain⟨S1,hB,hf,hg⟩:=Made.with (Pa.res ga sv gs a) h hm
 exact(op_right (Pa.res ga sv gs a) (write_step n s hmany) S1 hB).mono λe w' ⟨he,hs⟩=>⟨he,Step.dropR (Step.on hf hg hs)⟩
theorem awrite_at{ga:Nat}{sv:Value}{gs:List Nat}{a:Arr}{w:World}(d n:Int)(s:ByteArray)(hmany:(dk a d).wait.length≤1000000)(hleft:a.left≤9223372036854775807)(S:Nat→Prop)(h:Pa ga sv gs a w S):
  Calls prog 127 #[.pointer (some ⟨ga,0,none⟩),.int .i64 d,.int .i64 n,.string s] w λe w'=>e=.returned (.int .i64 (awriteE a d n s.size))∧Step w w' S (Pa ga sv gs (awrote a d n s) w'):=by
 have hp:=power_at h
 have H:=Qg h
 unfold awriteE awrote
 unfold powerE at hp
 by_cases hd:a.down=true
 ·rw[if_pos hd] at hp
  rw[if_pos hd,if_pos hd]
  have K:=Qg hp
  clear hp h
  go_enter func127,ntmps127
  go_wp2_with fail
  refine K.out.mono ?_
  rintro e w1 ⟨rfl,rfl⟩
  go_wp2_with fail
  go_ret
  exact⟨rfl,Step.same (Pa.res _ _ _ _) H.out (Fr.refl _ _)⟩
 rw[if_neg hd] at hp
 rw[if_neg hd,if_neg hd]
 have K:=Qg hp
 clear hp
 by_cases hn:noDisk a d
 ·rw[if_pos hn,if_pos hn]
  have K2:=Qg (disk_no h d hn)
  clear h hn
  go_enter func127,ntmps127
  go_wp2_with fail
  refine K.out.mono ?_
  rintro e w1 ⟨rfl,rfl⟩
  go_wp2_with fail
  refine K2.out.mono ?_
  rintro e w1 ⟨rfl,rfl⟩
  go_wp2_with fail
  go_ret
  exact⟨rfl,Step.same (Pa.res _ _ _ _) H.out (Fr.refl _ _)⟩
 rw[if_neg hn,if_neg hn]
 obtain⟨h1,h2⟩:=dk_at hn
 obtain⟨g,hg,hop⟩:=Ar.opAt D.res h hn (rest:=[.int .i64 n,.string s]) (λg U hU=>write_step n s hmany U hU)
 have hk:=disk_yes h d.toNat g hg
 rw[h2] at hk
 obtain⟨U,hU, -⟩:=Ar.get h1 hg h
 have K2:=Qg hk
 have K3:=Qg hop
 have K4:=Qg (copy_at hmany hU)
 have K5:=Qg (λw1 g' (hm:Made w w1 (D g' (dk a d) w1))=>copied_write n s hmany h hm)
 obtain⟨A,c, -, -, -, -,c1, -,cf, -⟩:=h.reads
 have f1:=cf 1
 have f2:=cf 2
 clear h hk hop cf hU h1 h2 hg hmany
 obtain⟨z,hz⟩:∃z,checkE (dk a d) n s.size=z:=⟨_,rfl⟩
 rw[hz] at K3 K5⊢
 by_cases hl:a.left=0
 ·rw[hl] at c1
  by_cases hz0:z=0
  ·have hw:(wrote (dk a d) n s).wait.length=(wrote (dk a d) n s).wait.length:=rfl
   subst hz0
   rw[if_neg (by simp),if_pos hl,if_neg (by simp),if_pos hl]
   go_enter func127,ntmps127
   go_wp2_with fail
   refine K.out.mono ?_
   rintro e w1 ⟨rfl,rfl⟩
   go_wp2_with fail
   refine K2.out.mono ?_
   rintro e w1 ⟨rfl,rfl⟩
   go_wp2_with fail
   refine K4.out.mono ?_
   rintro e w1 ⟨g',rfl,hm⟩
   have K6:=Qg (K5.out _ _ hm)
   clear hm
   go_wp2_with fail
   refine K6.out.mono ?_
   rintro e w2 ⟨rfl,S2,hA,hf,hg'⟩
   obtain⟨A2,c2, -, -, -, -, -,x2,xf, -⟩:=hA.reads
   have xf2:=xf 2
   have HS:=Qg (Step.on hf hg' (Ar.setDown D.res hA true))
   clear xf hA hf hg'
   go_wp2_with fail
   go_ret
   exact⟨rfl,HS.out⟩
  ·rw[if_pos hz0,if_pos hz0]
   go_enter func127,ntmps127
   go_wp2_with fail
   refine K.out.mono ?_
   rintro e w1 ⟨rfl,rfl⟩
   go_wp2_with fail
   refine K2.out.mono ?_
   rintro e w1 ⟨rfl,rfl⟩
   go_wp2_with fail
   refine K4.out.mono ?_
   rintro e w1 ⟨g',rfl,hm⟩
   have K6:=Qg (K5.out _ _ hm)
   clear hm
   go_wp2_with fail
   refine K6.out.mono ?_
   rintro e w2 ⟨rfl,hs⟩
   have HS:=Qg hs
   clear hs
   go_wp2_with fail
   go_ret
   exact⟨rfl,HS.out⟩
 ·have hl':(a.left==0)=false:=by simp[hl]
  by_cases hz0:z=0
  ·subst hz0
   rw[if_neg (by simp),if_neg hl,if_neg (by simp),if_neg hl]
   by_cases hpos:0<a.left
   ·rw[if_pos hpos]
    go_enter func127,ntmps127
    go_wp2_with fail
    refine K.out.mono ?_
    rintro e w1 ⟨rfl,rfl⟩
    go_wp2_with fail
    refine K2.out.mono ?_
    rintro e w1 ⟨rfl,rfl⟩
    go_wp2_with fail
    refine K3.out.mono ?_
    rintro e w2 ⟨rfl,S2,hA,hf,hg'⟩
    obtain⟨A2,c2, -, -, -, -,x1, -,xf, -⟩:=hA.reads
    have x1':w2.cell? ⟨ga,1,none⟩=some (.int .i64 a.left):=x1
    have xf1:=xf 1
    have HS:=Qg (Step.on hf hg' (Ar.setLeft D.res hA (a.left-1)))
    clear xf hA hf hg' x1
    go_wp2_with fail
    go_ret
    exact⟨rfl,HS.out⟩
   ·rw[if_neg hpos]
    go_enter func127,ntmps127
    go_wp2_with fail
    refine K.out.mono ?_
    rintro e w1 ⟨rfl,rfl⟩
    go_wp2_with fail
    refine K2.out.mono ?_
    rintro e w1 ⟨rfl,rfl⟩
    go_wp2_with fail
    refine K3.out.mono ?_
    rintro e w2 ⟨rfl,S2,hA,hf,hg'⟩
    obtain⟨A2,c2, -, -, -, -,x1, -,xf, -⟩:=hA.reads
    have x1':w2.cell? ⟨ga,1,none⟩=some (.int .i64 a.left):=x1
    have HS:=Qg (show Step w w2 S (Pa ga sv gs (withDk a d (wrote (dk a d) n s)) w2) from⟨S2,hA,hf,hg'⟩)
    clear xf hA hf hg' x1
    go_wp2_with fail
    go_ret
    exact⟨rfl,HS.out⟩
  ·rw[if_pos hz0,if_pos hz0]
   have hw:wrote (dk a d) n s=dk a d:=by
    unfold wrote
    rw[hz,if_neg hz0]
   go_enter func127,ntmps127
   go_wp2_with fail
   refine K.out.mono ?_
   rintro e w1 ⟨rfl,rfl⟩
   go_wp2_with fail
   refine K2.out.mono ?_
   rintro e w1 ⟨rfl,rfl⟩
   go_wp2_with fail
   refine K3.out.mono ?_
   rintro e w2 ⟨rfl,hs⟩
   rw[hw,withDk_same hn] at hs
   have HS:=Qg hs
   clear hs
   go_wp2_with fail
   go_ret
   exact⟨rfl,HS.out⟩
def mix(old new:List Dsk)(k:Nat):List Dsk:=new.take k++old.drop k
theorem mix_zero(old new:List Dsk):mix old new 0=old:=by simp[mix]
theorem mix_all(old new:List Dsk)(h:new.length=old.length):mix old new old.length=new:=by
 unfold mix
 rw[QU (by omega),ZG (Qd _),QT]
theorem mix_len(old new:List Dsk)(h:new.length=old.length)(k:Nat):(mix old new k).length=old.length:=by
 unfold mix
 simp
 omega
theorem mix_get(old new:List Dsk)(h:new.length=old.length)(k:Nat)(hk:k<old.length):(mix old new k)[k]? =old[k]? :=by
 unfold mix
 rw[Zu (by simp;omega)]
 simp
 congr 1
 omega
theorem mix_set(old new:List Dsk)(h:new.length=old.length)(k:Nat)(m':Dsk)(hk:new[k]? =some m'):(mix old new k).set k m'=mix old new (k+1):=by
 have hl:=(Qe.1 hk).1
 apply QQ
 intro j
 by_cases e:k=j
 ·subst e
  rw[Zn (by rw[mix_len _ _ h];omega)]
  unfold mix
  rw[QG (by simp;omega),QZ,if_pos (by omega),hk]
 ·rw[Zf e]
  unfold mix
  by_cases hj:j<k
  ·rw[QG (by simp;omega),QG (by simp;omega),QZ,QZ,if_pos hj,if_pos (by omega)]
  ·rw[Zu (by simp;omega),Zu (by simp;omega)]
   simp
   congr 1
   omega
theorem Ar.elem{X:Nat→Dsk→Thing}{T P:TypeId}{ga:Nat}{A:Option Addr}{l c:Nat}{gs:List Nat}{a:Arr}{w:World}{S:Nat→Prop}(h:Ar X T P ga (.slice A l c) gs a w S){j g:Nat}(hg:gs[j]? =some g):∃ad,A=some ad∧w.cell? (ad.add j)=some (.pointer (some ⟨g,0,none⟩)):=by
 obtain⟨A',c',e, -, -, -, -, -, -,cs⟩:=h.reads
 obtain⟨ad,e2,hc⟩:=cs j g hg
 simp at e
 exact⟨ad,by rw[e.1,e2],hc⟩
def aflushed(a:Arr):Arr:=if a.down=true then a else {a with ds:=a.ds.map flushed}
theorem aflush_at{ga:Nat}{sv:Value}{gs:List Nat}{a:Arr}{w:World}(hmany:∀m∈a.ds,m.wait.length≤1000000)(S:Nat→Prop)(h:Pa ga sv gs a w S):
  Calls prog 41 #[.pointer (some ⟨ga,0,none⟩)] w λe w'=>e=.returned (.int .i64 (powerE a))∧Step w w' S (Pa ga sv gs (aflushed a) w'):=by
 have hp:=power_at h
 unfold aflushed powerE
 unfold powerE at hp
 have H:=Qg h
 by_cases hd:a.down=true
 ·rw[if_pos hd] at hp
  rw[if_pos hd,if_pos hd]
  have K:=Qg hp
  clear hp h
  go_enter func41,ntmps41
  go_wp2_with fail
  refine K.out.mono ?_
  rintro e w1 ⟨rfl,rfl⟩
  go_wp2_with fail
  go_ret
  exact⟨rfl,Step.same (Pa.res _ _ _ _) H.out (Fr.refl _ _)⟩
 rw[if_neg hd] at hp
 rw[if_neg hd,if_neg hd]
 have K:=Qg hp
 clear hp
 obtain⟨A,c,rfl,hlm,hl,c0, -, -, -, -⟩:=h.reads
 clear h
 go_enter func41,ntmps41
 go_wp2_with fail
 refine K.out.mono ?_
 rintro e w1 ⟨rfl,rfl⟩
 go_wp2_with fail
 go_loopg [16] a.ds.length (λq v16 wx=>∃k:Nat,k+q=a.ds.length∧v16=.int .i64 (k:Int)∧Aside (Step w wx S (Pa ga (.slice A a.ds.length c) gs {a with ds:=mix a.ds (a.ds.map flushed) k} wx)))
 case atStart=>exact⟨0,by omega,rfl,by rw[mix_zero];exact Step.same (Pa.res _ _ _ _) H.out (Fr.refl _ _)⟩
 case round=>
  obtain⟨k,hkq,rfl,HI⟩:=hrel
  cases gk with
  |zero=>
   obtain rfl:k=a.ds.length:=by omega
   rw[mix_all _ _ (by simp)] at HI
   go_wp2_with fail
   go_ret
   exact⟨rfl,HI.out⟩
  |succ q=>
   have hm:k<a.ds.length:=by omega
   have hmi:(k:Int)<(a.ds.length:Int):=by omega
   obtain⟨S1,hA,hf,hg1⟩:=HI.out
   obtain⟨g,hg⟩:∃g,gs[k]? =some g:=⟨_,Qc (by omega)⟩
   obtain⟨m,hmk⟩:∃m,a.ds[k]? =some m:=⟨_,Qc hm⟩
   obtain⟨ad,rfl,hc⟩:=hA.elem hg
   have hop:=Ar.op D.res (a:={a with ds:=mix a.ds (a.ds.map flushed) k}) (i:=k) (m:=m) (m':=flushed m) (by rw[mix_get _ _ (by simp) k hm];exact hmk) hg (flush_at (hmany m (Qj hmk))) S1 hA
   simp only[mix_set a.ds (a.ds.map flushed) (by simp) k (flushed m) (by simp[hmk])] at hop
   have K3:=Qg hop
   have HF:=Qg (And.intro hf hg1)
   clear hop hA hf hg1 HI
   go_wp2_with fail
   refine K3.out.mono ?_
   rintro e w2 ⟨rfl,hs⟩
   have HS:=Qg (Step.on HF.out.1 HF.out.2 hs)
   clear hs
   go_wp2_with fail
   go_roundg q
   case measure=>omega
   case rel=>exact⟨k+1,by omega,by go_num,HS.out⟩
def offs(ds:List Dsk)(k:Nat):Nat:=((ds.take k).map λm=>m.wait.length).sum
theorem offs_zero(ds:List Dsk):offs ds 0=0:=by simp[offs]
theorem offs_succ(ds:List Dsk)(k:Nat)(m:Dsk)(h:ds[k]? =some m):offs ds (k+1)=offs ds k+m.wait.length:=by
 unfold offs
 rw[ZE,h]
 simp
def crashAll(ds:List Dsk)(bs:List Bool):List Dsk:=ds.mapIdx λk m=>crashed m ((bs.drop (offs ds k)).take m.wait.length)
theorem crashAll_len(ds:List Dsk)(bs:List Bool):(crashAll ds bs).length=ds.length:=by simp[crashAll]
theorem crashAll_get(ds:List Dsk)(bs:List Bool)(k:Nat)(m:Dsk)(h:ds[k]? =some m):(crashAll ds bs)[k]? =some (crashed m ((bs.drop (offs ds k)).take m.wait.length)):=by
 unfold crashAll
 rw[List.getElem?_mapIdx,h]
 rfl
def acrashed(a:Arr)(bs:List Bool):Arr:={ds:=crashAll a.ds bs,left:= -1,down:=false}
theorem All.opIn{w:World}{f:FuncId}{args:Array Value}{X:Ending}{A A':Thing}{V:Nat→Prop}(hop:∀S,(∀k,S k→V k)→A w S→Calls prog f args w λe w'=>e=X∧Step w w' S (A' w')):
  ∀(l:List Thing) (i:Nat),(∀B∈l,Res B)→l[i]? =some A→∀S,(∀k,S k→V k)→All l w S→Calls prog f args w λe w'=>e=X∧Step w w' S (All (l.set i A') w')
 |[],_,_,h=>by simp at h
 |B::r,0,hr,h=>by
  simp at h
  subst h
  rintro U hV ⟨S,T,hA,hB,hd,rfl⟩
  exact(hop S (λk hk=>hV k (.inl hk)) hA).mono λe w' ⟨he,hs⟩=>⟨he,Step.left (All.res r λC hC=>hr C (by simp[hC])) hs hB hd⟩
 |B::r,i+1,hr,h=>by
  rintro U hV ⟨S,T,hA,hB,hd,rfl⟩
  exact(All.opIn hop r i (λC hC=>hr C (by simp[hC])) (by simpa using h) T (λk hk=>hV k (.inr hk)) hB).mono λe w' ⟨he,hs⟩=>⟨he,Step.right (hr B (by simp)) hA hs hd⟩
theorem Ar.opIn{X:Nat→Dsk→Thing}(hX:∀g m,Res (X g m)){T P:TypeId}{ga:Nat}{sv:Value}{gs:List Nat}{a:Arr}{w:World}{f:FuncId}{args:Array Value}{E:Ending}{i g:Nat}{m m':Dsk}(hi:a.ds[i]? =some m)(hg:gs[i]? =some g)(S:Nat→Prop)
  (hop:∀U,(∀k,U k→S k)→X g m w U→Calls prog f args w λe w'=>e=E∧Step w w' U (X g m' w')) (h:Ar X T P ga sv gs a w S):
  Calls prog f args w λe w'=>e=E∧Step w w' S (Ar X T P ga sv gs {a with ds:=a.ds.set i m'} w'):=by
 obtain⟨hl,S1,S2,h1,h2,hd,rfl⟩:=h
 have hz:(List.zipWith X gs a.ds)[i]? =some (X g m):=by simp[Za,hi,hg]
 refine(All.opIn hop _ i (Ar.disks hX gs a.ds) hz S2 (λk hk=>.inr hk) h2).mono ?_
 rintro e w' ⟨he,hs⟩
 obtain⟨S',hB,hf,hg'⟩:=Step.right (Head.res T P ga sv gs a.left a.down) h1 hs hd
 refine⟨he,S',⟨by simpa using hl,?_⟩,hf,hg'⟩
 have hset:(List.zipWith X gs a.ds).set i (X g m')=List.zipWith X gs (a.ds.set i m'):=by
  apply QQ
  intro j
  by_cases e:i=j
  ·subst e
   have h1:=(Qe.1 hi).1
   have h2:=(Qe.1 hg).1
   rw[Zn (by simp;omega),Za,hg,Zn h1]
  ·rw[Zf e,Za,Za,Zf e]
 rw[hset] at hB
 exact hB
theorem ReadsBools.later{w wx:World}{S S1 U:Nat→Prop}{B:Option Addr}{bs:List Bool}(h:ReadsBools w S B bs)(hf:Fr S w wx)(hg:∀k,S1 k→S k∨w.heap.size≤k)(hU:∀k,U k→S1 k)(n:Nat):ReadsBools wx U B (bs.take n):=by
 intro j b hj
 have hj':bs[j]? =some b:=by
  rw[QZ] at hj
  split at hj
  ·exact hj
  ·simp at hj
 obtain⟨ad,hB,hc,hS⟩:=h j b hj'
 have hlt:ad.block<w.heap.size:=by
  have:=World.block_lt_of_cell? w _ hc
  rwa[addr_block] at this
 refine⟨ad,hB,hf.cell hc (by rw[addr_block];exact hS),λhk=>?_⟩
 rcases hg _ (hU _ hk) with e|e
 ·exact hS e
 ·omega
theorem ReadsBools.shift{w:World}{S:Nat→Prop}{B:Option Addr}{bs:List Bool}(h:ReadsBools w S B bs)(n:Nat):ReadsBools w S (B.map (λx=>x.add n)) (bs.drop n):=by
 intro j b hj
 rw[List.getElem?_drop] at hj
 obtain⟨ad,rfl,hc,hS⟩:=h _ b hj
 exact⟨ad.add n,rfl,by rw[Deep.add_add];exact hc,by rw[addr_block];exact hS⟩
theorem ReadsBools.shift_none{w:World}{S:Nat→Prop}{B B':Option Addr}{bs:List Bool}{n:Nat}(_:ReadsBools w S B bs)(hn:bs.length≤n):ReadsBools w S B' (bs.drop n):=by
 intro j b hj
 rw[ZG hn] at hj
 simp at hj
theorem acrash_at{ga:Nat}{sv:Value}{gs:List Nat}{a:Arr}{w:World}(K:Option Addr)(kc:Nat)(bs:List Bool)(hcap:bs.length≤kc)(hmax:kc≤9223372036854775807)(hnil:K=none→kc=0)(S:Nat→Prop)(hr:ReadsBools w S K bs)(h:Pa ga sv gs a w S):
  Calls prog 164 #[.pointer (some ⟨ga,0,none⟩),.slice K bs.length kc] w λe w'=>e=.returned (.int .i64 0)∧Step w w' S (Pa ga sv gs (acrashed a bs) w'):=by
 have H:=Qg h
 have HR:=Qg hr
 obtain⟨A,c,rfl,hlm,hl,c0, -, -, -, -⟩:=h.reads
 clear h hr
 go_enter func164,ntmps164
 go_wp2_with fail
 go_loopg [1,15] a.ds.length (λq v1 v15 wx=>∃(k:Nat) (B:Option Addr) (d:Nat) (rest:List Bool),k+q=a.ds.length∧v15=.int .i64 (k:Int)∧v1=.slice B rest.length d∧rest.length≤d∧d≤9223372036854775807∧(B=none→d=0)∧Aside (Step w wx S (Pa ga (.slice A a.ds.length c) gs {a with ds:=mix a.ds (crashAll a.ds bs) k} wx)∧bs.drop (offs a.ds k)=rest∧ReadsBools w S B rest))
 case atStart=>exact⟨0,K,kc,bs,by omega,rfl,rfl,hcap,hmax,hnil,by rw[mix_zero];exact⟨Step.same (Pa.res _ _ _ _) H.out (Fr.refl _ _),by rw[offs_zero];rfl,HR.out⟩⟩
 case round=>
  obtain⟨k,B,d,rest,hkq,rfl,rfl,hr1,hr2,hr3,HI⟩:=hrel
  cases gk with
  |zero=>
   obtain rfl:k=a.ds.length:=by omega
   rw[mix_all _ _ (crashAll_len _ _)] at HI
   obtain⟨S1,hA,hf,hg1⟩:=HI.out.1
   obtain⟨A2,c2, -, -, -, -,x1,x2,xf, -⟩:=hA.reads
   have x1':wr.cell? ⟨ga,1,none⟩=some (.int .i64 a.left):=x1
   have x2':wr.cell? ⟨ga,2,none⟩=some (.bool a.down):=x2
   have xf1:=xf 1
   have xf2:=xf 2
   clear xf x1 x2
   have HA:=Qg hA
   have HF:=Qg (And.intro hf hg1)
   clear hA hf hg1
   have HZ:=Qg (Step.on HF.out.1 HF.out.2 (Step.then (A:=λw=>Pa ga (.slice A a.ds.length c) gs {a with ds:=crashAll a.ds bs,down:=false} w) (B:=λw=>Pa ga (.slice A a.ds.length c) gs (acrashed a bs) w) (Ar.setDown D.res HA.out false) λS' hS'=>Ar.setLeft D.res hS' (-1)))
   go_wp2_with fail
   go_ret
   exact⟨rfl,HZ.out⟩
  |succ q=>
   have hm:k<a.ds.length:=by omega
   have hmi:(k:Int)<(a.ds.length:Int):=by omega
   obtain⟨S1,hA,hf,hg1⟩:=HI.out.1
   obtain⟨g,hg⟩:∃g,gs[k]? =some g:=⟨_,Qc (by omega)⟩
   obtain⟨m,hmk⟩:∃m,a.ds[k]? =some m:=⟨_,Qc hm⟩
   obtain⟨ad,rfl,hc⟩:=hA.elem hg
   have hmix:(mix a.ds (crashAll a.ds bs) k)[k]? =some m:=by rw[mix_get _ _ (crashAll_len _ _) k hm];exact hmk
   obtain⟨U,hU,hUS⟩:=Ar.get (a:={a with ds:=mix a.ds (crashAll a.ds bs) k}) hmix hg hA
   have KP:=Qg (pending_at hU)
   have hop:=Ar.opIn D.res (a:={a with ds:=mix a.ds (crashAll a.ds bs) k}) (m':=crashed m (rest.take m.wait.length)) hmix hg S1 (λU' hV hD=>crash_step B d (rest.take m.wait.length) U' (HI.out.2.2.later hf hg1 hV _) hD) hA
   have hnew:=crashAll_get a.ds bs k m hmk
   rw[HI.out.2.1] at hnew
   simp only[mix_set a.ds (crashAll a.ds bs) (crashAll_len _ _) k _ hnew,QC] at hop
   have K3:=Qg hop
   have HF:=Qg (And.intro hf hg1)
   have HR2:=Qg HI.out.2
   have hoff:=offs_succ a.ds k m hmk
   clear hU hUS hop hnew hmix hA hf hg1 HI
   by_cases hw:(m.wait.length:Int)≤(rest.length:Int)
   ·have hmin:min m.wait.length rest.length=m.wait.length:=by omega
    rw[hmin] at K3
    go_wp2_with fail
    refine KP.out.mono ?_
    rintro e w2 ⟨rfl,rfl⟩
    go_wp2_with fail
    refine K3.out.mono ?_
    rintro e w2 ⟨rfl,hs⟩
    have HS:=Qg (Step.on HF.out.1 HF.out.2 hs)
    clear hs
    go_wp2_with fail
    ·rename_i hdn
     go_roundg q
     case measure=>omega
     case rel=>exact⟨k+1,B,0,rest.drop m.wait.length,by omega,by go_num,by simp only[QV]<;>(congr 1;omega),by rw[QV];omega,by omega,λ_=>rfl,HS.out,by rw[hoff,←Yp,HR2.out.1],HR2.out.2.shift_none (by omega)⟩
    ·rename_i hdn
     go_roundg q
     case measure=>omega
     case rel=>exact⟨k+1,B.map (λx=>x.add m.wait.length),d-m.wait.length,rest.drop m.wait.length,by omega,by go_num,by simp only[QV]<;>(congr 1;omega),by rw[QV];omega,by omega,λh=>by cases B with|none=>(have:=hr3 rfl;omega)|some _=>simp at h,HS.out,by rw[hoff,←Yp,HR2.out.1],HR2.out.2.shift m.wait.length⟩
   ·have hmin:min m.wait.length rest.length=rest.length:=by omega
    rw[hmin] at K3
    go_wp2_with fail
    refine KP.out.mono ?_
    rintro e w2 ⟨rfl,rfl⟩
    go_wp2_with fail
    refine K3.out.mono ?_
    rintro e w2 ⟨rfl,hs⟩
    have HS:=Qg (Step.on HF.out.1 HF.out.2 hs)
    clear hs
    go_wp2_with fail
    ·rename_i hdn
     go_roundg q
     case measure=>omega
     case rel=>exact⟨k+1,B,0,rest.drop m.wait.length,by omega,by go_num,by simp only[QV]<;>(congr 1;omega),by rw[QV];omega,by omega,λ_=>rfl,HS.out,by rw[hoff,←Yp,HR2.out.1],HR2.out.2.shift_none (by omega)⟩
    ·rename_i hdn
     go_roundg q
     case measure=>omega
     case rel=>exact⟨k+1,B.map (λx=>x.add rest.length),d-rest.length,rest.drop m.wait.length,by omega,by go_num,by simp only[QV]<;>(congr 1;omega),by rw[QV];omega,by omega,λh=>by cases B with|none=>(have:=hr3 rfl;omega)|some _=>simp at h,HS.out,by rw[hoff,←Yp,HR2.out.1],HR2.out.2.shift_none (by omega)⟩
theorem Ar.append{X:Nat→Dsk→Thing}(hX:∀g m,Res (X g m)){T P:TypeId}{ga g':Nat}{sv v':Value}{gs:List Nat}{a:Arr}{m:Dsk}{w w1:World}{S:Nat→Prop}(h:Both (Ar X T P ga sv gs a) (X g' m) w S)(o:Obj)
  (hgrow:(w.alloc o).grownBy w1 sv.ownBlock) (hown:w1.ownsRow 0 P 1 v' (gs.length+1) (gs.map ptr++[ptr g'])) (hat:v'.ownBlock=sv.ownBlock∨v'.ownBlock=some (w.alloc o).heap.size):
  Step w (w1.setCell ⟨ga,0,none⟩ v') S (Ar X T P ga v' (gs++[g']) {a with ds:=a.ds++[m]} (w1.setCell ⟨ga,0,none⟩ v')):=by
 obtain⟨U,S3,⟨hl,S1,S2,⟨hb,hr,hn,rfl⟩,h2,hd,rfl⟩,h3,hd2,rfl⟩:=h
 have hga:=(Qa.1 hb).1
 have hsz:(w.alloc o).heap.size=w.heap.size+1:=by simp
 have hfr:Fr (λk=>k=ga∨sv.ownBlock=some k) w w1:=((Fr.refl _ w).alloc o).grown hgrow (λk hk=>.inl (.inr hk))
 have hfr2:=hfr.setCell (p:=⟨ga,0,none⟩) (.inl (.inl rfl)) v'
 have hvn:v'.ownBlock≠some ga:=by
  rcases hat with e|e
  ·rw[e];exact hn
  ·rw[e,hsz]
   intro e'
   simp at e'
   omega
 have bg:w1.heap[ga]? =w.heap[ga]? :=(hgrow.block ga (by rw[hsz];omega) (λe=>hn e.symm)).trans (Below.heap_alloc w o ga hga)
 have hHead:Head T P ga v' (gs++[g']) a.left a.down (w1.setCell ⟨ga,0,none⟩ v') (λk=>k=ga∨v'.ownBlock=some k):=by
  refine⟨?_,?_,hvn,rfl⟩
  ·have:=heap_setCell_same w1 ga 0 _ _ v' (bg.trans hb)
   simpa using this
  ·refine owns_move (w:=w1) (by simpa [ptr] using hown) (λk e=>heap_setCell_other w1 _ k _ (λe'=>?_))
   simp at e'
   subst e'
   exact hvn e
 have hAll:=(All.res _ (Ar.disks hX gs a.ds)).frame h2 hfr2 (λk hk hk'=>hd k hk' hk)
 have hNew:=(hX g' m).frame h3 hfr2 (λk hk hk'=>hd2 k (.inl hk') hk)
 have hlt:∀k,(S2 k∨S3 k)→k<w.heap.size:=λk hk=>hk.elim ((All.res _ (Ar.disks hX gs a.ds)).lt h2 k) ((hX g' m).lt h3 k)
 have hv:∀k,v'.ownBlock=some k→sv.ownBlock=some k∨w.heap.size≤k:=by
  intro k hk
  rcases hat with e|e
  ·exact .inl (e▸hk)
  ·rw[e,hsz] at hk
   simp at hk
   exact .inr (by omega)
 have hsn:=All.snoc _ _ _ _ ⟨S2,S3,hAll,hNew,λk h1 h2=>hd2 k (.inr h1) h2,rfl⟩
 have hz:List.zipWith X (gs++[g']) (a.ds++[m])=List.zipWith X gs a.ds++[X g' m]:=by rw[List.zipWith_append hl];rfl
 refine⟨_,⟨by simp[hl],⟨_,_,hHead,by rw[hz];exact hsn,?_,rfl⟩⟩,hfr2.mono (λk _ hk=>.inl (.inl hk)),?_⟩
 ·rintro k (rfl|hk) h'
  ·exact h'.elim (hd _ (.inl rfl)) (hd2 _ (.inl (.inl rfl)))
  ·rcases hv k hk with e|e
   ·exact h'.elim (hd _ (.inr e)) (hd2 _ (.inl (.inr e)))
   ·have:=hlt k h';omega
 ·rintro k ((rfl|hk)|(hk|hk))
  ·exact .inl (.inl (.inl (.inl rfl)))
  ·rcases hv k hk with e|e
   ·exact .inl (.inl (.inl (.inr e)))
   ·exact .inr e
  ·exact .inl (.inl (.inr hk))
  ·exact .inl (.inr hk)
theorem Made.step{w wx w2:World}{A B:World→(Nat→Prop)→Prop}(h:Made w wx (A wx))(k:∀S,A wx S→Step wx w2 S (B w2)):Made w w2 (B w2):=by
 obtain⟨T,hA,hf,hn⟩:=h
 obtain⟨S',hB,hf2,hg⟩:=k T hA
 refine⟨S',hB,hf.then hf2 (λi hi ht=>by have:=hn i ht;omega),λi hi=>?_⟩
 rcases hg i hi with e|e
 ·exact hn i e
 ·exact Qb hf.size e
theorem ptrInfo:(prog.info? 44).map (λi=>(i.zero,i.size,i.bytes))=some (some (.pointer none),1,8):=by kernel_rfl
theorem Head.first(T P:TypeId)(w:World)(left:Int)(down:Bool):Head T P w.heap.size (.slice none 0 0) [] left down (w.alloc (.cells #[.slice none 0 0,.int .i64 left,.bool down] T)) (λk=>k=w.heap.size∨(Value.slice none 0 0).ownBlock=some k):=
 ⟨heap_alloc_new w _,World.ownsRow_nil _ _ _ _,by simp[Value.ownBlock],rfl⟩
theorem Ar.first{X:Nat→Dsk→Thing}(T P:TypeId)(w:World)(left:Int)(down:Bool):Made w (w.alloc (.cells #[.slice none 0 0,.int .i64 left,.bool down] T)) (Ar X T P w.heap.size (.slice none 0 0) [] ⟨[],left,down⟩ (w.alloc (.cells #[.slice none 0 0,.int .i64 left,.bool down] T))):=by
 refine⟨_,⟨rfl,_,_,Head.first T P w left down,rfl,λ_ _ h=>h,rfl⟩,(Fr.refl _ w).alloc _,?_⟩
 rintro k ((rfl|hk)|hk)
 ·exact Qd _
 ·simp[Value.ownBlock] at hk
 ·exact hk.elim
def blanks(d n z:Nat):Arr:={ds:=List.replicate d (blank n z),left:= -1,down:=false}
theorem anew_yes(d n z:Nat)(h0:1≤d)(h0':d≤255)(h1:1≤n)(h2:n≤4096)(h3:1≤z)(h4:z≤4096)(w:World):
  Calls prog 7 #[.int .i64 (d:Int),.int .i64 (n:Int),.int .i64 (z:Int)] w λe w'=>∃ga sv gs,e=.returned (.tuple #[.pointer (some ⟨ga,0,none⟩),.int .i64 0])∧Made w w' (Pa ga sv gs (blanks d n z) w'):=by
 have KN:=Qg (λw=>new_made n z h1 h2 h3 h4 w)
 have g1:¬(d:Int)<1:=by omega
 have g2:¬255<(d:Int):=by omega
 have g3:(d:Int)≤9223372036854775807:=by omega
 obtain⟨i0,hi,hz0,hz1,hz2⟩:=info_parts ptrInfo
 go_enter func7,ntmps7
 go_wp2_with fail
 have HF0:=Qg (Ar.first (X:=D) 43 44 w (-1) false)
 generalize w.heap.size=ga at HF0⊢
 go_loopg [20] d (λq v20 wx=>∃(k:Nat) (sv:Value) (gs:List Nat),k+q=d∧v20=.int .i64 (k:Int)∧Aside (Made w wx (Pa ga sv gs (blanks k n z) wx)))
 case atStart=>exact⟨0,_,_,by omega,rfl,HF0.out⟩
 case round=>
  obtain⟨k,sv,gs,hkq,rfl,HI⟩:=hrel
  cases gk with
  |zero=>
   obtain rfl:k=d:=by omega
   go_wp2_with fail
   go_ret2
   exact⟨ga,sv,gs,rfl,HI.out⟩
  |succ q=>
   have hm:k<d:=by omega
   have hmi:(k:Int)<(d:Int):=by omega
   go_wp2_with fail
   refine(KN.out _).mono ?_
   rintro e w2 ⟨rfl,hmade⟩
   have h2:Made w w2 (Both (Pa ga sv gs (blanks k n z)) (D (wr.heap.size+1) (blank n z)) w2):=Made.step (A:=λw=>Pa ga sv gs (blanks k n z) w) HI.out (λS hS=>Made.with (Pa.res _ _ _ _) hS hmade)
   have H2:=Qg h2
   clear h2 hmade HI
   generalize wr.heap.size+1=g' at H2⊢
   obtain⟨U,hB,hf,hn⟩:=H2.out
   obtain⟨hAr,hgs,hne,hga,hrow⟩:(∃T,Pa ga sv gs (blanks k n z) w2 T)∧gs.length=k∧sv.ownBlock≠some ga∧ga<w2.heap.size∧w2.ownsRow 0 44 1 sv gs.length (gs.map ptr):=by
    obtain⟨S1,S2,h1, -, -, -⟩:=hB
    have h1':=h1
    obtain⟨hl,S3,S4,⟨hb,hr,hn', -⟩, -⟩:=h1
    exact⟨⟨_,h1'⟩,by simpa [blanks] using hl,hn',(Qa.1 hb).1,hr⟩
   obtain⟨T,hT⟩:=hAr
   obtain⟨A,c, -, -, -,x0, -, -,xf, -⟩:=hT.reads
   have xf0:=xf 0
   clear xf hT
   have hown:=Qg (hrow.alloc (.cells #[ptr g'] 44))
   clear hrow
   have hg':(w2.alloc (.cells #[ptr g'] 44)).cell? ⟨w2.heap.size,0,none⟩=some (ptr g'):=cell_of_row _ w2.heap.size 0 _ _ _ (heap_alloc_new w2 (.cells #[ptr g'] 44))
   go_wp2_with (at_builtin;go_loud (refine wpList_append_own_at _ rfl _ _ 41 rfl 0 44 i0 (.pointer none) 1 8 underlying41 hi hz0 hz1 hz2 rfl (by decide) sv gs.length (gs.map ptr) rfl hown.out ⟨w2.heap.size,0,none⟩ 1 1 [ptr g'] rfl rfl ?c1 ?c2 ?c3 ?c4 (Qk _) ?_))
   case c1=>
    intro j u hj
    cases j with
    |zero=>
     simp at hj
     subst hj
     exact hg'
    |succ j=>simp at hj
   case c2=>intro u hu;simp at hu;subst hu;rfl
   case c3=>unfold maxLen;omega
   case c4=>omega
   intro v' w1 hown' hgrow hnil hat
   have bg:w1.heap[ga]? =w2.heap[ga]? :=(hgrow.block ga (by simp;omega) (λe=>hne e.symm)).trans (Below.heap_alloc w2 _ ga hga)
   have hcell:w1.cell? ⟨ga,0,none⟩=some sv:=(World.cell?_of_block bg).trans x0
   have hfro:w1.frozen? ⟨ga,0,none⟩=false:=(World.frozen?_of_block bg).trans xf0
   have hap:=Ar.append D.res hB _ hgrow (by rw[hgs];simpa using hown') (hat.imp id (by intro e;simpa using e))
   have hfin:Made w (w1.setCell ⟨ga,0,none⟩ v') (Pa ga v' (gs++[g']) (blanks (k+1) n z) (w1.setCell ⟨ga,0,none⟩ v')):=by
    have hb:(⟨(blanks k n z).ds++[blank n z],(blanks k n z).left,(blanks k n z).down⟩:Arr)=blanks (k+1) n z:=by
     unfold blanks
     rw[Jb]
    rw[←hb]
    obtain⟨S',hB',hf',hg''⟩:=hap
    exact⟨S',hB',hf.then hf' (λi hi ht=>by have:=hn i ht;omega),λi hi=>(hg'' i hi).elim (hn i) (λe=>Qb hf.size e)⟩
   obtain⟨gv,cv,rfl⟩:∃gv cv,v'=.slice (some ⟨gv,0,none⟩) (k+1) cv:=by
    rcases owns_form hown' with ⟨_,h0⟩|⟨gv,cv,h0,_⟩
    ·omega
    ·exact⟨gv,cv,by rw[h0]⟩
   have HFin:=Qg hfin
   clear hfin hap hB hf hn hown hown' hgrow hnil hat hg' xf0 x0
   go_wp2
   go_roundg q
   case measure=>omega
   case rel=>exact⟨k+1,_,gs++[g'],by omega,by go_num,HFin.out⟩
end Go.Proofs.YtjambljmnifknaaGreatDoor.Dk
