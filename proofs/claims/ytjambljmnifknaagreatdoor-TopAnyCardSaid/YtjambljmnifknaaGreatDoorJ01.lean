/- Part 1 of the proof of TopAny: Plain ground for the walks of layers 9 and 10 · The walks of layer 9's small methods: works, check, New, Fail, Alive, Pending, and Write · The walks of New, Fail, Alive, Pending, Write of layer 9 · A disk and its blocks as one thing; the walks of Fail, Alive, Pending, Write of layer 9 · The walks of Write and of an event's own do, of layer 9 · The walks of Replace, of an event's own do, and of Crash, of layer 9 · The walks of of, slices.Backward and Read, of layer 9 · Read of layer 9, whatever it is given. -/
import Derived.Test.YtjambljmnifknaaGreatDoorJ00
import Derived.Test.YtjambljmnifknaaGreatDoorProg
import Derived.WalkKit
import Derived.KernelRfl
import Derived.Below
import Derived.WalkSmall
import Derived.Laws.AppendOwn
import Derived.Laws.OwnMore
import Derived.OwnWalk
import Derived.Laws.Rows
import Derived.Deep.Draws
import Derived.Deep.QuietTactic
import Derived.BigQuiet
import Derived.Maps.AppendAt
import Derived.Deep.OwnRows
import Derived.Lib.SliceRun
import Derived.StillTailTactics
import Derived.Deep.LoopGhost
import Derived.RangeFuncCalls
import Derived.RegionIn
import Derived.RangeFuncBox
import Derived.RangeFuncLeaves
import Derived.Shelf.Abstract
import Derived.OwnWalkIn
import Derived.TacticsInMore
import Derived.LoopNIn
import Derived.LoopIn
set_option maxRecDepth 100000
set_option maxHeartbeats 80000000
set_option linter.all false
open Go.Proofs.Tryz
namespace Go.Proofs.YtjambljmnifknaaGreatDoor.Dk
open Go.RowKit
structure Fr(S:Nat→Prop)(w w':World):Prop where
 os:w'.os=w.os
 tape:w'.tape=w.tape
 output:w'.output=w.output
 size:w.heap.size≤w'.heap.size
 same:∀k,k<w.heap.size→¬S k→w'.heap[k]? =w.heap[k]?
theorem Fr.refl(S:Nat→Prop)(w:World):Fr S w w:=⟨rfl,rfl,rfl,Qd _,λ_ _ _=>rfl⟩
theorem Fr.trans{S:Nat→Prop}{a b c:World}(h:Fr S a b)(k:Fr S b c):Fr S a c:=
 ⟨k.os.trans h.os,k.tape.trans h.tape,k.output.trans h.output,Qb h.size k.size,λi hi hs=>(k.same i (QH hi h.size) hs).trans (h.same i hi hs)⟩
theorem Fr.mono{S T:Nat→Prop}{a b:World}(h:Fr S a b)(hs:∀k,k<a.heap.size→S k→T k):Fr T a b:=
 ⟨h.os,h.tape,h.output,h.size,λi hi ht=>h.same i hi (λe=>ht (hs i hi e))⟩
theorem Fr.then{S T:Nat→Prop}{a b c:World}(h:Fr S a b)(k:Fr T b c)(hs:∀i,i<a.heap.size→T i→S i):Fr S a c:=
 ⟨k.os.trans h.os,k.tape.trans h.tape,k.output.trans h.output,Qb h.size k.size,λi hi hn=>(k.same i (QH hi h.size) (λe=>hn (hs i hi e))).trans (h.same i hi hn)⟩
theorem Fr.alloc{S:Nat→Prop}{a b:World}(h:Fr S a b)(o:Obj):Fr S a (b.alloc o):=
 ⟨h.os,h.tape,h.output,by have:=h.size;simp;omega,λi hi hs=>(Below.heap_alloc b o i (QH hi h.size)).trans (h.same i hi hs)⟩
theorem Fr.setCell{S:Nat→Prop}{a b:World}(h:Fr S a b){p:Addr}(hp:S p.block∨a.heap.size≤p.block)(u:Value):Fr S a (b.setCell p u):=
 ⟨h.os,h.tape,h.output,by simpa using h.size,λi hi hs=>(Below.heap_setCell b p u i (λe=>hp.elim (λhp=>hs (e▸hp)) (λhp=>by omega))).trans (h.same i hi hs)⟩
theorem Fr.drew{S:Nat→Prop}{a b:World}(h:Fr S a b):Fr S a b.drew:=⟨h.os,h.tape,h.output,h.size,h.same⟩
theorem Fr.grown{S:Nat→Prop}{a b c:World}{row:Option Nat}(h:Fr S a b)(hg:b.grownBy c row)(hr:∀k,row=some k→S k∨a.heap.size≤k):Fr S a c:=
 ⟨hg.os.trans h.os,hg.tape.trans h.tape,hg.output.trans h.output,Qb h.size hg.size,λi hi hs=>(hg.block i (QH hi h.size) (λe=>(hr i e.symm).elim hs (λhp=>by omega))).trans (h.same i hi hs)⟩
theorem Fr.of_below{S:Nat→Prop}{a b:World}(h:Below a.heap.size a b):Fr S a b:=⟨h.os,h.tape,h.output,h.size,λi hi _=>h.block i hi⟩
theorem Fr.cell{S:Nat→Prop}{a b:World}(h:Fr S a b){p:Addr}{v:Value}(hc:a.cell? p=some v)(hs:¬S p.block):b.cell? p=some v:=
 (World.cell?_of_block (h.same p.block (World.block_lt_of_cell? a p hc) hs)).trans hc
theorem Fr.heap{S:Nat→Prop}{a b:World}(h:Fr S a b){k:Nat}{o:Obj}(hc:a.heap[k]? =some o)(hs:¬S k):b.heap[k]? =some o:=
 (h.same k (Qa.1 hc).1 hs).trans hc
def fresh:Nat→Prop:=λ_=>False
theorem owns_move{w w':World}{base:Nat}{e:TypeId}{size n:Nat}{v:Value}{xs:List Value}(h:w.ownsRow base e size v n xs)(hm:∀k,v.ownBlock=some k→w'.heap[k]? =w.heap[k]?):w'.ownsRow base e size v n xs:=by
 obtain⟨h1,h2⟩:=h
 refine⟨h1,?_⟩
 rcases h2 with h2|⟨g,cap,cur,rfl,hg,hh,r⟩
 ·exact .inl h2
 ·exact .inr ⟨g,cap,cur,rfl,hg,(hm g (by simp[Value.ownBlock])).trans hh,r⟩
theorem owns_typed{w:World}{base:Nat}{e:TypeId}{size n:Nat}{v:Value}{xs:List Value}(h:w.ownsRow base e size v n xs)(k:Nat)(hk:v.ownBlock=some k):∃cells,w.heap[k]? =some (.cells cells e (0,0)):=by
 rcases h.2 with ⟨rfl,_⟩|⟨g,cap,cur,rfl,hg,hh,r⟩
 ·simp[Value.ownBlock] at hk
 ·have:g=k:=by simpa [Value.ownBlock] using hk
  subst this
  exact⟨cur,hh⟩
theorem owns_form{w:World}{base:Nat}{e:TypeId}{size n:Nat}{v:Value}{xs:List Value}(h:w.ownsRow base e size v n xs):
  (v=.slice none 0 0∧n=0)∨∃g cap,v=.slice (some ⟨g,0,none⟩) n cap∧base≤g∧g<w.heap.size∧n≤cap∧cap≤maxLen:=by
 rcases h.2 with h2|⟨g,cap,cur,rfl,hg,hh,h3,h4,_⟩
 ·exact .inl h2
 ·exact .inr ⟨g,cap,rfl,hg,(Qa.1 hh).1,h3,h4⟩
structure Dsk where
 sec:List ByteArray
 size:Nat
 wait:List (Nat×ByteArray)
 gone:Bool
def ev(x:Nat×ByteArray):Value:=.iface 127 (.agg #[.int .i64 (x.1:Int),.string x.2])
structure IsDisk(w:World)(g s:Nat)(wv:Value)(m:Dsk):Prop where
 blk:∃cap,w.heap[g]? =some (.cells #[.slice (some ⟨s,0,none⟩) m.sec.length cap,.int .i64 (m.size:Int),wv,.bool m.gone] 62 (0,0))∧
  w.ownsRow 0 9 1 (.slice (some ⟨s,0,none⟩) m.sec.length cap) m.sec.length (m.sec.map .string)
 wait:w.ownsRow 0 66 1 wv m.wait.length (m.wait.map ev)
 ok:∀x∈m.wait,x.1<m.sec.length
 pos:0<m.sec.length
 most:m.sec.length≤4096
 fits:m.size≤4096
def foot(g s:Nat)(wv:Value):Nat→Prop:=λk=>k=g∨k=s∨wv.ownBlock=some k
theorem foot_g(g s:Nat)(wv:Value):foot g s wv g:=.inl rfl
theorem foot_s(g s:Nat)(wv:Value):foot g s wv s:=.inr (.inl rfl)
section
variable {w w':World}{g s:Nat}{wv:Value}{m:Dsk}
theorem IsDisk.lt(h:IsDisk w g s wv m):∀k,foot g s wv k→k<w.heap.size:=by
 intro k hk
 obtain⟨cap,hb,hr⟩:=h.blk
 rcases hk with rfl|rfl|hk
 ·exact(Qa.1 hb).1
 ·exact(hr.lt k rfl).2
 ·exact(h.wait.lt k hk).2
theorem IsDisk.keep(h:IsDisk w g s wv m)(hk:∀k,foot g s wv k→w'.heap[k]? =w.heap[k]?):IsDisk w' g s wv m:=by
 obtain⟨cap,hb,hr⟩:=h.blk
 exact⟨⟨cap,(hk g (foot_g _ _ _)).trans hb,owns_move hr (λk e=>hk k (.inr (.inl (by simpa [Value.ownBlock] using e.symm))))⟩,
  owns_move h.wait (λk e=>hk k (.inr (.inr e))),h.ok,h.pos,h.most,h.fits⟩
theorem IsDisk.frame{S:Nat→Prop}(h:IsDisk w g s wv m)(hf:Fr S w w')(hd:∀k,foot g s wv k→¬S k):IsDisk w' g s wv m:=
 h.keep λk hk=>hf.same k (h.lt k hk) (hd k hk)
theorem IsDisk.drew(h:IsDisk w g s wv m):IsDisk w.drew g s wv m:=h.keep λ_ _=>rfl
theorem IsDisk.alloc(h:IsDisk w g s wv m)(o:Obj):IsDisk (w.alloc o) g s wv m:=h.keep λk hk=>Below.heap_alloc w o k (h.lt k hk)
theorem IsDisk.gs(h:IsDisk w g s wv m):g≠s:=by
 obtain⟨cap,hb,hr⟩:=h.blk
 obtain⟨cs,hc⟩:=owns_typed hr s rfl
 rintro rfl
 rw[hb] at hc
 simp at hc
theorem IsDisk.gw(h:IsDisk w g s wv m):wv.ownBlock≠some g:=by
 intro e
 obtain⟨cap,hb,hr⟩:=h.blk
 obtain⟨cs,hc⟩:=owns_typed h.wait g e
 rw[hb] at hc
 simp at hc
theorem IsDisk.sw(h:IsDisk w g s wv m):wv.ownBlock≠some s:=by
 intro e
 obtain⟨cap,hb,hr⟩:=h.blk
 obtain⟨cs,hc⟩:=owns_typed hr s rfl
 obtain⟨cs',hc'⟩:=owns_typed h.wait s e
 rw[hc] at hc'
 simp at hc'
theorem IsDisk.reads(h:IsDisk w g s wv m):∃cap,m.sec.length≤cap∧w.cell? ⟨g,0,none⟩=some (.slice (some ⟨s,0,none⟩) m.sec.length cap)∧w.cell? ⟨g,1,none⟩=some (.int .i64 (m.size:Int))∧
  w.cell? ⟨g,2,none⟩=some wv∧w.cell? ⟨g,3,none⟩=some (.bool m.gone)∧(∀j,w.frozen? ⟨g,j,none⟩=false)∧
  (∀(j:Nat) x,m.sec[j]? =some x→w.cell? ⟨s,j,none⟩=some (.string x))∧(∀j,w.frozen? ⟨s,j,none⟩=false):=by
 obtain⟨cap,hb,hr⟩:=h.blk
 have hcap:m.sec.length≤cap:=by
  rcases owns_form hr with ⟨e,_⟩|⟨g',cap',e,_,_,h1,_⟩
  ·simp at e
  ·simp at e;omega
 refine⟨cap,hcap,?_,?_,?_,?_,λj=>frozen_of_row w g j _ _ hb,λj x hx=>?_,λj=>hr.frozenAt j⟩
 ·rw[cell_of_row w g 0 _ _ _ hb];rfl
 ·rw[cell_of_row w g 1 _ _ _ hb];rfl
 ·rw[cell_of_row w g 2 _ _ _ hb];rfl
 ·rw[cell_of_row w g 3 _ _ _ hb];rfl
 ·have hj:=(Qe.1 hx).1
  rw[hr.cellAt j (by omega),Qp,hx]
  rfl
end
theorem works_gone(w:World)(g:Nat)(h:w.cell? ⟨g,3,none⟩=some (.bool true)):Calls prog 60 #[.pointer (some ⟨g,0,none⟩)] w λe w'=>e=.returned (.int .i64 8)∧w=w':=by
 go_enter func60,ntmps60
 go_wp2
 go_ret
 exact⟨rfl,rfl⟩
theorem works_ok(w:World)(g:Nat)(h:w.cell? ⟨g,3,none⟩=some (.bool false)):Calls prog 60 #[.pointer (some ⟨g,0,none⟩)] w λe w'=>e=.returned (.int .i64 0)∧w=w':=by
 go_enter func60,ntmps60
 go_wp2
 go_ret
 exact⟨rfl,rfl⟩
def worksE(m:Dsk):Int:=if m.gone=true then 8 else 0
theorem works_any{w:World}{g s:Nat}{wv:Value}{m:Dsk}(h:IsDisk w g s wv m):Calls prog 60 #[.pointer (some ⟨g,0,none⟩)] w λe w'=>e=.returned (.int .i64 (worksE m))∧w=w':=by
 obtain⟨cap,_,_,_,_,h3,_⟩:=h.reads
 unfold worksE
 cases hg:m.gone with
 |true=>rw[hg] at h3;exact works_gone w g h3
 |false=>rw[hg] at h3;exact works_ok w g h3
def checkE(m:Dsk)(n:Int)(len:Nat):Int:=if m.gone=true then 8 else if n<0∨(m.sec.length:Int)≤n then 1 else if m.size<len then 12 else 0
theorem check_gone(n:Int)(x:ByteArray)(w:World)(g:Nat)(h:w.cell? ⟨g,3,none⟩=some (.bool true)):
  Calls prog 27 #[.pointer (some ⟨g,0,none⟩),.int .i64 n,.string x] w λe w'=>e=.returned (.int .i64 8)∧w=w':=by
 have HC:=Qg h
 clear h
 go_enter func27,ntmps27
 go_wp2_with (go_at_call 60;refine(works_gone _ _ HC.out).mono ?_;rintro e w1 ⟨rfl,rfl⟩)
 go_ret
 exact⟨rfl,rfl⟩
theorem check_low(n:Int)(x:ByteArray)(w:World)(g:Nat)(h:w.cell? ⟨g,3,none⟩=some (.bool false))(hn:n<0):
  Calls prog 27 #[.pointer (some ⟨g,0,none⟩),.int .i64 n,.string x] w λe w'=>e=.returned (.int .i64 1)∧w=w':=by
 have HC:=Qg h
 clear h
 go_enter func27,ntmps27
 go_wp2_with (go_at_call 60;refine(works_ok _ _ HC.out).mono ?_;rintro e w1 ⟨rfl,rfl⟩)
 go_ret
 exact⟨rfl,rfl⟩
theorem check_high(n:Int)(x:ByteArray)(w:World)(g s k cap:Nat)(h:w.cell? ⟨g,3,none⟩=some (.bool false))(h0:w.cell? ⟨g,0,none⟩=some (.slice (some ⟨s,0,none⟩) k cap))(hn0:0≤n)(hn:(k:Int)≤n):
  Calls prog 27 #[.pointer (some ⟨g,0,none⟩),.int .i64 n,.string x] w λe w'=>e=.returned (.int .i64 1)∧w=w':=by
 have HC:=Qg h
 clear h
 go_enter func27,ntmps27
 go_wp2_with (go_at_call 60;refine(works_ok _ _ HC.out).mono ?_;rintro e w1 ⟨rfl,rfl⟩)
 go_ret
 exact⟨rfl,rfl⟩
theorem check_big(n:Int)(x:ByteArray)(w:World)(g s k cap z:Nat)(h:w.cell? ⟨g,3,none⟩=some (.bool false))(h0:w.cell? ⟨g,0,none⟩=some (.slice (some ⟨s,0,none⟩) k cap))(h1:w.cell? ⟨g,1,none⟩=some (.int .i64 (z:Int)))(hn0:0≤n)(hn:n<(k:Int))(hx:(z:Int)<(x.size:Int)):
  Calls prog 27 #[.pointer (some ⟨g,0,none⟩),.int .i64 n,.string x] w λe w'=>e=.returned (.int .i64 12)∧w=w':=by
 have HC:=Qg h
 clear h
 go_enter func27,ntmps27
 go_wp2_with (go_at_call 60;refine(works_ok _ _ HC.out).mono ?_;rintro e w1 ⟨rfl,rfl⟩)
 go_ret
 exact⟨rfl,rfl⟩
theorem check_fine(n:Int)(x:ByteArray)(w:World)(g s k cap z:Nat)(h:w.cell? ⟨g,3,none⟩=some (.bool false))(h0:w.cell? ⟨g,0,none⟩=some (.slice (some ⟨s,0,none⟩) k cap))(h1:w.cell? ⟨g,1,none⟩=some (.int .i64 (z:Int)))(hn0:0≤n)(hn:n<(k:Int))(hx:(x.size:Int)≤(z:Int)):
  Calls prog 27 #[.pointer (some ⟨g,0,none⟩),.int .i64 n,.string x] w λe w'=>e=.returned (.int .i64 0)∧w=w':=by
 have HC:=Qg h
 clear h
 go_enter func27,ntmps27
 go_wp2_with (go_at_call 60;refine(works_ok _ _ HC.out).mono ?_;rintro e w1 ⟨rfl,rfl⟩)
 go_ret
 exact⟨rfl,rfl⟩
theorem check_any{w:World}{g s:Nat}{wv:Value}{m:Dsk}(h:IsDisk w g s wv m)(n:Int)(x:ByteArray):
  Calls prog 27 #[.pointer (some ⟨g,0,none⟩),.int .i64 n,.string x] w λe w'=>e=.returned (.int .i64 (checkE m n x.size))∧w=w':=by
 obtain⟨cap,_,h0,h1,_,h3,_⟩:=h.reads
 unfold checkE
 cases hg:m.gone with
 |true=>rw[hg] at h3;exact check_gone n x w g h3
 |false=>
  rw[hg] at h3
  rw[if_neg (by decide)]
  by_cases hn:n<0
  ·rw[if_pos (.inl hn)];exact check_low n x w g h3 hn
  by_cases hn2:(m.sec.length:Int)≤n
  ·rw[if_pos (.inr hn2)];exact check_high n x w g s _ cap h3 h0 (by omega) hn2
  rw[if_neg (by omega)]
  by_cases hx:m.size<x.size
  ·rw[if_pos hx];exact check_big n x w g s _ cap m.size h3 h0 h1 (by omega) (by omega) (by omega)
  ·rw[if_neg hx];exact check_fine n x w g s _ cap m.size h3 h0 h1 (by omega) (by omega) (by omega)
def blank(n z:Nat):Dsk:={sec:=List.replicate n ByteArray.empty,size:=z,wait:=[],gone:=false}
theorem strInfo:(prog.info? 9).map (λi=>(i.zero,i.size,i.bytes))=some (some (.string ByteArray.empty),1,16):=by kernel_rfl
theorem IsDisk.made(w:World)(n z:Nat)(h1:1≤n)(h2:n≤4096)(h4:z≤4096):
  IsDisk ((w.alloc (.cells (madeCells #[.string ByteArray.empty] n) 9)).alloc (.cells #[.slice (some ⟨w.heap.size,0,none⟩) n n,.int .i64 (z:Int),.slice none 0 0,.bool false] 62)) (w.heap.size+1) w.heap.size (.slice none 0 0) (blank n z):=by
 refine⟨⟨n,?_,?_⟩,World.ownsRow_nil _ _ _ _,by simp[blank],by simp[blank];omega,by simp[blank];omega,by simp[blank];omega⟩
 ·have:=heap_alloc2_new w (.cells (madeCells #[.string ByteArray.empty] n) 9) (.cells #[.slice (some ⟨w.heap.size,0,none⟩) n n,.int .i64 (z:Int),.slice none 0 0,.bool false] 62)
  simpa [blank] using this
 ·have:=World.ownsRow_lit (e:=9) (base:=0) (size:=1) w (madeCells #[.string ByteArray.empty] n) n (Qk _) (by unfold maxLen;omega) (by rw[size_madeCells];omega)
  rw[toList_madeCells_one] at this
  have h:=this.alloc (.cells #[.slice (some ⟨w.heap.size,0,none⟩) n n,.int .i64 (z:Int),.slice none 0 0,.bool false] 62)
  simpa [blank] using h
theorem new_yes(n z:Nat)(h1:1≤n)(h2:n≤4096)(h3:1≤z)(h4:z≤4096)(w:World):
  Calls prog 15 #[.int .i64 (n:Int),.int .i64 (z:Int)] w λe w'=>e=.returned (.tuple #[.pointer (some ⟨w.heap.size+1,0,none⟩),.int .i64 0])∧IsDisk w' (w.heap.size+1) w.heap.size (.slice none 0 0) (blank n z)∧Fr fresh w w':=by
 have hmk:=run_make_row' (P:=prog) 24 9 (.string ByteArray.empty) 16 underlying24 strInfo rfl .i64 .i64 n (by omega) (by omega)
 have g1:¬(n:Int)<1:=by omega
 have g2:¬4096<(n:Int):=by omega
 have g3:¬(z:Int)<1:=by omega
 have g4:¬4096<(z:Int):=by omega
 go_enter func15,ntmps15
 go_wp2
 go_ret2
 exact⟨rfl,IsDisk.made w n z h1 h2 h4,((Fr.refl _ _).alloc _).alloc _⟩
section
variable {w:World}{g s:Nat}{wv:Value}{m:Dsk}
theorem IsDisk.setWait'(h:IsDisk w g s wv m){w1:World}(bg:w1.heap[g]? =w.heap[g]?)(bs:w1.heap[s]? =w.heap[s]?)(wv':Value)(ws:List (Nat×ByteArray))(hw:w1.ownsRow 0 66 1 wv' ws.length (ws.map ev))(hok:∀x∈ws,x.1<m.sec.length):
  IsDisk (w1.setCell ⟨g,2,none⟩ wv') g s wv' {m with wait:=ws}:=by
 have hgs:=h.gs
 obtain⟨cap,hb,hr⟩:=h.blk
 have hb1:=bg.trans hb
 have hr1:w1.ownsRow 0 9 1 (.slice (some ⟨s,0,none⟩) m.sec.length cap) m.sec.length (m.sec.map .string):=owns_move hr (λk e=>by simp[Value.ownBlock] at e;subst e;exact bs)
 refine⟨⟨cap,?_,owns_move hr1 (λk e=>heap_setCell_other w1 _ k _ (λe'=>?_))⟩,owns_move hw (λk e=>heap_setCell_other w1 _ k _ (λe'=>?_)),hok,h.pos,h.most,h.fits⟩
 ·have:=heap_setCell_same w1 g 2 _ _ wv' hb1
  simpa using this
 ·simp[Value.ownBlock] at e
  simp at e'
  omega
 ·simp at e'
  subst e'
  obtain⟨cs,hc⟩:=owns_typed hw _ e
  rw[hb1] at hc
  simp at hc
theorem IsDisk.setWait(h:IsDisk w g s wv m)(wv':Value)(ws:List (Nat×ByteArray))(hw:w.ownsRow 0 66 1 wv' ws.length (ws.map ev))(hok:∀x∈ws,x.1<m.sec.length):
  IsDisk (w.setCell ⟨g,2,none⟩ wv') g s wv' {m with wait:=ws}:=h.setWait' rfl rfl wv' ws hw hok
theorem IsDisk.setGone(h:IsDisk w g s wv m)(b:Bool):IsDisk (w.setCell ⟨g,3,none⟩ (.bool b)) g s wv {m with gone:=b}:=by
 have hgs:=h.gs
 have hgw:=h.gw
 obtain⟨cap,hb,hr⟩:=h.blk
 refine⟨⟨cap,?_,owns_move hr (λk e=>heap_setCell_other w _ k _ (λe'=>?_))⟩,owns_move h.wait (λk e=>heap_setCell_other w _ k _ (λe'=>?_)),h.ok,h.pos,h.most,h.fits⟩
 ·have:=heap_setCell_same w g 3 _ _ (.bool b) hb
  simpa using this
 ·simp[Value.ownBlock] at e
  simp at e'
  omega
 ·simp at e'
  subst e'
  exact hgw e
theorem IsDisk.setSec(h:IsDisk w g s wv m)(j:Nat)(x:ByteArray):IsDisk (w.setCell ⟨s,j,none⟩ (.string x)) g s wv {m with sec:=m.sec.set j x}:=by
 have hgs:=h.gs
 have hsw:=h.sw
 obtain⟨cap,hb,hr⟩:=h.blk
 refine⟨⟨cap,?_,?_⟩,owns_move h.wait (λk e=>heap_setCell_other w _ k _ (λe'=>?_)),by simpa using h.ok,by simpa using h.pos,by simpa using h.most,h.fits⟩
 ·rw[heap_setCell_other w _ g _ (by simpa using hgs)]
  simpa using hb
 ·have:=(hr.stored j (.string x)).1
  simpa [ZO] using this
 ·simp at e'
  subst e'
  exact hsw e
end
def At(w:World)(g:Nat)(S:Nat→Prop)(m:Dsk):Prop:=∃s wv,IsDisk w g s wv m∧S=foot g s wv
def Step(w w':World)(S:Nat→Prop)(A:(Nat→Prop)→Prop):Prop:=∃S',A S'∧Fr S w w'∧∀k,S' k→S k∨w.heap.size≤k
section
variable {w w':World}{g:Nat}{S:Nat→Prop}{m:Dsk}
theorem At.lt(h:At w g S m):∀k,S k→k<w.heap.size:=by
 obtain⟨s,wv,hd,rfl⟩:=h
 exact hd.lt
theorem At.frame{T:Nat→Prop}(h:At w g S m)(hf:Fr T w w')(hd:∀k,S k→¬T k):At w' g S m:=by
 obtain⟨s,wv,h,rfl⟩:=h
 exact⟨s,wv,h.frame hf hd,rfl⟩
theorem At.alloc(h:At w g S m)(o:Obj):At (w.alloc o) g S m:=by
 obtain⟨s,wv,h,rfl⟩:=h
 exact⟨s,wv,h.alloc o,rfl⟩
end
theorem works_at{w:World}{g:Nat}{S:Nat→Prop}{m:Dsk}(h:At w g S m):Calls prog 60 #[.pointer (some ⟨g,0,none⟩)] w λe w'=>e=.returned (.int .i64 (worksE m))∧w=w':=by
 obtain⟨s,wv,h,rfl⟩:=h
 exact works_any h
theorem check_at{w:World}{g:Nat}{S:Nat→Prop}{m:Dsk}(h:At w g S m)(n:Int)(x:ByteArray):Calls prog 27 #[.pointer (some ⟨g,0,none⟩),.int .i64 n,.string x] w λe w'=>e=.returned (.int .i64 (checkE m n x.size))∧w=w':=by
 obtain⟨s,wv,h,rfl⟩:=h
 exact check_any h n x
theorem fail_at{w:World}{g:Nat}{S:Nat→Prop}{m:Dsk}(h:At w g S m):
  Calls prog 221 #[.pointer (some ⟨g,0,none⟩)] w λe w'=>e=.returned (.int .i64 0)∧Step w w' S λS'=>At w' g S' {m with gone:=true,wait:=[]}:=by
 obtain⟨s,wv,h,rfl⟩:=h
 obtain⟨cap,hcap,c0,c1,c2,c3,cf, -, -⟩:=h.reads
 have f2:=cf 2
 have f3:=cf 3
 clear cf
 have H:=Qg h
 clear h
 go_enter func221,ntmps221
 go_wp2
 go_ret
 have h:=H.out
 have h1:=(h.setGone true).setWait (.slice none 0 0) [] (World.ownsRow_nil _ _ _ _) (by simp)
 refine⟨rfl,_,⟨s,_,h1,rfl⟩,((Fr.refl _ w).setCell (p:=⟨g,3,none⟩) (.inl (foot_g _ _ _)) _).setCell (p:=⟨g,2,none⟩) (.inl (foot_g _ _ _)) _,?_⟩
 rintro k (rfl|rfl|hk)
 ·exact .inl (foot_g _ _ _)
 ·exact .inl (foot_s _ _ _)
 ·simp[Value.ownBlock] at hk
theorem pending_at{w:World}{g:Nat}{S:Nat→Prop}{m:Dsk}(h:At w g S m):Calls prog 223 #[.pointer (some ⟨g,0,none⟩)] w λe w'=>e=.returned (.int .i64 (m.wait.length:Int))∧w=w':=by
 obtain⟨s,wv,h,rfl⟩:=h
 obtain⟨cap,hcap,c0,c1,c2,c3,cf, -, -⟩:=h.reads
 rcases owns_form h.wait with ⟨rfl,hn⟩|⟨gw,cw,rfl, -, -, -, -⟩
 ·rw[hn]
  go_enter func223,ntmps223
  go_wp2
  go_ret
  exact⟨rfl,rfl⟩
 ·go_enter func223,ntmps223
  go_wp2
  go_ret
  exact⟨rfl,rfl⟩
theorem alive_at{w:World}{g:Nat}{S:Nat→Prop}{m:Dsk}(h:At w g S m):Calls prog 114 #[.pointer (some ⟨g,0,none⟩)] w λe w'=>e=.returned (.bool (!m.gone))∧w=w':=by
 have hk:=works_at h
 unfold worksE at hk
 cases hg:m.gone with
 |true=>
  rw[hg,if_pos rfl] at hk
  have HK:=Qg hk
  clear hk h
  go_enter func114,ntmps114
  go_wp2_with (go_at_call 60;refine(HK.out).mono ?_;rintro e w1 ⟨rfl,rfl⟩)
  go_ret
  exact⟨rfl,rfl⟩
 |false=>
  rw[hg,if_neg (by decide)] at hk
  have HK:=Qg hk
  clear hk h
  go_enter func114,ntmps114
  go_wp2_with (go_at_call 60;refine(HK.out).mono ?_;rintro e w1 ⟨rfl,rfl⟩)
  go_ret
  exact⟨rfl,rfl⟩
theorem write_not{w:World}{g:Nat}{n:Int}{x:ByteArray}(z:Int)(hz:z≠0)
  (h:Calls prog 27 #[.pointer (some ⟨g,0,none⟩),.int .i64 n,.string x] w λe w'=>e=.returned (.int .i64 z)∧w=w'):
  Calls prog 200 #[.pointer (some ⟨g,0,none⟩),.int .i64 n,.string x] w λe w'=>e=.returned (.int .i64 z)∧w=w':=by
 have HK:=Qg h
 clear h
 go_enter func200,ntmps200
 go_wp2_with (go_at_call 27;refine(HK.out).mono ?_;rintro e w1 ⟨rfl,rfl⟩)
 go_ret
 exact⟨rfl,rfl⟩
theorem evInfo:(prog.info? 66).map (λi=>(i.zero,i.size,i.bytes))=some (some .nilIface,1,16):=by kernel_rfl
theorem write_yes{w:World}{g s:Nat}{wv:Value}{m:Dsk}(h:IsDisk w g s wv m)(n:Nat)(x:ByteArray)(hgone:m.gone=false)(hn:n<m.sec.length)(hx:x.size≤m.size)(hmany:m.wait.length≤1000000):
  Calls prog 200 #[.pointer (some ⟨g,0,none⟩),.int .i64 (n:Int),.string x] w λe w'=>e=.returned (.int .i64 0)∧
   Step w w' (foot g s wv) λS'=>At w' g S' {m with wait:=m.wait++[(n,x)]}:=by
 have hk:=check_any h n x
 have he:checkE m n x.size=0:=by
  unfold checkE
  rw[if_neg (by rw[hgone];decide),if_neg (by omega),if_neg (by omega)]
 rw[he] at hk
 have HK:=Qg hk
 clear hk he
 obtain⟨cap,hcap,c0,c1,c2,c3,cf, -, -⟩:=h.reads
 have f2:=cf 2
 clear cf
 obtain⟨i0,hi,hz0,hz1,hz2⟩:=info_parts evInfo
 have H:=Qg h
 clear h
 go_enter func200,ntmps200
 have hsp:w.heap.size≤(w.alloc (.cells #[ev (n,x)] 66)).heap.size:=by simp
 have hown:=Qg ((H.out.wait).alloc (.cells #[ev (n,x)] 66))
 go_wp2_with (first|(go_at_call 27;refine(HK.out).mono ?_;rintro e w1 ⟨rfl,rfl⟩)|
  (at_builtin;go_loud (refine wpList_append_own_at _ rfl _ _ 60 rfl 0 66 i0 .nilIface 1 16 underlying60 hi hz0 hz1 hz2 rfl (by decide) wv m.wait.length (m.wait.map ev) rfl hown.out ⟨w.heap.size,0,none⟩ 1 1 [ev (n,x)] rfl rfl ?c1 ?c2 ?c3 ?c4 (Qk _) ?_)))
 case c1=>
  intro j u hj
  cases j with
  |zero=>
   simp at hj
   subst hj
   have:=heap_alloc_new w (.cells #[ev (n,x)] 66)
   exact(cell_of_row _ w.heap.size 0 _ _ _ this)
  |succ j=>simp at hj
 case c2=>intro u hu;simp at hu;subst hu;rfl
 case c3=>unfold maxLen;omega
 case c4=>omega
 intro v' w1 hown' hgrow hnil hat
 have hg:=H.out.gw
 have hs:=H.out.sw
 have hlt:=H.out.lt
 have hfr:Fr (foot g s wv) w w1:=((Fr.refl _ w).alloc _).grown hgrow (λk hk=>.inl (.inr (.inr hk)))
 have bg:w1.heap[g]? =w.heap[g]? :=(hgrow.block g (by have:=hlt g (foot_g _ _ _);simp;omega) (λe=>hg e.symm)).trans (Below.heap_alloc w _ g (hlt g (foot_g _ _ _)))
 have bs:w1.heap[s]? =w.heap[s]? :=(hgrow.block s (by have:=hlt s (foot_s _ _ _);simp;omega) (λe=>hs e.symm)).trans (Below.heap_alloc w _ s (hlt s (foot_s _ _ _)))
 have hcell:w1.cell? ⟨g,2,none⟩=some wv:=(World.cell?_of_block bg).trans c2
 have hfro:w1.frozen? ⟨g,2,none⟩=false:=(World.frozen?_of_block bg).trans f2
 have hfin:=Qg (H.out.setWait' bg bs v' (m.wait++[(n,x)]) (by simpa using hown') (by
  intro y hy
  rcases Qz.1 hy with hy|hy
  ·exact H.out.ok y hy
  ·simp at hy;subst hy;exact hn))
 obtain⟨gv,cv,rfl⟩:∃gv cv,v'=.slice (some ⟨gv,0,none⟩) (m.wait.length+1) cv:=by
  rcases owns_form hown' with ⟨_,h0⟩|⟨gv,cv,h0,_⟩
  ·omega
  ·exact⟨gv,cv,h0⟩
 go_wp2
 go_ret
 refine⟨rfl,_,⟨s,_,hfin.out,rfl⟩,hfr.setCell (p:=⟨g,2,none⟩) (.inl (foot_g _ _ _)) _,?_⟩
 rintro k (rfl|rfl|hk)
 ·exact .inl (foot_g _ _ _)
 ·exact .inl (foot_s _ _ _)
 ·rcases hat with e|e
  ·exact .inl (.inr (.inr (e.symm.trans hk)))
  ·have:k=(w.alloc (.cells #[ev (n,x)] 66)).heap.size:=by
    have h:=hk.symm.trans e
    simpa using h
   exact .inr (by rw[this];exact hsp)
def wrote(m:Dsk)(n:Int)(x:ByteArray):Dsk:=if checkE m n x.size=0 then {m with wait:=m.wait++[(n.toNat,x)]} else m
theorem checkE_zero{m:Dsk}{n:Int}{l:Nat}(h:checkE m n l=0):m.gone=false∧0≤n∧n<(m.sec.length:Int)∧l≤m.size:=by
 unfold checkE at h
 cases hg:m.gone with
 |true=>rw[hg,if_pos rfl] at h;simp at h
 |false=>
  rw[hg,if_neg (by decide)] at h
  split at h
  ·simp at h
  ·split at h
   ·simp at h
   ·exact⟨rfl,by omega,by omega,by omega⟩
theorem write_at{w:World}{g:Nat}{S:Nat→Prop}{m:Dsk}(h:At w g S m)(n:Int)(x:ByteArray)(hmany:m.wait.length≤1000000):
  Calls prog 200 #[.pointer (some ⟨g,0,none⟩),.int .i64 n,.string x] w λe w'=>e=.returned (.int .i64 (checkE m n x.size))∧Step w w' S λS'=>At w' g S' (wrote m n x):=by
 have hk:=check_at h n x
 unfold wrote
 by_cases he:checkE m n x.size=0
 ·obtain⟨h1,h2,h3,h4⟩:=checkE_zero he
  rw[if_pos he,he]
  obtain⟨s,wv,h,rfl⟩:=h
  have:=write_yes h n.toNat x h1 (by omega) h4 hmany
  rwa[QL h2] at this
 ·rw[if_neg he]
  refine(write_not _ he hk).mono ?_
  rintro e w' ⟨rfl,rfl⟩
  exact⟨rfl,S,h,Fr.refl _ _,λk hk=>.inl hk⟩
theorem addr_block(a:Addr)(j:Nat):(a.add j).block=a.block:=by unfold Addr.add;split<;>rfl
theorem zero_string(w:World):(zeroValue 9).run prog w=.ok (.string ByteArray.empty) w:=by
 obtain⟨i0,hi,hz0,hz1,hz2⟩:=info_parts strInfo
 simp[zeroValue,typeInfo,hi,hz0]
theorem run_clear_row(w w':World)(s n cap:Nat)(z:Value)(hn:0<n)(hz:(zeroValue 9).run prog w=.ok z w){vs:List Value}(hzc:(Builtin.zeroCells z.cells n).toList=vs)
  (hst:(storeCells ⟨s,0,none⟩ vs).run prog w=.ok () w'):(Builtin.clear_ #[24] 0 #[.slice (some ⟨s,0,none⟩) n cap]).run prog w=.ok (.tuple #[]) w':=by
 obtain⟨k,rfl⟩:∃k,n=k+1:=⟨n-1,by omega⟩
 simp[Builtin.clear_,run_underlying underlying24,hz,hzc,hst]
theorem IsDisk.clears{w:World}{g s:Nat}{wv:Value}{m:Dsk}(h:IsDisk w g s wv m)(cap:Nat):∃w',(Builtin.clear_ #[24] 0 #[.slice (some ⟨s,0,none⟩) m.sec.length cap]).run prog w=.ok (.tuple #[]) w'∧
  IsDisk w' g s wv {m with sec:=List.replicate m.sec.length ByteArray.empty}∧Fr (foot g s wv) w w':=by
 have hgs:=h.gs
 have hsw:=h.sw
 have hpos:=h.pos
 obtain⟨cap',hb,hr⟩:=h.blk
 rcases hr.2 with ⟨e,_⟩|⟨g',c',cur,e,hg',hh,hn,hm,hs,ht⟩
 ·simp at e
 ·simp only[Value.slice.injEq,Option.some.injEq,Addr.mk.injEq,and_true,true_and] at e
  obtain⟨rfl,rfl⟩:=e
  have hzc:(Builtin.zeroCells (Value.string ByteArray.empty).cells m.sec.length).toList=List.replicate m.sec.length (.string ByteArray.empty):=by
   simp[Builtin.zeroCells,Value.cells]
   apply Zp
   ·simp
   ·intro i h1 h2
    simp[YP]
  have hst:=run_storeCells_at prog s 0 9 (List.replicate m.sec.length (.string ByteArray.empty)) 0 cur w hh (by simp;omega) (by intro v hv;rw[YT hv];rfl)
  simp only[ZK,List.take_zero,QI,Qr,Zz] at hst
  refine⟨_,?_,⟨⟨cap',?_,?_⟩,owns_move h.wait (λk e=>setRow_other w s k (List.replicate m.sec.length (Value.string ByteArray.empty)++cur.toList.drop m.sec.length).toArray (λe'=>hsw (e.trans (by rw[e'])))),by simpa using h.ok,by simpa using h.pos,by simpa using h.most,h.fits⟩,?_⟩
  ·exact run_clear_row _ _ _ _ _ _ hpos (zero_string w) hzc hst
  ·rw[setRow_other w s g _ hgs]
   simpa using hb
  ·refine⟨by simp,.inr ⟨s,cap',_,by simp,hg',setRow_heap w s cur _ _ _ hh,by simpa using hn,hm,?_,?_⟩⟩
   ·simp at hs⊢
    omega
   ·simp
  ·exact⟨rfl,rfl,rfl,by simp,λi hi hn=>setRow_other w s i _ (λe=>hn (e▸foot_s _ _ _))⟩
theorem replace_at{w:World}{g:Nat}{S:Nat→Prop}{m:Dsk}(h:At w g S m):
  Calls prog 222 #[.pointer (some ⟨g,0,none⟩)] w λe w'=>e=.returned (.int .i64 0)∧Step w w' S λS'=>At w' g S' {m with gone:=false,wait:=[],sec:=List.replicate m.sec.length ByteArray.empty}:=by
 obtain⟨s,wv,h,rfl⟩:=h
 obtain⟨cap,hcap,c0,c1,c2,c3,cf, -, -⟩:=h.reads
 have f2:=cf 2
 have f3:=cf 3
 clear cf
 have h2:=(h.setGone false).setWait (.slice none 0 0) [] (World.ownsRow_nil _ _ _ _) (by simp)
 have fr2:Fr (foot g s wv) w ((w.setCell ⟨g,3,none⟩ (.bool false)).setCell ⟨g,2,none⟩ (.slice none 0 0)):=((Fr.refl _ w).setCell (p:=⟨g,3,none⟩) (.inl (foot_g _ _ _)) _).setCell (p:=⟨g,2,none⟩) (.inl (foot_g _ _ _)) _
 obtain⟨w3,hcl,h3,fr3⟩:=h2.clears cap
 have H3:=Qg h3
 have FR:=Qg (fr2.then fr3 (λi _ hi=>by
  rcases hi with rfl|rfl|hi
  ·exact foot_g _ _ _
  ·exact foot_s _ _ _
  ·simp[Value.ownBlock] at hi))
 clear h h2 h3 fr2 fr3
 go_enter func222,ntmps222
 go_wp2
 go_ret
 refine⟨rfl,_,⟨s,_,H3.out,rfl⟩,FR.out,?_⟩
 rintro k (rfl|rfl|hk)
 ·exact .inl (foot_g _ _ _)
 ·exact .inl (foot_s _ _ _)
 ·simp[Value.ownBlock] at hk
theorem do_at{w:World}{g s:Nat}{wv:Value}{m:Dsk}(h:IsDisk w g s wv m)(n:Nat)(x:ByteArray)(hn:n<m.sec.length):
  Calls prog 342 #[.agg #[.int .i64 (n:Int),.string x],.pointer (some ⟨g,0,none⟩)] w λe w'=>e=.returned (.tuple #[])∧IsDisk w' g s wv {m with sec:=m.sec.set n x}∧Fr (foot g s wv) w w':=by
 have hA:=Qg (h.alloc (.cells #[.int .i64 (n:Int),.string x] 127)).drew
 obtain⟨cap,hcap,c0, -, -, -, -,cs,cz⟩:=hA.out.reads
 have cn:=cs n m.sec[n] (Qc hn)
 have zn:=cz n
 have d0:((w.alloc (.cells #[.int .i64 (n:Int),.string x] 127)).drew).cell? ⟨w.heap.size,0,none⟩=_:=cell_of_row _ w.heap.size 0 _ _ _ (heap_alloc_new w (.cells #[.int .i64 (n:Int),.string x] 127))
 have d1:((w.alloc (.cells #[.int .i64 (n:Int),.string x] 127)).drew).cell? ⟨w.heap.size,1,none⟩=_:=cell_of_row _ w.heap.size 1 _ _ _ (heap_alloc_new w (.cells #[.int .i64 (n:Int),.string x] 127))
 simp only[Qq,ZJ,ZV] at d0 d1
 clear cs cz h
 go_enter func342,ntmps342
 go_wp2
 go_still_tail 9,(by kernel_rfl)
 change wpStill _ _ (w.alloc (.cells #[.int .i64 (n:Int),.string x] 127)).drew _ _ _
 repeat still_step
 refine wpStill_nil ?_
 change wpList _ _ _ _ _ (w.alloc _).drew
 go_wp2
 go_end0
 exact⟨rfl,(hA.out.setSec n x),(((Fr.refl _ w).alloc _).setCell (p:=⟨s,n,none⟩) (.inl (foot_s _ _ _)) _).drew⟩
def kept:List ByteArray→List (Nat×ByteArray)→List Bool→List ByteArray
 |L,x::xs,b::bs=>kept (if b=true then L.set x.1 x.2 else L) xs bs
 |L,_,_=>L
theorem crash_gone(v:Value){w:World}{g:Nat}{S:Nat→Prop}{m:Dsk}(h:At w g S m)(hg:m.gone=true):Calls prog 128 #[.pointer (some ⟨g,0,none⟩),v] w λe w'=>e=.returned (.int .i64 8)∧w=w':=by
 have hk:=works_at h
 unfold worksE at hk
 rw[if_pos hg] at hk
 have HK:=Qg hk
 clear hk h
 go_enter func128,ntmps128
 go_wp2_with (go_at_call 60;refine(HK.out).mono ?_;rintro e w1 ⟨rfl,rfl⟩)
 go_ret
 exact⟨rfl,rfl⟩
theorem kept_step:∀(ws:List (Nat×ByteArray)) (bs:List Bool) (L:List ByteArray) (k:Nat) (x:Nat×ByteArray),ws[k]? =some x→
  kept L (ws.take (k+1)) bs=if bs[k]? =some true then(kept L (ws.take k) bs).set x.1 x.2 else kept L (ws.take k) bs
 |[],_,_,_,_,h=>by simp at h
 |y::ys,[],L,k,x,h=>by cases k<;>simp[kept]
 |y::ys,b::bs,L,0,x,h=>by
  simp at h
  subst h
  cases b<;>cases ys<;>simp[kept]
 |y::ys,b::bs,L,k+1,x,h=>by
  simp only[List.take_succ_cons,kept,ZV]
  exact kept_step ys bs _ k x (by simpa using h)
theorem length_kept:∀(ws:List (Nat×ByteArray)) (bs:List Bool) (L:List ByteArray),(kept L ws bs).length=L.length
 |[],_,_=>by simp[kept]
 |_::_,[],_=>by simp[kept]
 |x::xs,b::bs,L=>by
  rw[kept,length_kept xs bs]
  split<;>simp
theorem IsDisk.waits{w:World}{g s:Nat}{wv:Value}{m:Dsk}(h:IsDisk w g s wv m):∃A c,wv=.slice A m.wait.length c∧m.wait.length≤9223372036854775807∧
  ∀(wx:World) (mx:Dsk),IsDisk wx g s wv mx→mx.wait=m.wait→∀(j:Nat) x,m.wait[j]? =some x→∃ad,A=some ad∧wx.cell? (ad.add j)=some (ev x)∧wx.frozen? (ad.add j)=false:=by
 rcases owns_form h.wait with ⟨rfl,hn⟩|⟨gw,cw,rfl, -, -,hnc,hcm⟩
 ·refine⟨none,0,by rw[hn],by omega,λwx mx _ _ j x hx=>?_⟩
  have:=(Qe.1 hx).1
  omega
 ·refine⟨some ⟨gw,0,none⟩,cw,rfl,by unfold maxLen at hcm;omega,λwx mx hx he j x hj=>⟨_,rfl,?_,?_⟩⟩
  ·have hw:=hx.wait
   rw[he] at hw
   exact hw.cells rfl j (ev x) (by rw[Qp,hj];rfl)
  ·have hw:=hx.wait
   rw[he] at hw
   have hadd:(⟨gw,0,none⟩:Addr).add j=⟨gw,j,none⟩:=by unfold Addr.add;split<;>simp_all
   rw[hadd]
   exact hw.frozenAt j
structure CrashW(w:World)(g s:Nat)(wv:Value)(m:Dsk)(L:List ByteArray)(wx:World):Prop where
 disk:IsDisk wx g s wv {m with sec:=L}
 fr:Fr (foot g s wv) w wx
theorem crash_yes{w:World}{g s:Nat}{wv:Value}{m:Dsk}(h:IsDisk w g s wv m)(hg:m.gone=false)(A:Option Addr)(c:Nat)(bs:List Bool)
  (hr:∀(j:Nat) b,bs[j]? =some b→∃ad,A=some ad∧w.cell? (ad.add j)=some (.bool b)∧¬foot g s wv ad.block):
  Calls prog 128 #[.pointer (some ⟨g,0,none⟩),.slice A bs.length c] w λe w'=>e=.returned (.int .i64 0)∧
   Step w w' (foot g s wv) λS'=>At w' g S' {m with wait:=[],sec:=kept m.sec m.wait bs}:=by
 have hk:=works_any h
 unfold worksE at hk
 rw[if_neg (by rw[hg];decide)] at hk
 have HK:=Qg hk
 clear hk
 obtain⟨cap,hcap, -, -,c2, -,cf, -, -⟩:=h.reads
 have f2:=cf 2
 clear cf
 obtain⟨W,cw,hwv,hlen,hW⟩:=h.waits
 have HW:=Qg hW
 have H:=Qg h
 have HR:=Qg hr
 rw[hwv] at c2
 have HV:=Qg hwv
 clear h hr hW hwv
 go_enter func128,ntmps128
 go_wp2_with (first|(go_at_call 60;refine(HK.out).mono ?_;rintro e w1 ⟨rfl,rfl⟩))
 clear c2 f2
 go_loopg [18] m.wait.length (λq v18 wx=>∃k:Nat,k+q=m.wait.length∧v18=.int .i64 (k:Int)∧Aside (CrashW w g s wv m (kept m.sec (m.wait.take k) bs) wx))
 case atStart=>exact⟨0,by omega,rfl,by simpa [kept] using H.out,Fr.refl _ _⟩
 case round=>
  obtain⟨k,hkq,rfl,HI⟩:=hrel
  cases gk with
  |zero=>
   obtain rfl:k=m.wait.length:=by omega
   have hfz:=HI.out.disk.reads
   obtain⟨_,_, -, -,c2, -,cf, -, -⟩:=hfz
   have f2:=cf 2
   simp only[HV.out] at c2
   clear cf
   go_wp2
   go_ret
   have hd:=HI.out.disk.setWait (.slice none 0 0) [] (World.ownsRow_nil _ _ _ _) (by simp)
   rw[QU (Qd _)] at hd
   simp only[hg] at hd
   refine⟨rfl,_,⟨s,_,hd,rfl⟩,HI.out.fr.setCell (p:=⟨g,2,none⟩) (.inl (foot_g _ _ _)) _,?_⟩
   rintro j (rfl|rfl|hk)
   ·exact .inl (foot_g _ _ _)
   ·exact .inl (foot_s _ _ _)
   ·simp[Value.ownBlock] at hk
  |succ q=>
   have hm:k<m.wait.length:=by omega
   have hmi:(k:Int)<(m.wait.length:Int):=by omega
   obtain⟨x,hx⟩:∃x,m.wait[k]? =some x:=⟨_,Qc hm⟩
   obtain⟨ad,rfl,hc, -⟩:=HW.out wr _ HI.out.disk rfl k x hx
   unfold ev at hc
   have hin:x.1<(kept m.sec (m.wait.take k) bs).length:=by rw[length_kept];exact H.out.ok x (Qj hx)
   have HS:=Qg (kept_step m.wait bs m.sec k x hx)
   clear hx
   by_cases hb:k<bs.length
   ·obtain⟨b,hbk⟩:∃b,bs[k]? =some b:=⟨_,Qc hb⟩
    obtain⟨bd,rfl,hbc,hbf⟩:=HR.out k b hbk
    have hbc':=HI.out.fr.cell hbc (by rw[addr_block];exact hbf)
    have hbi:(k:Int)<(bs.length:Int):=by omega
    have HB:=Qg hbk
    clear hbc hbf hbk
    cases b with
    |true=>
     have HD:=Qg (do_at HI.out.disk x.1 x.2 hin)
     have hm:∀w:World,(method 505 127 (.agg #[.int .i64 (x.1:Int),.string x.2]) "sheetpile/disk.do").run prog w=.ok (342,.agg #[.int .i64 (x.1:Int),.string x.2]) w:=λ_=>by kernel_rfl
     go_wp2_with (go_at_call 342;refine(HD.out).mono ?_;rintro e w1 ⟨rfl,hd1,hf1⟩)
     go_roundg q
     case measure=>omega
     case rel=>
      refine⟨k+1,by omega,by go_num,?_,?_⟩
      ·rw[HS.out,if_pos HB.out]
       exact hd1
      ·exact HI.out.fr.then hf1 (λ_ _ h=>h)
    |false=>
     go_wp2
     go_roundg q
     case measure=>omega
     case rel=>
      refine⟨k+1,by omega,by go_num,?_,HI.out.fr⟩
      rw[HS.out,if_neg (by rw[HB.out];simp)]
      exact HI.out.disk
   ·have hbi:¬(k:Int)<(bs.length:Int):=by omega
    go_wp2
    go_roundg q
    case measure=>omega
    case rel=>
     refine⟨k+1,by omega,by go_num,?_,HI.out.fr⟩
     rw[HS.out,if_neg (by rw[Qx (by omega)];simp)]
     exact HI.out.disk
def ReadsBools(w:World)(S:Nat→Prop)(A:Option Addr)(bs:List Bool):Prop:=∀(j:Nat) b,bs[j]? =some b→∃ad,A=some ad∧w.cell? (ad.add j)=some (.bool b)∧¬S ad.block
def crashed(m:Dsk)(bs:List Bool):Dsk:=if m.gone=true then m else {m with wait:=[],sec:=kept m.sec m.wait bs}
theorem crash_at{w:World}{g:Nat}{S:Nat→Prop}{m:Dsk}(h:At w g S m)(A:Option Addr)(c:Nat)(bs:List Bool)(hr:ReadsBools w S A bs):
  Calls prog 128 #[.pointer (some ⟨g,0,none⟩),.slice A bs.length c] w λe w'=>e=.returned (.int .i64 (worksE m))∧Step w w' S λS'=>At w' g S' (crashed m bs):=by
 unfold worksE crashed
 cases hg:m.gone with
 |true=>
  rw[if_pos rfl,if_pos rfl]
  refine(crash_gone _ h hg).mono ?_
  rintro e w' ⟨rfl,rfl⟩
  exact⟨rfl,S,h,Fr.refl _ _,λk hk=>.inl hk⟩
 |false=>
  rw[if_neg (by decide),if_neg (by decide)]
  obtain⟨s,wv,h,rfl⟩:=h
  have:=crash_yes h hg A c bs hr
  rw[hg] at this
  exact this
end Go.Proofs.YtjambljmnifknaaGreatDoor.Dk
namespace Go.Proofs.YtjambljmnifknaaGreatDoor.Dk
open Go.RowKit Go.Shelf
theorem assert_ok(v:Value)(w:World):(Instr.typeAssert (.iface 127 v) 66 127 true).run prog w=.ok (.tuple #[v,.bool true]) w:=by kernel_rfl
theorem assert_as(v:Value)(w:World):(Instr.typeAssert (.iface 127 v) 66 127 false).run prog w=.ok v w:=by kernel_rfl
theorem field_text(a b:Value)(w:World):(Instr.field 127 (.agg #[a,b]) 1).run prog w=.ok b w:=by kernel_rfl
theorem of_any(x:Nat×ByteArray)(n:Int)(w:World):Calls prog 30 #[ev x,.int .i64 n] w λe w'=>e=.returned (.bool ((x.1:Int)==n))∧w'=w.alloc (.cells #[.int .i64 (x.1:Int),.string x.2] 127):=by
 unfold ev
 have hta:=assert_ok (.agg #[.int .i64 (x.1:Int),.string x.2]) w
 go_enter func30,ntmps30
 go_wp2
 go_ret
 exact⟨rfl,rfl⟩
abbrev Ev:=Nat×ByteArray
def noEv:Ev:=(0,ByteArray.empty)
def upto{α:Type}(f:Nat→α)(k:Nat):List α:=(List.range k).map f
theorem upto_succ{α:Type}(f:Nat→α)(k:Nat):upto f (k+1)=upto f k++[f k]:=by simp[upto,ZC]
theorem upto_length{α:Type}(f:Nat→α)(k:Nat):(upto f k).length=k:=by simp[upto]
def nth(ws:List Ev)(k:Nat):Nat×Ev:=(ws.length-1-k,ws.getD (ws.length-1-k) noEv)
attribute [local go_sem] Oper.semAt_some
theorem back1_in(F:Fence)(n:Nat)(h8:F.fn 240)(hro:F.round=none)(hn:1≤n)(l Bs n₀ b cap:Nat)(ws:List Ev)(hreach:ws.length≤9223372036854775807)(hb:b<n₀)(hBn:Bs<n₀)(J Jx:List (Nat×Ev)→World→Prop)
  (hY:∀pre x W,J pre W→pre.length<ws.length→YieldAt F (n-1) prog l #[.int .i64 (x.1:Int),ev x.2] W λe W'=>
   (e=.returned (.bool true)∧J (pre++[x]) W'∧Below n₀ W W')∨(e=.returned (.bool false)∧Jx (pre++[x]) W'))
  (W:World) (hBs:W.cell? ⟨Bs,0,none⟩=some (.slice (some ⟨b,0,none⟩) ws.length cap)) (hc:∀j,j<ws.length→W.cell? ⟨b,j,none⟩=some (ev (ws.getD j noEv))) (h0:J [] W):
  CallsIn F n prog 240 #[.func (.yield l) #[] #[],.pointer (some ⟨Bs,0,none⟩)] W λe W'=>(∃v,e=.returned v)∧
   ((∃ys,ys=upto (nth ws) ws.length∧J ys W')∨(∃pre,(∃k,k≤ws.length∧pre=upto (nth ws) k)∧Jx pre W')):=by
 refine callsIn_of_wp func240 rfl h8 ?_ hro
 simp only[ntmps240,Q8,Qo,Q0,Nat.reduceAdd,Nat.reduceSub,Q2,Q1,Zd,Q5,QI,QR]
 gi_wp2
 gi_loopw [3] (λi wr=>∃k:Nat,k≤ws.length∧i=.int .i64 (((ws.length-k:Nat):Int)-1)∧J (upto (nth ws) k) wr∧Below n₀ W wr)
  (λi _=>(intOf i+1).toNat)
 case atStart=>exact⟨0,Qk _,rfl,h0,Below.refl _ _⟩
 case round=>
  obtain⟨k,hk,rfl,hJs,hnx⟩:=hrel
  by_cases hlt:k<ws.length
  ·obtain⟨j,hj⟩:∃j,ws.length-k=j+1:=⟨ws.length-k-1,by omega⟩
   have hj1:((ws.length-k:Nat):Int)-1=(j:Int):=by omega
   have hnth:nth ws k=(j,ws.getD j noEv):=by
    unfold nth
    rw[show ws.length-1-k=j by omega]
   have hjl:j<ws.length:=by omega
   have hji:(j:Int)<(ws.length:Int):=by omega
   have hcx:wr.cell? ⟨b,j,none⟩=some (ev (ws.getD j noEv)):=(hnx.cell (p:=⟨b,j,none⟩) hb).trans (hc j hjl)
   have hbx:wr.cell? ⟨Bs,0,none⟩=some (.slice (some ⟨b,0,none⟩) ws.length cap):=(hnx.cell (p:=⟨Bs,0,none⟩) hBn).trans hBs
   obtain⟨fn,tmps,assign,body,hy,hR⟩:=hY _ (nth ws k) wr hJs (by rw[upto_length];exact hlt)
   rw[hnth] at hy hR
   dsimp only at hy
   rw[hj1]
   generalize hev:ev (ws.getD j noEv)=xv at hcx hy
   gi_wp2
   refine hR.mono ?_
   rintro e W3 (⟨rfl,hJ3,hk3⟩|⟨rfl,hJx3⟩)
   ·gi_wp2
    go_roundw
    case rel=>exact⟨k+1,by omega,by rw[show ws.length-(k+1)=j by omega],by rw[upto_succ,hnth];exact hJ3,hnx.trans hk3⟩
    case measure=>simp[intOf]
   ·gi_wp2
    refine bodyPost_ret (results_none rfl _ _ _) rfl ?_
    exact⟨⟨_,rfl⟩,.inr ⟨_,⟨k+1,by omega,(upto_succ _ _).symm⟩,by rw[hnth];exact hJx3⟩⟩
  ·obtain rfl:k=ws.length:=by omega
   rw[ZA]
   gi_wp2
   go_end0
   exact⟨⟨_,rfl⟩,.inl ⟨_,rfl,hJs⟩⟩
theorem back1_nil_in(F:Fence)(n:Nat)(h8:F.fn 240)(hro:F.round=none)(l Bs:Nat)(J:List (Nat×Ev)→World→Prop)(W:World)(hBs:W.cell? ⟨Bs,0,none⟩=some (.slice none 0 0))(h0:J [] W):
  CallsIn F n prog 240 #[.func (.yield l) #[] #[],.pointer (some ⟨Bs,0,none⟩)] W λe W'=>(∃v,e=.returned v)∧J [] W':=by
 refine callsIn_of_wp func240 rfl h8 ?_ hro
 simp only[ntmps240,Q8,Qo,Q0,Nat.reduceAdd,Nat.reduceSub,Q2,Q1,Zd,Q5,QI,QR]
 gi_wp2
 gi_loopw [3] (λi wr=>i=.int .i64 (-1)∧J [] wr) (λ_ _=>0)
 case atStart=>exact⟨rfl,h0⟩
 case round=>
  obtain⟨rfl,hJs⟩:=hrel
  gi_wp2
  go_end0
  exact⟨⟨_,rfl⟩,hJs⟩
theorem backward_in(F:Fence)(n:Nat)(h6:F.fn 186)(hro:F.round=none)(a:Option Addr)(len cap:Nat)(w:World):
  CallsIn F n prog 186 #[.slice a len cap] w λe w'=>e=.returned (.func (.func 240) #[] #[.pointer (some ⟨w.heap.size,0,none⟩)])∧w'=w.alloc (.cells #[.slice a len cap] 60):=by
 refine callsIn_of_wp func186 rfl h6 ?_ hro
 simp only[ntmps186,Q8,Qo,Q0,Nat.reduceAdd,Nat.reduceSub,Q2,Q1,Zd,Q5,QI,QR]
 gi_wp2
 go_ret
 exact⟨rfl,rfl⟩
def Evs(n₀:Nat)(W:World)(sv:Value)(ws:List Ev):Prop:=
 (sv=.slice none 0 0∧ws=[])∨∃b cap,sv=.slice (some ⟨b,0,none⟩) ws.length cap∧b<n₀∧∀j,j<ws.length→W.cell? ⟨b,j,none⟩=some (ev (ws.getD j noEv))
theorem Evs.below{n₀:Nat}{A B:World}(h:Below n₀ A B){sv:Value}{ws:List Ev}:Evs n₀ A sv ws→Evs n₀ B sv ws
 | .inl e=>.inl e
 | .inr ⟨b,cap,e,hb,hc⟩=>.inr ⟨b,cap,e,hb,λj hj=>(h.cell (p:=⟨b,j,none⟩) hb).trans (hc j hj)⟩
theorem back_stops(F:Fence)(n:Nat)(h8:F.fn 240)(hro:F.round=none)(hn:1≤n)(Bs n₀:Nat)(sv:Value)(ws:List Ev)(hreach:ws.length≤9223372036854775807)(w:World)(hBn:Bs<n₀)(hn₀:n₀≤w.heap.size)
  (hc:w.cell? ⟨Bs,0,none⟩=some sv) (hI:Evs n₀ w sv ws):
  SeqStopsK F n prog 240 #[.pointer (some ⟨Bs,0,none⟩)] (λx:Nat×Ev=>#[Value.int .i64 (x.1:Int),ev x.2]) (Below n₀) (λys=>ys=upto (nth ws) ws.length)
   (λpre=>∃k,k≤ws.length∧pre=upto (nth ws) k) ws.length w:=λl J Jx W hW _ _ hY h0=>by
 have hc':=(hW.cell (p:=⟨Bs,0,none⟩) (show Bs<w.heap.size by omega)).trans hc
 rcases hI.below (hW.mono hn₀) with ⟨rfl,rfl⟩|⟨b,cap,rfl,hb,hcs⟩
 ·exact(back1_nil_in F n h8 hro l Bs J W hc' h0).mono λe W' ⟨he,hj⟩=>⟨he,.inl ⟨_,rfl,hj⟩⟩
 ·exact back1_in F n h8 hro hn l Bs n₀ b cap ws hreach hb hBn J Jx hY W hc' hcs h0
def latest(m:Dsk)(n:Nat):ByteArray:=match m.wait.reverse.find? (λx=>(x.1:Int)==(n:Int)) with
 |some x=>x.2
 |none=>m.sec.getD n ByteArray.empty
theorem nth_rev(ws:List Ev)(k:Nat)(hk:k<ws.length):ws.reverse[k]? =some (nth ws k).2:=by
 unfold nth
 rw[List.getElem?_reverse hk,Ql,Qc (by omega)]
 rfl
theorem latest_of(m:Dsk)(n k:Nat)(hk:k<m.wait.length)(h:∀p∈upto (nth m.wait) k,((p.2.1:Int)==(n:Int))=false)(hl:(((nth m.wait k).2.1:Int)==(n:Int))=true):latest m n=(nth m.wait k).2.2:=by
 unfold latest
 have hf:m.wait.reverse.find? (λx=>(x.1:Int)==(n:Int))=some (nth m.wait k).2:=by
  rw[List.find?_eq_some_iff_getElem]
  refine⟨hl,k,by simpa using hk,?_,?_⟩
  ·have:=nth_rev m.wait k hk
   rw[Qc (by simpa using hk)] at this
   simpa using this
  ·intro j hj
   have:=nth_rev m.wait j (by omega)
   rw[Qc (by simp;omega)] at this
   have e:m.wait.reverse[j]'(by simp;omega)=(nth m.wait j).2:=by simpa using this
   rw[e]
   have:=h (nth m.wait j) (by unfold upto;exact Qw.2 ⟨j,by simpa using hj,rfl⟩)
   simp[this]
 rw[hf]
theorem latest_none(m:Dsk)(n:Nat)(h:∀p∈upto (nth m.wait) m.wait.length,((p.2.1:Int)==(n:Int))=false):latest m n=m.sec.getD n ByteArray.empty:=by
 unfold latest
 have hf:m.wait.reverse.find? (λx=>(x.1:Int)==(n:Int))=none:=by
  rw[List.find?_eq_none]
  intro x hx
  obtain⟨j,hj,e⟩:=Zh hx
  have hj':j<m.wait.length:=by simpa using hj
  have:=nth_rev m.wait j hj'
  rw[Qc hj,e] at this
  have e2:x=(nth m.wait j).2:=by simpa using this
  rw[e2]
  have:=h (nth m.wait j) (by unfold upto;exact Qw.2 ⟨j,by simpa using hj',rfl⟩)
  simp[this]
 rw[hf]
abbrev rw0(w:World)(n:Nat):World:=((w.alloc (.cells #[.int .i64 (n:Int)] 3)).alloc (.cells #[.string ByteArray.empty] 9)).alloc (.cells #[.int .i64 0] 29)
abbrev rw4(w:World)(n:Nat)(sv:Value):World:=(rw0 w n).alloc (.cells #[sv] 60)
theorem IsDisk.evs{w:World}{g s:Nat}{wv:Value}{m:Dsk}(h:IsDisk w g s wv m)(n₀:Nat)(hn:w.heap.size≤n₀):Evs n₀ w wv m.wait:=by
 rcases owns_form h.wait with ⟨rfl,h0⟩|⟨gw,cw,rfl, -,hlt, -, -⟩
 ·exact .inl ⟨rfl,Qm h0⟩
 ·refine .inr ⟨gw,cw,rfl,by omega,λj hj=>?_⟩
  rw[h.wait.cellAt j (by omega),Qp,Qc hj,Ql,Qc hj]
  rfl
theorem read_in(F:Fence)(k:Nat)(hro:F.round=none)(hk3:3≤k)(hR:F.fn 115)(hC:F.fn 27)(hB:F.fn 186)(h240:F.fn 240)(hO:F.fn 30)
  {w:World} {g s:Nat} {wv:Value} {m:Dsk} (h:IsDisk w g s wv m) (n:Nat) (hn:n<m.sec.length)
  (hck:∀j,CallsIn F j prog 27 #[.pointer (some ⟨g,0,none⟩),.int .i64 (n:Int),.string ByteArray.empty] (rw0 w n) λe w'=>e=.returned (.int .i64 0)∧rw0 w n=w')
  (hof:∀j x W,CallsIn F j prog 30 #[ev x,.int .i64 (n:Int)] W λe w'=>e=.returned (.bool ((x.1:Int)==(n:Int)))∧w'=W.alloc (.cells #[.int .i64 (x.1:Int),.string x.2] 127)):
  CallsIn F k prog 115 #[.pointer (some ⟨g,0,none⟩),.int .i64 (n:Int)] w λe w'=>e=.returned (.tuple #[.string (latest m n),.int .i64 0])∧Below w.heap.size w w':=by
 have h1:1≤k:=by omega
 have hd1:1≤k-1-1:=by omega
 have hA:=Qg (((h.alloc (.cells #[.int .i64 (n:Int)] 3)).alloc (.cells #[.string ByteArray.empty] 9)).alloc (.cells #[.int .i64 0] 29))
 obtain⟨cap,hcap,c0,c1,c2,c3,cf,cs, -⟩:=hA.out.reads
 obtain⟨W,cw,hwv,hlen, -⟩:=h.waits
 have HCK:=Qg hck
 have HOF:=Qg hof
 have H:=Qg h
 rw[hwv] at c2
 clear hck hof cs cf h
 refine callsIn_of_wp_marks func115 rfl hR ?_ hro
 simp only[ntmps115,Q8,Qo,Q0,Nat.reduceAdd,Nat.reduceSub,Q2,Q1,Zd,Q5,QI,QR]
 gi_wp2_with (first|(gi_at_call 27;refine(HCK.out _).mono ?_;rintro e w' ⟨rfl,rfl⟩)|(gi_at_call 186;refine(backward_in _ _ hB hro _ _ _ _).mono ?_;rintro e w' ⟨rfl,rfl⟩))
 change Code.wpIn F k prog _ _ _ (rw4 w n (.slice W m.wait.length cw))
 have hw4:(rw4 w n (.slice W m.wait.length cw)).heap.size=w.heap.size+4:=by simp
 have hB0:Below w.heap.size w (rw4 w n (.slice W m.wait.length cw)):=((((Below.refl _ w).alloc (Qd _) _).alloc (by simp) _).alloc (by simp;omega) _).alloc (by simp;omega) _
 have HD4:=Qg (show IsDisk (rw4 w n (.slice W m.wait.length cw)) g s wv m from hA.out.alloc (.cells #[.slice W m.wait.length cw] 60))
 have bN:(rw4 w n (.slice W m.wait.length cw)).cell? ⟨w.heap.size,0,none⟩=some (.int .i64 (n:Int)):=by
  rw[cell_of_row _ w.heap.size 0 _ _ _ ((Below.heap_alloc _ _ _ (by simp;omega)).trans ((Below.heap_alloc _ _ _ (by simp;omega)).trans ((Below.heap_alloc _ _ _ (by simp)).trans (heap_alloc_new w _))))]
  rfl
 have bS:=((Boxed.new (w.alloc (.cells #[.int .i64 (n:Int)] 3)) 9 (.string ByteArray.empty)).alloc (.cells #[.int .i64 0] 29)).alloc (.cells #[.slice W m.wait.length cw] 60)
 have bE:=(Boxed.new ((w.alloc (.cells #[.int .i64 (n:Int)] 3)).alloc (.cells #[.string ByteArray.empty] 9)) 29 (.int .i64 0)).alloc (.cells #[.slice W m.wait.length cw] 60)
 have bB:=Boxed.new (rw0 w n) 60 (.slice W m.wait.length cw)
 have hes:Evs (rw4 w n (.slice W m.wait.length cw)).heap.size (rw4 w n (.slice W m.wait.length cw)) (.slice W m.wait.length cw) m.wait:=by
  have:=HD4.out.evs (rw4 w n (.slice W m.wait.length cw)).heap.size (Qd _)
  rw[hwv] at this
  exact this
 have cS:(rw4 w n (.slice W m.wait.length cw)).cell? ⟨w.heap.size+1,0,none⟩=some (.string ByteArray.empty):=by have:=bS.cell;rwa[World.size_alloc] at this
 have fS:(rw4 w n (.slice W m.wait.length cw)).frozen? ⟨w.heap.size+1,0,none⟩=false:=by have:=bS.frozen;rwa[World.size_alloc] at this
 have cE:(rw4 w n (.slice W m.wait.length cw)).cell? ⟨w.heap.size+1+1,0,none⟩=some (.int .i64 0):=by have:=bE.cell;rwa[World.size_alloc,World.size_alloc] at this
 have fE:(rw4 w n (.slice W m.wait.length cw)).frozen? ⟨w.heap.size+1+1,0,none⟩=false:=by have:=bE.frozen;rwa[World.size_alloc,World.size_alloc] at this
 have cB:(rw4 w n (.slice W m.wait.length cw)).cell? ⟨w.heap.size+1+1+1,0,none⟩=some (.slice W m.wait.length cw):=by have:=bB.cell;rwa[World.size_alloc,World.size_alloc,World.size_alloc] at this
 clear bS bE bB c0 c1 c2 c3
 generalize hW4:rw4 w n (.slice W m.wait.length cw)=w4 at*
 refine wpIn_rangeFunc_ownG hro h1 (gf:=240) (lb:=#[.pointer (some ⟨w.heap.size+1+1+1,0,none⟩)]) rfl h240 (enters_of func240 (by kernel_rfl) rfl)
  (back_stops F (k-1) h240 hro (by omega) (w.heap.size+1+1+1) w4.heap.size _ m.wait hlen w4 (by omega) (Qd _) cB hes) belowK_t (belowK_b (Qd _)) (Below.refl _ _) (λ_=>rfl)
  (λpre W=>(∀p∈pre,((p.2.1:Int)==(n:Int))=false)∧Below w4.heap.size w4 W)
  (λc pre W=>(c=.ret∧∃ini last,pre=ini++[last]∧(∀p∈ini,((p.2.1:Int)==(n:Int))=false)∧((last.2.1:Int)==(n:Int))=true∧W.cell? ⟨w.heap.size+1,0,none⟩=some (.string last.2.2)∧W.cell? ⟨w.heap.size+1+1,0,none⟩=some (.int .i64 0))∧Below w.heap.size w W)
  (λs A B row hs hg hr=>⟨hs.1,hs.2.grown hg (by have:=hs.2.size;omega) (λk e=>(hr k e).1)⟩)
  (λc=>OwnFrom.and (Own.from (λs A B row hs hg hr=>by obtain⟨hc,ini,last,e1,e2,e3,e4,e5⟩:=hs;exact⟨hc,ini,last,e1,e2,e3,cell_kept e4 hg hr,cell_kept e5 hg hr⟩) _) (ownFrom_below (Qd _) (by omega)))
  ⟨by simp,Below.refl _ _⟩
  (λx=>{tmps:=#[Value.pointer (some {block:=g,off:=0}),Value.int IntKind.i64 n,undef,
     Value.pointer (some {block:=w.heap.size,off:=0}),
     Value.pointer (some {block:=w.heap.size+1,off:=0}),
     Value.pointer (some {block:=w.heap.size+1+1,off:=0}),Value.int IntKind.i64 0,undef,ev x.2,
     Value.pointer (some {block:=g,off:=0}),Value.int IntKind.i64 n,Value.int IntKind.i64 0,
     Value.int IntKind.i64 0,Value.bool false,undef,Value.pointer (some {block:=g,off:=0}),
     Value.pointer (some {block:=g,off:=0}),Value.pointer (some {block:=g,off:=2}),
     Value.slice W m.wait.length cw,
     Value.func (Fn.func 240) #[] #[Value.pointer (some {block:=w.heap.size+1+1+1,off:=0})],.int .i64 (x.1:Int),
     ev x.2,undef,undef,undef,undef,undef,undef,undef,undef,undef,undef,undef,undef,undef],defers:=[]}) ?assign ?body ?done ?stop
 case assign=>
  intro l x W K hK
  gi_wp2
  exact hK
 case body=>
  rintro l pre x W ⟨hp,hB⟩ _
  have hcn:=(hB.cell (p:=⟨w.heap.size,0,none⟩) (show w.heap.size<_ by omega)).trans bN
  have HO:=Qg (λj=>CallsIn.inRound l (HOF.out j x.2 W))
  have hta:=assert_as (.agg #[.int .i64 (x.2.1:Int),.string x.2.2]) (W.alloc (.cells #[.int .i64 (x.2.1:Int),.string x.2.2] 127))
  change (Instr.typeAssert (ev x.2) _ _ _).run _ _=_ at hta
  have hft:=field_text (.int .i64 (x.2.1:Int)) (.string x.2.2) (W.alloc (.cells #[.int .i64 (x.2.1:Int),.string x.2.2] 127))
  have hBa:Below w4.heap.size w4 (W.alloc (.cells #[.int .i64 (x.2.1:Int),.string x.2.2] 127)):=hB.alloc hB.size _
  have hWa:Below w4.heap.size W (W.alloc (.cells #[.int .i64 (x.2.1:Int),.string x.2.2] 127)):=(Below.refl _ W).alloc hB.size _
  have pS:=(hBa.cell (p:=⟨w.heap.size+1,0,none⟩) (show w.heap.size+1<_ by omega)).trans cS
  have pE:=(hBa.cell (p:=⟨w.heap.size+1+1,0,none⟩) (show w.heap.size+1+1<_ by omega)).trans cE
  have qS:=(World.frozen?_of_block (a:=⟨w.heap.size+1,0,none⟩) (hBa.block (w.heap.size+1) (by omega))).trans fS
  have qE:=(World.frozen?_of_block (a:=⟨w.heap.size+1+1,0,none⟩) (hBa.block (w.heap.size+1+1) (by omega))).trans fE
  cases hb:((x.2.1:Int)==(n:Int)) with
  |true=>
   rw[hb] at HO
   gi_wp2_with (gi_at_call 30;refine(HO.out _).mono ?_;rintro e w' ⟨rfl,rfl⟩)
   refine⟨?_,⟨rfl,pre,x,rfl,hp,hb,?_,?_⟩,?_⟩
   ·exact(((KeepsOthers.alloc W _).trans (KeepsOthers.setCell _ _ _)).trans (KeepsOthers.setCell _ _ _)).from _
   ·rw[World.cell?_setCell_other _ _ _ _ (by simp)]
    exact World.cell?_setCell_same _ _ _ pS
   ·exact World.cell?_setCell_same' _ _ _ (by rw[World.cell?_setCell_other _ _ _ _ (by simp),pE];rfl)
   ·exact(((hB0.trans (hBa.mono (by omega))).setCell (p:=⟨w.heap.size+1,0,none⟩) (show w.heap.size≤w.heap.size+1 by omega) _).setCell (p:=⟨w.heap.size+1+1,0,none⟩) (show w.heap.size≤w.heap.size+1+1 by omega) _)
  |false=>
   rw[hb] at HO
   gi_wp2_with (gi_at_call 30;refine(HO.out _).mono ?_;rintro e w' ⟨rfl,rfl⟩)
   refine⟨(KeepsOthers.alloc W _).from _,hWa,?_,hBa⟩
   intro p hp'
   rcases Qz.1 hp' with hp'|hp'
   ·exact hp p hp'
   ·simp at hp'
    subst hp'
    exact hb
 case done=>
  rintro D ys W hD rfl ⟨hne,hB⟩ hK
  have hcn:=(hB.cell (p:=⟨w.heap.size,0,none⟩) (show w.heap.size<_ by omega)).trans bN
  have pS:=(hB.cell (p:=⟨w.heap.size+1,0,none⟩) (show w.heap.size+1<_ by omega)).trans cS
  have pE:=(hB.cell (p:=⟨w.heap.size+1+1,0,none⟩) (show w.heap.size+1+1<_ by omega)).trans cE
  have qS:=(World.frozen?_of_block (a:=⟨w.heap.size+1,0,none⟩) (hB.block (w.heap.size+1) (by omega))).trans fS
  have qE:=(World.frozen?_of_block (a:=⟨w.heap.size+1+1,0,none⟩) (hB.block (w.heap.size+1+1) (by omega))).trans fE
  have HD:=HD4.out.keep (w':=W) (λk hk=>hB.block k (HD4.out.lt k hk))
  obtain⟨cap',hcap',c0, -, -, -, -,cs, -⟩:=HD.reads
  have cn:=cs n m.sec[n] (Qc hn)
  clear cs HD
  gi_wp2
  gi_region
  all_goals
   gi_wp2
   refine⟨by simp,.inl ⟨_,_,rfl,run_takeDeferred ((((KeepsOthers.setCell W _ _).trans (KeepsOthers.setCell _ _ _)).same D _ hK rfl)),?_⟩⟩
   have hK':((W.setCell ⟨w.heap.size+1,0,none⟩ (.string m.sec[n])).setCell ⟨w.heap.size+1+1,0,none⟩ (.int .i64 0)).drew.heap[D]? =some (.deferred (some [])):=(((KeepsOthers.setCell W _ _).trans (KeepsOthers.setCell _ _ _)).same D _ hK rfl)
   have d4:((W.setCell ⟨w.heap.size+1,0,none⟩ (.string m.sec[n])).setCell ⟨w.heap.size+1+1,0,none⟩ (.int .i64 0)).drew.cell? ⟨w.heap.size+1,0,none⟩=some (.string m.sec[n]):=by
    show((W.setCell ⟨w.heap.size+1,0,none⟩ (.string m.sec[n])).setCell ⟨w.heap.size+1+1,0,none⟩ (.int .i64 0)).cell? _=_
    rw[World.cell?_setCell_other _ _ _ _ (by simp)]
    exact World.cell?_setCell_same _ _ _ pS
   have d5:((W.setCell ⟨w.heap.size+1,0,none⟩ (.string m.sec[n])).setCell ⟨w.heap.size+1+1,0,none⟩ (.int .i64 0)).drew.cell? ⟨w.heap.size+1+1,0,none⟩=some (.int .i64 0):=
    World.cell?_setCell_same' _ _ _ (by rw[World.cell?_setCell_other _ _ _ _ (by simp),pE];rfl)
   have c4:=cell_kept d4 (grownBy_putObj' _ D (.deferred none)) (λr e=>by cases e;exact⟨_,hK',rfl⟩)
   have c5:=cell_kept d5 (grownBy_putObj' _ D (.deferred none)) (λr e=>by cases e;exact⟨_,hK',rfl⟩)
   have hl:latest m n=m.sec[n]:=(latest_none m n hne).trans (by rw[Ql,Qc hn];rfl)
   have hBl:Below w.heap.size w ((W.setCell ⟨w.heap.size+1,0,none⟩ (.string m.sec[n])).setCell ⟨w.heap.size+1+1,0,none⟩ (.int .i64 0)).drew:=
    (((hB0.trans (hB.mono (by omega))).setCell (p:=⟨w.heap.size+1,0,none⟩) (show w.heap.size≤w.heap.size+1 by omega) _).setCell (p:=⟨w.heap.size+1+1,0,none⟩) (show w.heap.size≤w.heap.size+1+1 by omega) _).drew
   refine⟨.tuple #[.string (latest m n),.int .i64 0],?_,rfl,hBl.trans (belowK_b (w:=w) (Qd _) _ D _ _ (by omega) hK' rfl rfl)⟩
   rw[hl]
   simp[results,Tryz.f115,go_sem,c4,c5]
 case stop=>
  rintro D c pre W hD ⟨k',hk',rfl⟩ ⟨⟨rfl,ini,last,e1,e2,e3,e4,e5⟩,hB⟩ hK
  gi_wp2
  refine⟨by simp,.inl ⟨_,_,rfl,run_takeDeferred hK,?_⟩⟩
  have c4:=cell_kept e4 (grownBy_putObj' _ D (.deferred none)) (λr e=>by cases e;exact⟨_,hK,rfl⟩)
  have c5:=cell_kept e5 (grownBy_putObj' _ D (.deferred none)) (λr e=>by cases e;exact⟨_,hK,rfl⟩)
  obtain⟨k'',rfl⟩:∃k'',k'=k''+1:=by
   cases k' with
   |zero=>simp[upto] at e1
   |succ k''=>exact⟨k'',rfl⟩
  rw[upto_succ] at e1
  obtain⟨rfl,e6⟩:=List.append_inj' e1 rfl
  obtain rfl:nth m.wait k''=last:=by simpa using e6
  have hl:latest m n=(nth m.wait k'').2.2:=latest_of m n k'' (by omega) e2 e3
  refine⟨.tuple #[.string (latest m n),.int .i64 0],?_,rfl,hB.trans (belowK_b (w:=w) (Qd _) W D _ _ (by omega) hK rfl rfl)⟩
  rw[hl]
  simp[results,Tryz.f115,go_sem,c4,c5]
end Go.Proofs.YtjambljmnifknaaGreatDoor.Dk
namespace Go.Proofs.YtjambljmnifknaaGreatDoor.Dk
open Go.RowKit Go.Shelf
attribute [local go_sem] Oper.semAt_some
theorem results_boxes2{b1 b2:Nat}{u v:Value}(W:World)(h1:W.cell? ⟨b1,0,none⟩=some u)(h2:W.cell? ⟨b2,0,none⟩=some v){x0 x1 x2 x3:Value}{ys:List Value}:
  (results Tryz.f115 (x0::x1::x2::x3::.pointer (some ⟨b1,0,none⟩)::.pointer (some ⟨b2,0,none⟩)::ys).toArray).run prog W=.ok (.tuple #[u,v]) W:=by
 simp[results,Tryz.f115,go_sem,h1,h2]
abbrev rwi(w:World)(n:Int):World:=((w.alloc (.cells #[.int .i64 n] 3)).alloc (.cells #[.string ByteArray.empty] 9)).alloc (.cells #[.int .i64 0] 29)
theorem read_err_in(F:Fence)(k:Nat)(hro:F.round=none)(hk3:3≤k)(hR:F.fn 115)(hC:F.fn 27)
  (w:World) (p:Option Addr) (n z:Int) (hz:z≠0)
  (hck:∀j,CallsIn F j prog 27 #[.pointer p,.int .i64 n,.string ByteArray.empty] (rwi w n) λe w'=>e=.returned (.int .i64 z)∧rwi w n=w'):
  CallsIn F k prog 115 #[.pointer p,.int .i64 n] w λe w'=>e=.returned (.tuple #[.string ByteArray.empty,.int .i64 z])∧Below w.heap.size w w':=by
 have h1:1≤k:=by omega
 have HCK:=Qg hck
 clear hck
 refine callsIn_of_wp_marks func115 rfl hR ?_ hro
 simp only[ntmps115,Q8,Qo,Q0,Nat.reduceAdd,Nat.reduceSub,Q2,Q1,Zd,Q5,QI,QR]
 gi_wp2_with (first|(gi_at_call 27;refine(HCK.out _).mono ?_;rintro e w' ⟨rfl,rfl⟩))
 have bS:=(Boxed.new (w.alloc (.cells #[.int .i64 n] 3)) 9 (.string ByteArray.empty)).alloc (.cells #[.int .i64 z] 29)
 have bE:=Boxed.new ((w.alloc (.cells #[.int .i64 n] 3)).alloc (.cells #[.string ByteArray.empty] 9)) 29 (.int .i64 z)
 have c4:=bS.cell
 have c5:=bE.cell
 rw[World.size_alloc] at c4
 rw[World.size_alloc,World.size_alloc] at c5
 have hB0:Below w.heap.size w (((w.alloc (.cells #[.int .i64 n] 3)).alloc (.cells #[.string ByteArray.empty] 9)).alloc (.cells #[.int .i64 z] 29)):=(((Below.refl _ w).alloc (Qd _) _).alloc (by simp) _).alloc (by simp;omega) _
 refine⟨.tuple #[.string ByteArray.empty,.int .i64 z],?_,rfl,hB0⟩
 exact results_boxes2 _ c4 c5
theorem IsDisk.boxes{w:World}{g s:Nat}{wv:Value}{m:Dsk}(h:IsDisk w g s wv m)(n:Int):IsDisk (rwi w n) g s wv m:=((h.alloc _).alloc _).alloc _
def readV(m:Dsk)(n:Int):ByteArray:=if checkE m n 0=0 then latest m n.toNat else ByteArray.empty
theorem read_below{w:World}{g:Nat}{S:Nat→Prop}{m:Dsk}(h:At w g S m)(n:Int):
  Calls prog 115 #[.pointer (some ⟨g,0,none⟩),.int .i64 n] w λe w'=>e=.returned (.tuple #[.string (readV m n),.int .i64 (checkE m n 0)])∧Below w.heap.size w w':=by
 obtain⟨s,wv,h,rfl⟩:=h
 have hk:=check_any (h.boxes n) n ByteArray.empty
 rw[show ByteArray.empty.size=0 from rfl] at hk
 unfold readV
 by_cases he:checkE m n 0=0
 ·obtain⟨h1,h2,h3,h4⟩:=checkE_zero he
  rw[if_pos he,he]
  rw[he] at hk
  obtain⟨k,rfl⟩:=QW h2
  exact callsIn_wide.1 (read_in Fence.wide 3 rfl (Qd _) trivial trivial trivial trivial trivial h k (by omega) (λj=>callsIn_wide.2 hk) (λj x W=>callsIn_wide.2 (of_any x k W)))
 ·rw[if_neg he]
  exact callsIn_wide.1 (read_err_in Fence.wide 3 rfl (Qd _) trivial trivial w (some ⟨g,0,none⟩) n _ he (λj=>callsIn_wide.2 hk))
theorem read_at{w:World}{g:Nat}{S:Nat→Prop}{m:Dsk}(h:At w g S m)(n:Int):
  Calls prog 115 #[.pointer (some ⟨g,0,none⟩),.int .i64 n] w λe w'=>e=.returned (.tuple #[.string (readV m n),.int .i64 (checkE m n 0)])∧Fr fresh w w':=
 (read_below h n).mono λ_ _ ⟨he,hb⟩=>⟨he,Fr.of_below hb⟩
end Go.Proofs.YtjambljmnifknaaGreatDoor.Dk
