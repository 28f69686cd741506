/- Part 6 of the proof of TopAny: A reckoner of what is to be shown. -/
import Derived.Test.YtjambljmnifknaaGreatDoorJ00
import Derived.WalkKit
import Derived.Calls
import Derived.Laws.AppendOwn
import Derived.Deep.RegionHeld
import Derived.KernelRfl
set_option maxRecDepth 100000
set_option maxHeartbeats 80000000
set_option linter.all false
namespace Go.Proofs.YtjambljmnifknaaGreatDoor.Vc
open Go
abbrev Heap:=Array Obj
def mkw(H:Heap):World:={(default:World) with heap:=H}
def cel(H:Heap)(a:Addr):Option Value:=(mkw H).cell? a
def Own(H:Heap)(base:Nat)(e:TypeId)(size:Nat)(v:Value)(n:Nat)(xs:List Value):Prop:=(mkw H).ownsRow base e size v n xs
def Frm(T:Nat→Prop)(H H':Heap):Prop:=H.size≤H'.size∧∀k,k<H.size→¬T k→H'[k]? =H[k]?
def nob:Nat→Prop:=λ_=>False
def Amb(w w':World):Prop:=w'.os=w.os∧w'.tape=w.tape∧w'.output=w.output
def Fresh(H H':Heap)(b:Nat)(o:Obj):Prop:=b=H.size∧H'=H.push o
def Upd(H H':Heap)(b:Nat)(o:Obj):Prop:=H'[b]? =some o∧H'.size=H.size∧∀k,k≠b→H'[k]? =H[k]?
def callB(P:Program)(f:FuncId):Bool:=match P.funcs[f]? with|some fn=>!(fn.name== "runtime.NumGoroutine")&&fn.body.isSome|none=>false
structure Spec(P:Program)(f:FuncId)(args:Array Value)(H:Heap)(T:Nat→Prop)(R:Value→Heap→Prop):Prop where
 good:callB P f=true
 out:∀w:World,w.heap=H→Calls P f args w λe w'=>∃v,e=.returned v∧Amb w w'∧Frm T H w'.heap∧R v w'.heap
abbrev Env:=Nat→Value
def upd(env:Env)(d:Nat)(v:Value):Env:=λi=>match Nat.beq i d with|true=>v|false=>env i
def updo(env:Env)(d:Option Nat)(v:Value):Env:=match d with|some d=>upd env d v|none=>env
def ev(env:Env):Operand→Value
 | .tmp t=>env t
 | .const v=>v
 | .global g=>.pointer (some ⟨g,0,none⟩)
 | .func f=>.func (.func f) #[] #[]
structure Ctx where
 P:Program
 H0:Heap
 S:Nat→Prop
abbrev KK:=Value→Heap→Prop
structure CallVC(c:Ctx)(g:FuncId)(args:Array Value)(H:Heap)(K:KK):Prop where
 out:(∃T R,Spec c.P g args H T R∧(∀k,T k→c.S k∨c.H0.size≤k)∧∀v H',R v H'→Frm T H H'→Frm c.S c.H0 H'→K v H')∨
  ((∀w:World,w.heap=H→∃v,(callFunc g args).run c.P w=.ok (.value v) w∧K v H)∧Frm c.S c.H0 H)
structure RawVC(c:Ctx)(ρ:Operand→Value)(o:Oper)(H:Heap)(K:KK):Prop where
 out:∀w,w.heap=H→∃v w',((execOp ρ o).run c.P w=.ok (.value v) w'∨((execOp ρ o).run c.P w=.ok .skip w'∧v=undef))∧Amb w w'∧Frm c.S c.H0 w'.heap∧K v w'.heap
def vcNew(c:Ctx)(H:Heap)(o:Obj)(K:Nat→Heap→Prop):Prop:=∀H' b,Fresh H H' b o→Frm c.S c.H0 H'→K b H'
def CellsAt(H:Heap)(b o:Nat):List Value→Prop
 |[]=>True
 |v::r=>cel H ⟨b,o,none⟩=some v∧CellsAt H b (o+1) r
def aggO(P:Program)(t:TypeId):Option Bool:=match P.underlying t with
 |some (.struct _)=>some true
 |some (.array _ _)=>some true
 |some _=>some false
 |none=>none
def putL:List Value→Nat→List Value→List Value
 |l,_,[]=>l
 |[],_,_=>[]
 |_::r,0,v::vs=>v::putL r 0 vs
 |x::r,n+1,vs=>x::putL r n vs
def vcLoad(c:Ctx)(H:Heap)(t:TypeId)(b o:Nat)(K:KK):Prop:=
 match aggO c.P t with
 |some true=>∃vs:List Value,(c.P.info? t).map (·.size)=some vs.length∧CellsAt H b o vs∧K (.agg vs.toArray) H
 |some false=>∃v,cel H ⟨b,o,none⟩=some v∧K v H
 |none=>False
def oneCell:Value→Bool
 | .agg _=>false
 | .tuple _=>false
 |_=>true
def stoB(P:Program)(t:TypeId)(x:Value)(o n:Nat):Bool:=
 (match P.info? t with|some i=>Nat.beq i.size x.cells.toList.length|none=>false)&&Nat.ble (o+x.cells.toList.length) n&&x.cells.toList.all oneCell
structure StoreVC(c:Ctx)(H:Heap)(t:TypeId)(b o:Nat)(x:Value)(K:KK):Prop where
 out:∃(cs:List Value) (E:TypeId) (cs':List Value),H[b]? =some (.cells cs.toArray E (0,0))∧(c.S b∨c.H0.size≤b)∧stoB c.P t x o cs.length=true∧putL cs o x.cells.toList=cs'∧
  ∀H',Upd H H' b (.cells cs'.toArray E (0,0))→Frm c.S c.H0 H'→K undef H'
def fillL(fs:Nat→Option Nat):List (Nat×Value)→List Value→Option (List Value)
 |[],l=>some l
 |(i,v)::r,l=>match fs i with
  |some off=>fillL fs r (putL l off v.cells.toList)
  |none=>none
def mulS(j s:Nat):Nat:=match s with
 |1=>j
 |s=>j*s
def isPtr(P:Program)(t:TypeId):Bool:=match P.underlying t with
 |some (.pointer _)=>true
 |_=>false
def vcBin(P:Program)(t:TypeId)(op:BinOp)(x y:Value)(K:Value→Prop)(raw:Prop):Prop:=
 match x,y with
 | .int k a,.int k' b=>
  match op with
  | .add=>k=k'∧∃r,k.wrap (a+b)=r∧K (.int k r)
  | .sub=>k=k'∧∃r,k.wrap (a-b)=r∧K (.int k r)
  | .mul=>k=k'∧∃r,k.wrap (a*b)=r∧K (.int k r)
  | .quo=>k=k'∧b≠0∧∃r,k.wrap (a.tdiv b)=r∧K (.int k r)
  | .rem=>k=k'∧b≠0∧∃r,a.tmod b=r∧K (.int k r)
  | .eql=>k=k'∧(a=b→K (.bool true))∧(¬a=b→K (.bool false))
  | .neq=>k=k'∧(¬a=b→K (.bool true))∧(a=b→K (.bool false))
  | .lss=>k=k'∧(a<b→K (.bool true))∧(¬a<b→K (.bool false))
  | .leq=>k=k'∧(a≤b→K (.bool true))∧(¬a≤b→K (.bool false))
  | .gtr=>k=k'∧(b<a→K (.bool true))∧(¬b<a→K (.bool false))
  | .geq=>k=k'∧(b≤a→K (.bool true))∧(¬b≤a→K (.bool false))
  | .shr=>0≤b∧∃r,a.fdiv (2^min b.toNat k.bits)=r∧K (.int k r)
  | .shl=>0≤b∧∃r,k.wrap (a*2^min b.toNat k.bits)=r∧K (.int k r)
  | .and=>k=k'∧∃r,k.wrap (BitVec.ofInt k.bits a&&& BitVec.ofInt k.bits b).toNat=r∧K (.int k r)
  | .or=>k=k'∧∃r,k.wrap (BitVec.ofInt k.bits a|||BitVec.ofInt k.bits b).toNat=r∧K (.int k r)
  |_=>raw
 | .string a,.string b=>
  match op with
  | .add=>(a.size+b.size≤9223372036854775807)∧∃r,a++b=r∧K (.string r)
  | .eql=>(a=b→K (.bool true))∧(¬a=b→K (.bool false))
  | .neq=>(¬a=b→K (.bool true))∧(a=b→K (.bool false))
  | .geq=>(Op.bytesLess a.toList b.toList=false→K (.bool true))∧(Op.bytesLess a.toList b.toList=true→K (.bool false))
  |_=>raw
 | .pointer (some _),.pointer none=>match isPtr P t,op with
  |true,.eql=>K (.bool false)
  |true,.neq=>K (.bool true)
  |_,_=>raw
 | .pointer none,.pointer none=>match isPtr P t,op with
  |true,.eql=>K (.bool true)
  |true,.neq=>K (.bool false)
  |_,_=>raw
 |_,_=>raw
def vcConv(P:Program)(src dst:TypeId)(x:Value)(K:Value→Prop)(raw:Prop):Prop:=
 match P.underlying src,P.underlying dst,x with
 |some (.int _),some (.int k),.int _ n=>∃r,k.wrap n=r∧K (.int k r)
 |some .string,some .string,.string s=>K (.string s)
 |_,_,_=>raw
def vcSlice(P:Program)(t:TypeId)(x:Value)(lo hi:Option Value)(K:Value→Prop)(raw:Prop):Prop:=
 match P.underlying t,x with
 |some .string,.string s=>
  ∃l h:Nat,(match lo with|none=>l=0|some v=>∃k,v=.int k (l:Int))∧(match hi with|none=>h=s.size|some v=>∃k,v=.int k (h:Int))∧l≤h∧h≤s.size∧∃r,s.extract l h=r∧K (.string r)
 |some (.slice e),.slice (some ⟨b,o,none⟩) len cap=>
  match P.info? e with
  |some i=>∃l h:Nat,(match lo with|none=>l=0|some v=>∃k,v=.int k (l:Int))∧(match hi with|none=>h=len|some v=>∃k,v=.int k (h:Int))∧l≤h∧h≤cap∧
    ∃n d m,h-l=n∧cap-l=m∧(match l==cap with|true=>o=d|false=>o+mulS l i.size=d)∧K (.slice (some ⟨b,d,none⟩) n m)
  |none=>False
 |_,_=>raw
def buildB(P:Program)(fs:List Field)(n:Nat)(parts:List (Nat×Nat)):Bool:=
 parts.all λp=>match fs[p.1]? with
  |some f=>match P.info? f.type with
   |some i=>decide (p.2=i.size)&&decide (f.offset+p.2≤n)
   |none=>false
  |none=>false
def vcP(P:Program)(ρ:Operand→Value)(o:Oper)(K:Value→Prop)(raw:Prop):Prop:=
 match o.op with
 | .move x=>K (ρ x)
 | .assign x=>K (ρ x)
 | .pick x a b=>match ρ x with
  | .bool true=>K (ρ a)
  | .bool false=>K (ρ b)
  |_=>False
 | .nilCheck x=>match ρ x with
  | .pointer (some p)=>K (.pointer (some p))
  | .func (.func f) a b=>K (.func (.func f) a b)
  |_=>raw
 | .fieldAddr s x f=>match P.underlying s,ρ x with
  |some (.struct fs),.pointer (some ⟨b,o,none⟩)=>match fs[f]? with
   |some fl=>match P.info? fl.type with
    |some i=>match i.size with
     |0=>False
     |_+1=>K (.pointer (some ⟨b,o+fl.offset,none⟩))
    |none=>False
   |none=>False
  |_,_=>False
 | .build t parts=>match P.underlying t,P.info? t with
  |some (.struct fs),some i=>match i.zero with
   |some z=>match fillL (λj=>(fs[j]?).map (·.offset)) (parts.toList.map λp=>(p.1,ρ p.2)) z.cells.toList with
    |some l=>(buildB P fs.toList z.cells.toList.length (parts.toList.map λp=>(p.1,(ρ p.2).cells.toList.length))&&fs.toList.all λf=>(P.info? f.type).isSome)=true∧K (.agg l.toArray)
    |none=>False
   |none=>False
  |_,_=>raw
 | .binOp op t x y _=>vcBin P t op (ρ x) (ρ y) K raw
 | .unOp op _ x=>match op,ρ x with
  | .not,.bool b=>K (.bool (!b))
  |_,_=>raw
 | .convert s d x=>vcConv P s d (ρ x) K raw
 | .makeInterface t x=>match P.underlying t with
  |some (.interface _)=>False
  |some _=>K (.iface t (ρ x))
  |none=>False
 | .makeFunc fn a b=>K (.func fn (a.toList.map ρ).toArray (b.toList.map ρ).toArray)
 | .slice t x lo hi none=>vcSlice P t (ρ x) (lo.map ρ) (hi.map ρ) K raw
 | .field t x f=>match P.underlying t,ρ x with
  |some (.struct fs),.agg cs=>match fs[f]? with
   |some fl=>match aggO P fl.type with
    |some false=>match cs.toList[fl.offset]? with
     |some v=>K v
     |none=>False
    |some true=>match P.info? fl.type with
     |some i=>K (.agg ((cs.toList.drop fl.offset).take i.size).toArray)
     |none=>False
    |none=>False
   |none=>False
  |_,_=>False
 | .indexAddr t x ix=>match P.underlying t,ρ x,ρ ix with
  |some (.slice e),.slice (some ⟨b,o,none⟩) len _,.int _ n=>match P.info? e with
   |some i=>∃j:Nat,n=(j:Int)∧j<len∧K (.pointer (some ⟨b,o+mulS j i.size,none⟩))
   |none=>False
  |some (.array len e),.pointer (some ⟨b,o,none⟩),.int _ n=>match P.info? e with
   |some i=>∃j:Nat,n=(j:Int)∧j<len∧K (.pointer (some ⟨b,o+mulS j i.size,none⟩))
   |none=>False
  |_,_,_=>False
 | .index t x ix=>match P.underlying t,ρ x,ρ ix with
  |some .string,.string s,.int _ n=>∃(j:Nat) (u:UInt8),n=(j:Int)∧s.data.toList[j]? =some u∧K (.int .u8 (u.toNat:Int))
  |_,_,_=>raw
 | .extract x i=>match ρ x with
  | .tuple vs=>match vs.toList[i]? with
   |some v=>K v
   |none=>False
  |_=>False
 | .call cl=>match cl.callee with
  | .builtin .len=>match cl.args.toList.map ρ,cl.argTypes.toList with
   | .string s::_,t::_=>(match P.underlying t with|some .string=>K (.int .i64 (s.size:Int))|_=>False)
   | .slice _ n _::_,t::_=>(match P.underlying t with|some (.slice _)=>K (.int .i64 (n:Int))|_=>False)
   |_,_=>raw
  | .builtin .max=>match cl.args.toList.map ρ with
   |[.int k a,.int k' b]=>(a≤b→K (.int k b))∧(b≤a→K (.int k a))∧k=k'
   |[.int k a,.int k' b,.int k'' d]=>(k=k'∧k=k'')∧∃r,(a≤r∧b≤r∧d≤r∧(r=a∨r=b∨r=d))∧K (.int k r)
   |_=>raw
  | .builtin .min=>match cl.args.toList.map ρ with
   |[.int k a,.int k' b]=>(a≤b→K (.int k a))∧(b≤a→K (.int k b))∧k=k'
   |_=>raw
  |_=>raw
 |_=>raw
def byteV(b:UInt8):Value:=.int .u8 (b.toNat:Int)
def bytesC(s:ByteArray)(cap:Nat):List Value:=s.data.toList.map byteV++List.replicate (cap-s.size) (.int .u8 0)
def zerosL(m:Nat)(z:List Value):List Value:=(List.replicate m z).flatten
def elemI(P:Program)(t:TypeId):Option (TypeId×TypeInfo×Value):=match P.underlying t with
 |some (.slice e)=>match P.info? e with
  |some i=>match i.zero with
   |some z=>some (e,i,z)
   |none=>none
  |none=>none
 |_=>none
structure AppendVC(c:Ctx)(H:Heap)(t:TypeId)(v x:Value)(K:KK):Prop where
 out:(∃(e:TypeId) (i:TypeInfo) (z:Value),elemI c.P t=some (e,i,z)∧(
  (∃(b off m cap base n:Nat) (xs ys:List Value),x=.slice (some ⟨b,off,none⟩) m cap∧Own H base e i.size v n xs∧CellsAt H b off ys∧ys.length=m*i.size∧(∀y∈ys,oneCell y=true)∧
   n+m≤140737488355328∧(n+m)*i.bytes≤140737488355328∧base≤H.size∧(∀k,v.ownBlock=some k→c.S k∨c.H0.size≤k)∧(decide (z.cells.toList.length=i.size)&&decide (0<i.size))=true∧
   ∀v' H',Own H' base e i.size v' (n+m) (xs++ys)→Frm (λk=>v.ownBlock=some k) H H'→Frm c.S c.H0 H'→(∀k,v'.ownBlock=some k→v.ownBlock=some k∨H.size≤k)→K v' H')∨
  (x=.slice none 0 0∧∃ad n cap,v=.slice ad n cap∧n≤cap∧K v H)))∨
  ∀ty w,w.heap=H→∃v' w',(Builtin.append_ #[t,t] ty #[v,x]).run c.P w=.ok v' w'∧Amb w w'∧Frm c.S c.H0 w'.heap∧K v' w'.heap
def vcMake(c:Ctx)(H:Heap)(t:TypeId)(l cp:Value)(K:KK):Prop:=
 match c.P.underlying t,l,cp with
 |some (.slice e),.int _ a,.int _ b=>match c.P.info? e with
  |some i=>match i.zero with
   |some z=>∃n m:Nat,a=(n:Int)∧b=(m:Int)∧n≤m∧m≤140737488355328∧i.bytes*m≤140737488355328∧(decide (z.cells.toList.length=i.size)&&decide (0<i.size))=true∧
     vcNew c H (.cells (zerosL m z.cells.toList).toArray e) λb H'=>K (.slice (some ⟨b,0,none⟩) n m) H'
   |none=>False
  |none=>False
 |_,_,_=>False
def vcConvM(c:Ctx)(H:Heap)(s d:TypeId)(x:Value)(K:KK)(els:Prop):Prop:=
 match c.P.underlying s,c.P.underlying d,x with
 |some .string,some (.slice e),.string str=>match c.P.underlying e with
  |some (.int .u8)=>∀cap,str.size≤cap→vcNew c H (.cells (bytesC str cap).toArray e (cap,cap+1)) λb H'=>K (.slice (some ⟨b,0,none⟩) str.size cap) H'
  |_=>False
 |some (.slice e),some .string,.slice (some ⟨b,off,none⟩) len _=>match c.P.underlying e with
  |some (.int .u8)=>∃bs:List UInt8,bs.length=len∧CellsAt H b off (bs.map byteV)∧K (.string ⟨bs.toArray⟩) H
  |_=>False
 |some (.slice e),some .string,.slice none _ _=>match c.P.underlying e with
  |some (.int .u8)=>K (.string ByteArray.empty) H
  |_=>False
 |_,_,_=>els
def vcOp(c:Ctx)(ρ:Operand→Value)(H:Heap)(o:Oper)(K:KK):Prop:=
 match o.op with
 | .alloc t=>match c.P.info? t with
  |some i=>match i.zero with
   |some z=>vcNew c H (.cells z.cells t) λb H'=>K (.pointer (some ⟨b,0,none⟩)) H'
   |none=>False
  |none=>False
 | .box t x=>vcNew c H (.cells (ρ x).cells t) λb H'=>K (.pointer (some ⟨b,0,none⟩)) H'
 | .load t a=>match ρ a with
  | .pointer (some ⟨b,o,none⟩)=>vcLoad c H t b o K
  |_=>False
 | .store t a x=>match ρ a with
  | .pointer (some ⟨b,o,none⟩)=>StoreVC c H t b o (ρ x) K
  |_=>False
 | .buildSlice t len parts=>match c.P.underlying t with
  |some (.slice e)=>match c.P.info? e with
   |some i=>match i.zero with
    |some z=>match fillL (λj=>some (j*i.size)) (parts.toList.map λp=>(p.1,ρ p.2)) (List.replicate len z.cells.toList).flatten with
     |some l=>(decide (0<len*i.size)&&decide (len*i.size≤16777216)&&decide (z.cells.toList.length=i.size)&&parts.toList.all λp=>(ρ p.2).cells.toList.length==i.size&&decide (p.1<len))=true∧
       vcNew c H (.cells l.toArray e) λb H'=>K (.slice (some ⟨b,0,none⟩) len len) H'
     |none=>False
    |none=>False
   |none=>False
  |_=>False
 | .call cl=>match cl.callee with
  | .value f=>match ρ f with
   | .func (.func g) a b=>CallVC c g (a.toList++(cl.args.toList.map ρ)++b.toList).toArray H K
   |_=>False
  | .builtin .append=>match cl.args.toList.map ρ,cl.argTypes.toList with
   |[v,x],[t,t']=>match Nat.beq t t' with
    |true=>AppendVC c H t v x K
    |false=>RawVC c ρ o H K
   |_,_=>False
  |_=>vcP c.P ρ o (λv=>K v H) (RawVC c ρ o H K)
 | .makeSlice t l cp=>vcMake c H t (ρ l) (ρ cp) K
 | .convert s d x=>vcConvM c H s d (ρ x) K (vcP c.P ρ o (λv=>K v H) (RawVC c ρ o H K))
 |_=>vcP c.P ρ o (λv=>K v H) (RawVC c ρ o H K)
def wantV(ops:List Oper)(env:Env)(g:Option (Nat×Bool)):Bool:=
 match g with
 |none=>true
 |some (j,want)=>match ops[j]? with
  |none=>false
  |some o=>match o.dst with
   |none=>false
   |some d=>match env d with
    | .bool b=>match b,want with
     |true,true=>true
     |true,false=>false
     |false,true=>false
     |false,false=>true
    |_=>false
def vcOps(c:Ctx)(all l:List Oper):Env→Heap→(Env→Heap→Prop)→Prop:=
 List.rec (motive:=λ_=>Env→Heap→(Env→Heap→Prop)→Prop) (λenv H K=>K env H)
  (λo _ ih env H K=>match wantV all env o.guard with
   |true=>vcOp c (ev env) H o λv H'=>ih (updo env o.dst v) H' K
   |false=>ih (updo env o.dst undef) H K) l
inductive Plan where
 |done
 |take (i:Nat) (p:Plan)
 |one (i:Nat) (p:Plan)
 |two (i:Nat) (p:Plan) (j:Nat) (q:Plan)
def planB(ops:Array Oper):Plan→Nat→Array Bool→Bool
 | .done,_,l=>(Region.ready .any ops l).isEmpty
 | .take i p,f+1,l=>(Region.ready .any ops l).contains i&&Region.free .any ops l i&&decide (i<ops.size)&&planB ops p f (l.setIfInBounds i true)
 | .one i p,f+1,l=>(Region.ready .any ops l==[i])&&decide (i<ops.size)&&planB ops p f (l.setIfInBounds i true)
 | .two i p j q,f+1,l=>(Region.ready .any ops l==[i,j])&&decide (i<ops.size)&&decide (j<ops.size)&&planB ops p f (l.setIfInBounds i true)&&planB ops q f (l.setIfInBounds j true)
 |_,0,_=>false
def vcTake(P:Program)(T:Nat→Prop)(Hs:Heap)(ρ:Operand→Value)(o:Oper)(K:Value→Prop):Prop:=
 match o.op with
 | .load t a=>match ρ a with
  | .pointer (some ⟨b,off,none⟩)=>¬T b∧match aggO P t with
   |some true=>∃vs:List Value,(P.info? t).map (·.size)=some vs.length∧0<vs.length∧CellsAt Hs b off vs∧K (.agg vs.toArray)
   |some false=>∃v,cel Hs ⟨b,off,none⟩=some v∧K v
   |none=>False
  |_=>False
 |_=>vcP P ρ o K False
def vcPlan(P:Program)(ops:List Oper)(T:Nat→Prop)(Hs:Heap)(pl:Plan):Env→Heap→(Env→Heap→Prop)→Prop:=
 Plan.rec (motive:=λ_=>Env→Heap→(Env→Heap→Prop)→Prop) (λenv H K=>K env H)
  (λi _ ih env H K=>match ops[i]? with
   |some o=>match wantV ops env o.guard with
    |true=>vcTake P T Hs (ev env) o λv=>ih (updo env o.dst v) H K
    |false=>ih (updo env o.dst undef) H K
   |none=>False)
  (λi _ ih env H K=>match ops[i]? with
   |some o=>match wantV ops env o.guard with
    |true=>vcOp ⟨P,Hs,T⟩ (ev env) H o λv H'=>ih (updo env o.dst v) H' K
    |false=>ih (updo env o.dst undef) H K
   |none=>False)
  (λi _ j _ ihi ihj env H K=>(match ops[i]? with
   |some o=>match wantV ops env o.guard with
    |true=>vcOp ⟨P,Hs,T⟩ (ev env) H o λv H'=>ihi (updo env o.dst v) H' K
    |false=>ihi (updo env o.dst undef) H K
   |none=>False)∧(match ops[j]? with
   |some o=>match wantV ops env o.guard with
    |true=>vcOp ⟨P,Hs,T⟩ (ev env) H o λv H'=>ihj (updo env o.dst v) H' K
    |false=>ihj (updo env o.dst undef) H K
   |none=>False)) pl
inductive Plan2 where
 |sw (p:Plan)
 |take (i:Nat) (p:Plan2)
 |ptake (i:Nat) (p:Plan2)
 |one (i:Nat) (p:Plan2)
 |two (i:Nat) (p:Plan2) (j:Nat) (q:Plan2)
def loadB(o:Oper):Bool:=match o.op with
 | .load _ _=>true
 |_=>false
def takeB2(ops:Array Oper)(st:Nat→Bool)(i:Nat):Bool:=(match ops[i]? with|some o=>!loadB o|none=>false)||
 (List.range ops.size).all λj=>!st j||(match ops[j]? with|some o=>o.after.any λe=>Region.binds .any e&&Nat.beq e.on i|none=>true)
def planB2(ops:Array Oper)(st:Nat→Bool):Plan2→Nat→Array Bool→Bool
 | .sw p,f,l=>(Region.ready .any ops l).all st&&planB ops p f l
 | .take i p,f+1,l=>(Region.ready .any ops l).contains i&&Region.free .any ops l i&&decide (i<ops.size)&&!st i&&takeB2 ops st i&&planB2 ops st p f (l.setIfInBounds i true)
 | .ptake i p,f+1,l=>(Region.ready .any ops l).contains i&&Region.free .any ops l i&&decide (i<ops.size)&&!st i&&planB2 ops st p f (l.setIfInBounds i true)
 | .one i p,f+1,l=>(Region.ready .any ops l==[i])&&decide (i<ops.size)&&!st i&&planB2 ops st p f (l.setIfInBounds i true)
 | .two i p j q,f+1,l=>(Region.ready .any ops l==[i,j])&&decide (i<ops.size)&&decide (j<ops.size)&&!st i&&!st j&&planB2 ops st p f (l.setIfInBounds i true)&&planB2 ops st q f (l.setIfInBounds j true)
 |_,0,_=>false
def vcPlan2(P:Program)(ops:List Oper)(T0 T1:Nat→Prop)(Hs:Heap)(pl:Plan2):Env→Heap→(Env→Heap→Prop)→Prop:=
 Plan2.rec (motive:=λ_=>Env→Heap→(Env→Heap→Prop)→Prop) (λp env H K=>vcPlan P ops T1 Hs p env H K)
  (λi _ ih env H K=>match ops[i]? with
   |some o=>match wantV ops env o.guard with
    |true=>vcTake P T0 Hs (ev env) o λv=>ih (updo env o.dst v) H K
    |false=>ih (updo env o.dst undef) H K
   |none=>False)
  (λi _ ih env H K=>match ops[i]? with
   |some o=>match wantV ops env o.guard with
    |true=>vcTake P T1 Hs (ev env) o λv=>ih (updo env o.dst v) H K
    |false=>ih (updo env o.dst undef) H K
   |none=>False)
  (λi _ ih env H K=>match ops[i]? with
   |some o=>match wantV ops env o.guard with
    |true=>vcOp ⟨P,Hs,T0⟩ (ev env) H o λv H'=>ih (updo env o.dst v) H' K
    |false=>ih (updo env o.dst undef) H K
   |none=>False)
  (λi _ j _ ihi ihj env H K=>(match ops[i]? with
   |some o=>match wantV ops env o.guard with
    |true=>vcOp ⟨P,Hs,T0⟩ (ev env) H o λv H'=>ihi (updo env o.dst v) H' K
    |false=>ihi (updo env o.dst undef) H K
   |none=>False)∧(match ops[j]? with
   |some o=>match wantV ops env o.guard with
    |true=>vcOp ⟨P,Hs,T0⟩ (ev env) H o λv H'=>ihj (updo env o.dst v) H' K
    |false=>ihj (updo env o.dst undef) H K
   |none=>False)) pl
structure DrawVC(c:Ctx)(ops:Array Oper)(env:Env)(H:Heap)(K:Env→Heap→Prop):Prop where
 out:(∃(T:Nat→Prop) (pl:Plan),(Region.noSelect ops&&planB ops pl ops.size (Array.replicate ops.size false))=true∧(∀k,T k→c.S k∨c.H0.size≤k)∧vcPlan c.P ops.toList T H pl env H K)∨
  ∃(T0 T1:Nat→Prop) (st:Nat→Bool) (pl:Plan2),(Region.noSelect ops&&planB2 ops st pl ops.size (Array.replicate ops.size false))=true∧(∀k,T0 k→T1 k)∧(∀k,T1 k→c.S k∨c.H0.size≤k)∧vcPlan2 c.P ops.toList T0 T1 H pl env H K
def stableB(o:Oper):Bool:=match o.op with
 | .alloc _=>false
 | .box _ _=>false
 | .store _ _ _=>false
 | .buildSlice _ _ _=>false
 | .makeSlice _ _ _=>false
 | .makeMap _ _=>false
 | .call cl=>match cl.callee with
  | .builtin .len=>true
  | .builtin .max=>true
  | .builtin .min=>true
  |_=>false
 | .convert _ _ _=>true
 |_=>true
def lin:List Oper→Nat→Plan
 |[],_=>.done
 |o::r,i=>match stableB o with
  |true=>.take i (lin r (i+1))
  |false=>.one i (lin r (i+1))
abbrev KX:=Exit→Env→Heap→Prop
def lookL:List (Nat×Value)→Nat→Option Value
 |[],_=>none
 |(i,v)::r,j=>match Nat.beq i j with|true=>some v|false=>lookL r j
def memL:List Nat→Nat→Bool
 |[],_=>false
 |i::r,j=>match Nat.beq i j with|true=>true|false=>memL r j
def over(l:List (Nat×Value))(ws:List Nat)(junk env:Env):Env:=λi=>match lookL l i with
 |some v=>v
 |none=>match memL ws i with
  |true=>junk i
  |false=>env i
def EnvHas(env:Env):List (Nat×Value)→Prop
 |[]=>True
 |(i,v)::r=>env i=v∧EnvHas env r
def writesC:Code→List Nat
 | .region _ ops _=>ops.toList.filterMap (·.dst)
 | .seq a b=>writesC a++writesC b
 | .cond _ a b=>writesC a++writesC b
 | .block _ b=>writesC b
 | .loop b=>writesC b
 | .scope b=>writesC b
 |_=>[]
structure LoopVC(vb:Env→Heap→KX→Prop)(ws:List Nat)(env:Env)(H:Heap)(K:KX)(S:Nat→Prop)(H0:Heap):Prop where
 out:∃(α:Type) (E:α→List (Nat×Value)) (I:α→Heap→Prop) (μ:α→Nat),(∃x,EnvHas env (E x)∧I x H)∧
  ∀x H' junk,I x H'→Frm S H0 H'→vb (over (E x) ws junk env) H' λe env' H''=>match e with
   | .normal=>∃y,EnvHas env' (E y)∧I y H''∧μ y<μ x
   |e=>K e env' H''
def vcCode(c:Ctx)(code:Code):Env→Heap→KX→Prop:=
 Code.rec (motive:=λ_=>Env→Heap→KX→Prop)
  (skip:=λenv H K=>K .normal env H)
  (region:=λ_ ops draw env H K=>match draw with
   |false=>vcOps c ops.toList ops.toList env H λenv' H'=>K .normal env' H'
   |true=>DrawVC c ops env H λenv' H'=>K .normal env' H')
  (seq:=λ_ _ iha ihb env H K=>iha env H λe env' H'=>match e with
   | .normal=>ihb env' H' K
   |e=>K e env' H')
  (cond:=λx _ _ iha ihb env H K=>match ev env x with
   | .bool true=>iha env H K
   | .bool false=>ihb env H K
   |_=>False)
  (block:=λid _ ih env H K=>ih env H λe env' H'=>match e with
   | .exit id'=>match Nat.beq id' id with
    |true=>K .normal env' H'
    |false=>K (.exit id') env' H'
   |e=>K e env' H')
  (loop:=λb ih env H K=>LoopVC ih (writesC b) env H K c.S c.H0)
  (rangeFunc:=λ_ _ _ _ _ _ _ _ _=>False)
  (exit:=λid env H K=>K (.exit id) env H)
  (scope:=λ_ ih env H K=>ih env H λe env' H'=>match e with
   | .goto _=>False
   |e=>K e env' H')
  (label:=λ_ env H K=>K .normal env H)
  (goto:=λ_ _ _ _=>False)
  (ret:=λenv H K=>K .ret env H)
  (refuse:=λ_ _ _ _=>False) code
end Go.Proofs.YtjambljmnifknaaGreatDoor.Vc
