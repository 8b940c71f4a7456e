/- Part 1 of the proof: the abstract machine, what the functions compute, and plain laws over that. -/
import GoSem.Dispatch
import Derived.Calls
import Derived.Below
set_option linter.all false
set_option linter.unusedSimpArgs false
set_option linter.unusedVariables false
set_option linter.unusedSectionVars false
namespace Go.AM
open Go
inductive K where
 | bool | int (k:IntKind) | str
 | struct (fs:List Nat) | array (n e:Nat) | slice (e:Nat) | map (k v:Nat)
 | iface (m:Bool) | ptr (e:Nat) | func | bad
 deriving DecidableEq,Inhabited
inductive D where
 | bool (b:Bool) | int (k:IntKind) (n:Int) | str (s:ByteArray)
 | agg (ds:List D) | slice (nn:Bool) (ds:List D)
 | iface (t:Nat) (x:D) | nilIface | fn (f:Nat) | nilFunc | nilPtr | nilMap | tup (ds:List D)
 deriving Inhabited
def D.b:D→Bool | .bool b=>b | _=>false
def D.i:D→Int | .int _ n=>n | _=>0
def D.s:D→ByteArray | .str s=>s | _=>ByteArray.empty
def D.elems:D→List D | .slice _ ds=>ds | _=>[]
def D.nn:D→Bool | .slice b _=>b | _=>false
def D.parts:D→List D | .agg ds=>ds | .tup ds=>ds | _=>[]
def D.at (x:D) (i:Nat):D:=x.parts.getD i .nilFunc
def D.get (x:D):List Nat→D
 | []=>x
 | i::p=>(x.at i).get p
def D.put (x:D):List Nat→D→D
 | [],y=>y
 | i::p,y=>.agg (x.parts.set i ((x.at i).put p y))
inductive V where
 | d (κ:K) (x:D)
 | agg (κ:K) (vs:List V)
 | tup (vs:List V)
 | dtup (κs:List K) (x:D)
 | sref (b off len:Nat)
 | lit (e:Nat) (ds:List D)
 | ptr (b:Nat) (path:List Nat) (κ:K)
 | cptr (κ:K) (x:D)
 | func (fn:Fn) (first captured:List V)
 | iface (t:Nat) (v:V)
 | map (b:Nat)
 | iter (b:Nat)
 | yield (b:Nat)
 | undef
 deriving Inhabited
inductive LSt where
 | ready | busy | ret | exit (id:Nat)
 deriving Inhabited
inductive AObj where
 | var (κ:K) (v:V)
 | row (e:Nat) (own:Bool) (nn:Bool) (ds:List D)
 | map (key elem:Nat) (es:List (D×D))
 | iter (s:ByteArray) (pos:Nat)
 | loop (st:LSt) (f id:Nat) (u:V)
 | dead
 deriving Inhabited
abbrev Cd:=Nat→Nat→Option (List Nat×Code×Code)
inductive Eff where
 | none
 | set (b:Nat) (o:AObj)
 | new (o:AObj)
 | kill (b:Nat) (o:AObj)
 | freeze (bs:List Nat)
 | freezeNew (bs:List Nat) (o:AObj)
def AObj.frozen:AObj→AObj
 | .row e _ nn ds=>.row e false nn ds
 | o=>o
def freeze1 (H:List AObj) (b:Nat):List AObj:=match H[b]? with | some o=>H.set b o.frozen | none=>H
def Eff.app:Eff→List AObj→List AObj
 | .none,H=>H
 | .set b o,H=>H.set b o
 | .new o,H=>H++[o]
 | .kill b o,H=>H.set b .dead++[o]
 | .freeze bs,H=>bs.foldl freeze1 H
 | .freezeNew bs o,H=>bs.foldl freeze1 H++[o]
structure Con where
 run:List D→Option D
 fresh:Bool:=false
 plain:Bool:=false
structure Hint where
 live:List Nat:=[]
 rows:List (Nat×Nat):=[]
 own:Bool:=false
 inpl:Bool:=false
 unk:Bool:=false
 out:Option (List Nat):=none
 unr:Option Nat:=none
 perm:List Nat:=[]
 deriving Inhabited
abbrev Ext:=List V→List AObj→Option (Bool×V×List AObj)
structure Env where
 ty:Nat→K
 fn:Nat→Option Func
 con:Nat→Option Con
 hint:Nat→Nat→Hint
 fuel:Nat
 ext:Nat→Option Ext:=fun _=>none
 prim:Nat→Option (List D→Option D):=fun _=>none
 meth:String→List (Nat×Nat):=fun _=>[]
 pan:Option (V→List AObj→Option D):=none
def Env.rd0 (E:Env):Bool:=E.pan.isSome
section
variable (ty:Nat→K)
def K.ok:K→Bool | .bad=>false | _=>true
def K.isAgg:K→Bool | .struct _=>true | .array _ _=>true | _=>false
def K.kids (κ:K):List K:=match κ with | .struct fs=>fs.map ty | .array n e=>List.replicate n (ty e) | _=>[]
def K.kid (κ:K) (i:Nat):K:=match κ with | .struct fs=>ty (fs.getD i 0) | .array _ e=>ty e | _=>.bad
def zeroD:Nat→K→D
 | _,.bool=>.bool false
 | _,.int k=>.int k 0
 | _,.str=>.str ByteArray.empty
 | n+1,.struct fs=>.agg (fs.map fun f=>zeroD n (ty f))
 | n+1,.array m e=>.agg (List.replicate m (zeroD n (ty e)))
 | 0,.struct _=>.nilFunc
 | 0,.array _ _=>.nilFunc
 | _,.slice _=>.slice false []
 | _,.map _ _=>.nilMap
 | _,.iface _=>.nilIface
 | _,.ptr _=>.nilPtr
 | _,.func=>.nilFunc
 | _,.bad=>.nilFunc
def zero (κ:K):D:=zeroD ty 20 κ
def pures:List V→Option (List D)
 | []=>some []
 | .d _ x::vs=>match pures vs with | some ds=>some (x::ds) | none=>none
 | _=>none
def mkAgg (κ:K) (vs:List V):V:=match pures vs with | some ds=>.d κ (.agg ds) | none=>.agg κ vs
def spread (x:D):List K→Nat→List V
 | [],_=>[]
 | κ::κs,i=>.d κ (x.at i)::spread x κs (i+1)
def V.kids:V→List V
 | .d κ x=>spread x (κ.kids ty) 0
 | .agg _ vs=>vs
 | _=>[]
def V.get:V→List Nat→Option V
 | v,[]=>some v
 | .d κ x,i::p=>V.get (.d (κ.kid ty i) (x.at i)) p
 | .agg _ vs,i::p=>match vs[i]? with | some v=>V.get v p | none=>none
 | _,_=>none
def V.put:V→List Nat→V→Option V
 | _,[],y=>some y
 | .d κ x,p,.d _ y=>some (.d κ (x.put p y))
 | .d κ x,i::p,y=>match (spread x (κ.kids ty) 0)[i]? with
  | some v=>match V.put v p y with | some v'=>some (mkAgg κ ((spread x (κ.kids ty) 0).set i v')) | none=>none
  | none=>none
 | .agg κ vs,i::p,y=>match vs[i]? with
  | some v=>match V.put v p y with | some v'=>some (mkAgg κ (vs.set i v')) | none=>none
  | none=>none
 | _,_,_=>none
end
mutual
def V.refs:V→List Nat
 | .agg _ vs=>V.refsL vs
 | .tup vs=>V.refsL vs
 | .sref b _ _=>[b]
 | .ptr b _ _=>[b]
 | .func _ a c=>V.refsL a++V.refsL c
 | .iface _ v=>V.refs v
 | .map b=>[b]
 | .iter b=>[b]
 | .yield b=>[b]
 | _=>[]
def V.refsL:List V→List Nat
 | []=>[]
 | v::vs=>V.refs v++V.refsL vs
end
mutual
def V.pure (st:Bool) (H:List AObj):V→Option D
 | .d _ x=>some x
 | .agg _ vs=>match V.pureL st H vs with | some ds=>some (.agg ds) | none=>none
 | .tup vs=>match V.pureL st H vs with | some ds=>some (.tup ds) | none=>none
 | .dtup _ x=>some x
 | .sref b off len=>match H[b]? with | some (.row _ own nn ds)=>bif st&&own then none else some (.slice nn ((ds.drop off).take len)) | _=>none
 | .lit _ ds=>some (.slice true ds)
 | .iface t v=>match V.pure st H v with | some x=>some (.iface t x) | none=>none
 | _=>none
def V.pureL (st:Bool) (H:List AObj):List V→Option (List D)
 | []=>some []
 | v::vs=>match V.pure st H v with
  | some x=>match V.pureL st H vs with | some xs=>some (x::xs) | none=>none
  | none=>none
end
def K.cmp (ty:Nat→K):Nat→K→Bool
 | _,.bool=>true
 | _,.int _=>true
 | _,.str=>true
 | _,.iface m=>!m
 | n+1,.struct fs=>fs.all fun f=>K.cmp ty n (ty f)
 | n+1,.array _ e=>K.cmp ty n (ty e)
 | _,_=>false
def eqvs (f:D→D→K→Option Bool):List D→List D→List K→Option Bool
 | [],[],[]=>some true
 | a::as1,b::bs,κ::κs=>match f a b κ with
  | some true=>eqvs f as1 bs κs
  | some false=>some false
  | none=>none
 | _,_,_=>none
def D.eqv (ty:Nat→K):Nat→D→D→K→Option Bool
 | 0,_,_,_=>none
 | n+1,x,y,κ=>
  match x,y,κ with
  | .bool a,.bool b,.bool=>some (a==b)
  | .int _ a,.int _ b,.int _=>some (a==b)
  | .str a,.str b,.str=>some (a==b)
  | .agg as1,.agg bs,.struct fs=>eqvs (D.eqv ty n) as1 bs (fs.map ty)
  | .agg as1,.agg bs,.array m e=>eqvs (D.eqv ty n) as1 bs (List.replicate m (ty e))
  | .iface t a,.iface u b,.iface _=>if t=u then (bif K.cmp ty 20 (ty t) then D.eqv ty n a b (ty t) else none) else some false
  | .nilIface,.nilIface,.iface _=>some true
  | .nilIface,.iface _ _,.iface _=>some false
  | .iface _ _,.nilIface,.iface _=>some false
  | _,_,_=>none
def eqDepth:Nat:=16
def intBin (op:BinOp) (k:IntKind) (a b:Int):Option D:=
 match op with
 | .add=>some (.int k (k.wrap (a+b)))
 | .sub=>some (.int k (k.wrap (a-b)))
 | .mul=>some (.int k (k.wrap (a*b)))
 | .quo=>if b=0 then none else some (.int k (k.wrap (a.tdiv b)))
 | .rem=>if b=0 then none else some (.int k (a.tmod b))
 | .and=>some (.int k (k.wrap (BitVec.ofInt k.bits a &&& BitVec.ofInt k.bits b).toNat))
 | .or=>some (.int k (k.wrap (BitVec.ofInt k.bits a ||| BitVec.ofInt k.bits b).toNat))
 | .xor=>some (.int k (k.wrap (BitVec.ofInt k.bits a ^^^ BitVec.ofInt k.bits b).toNat))
 | .andNot=>some (.int k (k.wrap (BitVec.ofInt k.bits a &&& ~~~(BitVec.ofInt k.bits b)).toNat))
 | .eql=>some (.bool (a==b))
 | .neq=>some (.bool (a != b))
 | .lss=>some (.bool (a<b))
 | .leq=>some (.bool (a≤b))
 | .gtr=>some (.bool (a>b))
 | .geq=>some (.bool (a≥b))
 | _=>none
def shiftBin (op:BinOp) (k:IntKind) (a b:Int):Option D:=
 if b<0 then none else
 match op with
 | .shl=>some (.int k (k.wrap (a*2^(min b.toNat k.bits))))
 | .shr=>some (.int k (a.fdiv (2^(min b.toNat k.bits))))
 | _=>none
def maxInt:Nat:=9223372036854775807
def strBin (op:BinOp) (x y:ByteArray):Option D:=
 match op with
 | .add=>if x.size+y.size≤maxInt then some (.str (x++y)) else none
 | .eql=>some (.bool (x.toList==y.toList))
 | .neq=>some (.bool !(x.toList==y.toList))
 | .lss=>some (.bool (Op.bytesLess x.toList y.toList))
 | .leq=>some (.bool (Op.bytesLess x.toList y.toList||x.toList==y.toList))
 | .gtr=>some (.bool !(Op.bytesLess x.toList y.toList||x.toList==y.toList))
 | .geq=>some (.bool !(Op.bytesLess x.toList y.toList))
 | _=>none
def isShift:BinOp→Bool | .shl=>true | .shr=>true | _=>false
def binK (op:BinOp) (κ:K):K:=match op with | .eql | .neq | .lss | .leq | .gtr | .geq=>.bool | _=>κ
def binD (ty:Nat→K) (op:BinOp) (κ:K) (κx κy:K) (x y:D):Option D:=
 match κx,κy with
 | .int k,.int k'=>if isShift op then shiftBin op k x.i y.i else if k=k' then intBin op k x.i y.i else none
 | .str,.str=>strBin op x.s y.s
 | _,_=>
  if κx=κ∧κy=κ∧K.cmp ty 20 κ=true then
   match op with
   | .eql=>match D.eqv ty eqDepth x y κ with | some b=>some (.bool b) | none=>none
   | .neq=>match D.eqv ty eqDepth x y κ with | some b=>some (.bool !b) | none=>none
   | _=>none
  else none
def unD (op:UnOp) (κ:K) (x:D):Option D:=
 match op,κ with
 | .not,.bool=>some (.bool !x.b)
 | .neg,.int k=>some (.int k (k.wrap (0-x.i)))
 | .xor,.int k=>some (.int k (k.wrap (BitVec.ofInt k.bits (if k.signed then -1 else k.max) ^^^ BitVec.ofInt k.bits x.i).toNat))
 | _,_=>none
def bytesOf (s:ByteArray):List D:=s.data.toList.map fun b=>.int .u8 b.toNat
def ofBytes (ds:List D):ByteArray:=⟨(ds.map fun x=>UInt8.ofNat x.i.toNat).toArray⟩
end Go.AM
namespace Go.AM
open Go
def constD:Value→Option D
 | .bool b=>some (.bool b)
 | .int k n=>some (.int k n)
 | .string s=>some (.str s)
 | .nilIface=>some .nilIface
 | .nilFunc=>some .nilFunc
 | .pointer none=>some .nilPtr
 | .slice none 0 0=>some (.slice false [])
 | .map none=>some .nilMap
 | _=>none
def constK (κ:K):D→K
 | .bool _=>.bool
 | .int k _=>.int k
 | .str _=>.str
 | _=>κ
def nilOk (κ:K):D→Bool
 | .nilIface=>match κ with | .iface _=>true | _=>false
 | .nilFunc=>match κ with | .func=>true | _=>false
 | .nilPtr=>match κ with | .ptr _=>true | _=>false
 | .nilMap=>match κ with | .map _ _=>true | _=>false
 | .slice _ _=>match κ with | .slice _=>true | _=>false
 | _=>true
def val (regs:List V) (κ:K):Operand→V
 | .tmp t=>regs.getD t .undef
 | .const v=>match constD v with | some x=>if nilOk κ x then .d (constK κ x) x else .undef | none=>.undef
 | .global _=>.undef
 | .func f=>.d .func (.fn f)
def vals (regs:List V) (ty:Nat→K):List Operand→List Nat→List V
 | x::xs,t::ts=>val regs (ty t) x::vals regs ty xs ts
 | _,_=>[]
def kindIs (ty:Nat→K) (H:List AObj):V→K→Bool
 | .d κ' _,κ=>decide (κ'=κ)
 | .agg κ' _,κ=>decide (κ'=κ)
 | .sref b _ _,κ=>match H[b]? with | some (.row e _ _ _)=>decide (κ = .slice e) | _=>false
 | .lit e _,κ=>decide (κ = .slice e)
 | .ptr _ _ κ',κ=>match κ with | .ptr e=>decide (ty e=κ') | _=>false
 | .cptr κ' _,κ=>match κ with | .ptr e=>decide (ty e=κ') | _=>false
 | .func _ _ _,κ=>match κ with | .func=>true | _=>false
 | .iface _ _,κ=>match κ with | .iface _=>true | _=>false
 | .map b,κ=>match H[b]? with | some (.map k e _)=>decide (κ = .map k e) | _=>false
 | _,_=>false
def setParts (ty:Nat→K) (H:List AObj) (regs:List V) (κ:K):List (Nat×Operand)→List V→Option (List V)
 | [],vs=>some vs
 | (i,x)::ps,vs=>
  if i<vs.length&&kindIs ty H (val regs (κ.kid ty i) x) (κ.kid ty i) then setParts ty H regs κ ps (vs.set i (val regs (κ.kid ty i) x)) else none
def setElems (ty:Nat→K) (H:List AObj) (regs:List V) (e:K):List (Nat×Operand)→List D→Option (List D)
 | [],ds=>some ds
 | (i,x)::ps,ds=>
  if i<ds.length&&kindIs ty H (val regs e x) e then
   match V.pure true H (val regs e x) with | some y=>setElems ty H regs e ps (ds.set i y) | none=>none
  else none
def vInt (v:V):Option Int:=match v with | .d (.int _) x=>some x.i | _=>none
def bound (regs:List V) (dflt:Int):Option Operand→Option Int
 | none=>some dflt
 | some x=>vInt (val regs (.int .i64) x)
def isT (T:Nat):D→Bool | .iface t _=>t==T | _=>false
def payload:D→D | .iface _ x=>x | _=>.nilFunc
def assertD (T:Nat) (z:D) (x:D):D:=bif isT T x then payload x else z
def byteAt (s:ByteArray) (n:Nat):Int:=((s.data.toList.getD n 0).toNat:Int)
def assoc (ty:Nat→K) (κ:K) (key:D):List (D×D)→Nat→Option (Option Nat)
 | [],_=>some none
 | (x,_)::es,i=>match D.eqv ty eqDepth key x κ with
  | some true=>some (some i)
  | some false=>assoc ty κ key es (i+1)
  | none=>none
def entryVal (es:List (D×D)) (z:D):Option Nat→D
 | some i=>match es[i]? with | some e=>e.2 | none=>z
 | none=>z
def entrySet (es:List (D×D)) (key v:D):Option Nat→List (D×D)
 | some i=>es.set i (key,v)
 | none=>es++[(key,v)]
def entryAt (es:List (D×D)):Option Nat→Nat
 | some i=>i
 | none=>es.length
def eqNil (H:List AObj) (v:V) (y:D):Option Bool:=
 match v,y with
 | .d (.slice _) x,.slice false []=>some (!x.nn)
 | .sref b _ _,.slice false []=>match H[b]? with | some (.row _ _ nn _)=>some (!nn) | _=>none
 | .lit _ _,.slice false []=>some false
 | .ptr _ _ _,.nilPtr=>some false
 | .cptr _ _,.nilPtr=>some false
 | .func _ _ _,.nilFunc=>some false
 | .map _,.nilMap=>some false
 | _,_=>none
def nilOp:Operand→Option D
 | .const (.slice none 0 0)=>some (.slice false [])
 | .const (.pointer none)=>some .nilPtr
 | .const .nilFunc=>some .nilFunc
 | .const (.map none)=>some .nilMap
 | _=>none
def litElems (H:List AObj) (ty:Nat→K) (e:Nat) (v:V) (κ:K):Option (List D):=
 match κ with
 | .str=>match v with | .d .str x=>(match ty e with | .int .u8=>some (bytesOf x.s) | _=>none) | _=>none
 | .slice e'=>if e'=e then
   match v with
   | .d (.slice e'') x=>if e''=e then some x.elems else none
   | .lit e'' ds=>if e''=e then some ds else none
   | .sref b off len=>match H[b]? with | some (.row e'' _ _ ds)=>if e''=e then some ((ds.drop off).take len) else none | _=>none
   | _=>none
  else none
 | _=>none
def maxLen:Nat:=1073741824
def resV (ty:Nat→K) (ts:List Nat) (x:D):V:=match ts with | [t]=>.d (ty t) x | _=>.dtup (ts.map ty) x
def maxInts (k:IntKind) (most:Bool):Int→List V→Option Int
 | a,[]=>some a
 | a,.d (.int k') x::vs=>if k'=k then maxInts k most (bif most then (if x.i>a then x.i else a) else (if x.i<a then x.i else a)) vs else none
 | _,_=>none
def evLen {R:Type} (E:Env) (H:List AObj) (vs:List V) (ts:List Nat) (k:V→Eff→Option R):Option R:=
 match vs,ts with
 | [v],[t]=>
  match E.ty t with
  | .str=>match v with | .d .str x=>k (.d (.int .i64) (.int .i64 x.s.size)) .none | _=>none
  | .slice e=>match v with
   | .d (.slice e') x=>if e'=e then k (.d (.int .i64) (.int .i64 x.elems.length)) .none else none
   | .lit _ ds=>k (.d (.int .i64) (.int .i64 ds.length)) .none
   | .sref _ _ n=>k (.d (.int .i64) (.int .i64 n)) .none
   | _=>none
  | .map _ _=>match v with
   | .map b=>match H[b]? with | some (.map _ _ es)=>k (.d (.int .i64) (.int .i64 es.length)) .none | _=>none
   | _=>none
  | .array n _=>k (.d (.int .i64) (.int .i64 n)) .none
  | _=>none
 | _,_=>none
def evAppend {R:Type} (E:Env) (inpl:Bool) (H:List AObj) (vs:List V) (ts:List Nat) (k:V→Eff→Option R):Option R:=
 match vs,ts with
 | [s,x],[t,u]=>
  match E.ty t with
  | .slice e=>
   match litElems H E.ty e x (E.ty u) with
   | some ys=>
    match s with
    | .d (.slice e') (.slice false [])=>if e'=e then bif decide (ys.length≤maxLen) then k (.sref H.length 0 ys.length) (.new (.row e true (!ys.isEmpty) ys)) else none else none
    | .lit e' ds=>if e'=e then
      match ds with
      | []=>bif decide (ys.length≤maxLen) then k (.sref H.length 0 ys.length) (.new (.row e true true ys)) else none
      | _::_=>bif ys.isEmpty then k (.lit e ds) .none
       else bif decide (ds.length+ys.length≤maxLen) then k (.sref H.length 0 (ds.length+ys.length)) (.new (.row e true true (ds++ys))) else none
     else none
    | .sref b off len=>
     match H[b]? with
     | some (.row e' true nn ds)=>if e'=e then
       bif inpl then
        bif decide (off+len+ys.length≤ds.length) then k (.sref b off (len+ys.length)) (.set b (.row e true nn (ds.take (off+len)++ys++ds.drop (off+len+ys.length)))) else none
       else bif decide (len+ys.length≤maxLen) then k (.sref H.length 0 (len+ys.length)) (.kill b (.row e true (nn||!ys.isEmpty) ((ds.drop off).take len++ys))) else none
      else none
     | _=>none
    | _=>none
   | none=>none
  | _=>none
 | _,_=>none
def evMaxMin {R:Type} (most:Bool) (vs:List V) (k:V→Eff→Option R):Option R:=
 match vs with
 | .d (.int i) x::vs=>match maxInts i most x.i vs with | some n=>k (.d (.int i) (.int i n)) .none | none=>none
 | _=>none
def evClear {R:Type} (E:Env) (H:List AObj) (vs:List V) (ts:List Nat) (k:V→Eff→Option R):Option R:=
 match vs,ts with
 | [.sref b off len],[t]=>
  match E.ty t with
  | .slice e=>match H[b]? with
   | some (.row e' true nn ds)=>if e'=e then k .undef (.set b (.row e true nn (ds.take off++List.replicate len (zero E.ty (E.ty e))++ds.drop (off+len)))) else none
   | _=>none
  | _=>none
 | _,_=>none
def evCopy {R:Type} (E:Env) (H:List AObj) (vs:List V) (ts:List Nat) (k:V→Eff→Option R):Option R:=
 match vs,ts with
 | [.sref b off len,x],[t,u]=>
  match E.ty t with
  | .slice e=>match litElems H E.ty e x (E.ty u) with
   | some ys=>match H[b]? with
    | some (.row e' true nn ds)=>if e'=e then
      k (.d (.int .i64) (.int .i64 (min ys.length len:Nat))) (.set b (.row e true nn (ds.take off++ys.take (min ys.length len)++ds.drop (off+min ys.length len))))
     else none
    | _=>none
   | none=>none
  | _=>none
 | _,_=>none
def evBuiltin {R:Type} (E:Env) (inpl:Bool) (H:List AObj) (b:Builtin) (vs:List V) (ts:List Nat) (k:V→Eff→Option R):Option R:=
 match b with
 | .len=>evLen E H vs ts k
 | .append=>evAppend E inpl H vs ts k
 | .max=>evMaxMin true vs k
 | .min=>evMaxMin false vs k
 | .clear=>evClear E H vs ts k
 | .copy=>evCopy E H vs ts k
 | _=>none
def evSlice {R:Type} (H:List AObj) (κ:K) (v:V) (regs:List V) (lo hi mx:Option Operand) (k:V→Eff→Option R):Option R:=
 let cut (n:Nat) (go:Nat→Nat→Option R):Option R:=
  match bound regs 0 lo,bound regs n hi,bound regs n mx with
  | some l,some h,some m=>bif decide (0≤l)&&decide (l≤h)&&decide (h≤m)&&decide (m≤(n:Int)) then go l.toNat h.toNat else none
  | _,_,_=>none
 bif mx.isSome&&hi.isNone then none else
 match κ,v with
 | .str,.d .str x=>match mx with | none=>cut x.s.size fun l h=>k (.d .str (.str (x.s.extract l h))) .none | some _=>none
 | .slice e,.d (.slice e') x=>if e'=e then cut x.elems.length fun l h=>k (.d (.slice e) (.slice x.nn ((x.elems.drop l).take (h-l)))) .none else none
 | .slice e,.lit e' ds=>if e'=e then cut ds.length fun l h=>k (.d (.slice e) (.slice true ((ds.drop l).take (h-l)))) .none else none
 | .slice e,.sref b off len=>
  match H[b]? with
  | some (.row e' _ _ ds)=>if e'=e then
    match bound regs 0 lo,bound regs len hi,bound regs len mx with
    | some l,some h,some m=>bif mx.isSome then
       bif decide (0≤l)&&decide (l≤h)&&decide (h≤m)&&decide (m≤(len:Int))&&decide (off+m.toNat=ds.length) then k (.sref b (off+l.toNat) (h.toNat-l.toNat)) .none else none
      else
       bif decide (0≤l)&&decide (l≤h)&&decide (off+h.toNat≤ds.length) then k (.sref b (off+l.toNat) (h.toNat-l.toNat)) .none else none
    | _,_,_=>none
   else none
  | _=>none
 | _,_=>none
def evSliceA {R:Type} (H:List AObj) (κ:K) (v:V) (regs:List V) (lo hi mx:Option Operand) (k:V→Eff→Option R):Option R:=
 match κ,v with
 | .array n e,.ptr b [] _=>match H[b]? with
  | some (.row e' _ _ ds)=>if e'=e∧(mx.isSome&&hi.isNone)=false then
    match bound regs 0 lo,bound regs n hi,bound regs n mx with
    | some l,some h,some m=>bif decide (0≤l)&&decide (l≤h)&&decide (h≤(n:Int))&&decide (m=(n:Int))&&Nat.beq ds.length n then k (.sref b l.toNat (h.toNat-l.toNat)) .none else none
    | _,_,_=>none
   else none
  | _=>none
 | κ,v=>evSlice H κ v regs lo hi mx k
def vFunc:V→Option (Nat×List V×List V)
 | .d .func (.fn g)=>some (g,[],[])
 | .func (.func g) a c=>some (g,a,c)
 | _=>none
def evCon {R:Type} (E:Env) (H:List AObj) (c:Con) (fn:Func) (args:List V) (k:V→Eff→Option R):Option R:=
 bif c.plain then
  match V.pureL false H args with
  | some ds=>match c.run ds with
   | some r=>k (resV E.ty fn.resultTypes.toList r) .none
   | none=>none
  | none=>none
 else
  match V.pureL true ((V.refsL args).foldl freeze1 H) args with
  | some ds=>match c.run ds with
   | some r=>
    bif c.fresh then
     match fn.resultTypes.toList with
     | [t]=>match E.ty t with
      | .slice e=>k (.sref ((V.refsL args).foldl freeze1 H).length 0 r.elems.length) (.freezeNew (V.refsL args) (.row e true r.nn r.elems))
      | .map a e=>k (.map ((V.refsL args).foldl freeze1 H).length) (.freezeNew (V.refsL args) (.map a e (r.elems.map fun p=>(p.at 0,p.at 1))))
      | _=>none
     | _=>none
    else k (resV E.ty fn.resultTypes.toList r) (.freeze (V.refsL args))
   | none=>none
  | none=>none
def evPrim {R:Type} (E:Env) (H:List AObj) (p:List D→Option D) (fn:Func) (args:List V) (k:V→Eff→Option R):Option R:=
 match V.pureL false H args with
 | some ds=>match p ds with
  | some r=>k (resV E.ty fn.resultTypes.toList r) .none
  | none=>none
 | none=>none
def allKinds (ty:Nat→K) (H:List AObj):List V→List Nat→Bool
 | [],[]=>true
 | v::vs,t::ts=>kindIs ty H v (ty t)&&allKinds ty H vs ts
 | _,_=>false
def disp (E:Env) (ts us:List Nat):List (Nat×Nat)→D→List D→Option D
 | [],_,_=>none
 | p::l,d,ds=>bif isT p.1 d then (match E.con p.2,E.fn p.2 with
   | some cc,some fn=>if fn.body.isSome=true∧cc.plain=true∧fn.params.toList=p.1::ts∧fn.resultTypes.toList=us then cc.run (payload d::ds) else none
   | _,_=>none) else disp E ts us l d ds
def evInvoke {R:Type} (E:Env) (H:List AObj) (u:V) (m:String) (args:List V) (ts:List Nat) (t:Nat) (k:V→Eff→Option R):Option R:=
 match u with
 | .d (.iface _) d=>bif allKinds E.ty H args ts then (match V.pureL false H args with
   | some ds=>match disp E ts [t] (E.meth m) d ds with
    | some r=>k (resV E.ty [t] r) .none
    | none=>none
   | none=>none) else none
 | _=>none
def keyK:K→Bool | .int _=>true | .str=>true | _=>false
def keyEq (κ:K) (x y:D):Bool:=match κ with
 | .int _=>x.i==y.i
 | .str=>x.s==y.s
 | _=>false
def assocK {R:Type} (κ:K) (key:D):List (D×D)→Nat→(Option Nat→Option R)→Option R
 | [],_,k=>k none
 | e::es,i,k=>bif keyEq κ key e.1 then k (some i) else assocK κ key es (i+1) k
def evInsert {R:Type} (E:Env) (H:List AObj) (regs:List V) (t:Nat) (m key v:Operand) (k:V→Eff→Option R):Option R:=
 match E.ty t,val regs (E.ty t) m with
 | .map a e,.map b=>match H[b]? with
  | some (.map a' e' es)=>match val regs (E.ty a) key,val regs (E.ty e) v with
   | .d κ x,.d κ' y=>if a'=a∧e'=e∧κ=E.ty a∧κ'=E.ty e∧keyK κ=true then
     assocK κ x es 0 fun r=>k .undef (.set b (.map a e (entrySet es x y r)))
    else none
   | _,_=>none
  | _=>none
 | _,_=>none
def evLookup {R:Type} (E:Env) (H:List AObj) (regs:List V) (t:Nat) (m key:Operand) (ok:Bool) (k:V→Eff→Option R):Option R:=
 match E.ty t,val regs (E.ty t) m with
 | .map a e,.map b=>match H[b]? with
  | some (.map a' e' es)=>match val regs (E.ty a) key with
   | .d κ x=>if a'=a∧e'=e∧κ=E.ty a∧keyK κ=true then
     assocK κ x es 0 fun r=>bif ok then k (.tup [.d (E.ty e) (entryVal es (zero E.ty (E.ty e)) r),.d .bool (.bool r.isSome)]) .none else k (.d (E.ty e) (entryVal es (zero E.ty (E.ty e)) r)) .none
    else none
   | _=>none
  | _=>none
 | _,_=>none
def K.keyF (ty:Nat→K):Nat→K→Bool
 | _,.bool=>true
 | _,.int _=>true
 | _,.str=>true
 | n+1,.struct fs=>fs.all fun f=>K.keyF ty n (ty f)
 | n+1,.array _ e=>K.keyF ty n (ty e)
 | _,_=>false
def evInsertU {R:Type} (E:Env) (H:List AObj) (regs:List V) (t:Nat) (m key v:Operand) (k:V→Eff→Option R):Option R:=
 match E.ty t,val regs (E.ty t) m with
 | .map a e,.map b=>match H[b]? with
  | some (.map a' e' es)=>match val regs (E.ty a) key,val regs (E.ty e) v with
   | .d κ x,.d κ' y=>if a'=a∧e'=e∧κ=E.ty a∧κ'=E.ty e∧K.keyF E.ty 12 κ=true then
     match assoc E.ty κ x es 0 with
     | some r=>k .undef (.set b (.map a e (entrySet es x y r)))
     | none=>none
    else none
   | _,_=>none
  | _=>none
 | _,_=>none
def evLookupU {R:Type} (E:Env) (H:List AObj) (regs:List V) (t:Nat) (m key:Operand) (ok:Bool) (k:V→Eff→Option R):Option R:=
 match E.ty t,val regs (E.ty t) m with
 | .map a e,.map b=>match H[b]? with
  | some (.map a' e' es)=>match val regs (E.ty a) key with
   | .d κ x=>if a'=a∧e'=e∧κ=E.ty a∧K.keyF E.ty 12 κ=true then
     match assoc E.ty κ x es 0 with
     | some r=>bif ok then k (.tup [.d (E.ty e) (entryVal es (zero E.ty (E.ty e)) r),.d .bool (.bool r.isSome)]) .none else k (.d (E.ty e) (entryVal es (zero E.ty (E.ty e)) r)) .none
     | none=>none
    else none
   | _=>none
  | _=>none
 | _,_=>none
def eqT (o:Option Bool):Bool:=match o with | some true=>true | _=>false
def evEntryU {R:Type} (E:Env) (H:List AObj) (regs:List V) (t:Nat) (m key:Operand) (k:V→Eff→Option R):Option R:=
 match E.ty t,val regs (E.ty t) m with
 | .map a e,.map b=>match H[b]? with
  | some (.map a' e' es)=>match val regs (E.ty a) key with
   | .d κ x=>if a'=a∧e'=e∧κ=E.ty a∧K.keyF E.ty 12 κ=true then
     bif eqT (D.eqv E.ty eqDepth x x κ) then match assoc E.ty κ x es 0 with
     | some r=>k (.tup [.d (E.ty e) (entryVal es (zero E.ty (E.ty e)) r),.d (.int .i64) (.int .i64 (entryAt es r))]) (.set b (.map a e (entrySet es x (entryVal es (zero E.ty (E.ty e)) r) r)))
     | none=>none
     else none
    else none
   | _=>none
  | _=>none
 | _,_=>none
def setVal (es:List (D×D)) (i:Nat) (y:D):List (D×D):=es.set i ((es.getD i (.nilFunc,.nilFunc)).1,y)
def evEntryStore {R:Type} (E:Env) (H:List AObj) (regs:List V) (t:Nat) (m i v:Operand) (k:V→Eff→Option R):Option R:=
 match E.ty t,val regs (E.ty t) m with
 | .map a e,.map b=>match H[b]? with
  | some (.map a' e' es)=>match vInt (val regs (.int .i64) i),val regs (E.ty e) v with
   | some n,.d κ' y=>if a'=a∧e'=e∧κ'=E.ty e then
     bif decide (0≤n)&&decide (n<es.length) then k .undef (.set b (.map a e (setVal es n.toNat y))) else none
    else none
   | _,_=>none
  | _=>none
 | _,_=>none
def selL {R:Type}:List V→Nat→(V→Option R)→Option R
 | [],_,_=>none
 | v::vs,i,k=>bif i==0 then k v else selL vs (i-1) k
def selV {R:Type} (ty:Nat→K) (v:V) (p:List Nat) (k:V→Option R):Option R:=
 match v,p with
 | .agg _ vs,[i]=>selL vs i k
 | v,p=>match V.get ty v p with | some v'=>k v' | none=>none
def varObj (own:Bool) (κ:K) (v:V):Option AObj:=match own,κ,v with
 | true,.array n e,.d _ x=>bif Nat.ble n 4096&&Nat.beq x.parts.length n then some (.row e true true x.parts) else none
 | _,κ,v=>some (.var κ v)
def varObjK {R:Type} (own:Bool) (κ:K) (v:V) (k:AObj→Option R):Option R:=match own,κ,v with
 | true,.array n e,.d _ x=>bif Nat.ble n 4096&&Nat.beq x.parts.length n then k (.row e true true x.parts) else none
 | _,κ,v=>k (.var κ v)
theorem varObjK_some {R:Type} {own:Bool} {κ:K} {v:V} {k:AObj→Option R} {r:R} (h:varObjK own κ v k=some r):∃ob,varObj own κ v=some ob∧k ob=some r:=by
 unfold varObjK at h
 unfold varObj
 split at h
 ·rename_i n e κ' x
  cases hc:(Nat.ble n 4096&&Nat.beq x.parts.length n) with
  | false=>rw[hc] at h;simp at h
  | true=>rw[hc] at h;exact⟨_,by simp,h⟩
 ·rename_i hx
  exact⟨.var κ v,rfl,h⟩
def evBS {R:Type} (E:Env) (own:Bool) (H:List AObj) (regs:List V) (t n:Nat) (parts:Array (Nat×Operand)) (k:V→Eff→Option R):Option R:=match E.ty t with
 | .slice e=>match setElems E.ty H regs (E.ty e) parts.toList (List.replicate n (zero E.ty (E.ty e))) with
  | some ds=>bif !(decide (n≤4096)&&(E.ty e).ok) then none else bif own then k (.sref H.length 0 n) (.new (.row e true true ds)) else k (.lit e ds) .none
  | none=>none
 | _=>none
def partRefs (regs:List V) (ps:List (Nat×Operand)):List Nat:=(ps.map fun p=>(val regs .bad p.2).refs).flatten
def hasOwn (H:List AObj) (bs:List Nat):Bool:=bs.any fun b=>match H[b]? with | some (.row _ true _ _)=>true | _=>false
def evOp {R:Type} (E:Env) (hint:Hint) (H:List AObj) (regs:List V) (type:Nat) (op:Op) (k:V→Eff→Option R):Option R:=
 match op with
 | .move x=>k (val regs (E.ty type) x) .none
 | .assign x=>k (val regs (E.ty type) x) .none
 | .pick c a b=>match val regs .bool c with
  | .d .bool x=>match x.b with
   | true=>k (val regs (E.ty type) a) .none
   | false=>k (val regs (E.ty type) b) .none
  | _=>none
 | .alloc t=>bif (E.ty t).ok then varObjK hint.own (E.ty t) (.d (E.ty t) (zero E.ty (E.ty t))) fun ob=>k (.ptr H.length [] (E.ty t)) (.new ob)
  else none
 | .box t x=>if kindIs E.ty H (val regs (E.ty t) x) (E.ty t) then varObjK hint.own (E.ty t) (val regs (E.ty t) x) fun ob=>k (.ptr H.length [] (E.ty t)) (.new ob)
  else none
 | .build t parts=>match setParts E.ty H regs (E.ty t) parts.toList (spread (zero E.ty (E.ty t)) ((E.ty t).kids E.ty) 0) with
  | some vs=>if K.isAgg (E.ty t) then k (mkAgg (E.ty t) vs) .none else none
  | none=>none
 | .buildSlice t n parts=>bif hasOwn H (partRefs regs parts.toList)&&!hint.own then
   evBS E false ((partRefs regs parts.toList).foldl freeze1 H) regs t n parts fun v e=>match e with | .none=>k v (.freeze (partRefs regs parts.toList)) | _=>none
  else evBS E hint.own H regs t n parts k
 | .load t a=>match val regs .bad a with
  | .ptr b p κ=>if κ=E.ty t then
    match H[b]? with
    | some (.var _ v)=>selV E.ty v p fun v'=>k v' .none
    | some (.row _ _ _ ds)=>k (.d κ ((D.agg ds).get p)) .none
    | _=>none
   else none
  | .cptr κ x=>if κ=E.ty t then k (.d κ x) .none else none
  | _=>none
 | .store t a x=>match val regs .bad a with
  | .ptr b p κ=>if κ=E.ty t∧kindIs E.ty H (val regs (E.ty t) x) κ=true then
    match H[b]? with
    | some (.var κ0 v)=>match V.put E.ty v p (val regs (E.ty t) x) with | some v'=>k .undef (.set b (.var κ0 v')) | none=>none
    | some (.row e true nn ds)=>match p,val regs (E.ty t) x with
     | i::p',.d _ y=>k .undef (.set b (.row e true nn (ds.set i ((ds.getD i .nilFunc).put p' y))))
     | [],.d _ y=>bif Nat.beq y.parts.length ds.length then k .undef (.set b (.row e true nn y.parts)) else none
     | _,_=>none
    | _=>none
   else none
  | _=>none
 | .sliceToArrayPointer t x=>match E.ty t,val regs .bad x with
  | .array n e,.sref b off len=>match H[b]? with
   | some (.row e' _ _ ds)=>if e'=e then (bif Nat.ble 1 n&&Nat.beq off 0&&Nat.beq len n&&Nat.beq ds.length n then k (.ptr b [] (.array n e)) .none else none) else none
   | _=>none
  | _,_=>none
 | .nilCheck x=>match val regs .bad x with
  | .ptr b p κ=>k (.ptr b p κ) .none
  | .cptr κ x=>k (.cptr κ x) .none
  | .d .func (.fn g)=>k (.d .func (.fn g)) .none
  | .func (.func g) a c=>k (.func (.func g) a c) .none
  | .iface t v=>k (.iface t v) .none
  | .d (.iface m) (.iface t x)=>k (.d (.iface m) (.iface t x)) .none
  | _=>none
 | .binOp op t x y u=>
  match nilOp y with
  | some b=>
   if kindIs E.ty H (val regs (E.ty t) x) (E.ty t)=true then
    match op,eqNil H (val regs (E.ty t) x) b with
    | .eql,some r=>k (.d .bool (.bool r)) .none
    | .neq,some r=>k (.d .bool (.bool !r)) .none
    | _,_=>none
   else none
  | none=>
   match val regs (E.ty t) x,val regs (E.ty u) y with
   | .d κx a,.d κy b=>match binD E.ty op (E.ty t) κx κy a b with | some r=>k (.d (binK op κx) r) .none | none=>none
   | _,_=>none
 | .unOp op _ x=>match val regs .bad x with
  | .d κ a=>match unD op κ a with | some r=>k (.d κ r) .none | none=>none
  | _=>none
 | .convert s d x=>bif !(E.ty s).ok then none else
  match val regs (E.ty s) x,E.ty d with
  | .d (.int _) a,.int k'=>k (.d (.int k') (.int k' (k'.wrap a.i))) .none
  | .d (.int _) a,.str=>k (.d .str (.str (Utf8.encode a.i))) .none
  | .d .str a,.str=>k (.d .str a) .none
  | .d .str a,.slice e=>match E.ty e with
   | .int .u8=>bif decide (a.s.size≤maxLen) then k (.sref H.length 0 a.s.size) (.new (.row e true true (bytesOf a.s))) else none
   | _=>none
  | v,.str=>match E.ty s with
   | .slice e=>match E.ty e with
    | .int .u8=>if kindIs E.ty H v (.slice e) then match V.pure false H v with | some a=>k (.d .str (.str (ofBytes a.elems))) .none | none=>none else none
    | _=>none
   | _=>none
  | _,_=>none
 | .makeInterface t x=>match E.ty type,E.ty t with
  | _,.iface _=>none
  | _,.bad=>none
  | .iface m,_=>match val regs (E.ty t) x with
   | .d κ a=>if κ=E.ty t then k (.d (.iface m) (.iface t a)) .none else none
   | v=>if kindIs E.ty H v (E.ty t) then k (.iface t v) .none else none
  | _,_=>none
 | .makeFunc fn first captured=>
  match fn,first.toList,captured.toList with
  | .func g,[],[]=>k (.d .func (.fn g)) .none
  | _,_,_=>k (.func fn (first.toList.map (val regs .bad)) (captured.toList.map (val regs .bad))) .none
 | .makeSlice t l c=>match E.ty t,vInt (val regs (.int .i64) l),vInt (val regs (.int .i64) c) with
  | .slice e,some l,some c=>bif decide (0≤l)&&decide (l≤c)&&decide (c≤(maxLen:Int))&&(E.ty e).ok then
    k (.sref H.length 0 l.toNat) (.new (.row e true true (List.replicate l.toNat (zero E.ty (E.ty e))))) else none
  | _,_,_=>none
 | .slice t x lo hi mx=>evSliceA H (E.ty t) (val regs (E.ty t) x) regs lo hi mx k
 | .fieldAddr t x f=>match E.ty t with
  | .struct fs=>if f<fs.length then
    match val regs .bad x with
    | .ptr b p κ=>if κ=E.ty t then k (.ptr b (p++[f]) (κ.kid E.ty f)) .none else none
    | .cptr κ a=>if κ=E.ty t then k (.cptr (κ.kid E.ty f) (a.at f)) .none else none
    | _=>none
   else none
  | _=>none
 | .field t x f=>match E.ty t with
  | .struct fs=>if f<fs.length then
    match val regs .bad x with
    | .d κ a=>if κ=E.ty t then k (.d (κ.kid E.ty f) (a.at f)) .none else none
    | .agg κ vs=>if κ=E.ty t then match vs[f]? with | some v=>k v .none | none=>none else none
    | _=>none
   else none
  | _=>none
 | .indexAddr t x i=>match vInt (val regs (.int .i64) i) with
  | some n=>match E.ty t,val regs .bad x with
   | .array m e,.ptr b p κ=>if κ = .array m e then bif decide (0≤n)&&decide (n<m) then k (.ptr b (p++[n.toNat]) (E.ty e)) .none else none else none
   | .array m e,.cptr κ a=>if κ = .array m e then bif decide (0≤n)&&decide (n<m) then k (.cptr (E.ty e) (a.at n.toNat)) .none else none else none
   | .slice e,.d (.slice e') a=>if e'=e then bif decide (0≤n)&&decide (n<a.elems.length) then k (.cptr (E.ty e) (a.elems.getD n.toNat .nilFunc)) .none else none else none
   | .slice e,.lit e' ds=>if e'=e then bif decide (0≤n)&&decide (n<ds.length) then k (.cptr (E.ty e) (ds.getD n.toNat .nilFunc)) .none else none else none
   | .slice e,.sref b off len=>match H[b]? with
    | some (.row e' _ _ _)=>if e'=e then bif decide (0≤n)&&decide (n<len) then k (.ptr b [off+n.toNat] (E.ty e)) .none else none else none
    | _=>none
   | _,_=>none
  | none=>none
 | .index t x i=>match vInt (val regs (.int .i64) i) with
  | some n=>match E.ty t,val regs (E.ty t) x with
   | .str,.d .str a=>bif decide (0≤n)&&decide (n<a.s.size) then k (.d (.int .u8) (.int .u8 (byteAt a.s n.toNat))) .none else none
   | .array m e,.d κ a=>if κ = .array m e then bif decide (0≤n)&&decide (n<m) then k (.d (E.ty e) (a.at n.toNat)) .none else none else none
   | .array m e,.agg κ vs=>if κ = .array m e then bif decide (0≤n)&&decide (n<m) then match vs[n.toNat]? with | some v=>k v .none | none=>none else none else none
   | _,_=>none
  | none=>none
 | .range t x=>match E.ty t,val regs (E.ty t) x with
  | .str,.d .str a=>k (.iter H.length) (.new (.iter a.s 0))
  | _,_=>none
 | .next it isStr=>match val regs .bad it with
  | .iter b=>match H[b]?,isStr with
   | some (.iter s pos),true=>match decide (pos<s.size) with
    | true=>k (.tup [.d .bool (.bool true),.d (.int .i64) (.int .i64 pos),.d (.int .i32) (.int .i32 (Utf8.decode s pos).1)]) (.set b (.iter s (pos+(Utf8.decode s pos).2)))
    | false=>k (.tup [.d .bool (.bool false)]) .none
   | _,_=>none
  | _=>none
 | .typeAssert x _ T ok=>match E.ty T with
  | .iface _=>none
  | .bad=>none
  | _=>match val regs .bad x with
   | .d (.iface _) a=>bif ok then k (.tup [.d (E.ty T) (assertD T (zero E.ty (E.ty T)) a),.d .bool (.bool (isT T a))]) .none
     else bif isT T a then k (.d (E.ty T) (payload a)) .none else none
   | .iface t v=>if t=T then bif ok then k (.tup [v,.d .bool (.bool true)]) .none else k v .none
     else bif ok then k (.tup [.d (E.ty T) (zero E.ty (E.ty T)),.d .bool (.bool false)]) .none else none
   | _=>none
 | .extract x i=>match val regs .bad x with
  | .tup vs=>match vs[i]? with | some v=>k v .none | none=>none
  | .dtup κs a=>if i<κs.length then k (.d (κs.getD i .bad) (a.at i)) .none else none
  | _=>none
 | .makeMap t r=>match E.ty t,r with
  | .map a e,none=>k (.map H.length) (.new (.map a e []))
  | _,_=>none
 | .insert t m key v=>bif hint.unk then evInsertU E H regs t m key v k else evInsert E H regs t m key v k
 | .mapUpdate t m key v=>bif hint.unk then evInsertU E H regs t m key v k else evInsert E H regs t m key v k
 | .lookup t m key ok=>bif hint.unk then evLookupU E H regs t m key ok k else evLookup E H regs t m key ok k
 | .mapEntry t m key=>bif hint.unk then evEntryU E H regs t m key k else none
 | .entryStore t m i v=>evEntryStore E H regs t m i v k
 | .call c=>match c.callee with
  | .builtin b=>if c.args.toList.length=c.argTypes.toList.length then evBuiltin E hint.inpl H b (vals regs E.ty c.args.toList c.argTypes.toList) c.argTypes.toList k else none
  | .value fo=>match vFunc (val regs .func fo) with
   | some (g,[],[])=>match E.prim g with
    | some p=>match E.fn g with
     | some fn=>if c.args.toList.length=fn.params.toList.length∧allKinds E.ty H (vals regs E.ty c.args.toList fn.params.toList) fn.params.toList=true then
       evPrim E H p fn (vals regs E.ty c.args.toList fn.params.toList) k else none
     | none=>none
    | none=>match E.con g,E.fn g with
    | some cc,some fn=>if fn.body.isSome∧c.args.toList.length=fn.params.toList.length∧allKinds E.ty H (vals regs E.ty c.args.toList fn.params.toList) fn.params.toList=true then
      evCon E H cc fn (vals regs E.ty c.args.toList fn.params.toList) k else none
    | _,_=>none
   | _=>none
  | .invoke x m=>if c.args.toList.length=c.argTypes.toList.length then evInvoke E H (val regs .bad x) m (vals regs E.ty c.args.toList c.argTypes.toList) c.argTypes.toList type k else none
 | _=>none
inductive AExit where
 | normal | ret | exit (id:Nat)
inductive Tgt where
 | fn (g:Nat) | yield (b:Nat) | panic
def isIf:V→Bool | .d _ (.iface _ _)=>true | .iface _ _=>true | _=>false
def setD (regs:List V) (dst:Option Nat) (v:V):List V:=match dst with | some d=>regs.set d v | none=>regs
def inlines (E:Env) (regs:List V) (o:Oper):Option (Tgt×List V):=
 match o.op with
 | .call c=>match c.callee with
  | .value fo=>match vFunc (val regs .func fo) with
   | some (g,a,cs)=>match E.con g,a,cs with
    | some _,[],[]=>none
    | _,_,_=>match E.fn g with
     | some fn=>if fn.body.isSome=true∧c.args.toList.length=(fn.params.toList.drop a.length).length then some (.fn g,a++vals regs E.ty c.args.toList (fn.params.toList.drop a.length)++cs) else none
     | none=>none
   | none=>match val regs .func fo with
    | .yield b=>if c.args.toList.length=c.argTypes.toList.length then some (.yield b,vals regs E.ty c.args.toList c.argTypes.toList) else none
    | _=>none
  | _=>none
 | .panic x=>some (.panic,[val regs .bad x])
 | _=>none
def evOps {R:Type} (E:Env) (inl:Tgt→List V→List AObj→(V→List AObj→Option R)→Option R) (hint:Hint) (dsts:List (Option Nat)) :
  List Oper→List V→List AObj→(List V→List AObj→Option R)→Option R
 | [],regs,H,k=>k regs H
 | o::os,regs,H,k=>
  let go (regs:List V):Option R:=
   match inlines E regs o with
   | some (g,args)=>inl g args H fun v H'=>evOps E inl hint dsts os (setD regs o.dst v) H' k
   | none=>evOp E hint H regs o.type o.op fun v e=>evOps E inl hint dsts os (setD regs o.dst v) (e.app H) k
  match o.guard with
  | none=>go regs
  | some (j,want)=>
   match dsts.getD j none with
   | some t=>match regs.getD t .undef with
    | .d .bool x=>match x.b with
     | true=>bif want then go (regs.set t (.d .bool (.bool true))) else evOps E inl hint dsts os (setD (regs.set t (.d .bool (.bool true))) o.dst (.tup [])) H k
     | false=>bif want then evOps E inl hint dsts os (setD (regs.set t (.d .bool (.bool false))) o.dst (.tup [])) H k else go (regs.set t (.d .bool (.bool false)))
    | .tup []=>evOps E inl hint dsts os (setD regs o.dst (.tup [])) H k
    | _=>none
   | none=>none
def Eff.still:Eff→Bool | .none=>true | .freeze []=>true | _=>false
def Eff.writes (n:Nat):Eff→List Nat
 | .none=>[]
 | .set b _=>[b]
 | .new _=>[n]
 | .kill b _=>[b,n]
 | .freeze bs=>bs
 | .freezeNew bs _=>n::bs
def opRefs (regs:List V) (op:Op):List Nat:=(op.operands.toList.map fun x=>(val regs .bad x).refs).flatten
def opReads (regs:List V) (op:Op):List Nat:=match op with
 | .move _=>[]
 | .assign _=>[]
 | op=>opRefs regs op
inductive MTag where
 | none | look (t m k:Nat) | ent (t m k:Nat)
def mapTag:Op→MTag
 | .lookup t (.tmp m) (.tmp k) false=>.look t m k
 | .mapEntry t (.tmp m) (.tmp k)=>.ent t m k
 | _=>.none
def MTag.ok:MTag→MTag→Bool
 | .look t m k,.ent t' m' k'=>Nat.beq t t'&&(Nat.beq m m'&&Nat.beq k k')
 | _,_=>false
structure Log where
 i:Nat
 reads:List Nat
 writes:List Nat
 still:Bool
 alo:Bool
 tag:MTag
def maskOf (acc:List Nat) (es:List Edge):Nat:=es.foldl (fun s e=>bif Region.binds .any e then s ||| (2^e.on ||| acc.getD e.on 0) else s) 0
def masksFrom:List Nat→List Oper→List Nat
 | acc,[]=>acc
 | acc,o::os=>masksFrom (acc++[maskOf acc o.after.toList]) os
def masks (os:List Oper):List Nat:=masksFrom [] os
def waits (ms:List Nat) (i j:Nat):Bool:=(ms.getD j 0).testBit i
def disj (as1 bs:List Nat):Bool:=as1.all fun a=>!bs.contains a
def indep (x y:Log):Bool:=(x.still&&disj x.reads y.writes)||(y.still&&disj y.reads x.writes)||(x.alo&&y.alo&&disj x.reads y.writes&&disj y.reads x.writes&&disj x.writes y.writes)||x.tag.ok y.tag
def pairsOk (ms:List Nat):List Log→Bool
 | []=>true
 | x::l=>l.all (fun y=>waits ms x.i y.i||indep x y)&&pairsOk ms l
def isTmp (t:Nat):Operand→Bool | .tmp u=>u==t | _=>false
def names (dsts:List (Option Nat)) (o:Oper) (t:Nat):Bool:=
 o.op.operands.toList.any (isTmp t)||(match o.guard with | some (j,_)=>dsts.getD j none==some t | none=>false)||o.dst==some t
def apart (dsts:List (Option Nat)) (x y:Oper):Bool:=
 (match x.dst with | some d=>!names dsts y d | none=>true)&&(match y.dst with | some d=>!names dsts x d | none=>true)
def apartFrom (ms:List Nat) (dsts:List (Option Nat)) (x:Oper) (i:Nat):Nat→List Oper→Bool
 | _,[]=>true
 | j,y::os=>(waits ms i j||apart dsts x y)&&apartFrom ms dsts x i (j+1) os
def backward (os:List Oper):Nat→List Oper→Bool
 | _,[]=>true
 | i,o::l=>o.after.toList.all (fun e=>!Region.binds .any e||decide (e.on<i))&&backward os (i+1) l
def apartAll (ms:List Nat) (dsts:List (Option Nat)):Nat→List Oper→Bool
 | _,[]=>true
 | i,o::os=>apartFrom ms dsts o i (i+1) os&&apartAll ms dsts (i+1) os
def drawOk (ms:List Nat) (os:List Oper):Bool:=backward os 0 os&&apartAll ms (os.map (·.dst)) 0 os
def barrier (ms:List Nat) (n i:Nat):Bool:=(List.range n).all fun j=>decide (j≤i)||waits ms i j
def isAlloc:Op→Bool | .alloc _=>true | .box _ _=>true | _=>false
def nAlloc (os:List Oper):Nat:=(os.filter fun o=>isAlloc o.op).length
def rsvFrom:Nat→List Oper→List (Option Nat)
 | _,[]=>[]
 | b,o::os=>bif isAlloc o.op then some b::rsvFrom (b+1) os else none::rsvFrom b os
def nRsv (os:List Oper):Nat:=bif Nat.ble 2 (nAlloc os) then nAlloc os else 0
def rsvs (h0:Nat) (os:List Oper):List (Option Nat):=bif Nat.ble 2 (nAlloc os) then rsvFrom h0 os else []
def rsvR:Option Nat→List Nat | some b=>[b] | none=>[]
def evOpD {R:Type} (E:Env) (hint:Hint) (H:List AObj) (regs:List V) (type:Nat) (op:Op) (rsv:Option Nat) (k:V→Eff→Option R):Option R:=match rsv with
 | none=>evOp E hint H regs type op k
 | some b=>match H[b]? with
  | some .dead=>match op with
   | .alloc t=>bif (E.ty t).ok then varObjK hint.own (E.ty t) (.d (E.ty t) (zero E.ty (E.ty t))) fun ob=>k (.ptr b [] (E.ty t)) (.set b ob) else none
   | .box t x=>if kindIs E.ty H (val regs (E.ty t) x) (E.ty t) then varObjK hint.own (E.ty t) (val regs (E.ty t) x) fun ob=>k (.ptr b [] (E.ty t)) (.set b ob) else none
   | _=>none
  | _=>none
def late (ms:List Nat) (i:Nat):List Nat:=(List.range i).filter fun j=>!waits ms j i
def lateKind:Op→Bool | .load _ _=>true | .move _=>true | .fieldAddr _ _ _=>true | _=>false
def onlyAhead (j s:Nat):Nat→List Oper→Bool
 | _,[]=>true
 | i,o::os=>(!(o.dst==some s)||Nat.blt i j)&&onlyAhead j s (i+1) os
def lateOp (all:List Oper) (rs:List (Option Nat)) (j:Nat):Option (Oper×Nat):=match all[j]? with
 | some o=>match o.guard,o.dst with
  | none,some d=>bif lateKind o.op&&o.op.operands.toList.all (fun x=>match x with | .tmp s=>onlyAhead j s 0 all | _=>true)&&Nat.beq (all.filter fun o'=>o'.dst==some d).length 1&&(rs.getD j none).isNone then some (o,d) else none
  | _,_=>none
 | none=>none
def lateAll (ms:List Nat) (rs:List (Option Nat)) (all:List Oper) (i:Nat):Bool:=(late ms i).all fun j=>(lateOp all rs j).isSome
def samePtr:V→V→Bool
 | .ptr b p κ,.ptr b' p' κ'=>Nat.beq b b'&&(p==p')&&decide (κ=κ')
 | .sref b o n,.sref b' o' n'=>Nat.beq b b'&&Nat.beq o o'&&Nat.beq n n'
 | _,_=>false
def isMove:Op→Bool | .move _=>true | _=>false
def recheck (E:Env) (hint:Hint) (all:List Oper) (rs:List (Option Nat)) (regs:List V) (H:List AObj) (j:Nat):Bool:=match lateOp all rs j with
 | some (o,d)=>bif isMove o.op then true else (evOp E hint H regs o.type o.op fun v _=>some (samePtr v (regs.getD d .undef))).getD false
 | none=>false
def relog (all:List Oper) (rs:List (Option Nat)) (regs:List V) (j:Nat):Log:=⟨j,match lateOp all rs j with | some (o,_)=>opReads regs o.op | none=>[],[],true,false,.none⟩
def evDraw {R:Type} (E:Env) (inl:Tgt→List V→List AObj→(V→List AObj→Option R)→Option R) (hint:Hint) (ms:List Nat) (n:Nat) (dsts:List (Option Nat)) (rs:List (Option Nat)) (all:List Oper) :
  List Oper→Nat→List Log→List V→List AObj→(List V→List AObj→Option R)→Option R
 | [],_,lg,regs,H,k=>bif pairsOk ms lg then k regs H else none
 | o::os,i,lg,regs,H,k=>
  let go (regs:List V):Option R:=
   match inlines E regs o with
   | some (g,args)=>bif pairsOk ms lg&&(barrier ms n i&&lateAll ms rs all i) then inl g args H fun v H'=>
      bif (late ms i).all (recheck E hint all rs regs H') then evDraw E inl hint ms n dsts rs all os (i+1) ((late ms i).map (relog all rs regs)) (setD regs o.dst v) H' k else none
     else none
   | none=>evOpD E hint H regs o.type o.op (rs.getD i none) fun v e=>evDraw E inl hint ms n dsts rs all os (i+1) (lg++[⟨i,opReads regs o.op++rsvR (rs.getD i none),e.writes H.length,e.still,(rs.getD i none).isSome,mapTag o.op⟩]) (setD regs o.dst v) (e.app H) k
  match o.guard with
  | none=>go regs
  | some (j,want)=>
   match dsts.getD j none with
   | some t=>match regs.getD t .undef with
    | .d .bool x=>match x with
     | .bool b=>match b with
      | true=>bif want then go (regs.set t (.d .bool (.bool true))) else evDraw E inl hint ms n dsts rs all os (i+1) (lg++[⟨i,[],[],true,false,.none⟩]) (setD (regs.set t (.d .bool (.bool true))) o.dst (.tup [])) H k
      | false=>bif want then evDraw E inl hint ms n dsts rs all os (i+1) (lg++[⟨i,[],[],true,false,.none⟩]) (setD (regs.set t (.d .bool (.bool false))) o.dst (.tup [])) H k else go (regs.set t (.d .bool (.bool false)))
     | _=>none
    | .tup []=>evDraw E inl hint ms n dsts rs all os (i+1) (lg++[⟨i,[],[],true,false,.none⟩]) (setD regs o.dst (.tup [])) H k
    | _=>none
   | none=>none
def idxN (i:Nat):List Nat→Nat
 | []=>0
 | a::l=>bif Nat.beq a i then 0 else idxN i l+1
def renum (π:List Nat) (o:Oper):Oper:={ o with after:=o.after.map fun e=>{ e with on:=idxN e.on π },guard:=o.guard.map fun g=>(idxN g.1 π,g.2) }
def permOps (π:List Nat) (os:List Oper):List Oper:=match π with
 | []=>os
 | _::_=>π.filterMap fun i=>(os[i]?).map (renum π)
def permOk (π:List Nat) (os:List Oper):Bool:=match π with
 | []=>true
 | _::_=>Nat.beq π.length os.length&&π.all (fun i=>Nat.blt i os.length)&&(List.range os.length).all (fun i=>Nat.beq (π.getD (idxN i π) os.length) i&&Nat.beq (idxN (π.getD i 0) π) i) &&
  os.all fun o=>o.after.toList.all (fun e=>Nat.blt e.on os.length)&&match o.guard with | some (j,_)=>Nat.blt j os.length | none=>true
def evReg {R:Type} (E:Env) (inl:Tgt→List V→List AObj→(V→List AObj→Option R)→Option R) (hint:Hint) (os:List Oper) (regs:List V) (H:List AObj) (k:List V→List AObj→Option R):Option R:=
 bif drawOk (masks os) os then evDraw E inl hint (masks os) os.length (os.map (·.dst)) (rsvs H.length os) os os 0 [] regs (H++List.replicate (nRsv os) .dead) k else none
def keep (live:List Nat):Nat→List V→List V
 | _,[]=>[]
 | i,v::vs=>(bif live.contains i then v else .undef)::keep live (i+1) vs
def below (n:Nat) (l:List Nat):Bool:=l.all fun b=>b<n
def AObj.refs:AObj→List Nat | .var _ v=>v.refs | .loop _ _ _ u=>u.refs | _=>[]
mutual
def V.ren (i j:Nat):V→V
 | .agg κ vs=>.agg κ (V.renL i j vs)
 | .tup vs=>.tup (V.renL i j vs)
 | .sref b o n=>.sref (bif b==i then j else b) o n
 | .ptr b p κ=>.ptr (bif b==i then j else b) p κ
 | .func f a c=>.func f (V.renL i j a) (V.renL i j c)
 | .iface t v=>.iface t (V.ren i j v)
 | .map b=>.map (bif b==i then j else b)
 | .iter b=>.iter (bif b==i then j else b)
 | .yield b=>.yield (bif b==i then j else b)
 | v=>v
def V.renL (i j:Nat):List V→List V
 | []=>[]
 | v::vs=>V.ren i j v::V.renL i j vs
end
def AObj.ren (i j:Nat):AObj→AObj | .var κ v=>.var κ (v.ren i j) | .loop st f id u=>.loop st f id (u.ren i j) | o=>o
abbrev BOXES:Nat:=1048576
def boxN (r:Nat):Nat:=r%4096
def boxQ (q:Nat):List Nat:=
 bif Nat.beq q 256 then [] else bif Nat.beq q 257 then [0] else bif Nat.beq q 258 then [1] else bif Nat.beq q 259 then [2] else bif Nat.beq q 260 then [3] else
 bif Nat.beq q 261 then [4] else bif Nat.beq q 262 then [5] else bif Nat.beq q 263 then [6] else [7]
def boxP (r:Nat):List Nat:=boxQ (r / 4096)
def slotV (regs:List V) (H:List AObj) (r:Nat):V:=bif decide (r<BOXES) then regs.getD r .undef else match H[boxN r]? with
 | some (.var _ v)=>match boxP r with
  | []=>v
  | c::_=>match v with | .agg _ vs=>vs.getD c .undef | _=>.undef
 | _=>.undef
def relocate (base:Nat) (tgt:Nat) (r:Nat) (regs:List V) (H:List AObj):Option (List V×List AObj):=
 match slotV regs H r with
 | .sref b _ _=>bif b==tgt then some (regs,H) else
   bif decide (base≤tgt)&&!((V.refsL regs).contains tgt)&&!((H.map AObj.refs).flatten.contains tgt) then
    match H[tgt]?,H[b]? with
    | some _,some o=>some (regs.map (V.ren b tgt),((H.set tgt o).set b .dead).map (AObj.ren b tgt))
    | _,_=>none
   else none
 | _=>none
def relocAll (base:Nat):List (Nat×Nat)→List V→List AObj→Option (List V×List AObj)
 | [],regs,H=>some (regs,H)
 | (r,tgt)::l,regs,H=>match relocate base tgt r regs H with
  | some (regs',H')=>relocAll base l regs' H'
  | none=>none
def headSt (base:Nat) (live:List Nat) (tgts:List (Nat×Nat)) (n0:Nat) (regs:List V) (H:List AObj):Option (List V×List AObj):=
 match relocAll base tgts (keep live 0 regs) H with
 | some (regs',H')=>bif below n0 (V.refsL regs')&&below n0 ((H'.take n0).map AObj.refs).flatten then some (regs',H'.take n0) else none
 | none=>none
abbrev MV:Nat:=1048576
def rowE (e:Nat):Nat:=e%MV
def rowify (ty:Nat→K):List (Nat×Nat)→List V→List AObj→List (Nat×Nat)→Option (List V×List AObj×List (Nat×Nat))
 | [],regs,H,tg=>some (regs,H,tg)
 | (r,e)::l,regs,H,tg=>
  bif decide (r<BOXES) then match regs.getD r .undef with
   | .d κ (.slice false [])=>if κ = .slice e∧(ty e).ok=true then rowify ty l (regs.set r (.sref H.length 0 0)) (H++[.row e true false []]) (tg++[(r,H.length)]) else none
   | .sref b _ _=>rowify ty l regs H (tg++[(r,b)])
   | _=>none
  else match H[boxN r]? with
   | some (.var κ0 v)=>match V.get ty v (boxP r) with
    | some (.d κ (.slice false []))=>if κ = .slice (rowE e)∧(ty (rowE e)).ok=true∧(boxP r).all (fun c=>Nat.blt c (κ0.kids ty).length)=true then
      match V.put ty v (boxP r) (.sref H.length 0 0) with
      | some v'=>rowify ty l regs (H.set (boxN r) (.var κ0 v')++[.row (rowE e) true false []]) (tg++[(r,H.length)])
      | none=>none
     else rowify ty l regs H tg
    | some (.sref b o n)=>bif Nat.ble MV e then bif Nat.beq (e / MV) (H.length+1) then match H[b]? with
      | some (AObj.row e1 own nn ds)=>if (boxP r).all (fun c=>Nat.blt c (κ0.kids ty).length)=true then
        match V.put ty v (boxP r) (.sref H.length o n) with
        | some v'=>rowify ty l regs ((H.set b AObj.dead++[AObj.row e1 own nn ds]).set (boxN r) (.var κ0 v')) (tg++[(r,H.length)])
        | none=>none
       else none
      | _=>rowify ty l regs H tg
     else rowify ty l regs H tg
     else rowify ty l regs H (tg++[(r,b)])
    | _=>rowify ty l regs H tg
   | _=>rowify ty l regs H tg
def firstRegion:Code→Nat
 | .region id _ _=>id
 | .seq a _=>firstRegion a
 | .cond _ a _=>firstRegion a
 | .block _ c=>firstRegion c
 | .loop c=>firstRegion c
 | .scope c=>firstRegion c
 | _=>0
def loopN {R:Type} (head:List V→List AObj→Option (List V×List AObj))
  (body:List V→List AObj→(AExit→List V→List AObj→Option R)→Option R) :
  Nat→List V→List AObj→(AExit→List V→List AObj→Option R)→Option R
 | 0,_,_,_=>none
 | n+1,regs,H,k=>match head regs H with
  | some (regs',H')=>body regs' H' fun e r h=>match e with
   | .normal=>loopN head body n r h k
   | .ret=>k .ret r h
   | .exit id=>k (.exit id) r h
  | none=>none
def keepO (out:Option (List Nat)) (r:List V):List V:=match out with | none=>r | some l=>keep l 0 r
def cutK {R:Type} (out:Option (List Nat)) (k:AExit→List V→List AObj→Option R):AExit→List V→List AObj→Option R:=fun e r h=>match e with
 | .normal=>k .normal r h
 | .ret=>k .ret (keepO out r) h
 | .exit id=>k (.exit id) (keepO out r) h
def rounds:Code→List (Nat×List Nat×Code×Code)
 | .seq a b=>rounds a++rounds b
 | .cond _ a b=>rounds a++rounds b
 | .block _ c=>rounds c
 | .loop c=>rounds c
 | .scope c=>rounds c
 | .rangeFunc _ ps a b=>(firstRegion b,ps.toList,a,b)::(rounds a++rounds b)
 | _=>[]
def findRound (id:Nat):List (Nat×List Nat×Code×Code)→Option (List Nat×Code×Code)
 | []=>none
 | x::l=>bif x.1==id then some x.2 else findRound id l
def Env.rnd (E:Env):Cd:=fun f id=>match E.fn f with
 | some fn=>match fn.body with | some c=>findRound id (rounds c) | none=>none
 | none=>none
def distinct:List Nat→Bool
 | []=>true
 | x::l=>!l.contains x&&distinct l
def roundsOk (fn:Func):Bool:=match fn.body with | some c=>distinct ((rounds c).map (·.1)) | none=>true
def hasBody (E:Env) (g:Nat):Bool:=match E.fn g with | some fn=>fn.body.isSome | none=>false
def ev {R:Type} (rd:Bool) (E:Env) (inl:Tgt→List V→List AObj→(V→List AObj→Option R)→Option R) (f base:Nat) :
  Code→List V→List AObj→(AExit→List V→List AObj→Option R)→Option R
 | .skip,regs,H,k=>k .normal regs H
 | .label _,regs,H,k=>k .normal regs H
 | .ret,regs,H,k=>k .ret regs H
 | .exit id,regs,H,k=>k (.exit id) regs H
 | .seq a b,regs,H,k=>ev rd E inl f base a regs H fun e r h=>match e with
  | .normal=>ev rd E inl f base b r h k
  | .ret=>k .ret r h
  | .exit id=>k (.exit id) r h
 | .cond c a b,regs,H,k=>match val regs .bool c with
  | .d .bool x=>match x.b with
   | true=>ev rd E inl f base a regs H k
   | false=>ev rd E inl f base b regs H k
  | _=>none
 | .block id c,regs,H,k=>ev rd E inl f base c regs H fun e r h=>match e with
  | .normal=>k .normal r h
  | .ret=>k .ret r h
  | .exit id'=>bif id'==id then k .normal r h else k (.exit id') r h
 | .loop c,regs,H,k=>
  match rowify E.ty (E.hint f (firstRegion c)).rows regs H [] with
  | some (regs',H',tg)=>match (E.hint f (firstRegion c)).unr with
   | some n=>loopN (fun r h=>some (r,h)) (fun r h k'=>ev rd E inl f base c r h (cutK (E.hint f (firstRegion c)).out k')) n regs' H' k
   | none=>loopN (headSt base (E.hint f (firstRegion c)).live tg H'.length) (fun r h k'=>ev rd E inl f base c r h (cutK (E.hint f (firstRegion c)).out k')) E.fuel regs' H' k
  | none=>none
 | .region id ops false,regs,H,k=>evOps E inl (E.hint f id) (ops.toList.map (·.dst)) ops.toList regs H fun r h=>k .normal r h
 | .region id ops true,regs,H,k=>bif permOk (E.hint f id).perm ops.toList then evReg E inl (E.hint f id) (permOps (E.hint f id).perm ops.toList) regs H fun r h=>k .normal r h else none
 | .rangeFunc g ps asg body,regs,H,k=>bif rd then none else
  match vFunc (val regs .func g) with
  | some (gf,[],cs)=>if hasBody E gf=true then inl (.fn gf) (.yield H.length::cs) (H++[.loop .ready f (firstRegion body) (.tup (keep (E.hint f (firstRegion body)).live 0 regs))]) fun _ H'=>
   match H'[H.length]? with
   | some (.loop st _ _ _)=>match st with
    | .ready=>k .normal regs (H'.set H.length .dead)
    | .ret=>k .ret regs (H'.set H.length .dead)
    | .exit id=>k (.exit id) regs (H'.set H.length .dead)
    | .busy=>none
   | _=>none
   else none
  | _=>none
 | _,_,_,_=>none
def resVals (E:Env) (regs:List V) (H:List AObj):List ResultVar→Option (List V)
 | []=>some []
 | .tmp t::l=>match resVals E regs H l with | some vs=>some (regs.getD t .undef::vs) | none=>none
 | .cell a t::l=>match regs.getD a .undef with
  | .ptr b p κ=>if κ=E.ty t then
    match H[b]? with
    | some (.var _ v)=>match V.get E.ty v p with
     | some v'=>match resVals E regs H l with | some vs=>some (v'::vs) | none=>none
     | none=>none
    | some (.row _ _ _ ds)=>match resVals E regs H l with | some vs=>some (.d κ ((D.agg ds).get p)::vs) | none=>none
    | _=>none
   else none
  | _=>none
def oneOf:List V→V | [v]=>v | vs=>.tup vs
def setPs:List Nat→List V→List V→List V
 | p::ps,v::vs,regs=>setPs ps vs (regs.set p v)
 | _,_,regs=>regs
def setLoop (st:LSt) (b:Nat) (H:List AObj):Option (List AObj):=match H[b]? with
 | some (.loop _ f id u)=>some (H.set b (.loop st f id u))
 | _=>none
def isLoop (H:List AObj) (b:Nat) (busy:Bool):Bool:=match H[b]? with
 | some (.loop .ready _ _ _)=>!busy
 | some (.loop .busy _ _ _)=>busy
 | _=>false
def call (E:Env):Nat→Tgt→List V→List AObj→(V→List AObj→Option D)→Option D
 | 0,_,_,_,_=>none
 | _+1,.panic,args,H,_=>match E.pan with
  | some p=>match args with
   | [v]=>bif isIf v then p v H else none
   | _=>none
  | none=>none
 | n+1,.yield b,args,H,k=>bif E.rd0 then none else match H[b]? with
  | some (.loop .ready f id (.tup regs))=>match E.rnd f id with
   | some (ps,asg,body)=>if args.length=ps.length then
    ev true E (call E n) f H.length asg (setPs ps args regs) H fun e regs1 H1=>match e with
     | .normal=>bif isLoop H1 b false then match setLoop .busy b H1 with
      | some H2=>ev true E (call E n) f H.length body regs1 H2 fun e _ H3=>bif isLoop H3 b true then match e with
        | .normal=>match setLoop .ready b H3 with | some H4=>k (.d .bool (.bool true)) H4 | none=>none
        | .ret=>match setLoop .ret b H3 with | some H4=>k (.d .bool (.bool false)) H4 | none=>none
        | .exit id=>match setLoop (.exit id) b H3 with | some H4=>k (.d .bool (.bool false)) H4 | none=>none
       else none
      | none=>none
      else none
     | _=>none
    else none
   | none=>none
  | _=>none
 | n+1,.fn f,args,H,k=>match E.ext f with
  | some x=>match x args H with
   | some (c,v,H')=>bif c then k v H' else none
   | none=>none
  | none=>match E.fn f with
  | some fn=>match fn.body with
   | some c=>ev E.rd0 E (call E n) f H.length c (args++List.replicate (fn.ntmps-args.length) .undef) H fun e regs H'=>match e with
    | .exit _=>none
    | _=>match resVals E regs H' fn.results.toList with
     | some vs=>k (oneOf vs) H'
     | none=>none
   | none=>none
  | none=>none
def finish (ty:Nat→K) (ts:List Nat) (v:V) (H:List AObj):Option D:=
 match ts with
 | [t]=>bif kindIs ty H v (ty t) then V.pure false H v else none
 | ts=>match v with
  | .tup vs=>bif allKinds ty H vs ts then (match V.pureL false H vs with | some ds=>some (.tup ds) | none=>none) else none
  | _=>none
def run (E:Env) (depth f:Nat) (κs:List K) (ts:List Nat) (ds:List D):Option D:=
 call E depth (.fn f) (List.zipWith V.d κs ds) [] fun v H=>finish E.ty ts v H
def finishFresh (ty:Nat→K) (ts:List Nat) (v:V) (H:List AObj):Option D:=
 match ts,v with
 | [t],.sref b off len=>match H[b]? with
  | some (.row e true nn ds)=>bif decide (ty t = .slice e)&&decide (len=ds.length)&&decide (off=0) then some (.slice nn ds) else none
  | _=>none
 | [t],.d (.slice e) (.slice false [])=>bif decide (ty t = .slice e) then some (.slice false []) else none
 | [t],.map b=>match H[b]? with
  | some (.map a e es)=>bif decide (ty t = .map a e) then some (.slice true (es.map fun p=>.tup [p.1,p.2])) else none
  | _=>none
 | _,_=>none
def runFresh (E:Env) (depth f:Nat) (κs:List K) (ts:List Nat) (ds:List D):Option D:=
 call E depth (.fn f) (List.zipWith V.d κs ds) [] fun v H=>finishFresh E.ty ts v H
end Go.AM
namespace Go.AM
open Go Go.RowKit
abbrev Mem:=Nat→Nat→Option Value
def Mem.le (M M':Mem):Prop:=∀b o v,M b o=some v→M' b o=some v
def Mem.at (M:Mem) (a:Addr) (cs:List Value):Prop:=a.spot=none∧∀i v,cs[i]? = some v→M a.block (a.off+i)=some v
theorem Mem.le_refl (M:Mem):M.le M:=fun _ _ _ h=>h
theorem Mem.le_trans {A B C:Mem} (h:A.le B) (k:B.le C):A.le C:=fun b o v x=>k b o v (h b o v x)
theorem Mem.at.mono {M M':Mem} (h:M.le M') {a:Addr} {cs:List Value} (k:M.at a cs):M'.at a cs:=⟨k.1,fun i v e=>h _ _ _ (k.2 i v e)⟩
def scal:Value→Bool | .agg _=>false | .tuple _=>false | _=>true
section
variable (ty:Nat→K)
def notIface:K→Bool | .iface _=>false | .bad=>false | _=>true
mutual
def Rep (M:Mem):D→K→Value→Prop
 | .bool b,κ,v=>κ = .bool∧v = .bool b
 | .int k n,κ,v=>κ = .int k∧v = .int k n
 | .str s,κ,v=>κ = .str∧v = .string s
 | .agg ds,κ,v=>κ.isAgg=true∧∃cs,v = .agg cs∧Reps M ds (κ.kids ty) cs.toList
 | .slice nn ds,κ,v=>∃e a cap,κ = .slice e∧v = .slice a ds.length cap∧ds.length≤cap∧nn=a.isSome∧(a=none→cap=0) ∧
   (ds=[]∨∃ad cs,a=some ad∧M.at ad cs∧Reps M ds (List.replicate ds.length (ty e)) cs)
 | .iface t x,κ,v=>(∃m,κ = .iface m)∧notIface (ty t)=true∧∃y,v = .iface t y∧Rep M x (ty t) y
 | .nilIface,κ,v=>(∃m,κ = .iface m)∧v = .nilIface
 | .fn f,κ,v=>κ = .func∧v = .func (.func f) #[] #[]
 | .nilFunc,κ,v=>κ = .func∧v = .nilFunc
 | .nilPtr,κ,v=>(∃e,κ = .ptr e)∧v = .pointer none
 | .nilMap,κ,v=>(∃a e,κ = .map a e)∧v = .map none
 | .tup _,_,_=>False
def Reps (M:Mem):List D→List K→List Value→Prop
 | [],κs,cs=>κs=[]∧cs=[]
 | d::ds,κs,cs=>∃κ κs' x rest,κs=κ::κs'∧cs=x.cells.toList++rest∧Rep M d κ x∧Reps M ds κs' rest
end
def Each (M:Mem):List D→List K→List Value→Prop
 | [],κs,xs=>κs=[]∧xs=[]
 | d::ds,κs,xs=>∃κ κs' x rest,κs=κ::κs'∧xs=x::rest∧Rep ty M d κ x∧Each M ds κs' rest
mutual
theorem Rep.mono {M M':Mem} (h:M.le M'):∀d κ v,Rep ty M d κ v→Rep ty M' d κ v
 | .bool _,_,_,k=>k
 | .int _ _,_,_,k=>k
 | .str _,_,_,k=>k
 | .agg ds,κ,v,k=>by
  simp only[Rep] at k ⊢
  obtain⟨a,cs,b,c⟩:=k
  exact⟨a,cs,b,Reps.mono h ds _ _ c⟩
 | .slice nn ds,κ,v,k=>by
  simp only[Rep] at k ⊢
  obtain⟨e,a,cap,h1,h2,h3,h4,h5,h6⟩:=k
  refine⟨e,a,cap,h1,h2,h3,h4,h5,?_⟩
  rcases h6 with h6 | ⟨ad,cs,e1,e2,e3⟩
  ·exact .inl h6
  ·exact .inr ⟨ad,cs,e1,e2.mono h,Reps.mono h ds _ _ e3⟩
 | .iface t x,κ,v,k=>by
  simp only[Rep] at k ⊢
  obtain⟨a,b,y,e,c⟩:=k
  exact⟨a,b,y,e,Rep.mono h x _ _ c⟩
 | .nilIface,_,_,k=>k
 | .fn _,_,_,k=>k
 | .nilFunc,_,_,k=>k
 | .nilPtr,_,_,k=>k
 | .nilMap,_,_,k=>k
 | .tup _,_,_,k=>k
theorem Reps.mono {M M':Mem} (h:M.le M'):∀ds κs cs,Reps ty M ds κs cs→Reps ty M' ds κs cs
 | [],_,_,k=>k
 | d::ds,κs,cs,k=>by
  simp only[Reps] at k ⊢
  obtain⟨κ,κs',x,rest,a,b,c,e⟩:=k
  exact⟨κ,κs',x,rest,a,b,Rep.mono h d _ _ c,Reps.mono h ds _ _ e⟩
end
theorem Each.mono {M M':Mem} (h:M.le M'):∀ds κs xs,Each ty M ds κs xs→Each ty M' ds κs xs
 | [],_,_,k=>k
 | d::ds,κs,xs,k=>by
  simp only[Each] at k ⊢
  obtain⟨κ,κs',x,rest,a,b,c,e⟩:=k
  exact⟨κ,κs',x,rest,a,b,Rep.mono ty h _ _ _ c,Each.mono h ds _ _ e⟩
mutual
theorem Rep.scal {M:Mem}:∀d κ v,Rep ty M d κ v→(κ.isAgg=false→AM.scal v=true)∧(∀c∈v.cells.toList,AM.scal c=true)
 | .bool _,κ,v,k=>by simp only[Rep] at k;obtain⟨rfl,rfl⟩:=k;simp[AM.scal,Value.cells]
 | .int _ _,κ,v,k=>by simp only[Rep] at k;obtain⟨rfl,rfl⟩:=k;simp[AM.scal,Value.cells]
 | .str _,κ,v,k=>by simp only[Rep] at k;obtain⟨rfl,rfl⟩:=k;simp[AM.scal,Value.cells]
 | .agg ds,κ,v,k=>by
  simp only[Rep] at k
  obtain⟨a,cs,rfl,c⟩:=k
  refine⟨fun h=>by simp[h] at a,?_⟩
  simpa[Value.cells] using Reps.scal ds _ _ c
 | .slice nn ds,κ,v,k=>by
  simp only[Rep] at k
  obtain⟨e,a,cap,h1,rfl,h3⟩:=k
  simp[AM.scal,Value.cells]
 | .iface t x,κ,v,k=>by
  simp only[Rep] at k
  obtain⟨a,b,y,rfl,c⟩:=k
  simp[AM.scal,Value.cells]
 | .nilIface,κ,v,k=>by simp only[Rep] at k;obtain⟨_,rfl⟩:=k;simp[AM.scal,Value.cells]
 | .fn _,κ,v,k=>by simp only[Rep] at k;obtain⟨_,rfl⟩:=k;simp[AM.scal,Value.cells]
 | .nilFunc,κ,v,k=>by simp only[Rep] at k;obtain⟨_,rfl⟩:=k;simp[AM.scal,Value.cells]
 | .nilPtr,κ,v,k=>by simp only[Rep] at k;obtain⟨_,rfl⟩:=k;simp[AM.scal,Value.cells]
 | .nilMap,κ,v,k=>by simp only[Rep] at k;obtain⟨_,rfl⟩:=k;simp[AM.scal,Value.cells]
 | .tup _,κ,v,k=>by simp only[Rep] at k
theorem Reps.scal {M:Mem}:∀ds κs cs,Reps ty M ds κs cs→∀c∈cs,AM.scal c=true
 | [],_,_,k=>by simp only[Reps] at k;obtain⟨_,rfl⟩:=k;simp
 | d::ds,κs,cs,k=>by
  simp only[Reps] at k
  obtain⟨κ,κs',x,rest,rfl,rfl,c,e⟩:=k
  intro c' hc
  rcases List.mem_append.1 hc with hc | hc
  ·exact(Rep.scal d _ _ c).2 c' hc
  ·exact Reps.scal ds _ _ e c' hc
end
variable (sz:Nat→Nat)
def ksz:K→Nat
 | .struct fs=>(fs.map sz).sum
 | .array n e=>n*sz e
 | _=>1
def SzOk:Prop:=∀t,ty t≠.bad→sz t=ksz sz (ty t)
variable {ty sz}
theorem Rep.notBad {M:Mem} {d:D} {v:Value} (h:Rep ty M d .bad v):False:=by
 cases d<;>simp only[Rep] at h<;>simp[K.isAgg] at h
theorem Rep.isAgg {M:Mem} {d:D} {κ:K} {v:Value} (h:Rep ty M d κ v) (hκ:κ.isAgg=true):∃ds cs,d = .agg ds∧v = .agg cs∧Reps ty M ds (κ.kids ty) cs.toList:=by
 cases d with
 | agg ds=>simp only[Rep] at h;obtain⟨_,cs,rfl,c⟩:=h;exact⟨ds,cs,rfl,rfl,c⟩
 | slice nn ds=>simp only[Rep] at h;obtain⟨e,a,cap,rfl,_⟩:=h;simp[K.isAgg] at hκ
 | tup _=>simp only[Rep] at h
 | bool _=>simp only[Rep] at h;simp[h.1,K.isAgg] at hκ
 | int _ _=>simp only[Rep] at h;simp[h.1,K.isAgg] at hκ
 | str _=>simp only[Rep] at h;simp[h.1,K.isAgg] at hκ
 | iface t x=>simp only[Rep] at h;obtain⟨⟨m,rfl⟩,_⟩:=h;simp[K.isAgg] at hκ
 | nilIface=>simp only[Rep] at h;obtain⟨⟨m,rfl⟩,_⟩:=h;simp[K.isAgg] at hκ
 | fn _=>simp only[Rep] at h;simp[h.1,K.isAgg] at hκ
 | nilFunc=>simp only[Rep] at h;simp[h.1,K.isAgg] at hκ
 | nilPtr=>simp only[Rep] at h;obtain⟨⟨m,rfl⟩,_⟩:=h;simp[K.isAgg] at hκ
 | nilMap=>simp only[Rep] at h;obtain⟨⟨m,e,rfl⟩,_⟩:=h;simp[K.isAgg] at hκ
theorem cells_scal {v:Value} (h:AM.scal v=true):v.cells = #[v]:=by
 cases v<;>simp_all [AM.scal,Value.cells]
mutual
theorem Rep.size (hs:SzOk ty sz) {M:Mem}:∀d κ v,Rep ty M d κ v→v.cells.size=ksz sz κ
 | .agg ds,κ,v,k=>by
  simp only[Rep] at k
  obtain⟨a,cs,rfl,c⟩:=k
  have:=Reps.size hs ds _ _ c
  simp only[Value.cells]
  cases κ with
  | struct fs=>simp only[K.kids,ksz] at this ⊢;simpa using this.2 fs rfl
  | array n e=>
   simp only[K.kids,ksz] at this ⊢
   have:=this.2 (List.replicate n e) (by simp)
   simpa using this
  | _=>simp[K.isAgg] at a
 | .bool _,κ,v,k=>by simp only[Rep] at k;obtain⟨rfl,rfl⟩:=k;simp[ksz,Value.cells]
 | .int _ _,κ,v,k=>by simp only[Rep] at k;obtain⟨rfl,rfl⟩:=k;simp[ksz,Value.cells]
 | .str _,κ,v,k=>by simp only[Rep] at k;obtain⟨rfl,rfl⟩:=k;simp[ksz,Value.cells]
 | .slice nn ds,κ,v,k=>by simp only[Rep] at k;obtain⟨e,a,cap,rfl,rfl,h3⟩:=k;simp[ksz,Value.cells]
 | .iface t x,κ,v,k=>by simp only[Rep] at k;obtain⟨⟨m,rfl⟩,b,y,rfl,c⟩:=k;simp[ksz,Value.cells]
 | .nilIface,κ,v,k=>by simp only[Rep] at k;obtain⟨⟨m,rfl⟩,rfl⟩:=k;simp[ksz,Value.cells]
 | .fn _,κ,v,k=>by simp only[Rep] at k;obtain⟨rfl,rfl⟩:=k;simp[ksz,Value.cells]
 | .nilFunc,κ,v,k=>by simp only[Rep] at k;obtain⟨rfl,rfl⟩:=k;simp[ksz,Value.cells]
 | .nilPtr,κ,v,k=>by simp only[Rep] at k;obtain⟨⟨m,rfl⟩,rfl⟩:=k;simp[ksz,Value.cells]
 | .nilMap,κ,v,k=>by simp only[Rep] at k;obtain⟨⟨m,e,rfl⟩,rfl⟩:=k;simp[ksz,Value.cells]
 | .tup _,κ,v,k=>by simp only[Rep] at k
theorem Reps.size (hs:SzOk ty sz) {M:Mem}:∀ds κs cs,Reps ty M ds κs cs→cs.length=(κs.map (ksz sz)).sum∧∀ts:List Nat,κs=ts.map ty→cs.length=(ts.map sz).sum
 | [],_,_,k=>by simp only[Reps] at k;obtain⟨rfl,rfl⟩:=k;refine⟨rfl,fun ts h=>?_⟩;have:ts=[]:=by simpa using h.symm
                simp[this]
 | d::ds,κs,cs,k=>by
  simp only[Reps] at k
  obtain⟨κ,κs',x,rest,rfl,rfl,c,e⟩:=k
  have h1:=Rep.size hs d _ _ c
  have h2:=Reps.size hs ds _ _ e
  refine⟨by simp[h1,h2.1],fun ts h=>?_⟩
  cases ts with
  | nil=>simp at h
  | cons t ts=>
   simp only[List.map_cons,List.cons.injEq] at h
   obtain⟨rfl,h'⟩:=h
   have hb:ty t≠.bad:=fun hb=>Rep.notBad (hb▸c)
   have:=hs t hb
   simp[h1,h2.2 ts h',this]
end
theorem Reps.length {M:Mem}:∀{ds κs cs},Reps ty M ds κs cs→ds.length=κs.length
 | [],_,_,k=>by simp only[Reps] at k;simp[k.1]
 | d::ds,κs,cs,k=>by
  simp only[Reps] at k
  obtain⟨κ,κs',x,rest,rfl,rfl,c,e⟩:=k
  simp[Reps.length e]
theorem Reps.append {M:Mem}:∀{ds κs cs ds' κs' cs'},Reps ty M ds κs cs→Reps ty M ds' κs' cs'→Reps ty M (ds++ds') (κs++κs') (cs++cs')
 | [],_,_,_,_,_,k,k'=>by simp only[Reps] at k;obtain⟨rfl,rfl⟩:=k;simpa using k'
 | d::ds,κs,cs,ds',κs',cs',k,k'=>by
  simp only[Reps] at k
  obtain⟨κ,κs1,x,rest,rfl,rfl,c,e⟩:=k
  simp only[List.cons_append,Reps]
  exact⟨κ,κs1++κs',x,rest++cs',rfl,by simp,c,Reps.append e k'⟩
theorem Reps.split {M:Mem}:∀{ds ds' κs cs},Reps ty M (ds++ds') κs cs→∃κ1 κ2 c1 c2,κs=κ1++κ2∧cs=c1++c2∧Reps ty M ds κ1 c1∧Reps ty M ds' κ2 c2
 | [],ds',κs,cs,k=>⟨[],κs,[],cs,rfl,rfl,by simp[Reps],k⟩
 | d::ds,ds',κs,cs,k=>by
  simp only[List.cons_append,Reps] at k
  obtain⟨κ,κs1,x,rest,rfl,rfl,c,e⟩:=k
  obtain⟨κ1,κ2,c1,c2,rfl,rfl,h1,h2⟩:=Reps.split e
  exact⟨κ::κ1,κ2,x.cells.toList++c1,c2,rfl,by simp,by simp only[Reps];exact⟨κ,κ1,x,c1,rfl,rfl,c,h1⟩,h2⟩
theorem Reps.one {M:Mem} {d:D} {κ:K} {x:Value} (h:Rep ty M d κ x):Reps ty M [d] [κ] x.cells.toList:=by
 simp only[Reps];exact⟨κ,[],x,[],rfl,by simp,h,rfl,rfl⟩
theorem Reps.at {M:Mem} {ds:List D} {κs:List K} {cs:List Value} (h:Reps ty M ds κs cs) {i:Nat} (hi:i<ds.length) :
  ∃c1 x c2,cs=c1++x.cells.toList++c2∧Reps ty M (ds.take i) (κs.take i) c1∧(∃κ,κs[i]? = some κ∧Rep ty M (ds.getD i .nilFunc) κ x)∧Reps ty M (ds.drop (i+1)) (κs.drop (i+1)) c2:=by
 have hd:ds=ds.take i++(ds.getD i .nilFunc::ds.drop (i+1)):=by
  have:ds.getD i .nilFunc=ds[i]:=by simp[List.getD_eq_getElem?_getD,hi]
  rw[this];simp
 have hl:=Reps.length h
 rw[hd] at h
 obtain⟨κ1,κ2,c1,c2,rfl,rfl,h1,h2⟩:=Reps.split h
 simp only[Reps] at h2
 obtain⟨κ,κs',x,rest,rfl,rfl,c,e⟩:=h2
 have hl1:κ1.length=i:=by
  have:=Reps.length h1;simp at this;omega
 refine⟨c1,x,rest,by simp,?_,⟨κ,by simp[←hl1],c⟩,?_⟩
 ·have:(κ1++κ::κs').take i=κ1:=by simp[←hl1]
  rw[this];exact h1
 ·have:(κ1++κ::κs').drop (i+1)=κs':=by
   rw[List.drop_append];simp[←hl1]
  rw[this];exact e
theorem Reps.set {M:Mem} {ds:List D} {κs:List K} {i:Nat} {κ:K} {y:D} {y':Value} {c1 c2:List Value}
  (h1:Reps ty M (ds.take i) (κs.take i) c1) (hy:Rep ty M y κ y') (h2:Reps ty M (ds.drop (i+1)) (κs.drop (i+1)) c2) (hi:i<ds.length) (hκ:κs[i]? = some κ) :
  Reps ty M (ds.set i y) κs (c1++y'.cells.toList++c2):=by
 have hd:ds.set i y=ds.take i++([y]++ds.drop (i+1)):=by
  rw[List.set_eq_take_append_cons_drop];simp[hi]
 have hk:κs=κs.take i++([κ]++κs.drop (i+1)):=by
  obtain⟨hl,he⟩:=List.getElem?_eq_some_iff.1 hκ
  rw[←he];simp
 rw[hd]
 conv=>arg 4;rw[hk]
 rw[List.append_assoc]
 exact h1.append (.append (.one hy) h2)
end
end Go.AM
namespace Go.AM
open Go Go.RowKit
def slk:K→Nat | .int .u8=>0 | _=>1
structure Loc where
 blk:Nat
 base:Nat
 cap:Nat
 κ:K
 virt:Bool
 nn:Bool
 deriving Inhabited
def Loc.void (l:Loc):Prop:=l.κ = .bad∧l.virt=true
def void0:Loc:=⟨0,0,0,.bad,true,false⟩
theorem void0_void:void0.void:=⟨rfl,rfl⟩
section
variable (ty:Nat→K) (sz:Nat→Nat)
def kOff (κ:K) (i:Nat):Nat:=match κ with | .struct fs=>((fs.take i).map sz).sum | .array _ e=>i*sz e | _=>0
def pathOff:K→List Nat→Nat×K
 | κ,[]=>(0,κ)
 | κ,i::p=>(kOff sz κ i+(pathOff (κ.kid ty i) p).1,(pathOff (κ.kid ty i) p).2)
def pathOk:K→List Nat→Prop
 | _,[]=>True
 | κ,i::p=>i<(κ.kids ty).length∧pathOk (κ.kid ty i) p
mutual
def RV (M:Mem) (μ:List Loc):V→K→Value→Prop
 | .d κ' x,κ,v=>κ'=κ∧Rep ty M x κ v
 | .agg κ' vs,κ,v=>κ'=κ∧κ.isAgg=true∧∃cs,v = .agg cs∧RVs M μ vs (κ.kids ty) cs.toList
 | .tup vs,κ,v=>κ = .bad∧∃xs,v = .tuple xs∧RVt M μ vs xs.toList
 | .dtup κs x,κ,v=>κ = .bad∧∃ds xs,x = .tup ds∧v = .tuple xs∧Each ty M ds κs xs.toList
 | .sref b off len,κ,v=>∃l n e,μ[b]? = some l∧l.κ = .array n e∧κ = .slice e∧off+len≤n ∧
   ((l.virt=true∧len=0∧∃a,v = .slice a 0 0∧a.isSome=l.nn) ∨
    (l.virt=false∧∃c,v = .slice (some ⟨l.blk,l.base+off*sz e,none⟩) len c∧len≤c∧off+c≤l.cap∧n≤off+c) ∨
    (l.virt=false∧len=0∧n≤off∧∃ad,v = .slice (some ad) 0 0))
 | .lit e ds,κ,v=>κ = .slice e∧∃ad cs,v = .slice (some ad) ds.length ds.length∧M.at ad cs∧Reps ty M ds (List.replicate ds.length (ty e)) cs
 | .ptr b p κ',κ,v=>(∃e,κ = .ptr e∧ty e=κ')∧∃l,μ[b]? = some l∧l.virt=false∧pathOk ty l.κ p∧(pathOff ty sz l.κ p).2=κ' ∧
   v = .pointer (some ⟨l.blk,l.base+(pathOff ty sz l.κ p).1,none⟩)
 | .cptr κ' x,κ,v=>(∃e,κ = .ptr e∧ty e=κ')∧∃ad y,v = .pointer (some ad)∧M.at ad y.cells.toList∧Rep ty M x κ' y
 | .func f a c,κ,v=>κ = .func∧∃xs ys,v = .func f xs ys∧RVt M μ a xs.toList∧RVt M μ c ys.toList
 | .iface t x,κ,v=>(∃m,κ = .iface m)∧notIface (ty t)=true∧∃y,v = .iface t y∧RV M μ x (ty t) y
 | .map b,κ,v=>∃l a e,μ[b]? = some l∧l.κ = .map a e∧κ = .map a e∧v = .map (some l.blk)
 | .iter b,κ,v=>κ = .bad∧∃l,μ[b]? = some l∧l.virt=false∧v = .pointer (some ⟨l.blk,0,none⟩)
 | .yield b,κ,v=>κ = .func∧∃l,μ[b]? = some l∧l.virt=false∧v = .func (.yield l.blk) #[] #[]
 | .undef,_,_=>False
def RVs (M:Mem) (μ:List Loc):List V→List K→List Value→Prop
 | [],κs,cs=>κs=[]∧cs=[]
 | u::vs,κs,cs=>∃κ κs' x rest,κs=κ::κs'∧cs=x.cells.toList++rest∧κ≠.bad∧RV M μ u κ x∧RVs M μ vs κs' rest
def RVt (M:Mem) (μ:List Loc):List V→List Value→Prop
 | [],xs=>xs=[]
 | u::vs,xs=>∃x rest,xs=x::rest∧(u = .undef∨∃κ,RV M μ u κ x)∧RVt M μ vs rest
end
def RR (M:Mem) (μ:List Loc) (u:V) (x:Value):Prop:=u = .undef∨∃κ,RV ty sz M μ u κ x
mutual
theorem RV.monoV {M M':Mem} {μ μ':List Loc} (h:M.le M') (hμ:∀(i:Nat) (l:Loc),μ[i]? = some l→¬l.void→μ'[i]? = some l):∀u κ v,RV ty sz M μ u κ v→RV ty sz M' μ' u κ v
 | .d κ' x,κ,v,k=>by simp only[RV] at k ⊢;exact⟨k.1,Rep.mono ty h _ _ _ k.2⟩
 | .agg κ' vs,κ,v,k=>by
  simp only[RV] at k ⊢
  obtain⟨a,b,cs,c,e⟩:=k
  exact⟨a,b,cs,c,RVs.monoV h hμ _ _ _ e⟩
 | .tup vs,κ,v,k=>by
  simp only[RV] at k ⊢
  obtain⟨a,xs,c,e⟩:=k
  exact⟨a,xs,c,RVt.monoV h hμ _ _ e⟩
 | .dtup κs x,κ,v,k=>by
  simp only[RV] at k ⊢
  obtain⟨a,ds,xs,b,c,e⟩:=k
  exact⟨a,ds,xs,b,c,Each.mono ty h _ _ _ e⟩
 | .sref b off len,κ,v,k=>by
  simp only[RV] at k ⊢
  obtain⟨l,n,e,a,r0,r⟩:=k
  exact⟨l,n,e,hμ _ _ a (fun hv=>by rw[hv.1] at r0;simp at r0),r0,r⟩
 | .lit e ds,κ,v,k=>by
  simp only[RV] at k ⊢
  obtain⟨a,ad,cs,b,c,r⟩:=k
  exact⟨a,ad,cs,b,c.mono h,Reps.mono ty h _ _ _ r⟩
 | .ptr b p κ',κ,v,k=>by
  simp only[RV] at k ⊢
  obtain⟨a,l,b,r0,r⟩:=k
  exact⟨a,l,hμ _ _ b (fun hv=>by rw[hv.2] at r0;simp at r0),r0,r⟩
 | .cptr κ' x,κ,v,k=>by
  simp only[RV] at k ⊢
  obtain⟨a,ad,y,b,c,r⟩:=k
  exact⟨a,ad,y,b,c.mono h,Rep.mono ty h _ _ _ r⟩
 | .func f a c,κ,v,k=>by
  simp only[RV] at k ⊢
  obtain⟨e,xs,ys,b,r,r'⟩:=k
  exact⟨e,xs,ys,b,RVt.monoV h hμ _ _ r,RVt.monoV h hμ _ _ r'⟩
 | .iface t x,κ,v,k=>by
  simp only[RV] at k ⊢
  obtain⟨a,n,y,b,r⟩:=k
  exact⟨a,n,y,b,RV.monoV h hμ _ _ _ r⟩
 | .map b,κ,v,k=>by
  simp only[RV] at k ⊢
  obtain⟨l,a,e,b,r0,r⟩:=k
  exact⟨l,a,e,hμ _ _ b (fun hv=>by rw[hv.1] at r0;simp at r0),r0,r⟩
 | .iter b,κ,v,k=>by
  simp only[RV] at k ⊢
  obtain⟨a,l,b,r0,r⟩:=k
  exact⟨a,l,hμ _ _ b (fun hv=>by rw[hv.2] at r0;simp at r0),r0,r⟩
 | .yield b,κ,v,k=>by
  simp only[RV] at k ⊢
  obtain⟨a,l,b,r0,r⟩:=k
  exact⟨a,l,hμ _ _ b (fun hv=>by rw[hv.2] at r0;simp at r0),r0,r⟩
 | .undef,κ,v,k=>by simp only[RV] at k
theorem RVs.monoV {M M':Mem} {μ μ':List Loc} (h:M.le M') (hμ:∀(i:Nat) (l:Loc),μ[i]? = some l→¬l.void→μ'[i]? = some l):∀us κs cs,RVs ty sz M μ us κs cs→RVs ty sz M' μ' us κs cs
 | [],_,_,k=>by simpa only[RVs] using k
 | u::us,κs,cs,k=>by
  simp only[RVs] at k ⊢
  obtain⟨κ,κs',x,rest,a,b,n,c,e⟩:=k
  exact⟨κ,κs',x,rest,a,b,n,RV.monoV h hμ _ _ _ c,RVs.monoV h hμ _ _ _ e⟩
theorem RVt.monoV {M M':Mem} {μ μ':List Loc} (h:M.le M') (hμ:∀(i:Nat) (l:Loc),μ[i]? = some l→¬l.void→μ'[i]? = some l):∀us xs,RVt ty sz M μ us xs→RVt ty sz M' μ' us xs
 | [],_,k=>by simpa only[RVt] using k
 | u::us,xs,k=>by
  simp only[RVt] at k ⊢
  obtain⟨x,rest,a,b,e⟩:=k
  refine⟨x,rest,a,?_,RVt.monoV h hμ _ _ e⟩
  rcases b with b | ⟨κ,b⟩
  ·exact .inl b
  ·exact .inr ⟨κ,RV.monoV h hμ _ _ _ b⟩
end
theorem RV.mono {M M':Mem} {μ μ':List Loc} (h:M.le M') (hμ:∀(i:Nat) (l:Loc),μ[i]? = some l→μ'[i]? = some l) (u:V) (κ:K) (v:Value) (k:RV ty sz M μ u κ v):RV ty sz M' μ' u κ v:=
 RV.monoV ty sz h (fun i l h _=>hμ i l h) u κ v k
theorem RVs.mono {M M':Mem} {μ μ':List Loc} (h:M.le M') (hμ:∀(i:Nat) (l:Loc),μ[i]? = some l→μ'[i]? = some l) (us:List V) (κs:List K) (cs:List Value) (k:RVs ty sz M μ us κs cs):RVs ty sz M' μ' us κs cs:=
 RVs.monoV ty sz h (fun i l h _=>hμ i l h) us κs cs k
theorem RVt.mono {M M':Mem} {μ μ':List Loc} (h:M.le M') (hμ:∀(i:Nat) (l:Loc),μ[i]? = some l→μ'[i]? = some l) (us:List V) (xs:List Value) (k:RVt ty sz M μ us xs):RVt ty sz M' μ' us xs:=
 RVt.monoV ty sz h (fun i l h _=>hμ i l h) us xs k
theorem RR.monoV {M M':Mem} {μ μ':List Loc} (h:M.le M') (hμ:∀(i:Nat) (l:Loc),μ[i]? = some l→¬l.void→μ'[i]? = some l) {u:V} {x:Value} (k:RR ty sz M μ u x):RR ty sz M' μ' u x:=by
 rcases k with b | ⟨κ,b⟩
 ·exact .inl b
 ·exact .inr ⟨κ,RV.monoV ty sz h hμ _ _ _ b⟩
theorem RR.mono {M M':Mem} {μ μ':List Loc} (h:M.le M') (hμ:∀(i:Nat) (l:Loc),μ[i]? = some l→μ'[i]? = some l) {u:V} {x:Value} (k:RR ty sz M μ u x):RR ty sz M' μ' u x:=by
 rcases k with b | ⟨κ,b⟩
 ·exact .inl b
 ·exact .inr ⟨κ,RV.mono ty sz h hμ _ _ _ b⟩
def Entries (M:Mem) (κa κe:K):Nat→List (D×D)→List MapEntry→Prop
 | _,[],ms=>ms=[]
 | n,x::es,ms=>∃m rest,ms=m::rest∧Rep ty M x.1 κa m.key∧Rep ty M x.2 κe m.val∧m.born=n∧Entries M κa κe (n+1) es rest
def LSt.of (st:LSt) (r:Loop):Prop:=match st with
 | .ready=>r.state = .ready∧r.pending=none
 | .busy=>r.state = .busy
 | .ret=>r.state = .done∧r.pending=some .ret
 | .exit id=>r.state = .done∧r.pending=some (.exit id)
def etRow (ty:Nat→K) (et e n:Nat):Prop:=ty et=ty e∨∃m,ty et = .array m e∧(ty e = .int .u8→n=m)
theorem etRow.size {ty:Nat→K} {et e n n':Nat} (h:etRow ty et e n) (hn:n'=n):etRow ty et e n':=hn▸h
def ObjOk (cd:Cd) (M:Mem) (μ:List Loc) (w:World) (l:Loc):AObj→Prop
 | .var κ u=>l.virt=false∧l.base=0∧l.κ=κ∧κ≠.bad∧∃cs et x,w.heap[l.blk]? = some (.cells cs et (0,0))∧RV ty sz M μ u κ x∧x.cells=cs∧ty et=κ
 | .row e _ nn ds=>l.κ = .array ds.length e∧l.nn=nn∧ty e≠.bad ∧
   (if l.virt=true then ds=[] else nn=true∧(ds.length≤l.cap∧l.cap≤maxInt)∧∃cs et fz pre mid post,w.heap[l.blk]? = some (.cells cs et fz) ∧
    cs.toList=pre++mid++post∧pre.length=l.base∧Reps ty M ds (List.replicate ds.length (ty e)) mid∧(l.cap-ds.length)*sz e≤post.length ∧
    (∀o,o<cs.size+slk (ty e)→¬(fz.1≤o∧o<fz.2))∧etRow ty et e cs.size)
 | .map a e es=>l.κ = .map a e∧ty a≠.bad∧ty e≠.bad∧∃ms,w.heap[l.blk]? = some (.map ms es.length)∧Entries ty M (ty a) (ty e) 0 es ms.toList
 | .iter s pos=>w.heap[l.blk]? = some (.stringIter s pos)
 | .loop st f id u=>∃r,w.heap[l.blk]? = some (.loop r)∧st.of r∧cd f id=some (r.params.toList,r.assign,r.body)∧RV ty sz M μ u .bad (.tuple r.tmps)
 | .dead=>True
def ownB (l:Loc):AObj→Option Nat
 | .var _ _=>some l.blk
 | .row _ own _ _=>if own=true∧l.virt=false then some l.blk else none
 | .map _ _ _=>some l.blk
 | .iter _ _=>some l.blk
 | .loop _ _ _ _=>some l.blk
 | .dead=>none
def owned:List Loc→List AObj→List Nat
 | l::μ,o::H=>(match ownB l o with | some b=>[b] | none=>[])++owned μ H
 | _,_=>[]
def memOf (w:World) (own:List Nat):Mem:=fun b o=>if b∈own then none else w.cell? ⟨b,o,none⟩
def Own (μ:List Loc) (H:List AObj) (i b:Nat):Prop:=∃l o,μ[i]? = some l∧H[i]? = some o∧ownB l o=some b
def usesB (l:Loc):AObj→Option Nat
 | .row _ _ _ _=>if l.virt=false then some l.blk else none
 | .dead=>none
 | _=>some l.blk
def Uses (μ:List Loc) (H:List AObj) (i b:Nat):Prop:=∃l o,μ[i]? = some l∧H[i]? = some o∧usesB l o=some b
structure HOk (cd:Cd) (X:List Nat) (B0:Nat) (w0:World) (μ:List Loc) (H:List AObj) (w:World):Prop where
 len:μ.length=H.length
 obj:∀(i:Nat) (l:Loc) (o:AObj),μ[i]? = some l→H[i]? = some o→ObjOk ty sz cd (memOf w (X++owned μ H)) μ w l o
 inj:∀i j b,Own μ H i b→Uses μ H j b→i=j
 low:∀i b,Uses μ H i b→B0≤b
 resv:∀b,b∈X→b<B0
 below:Below B0 w0 w
 size:B0≤w.heap.size
structure Fut (X:List Nat) (B0 base:Nat) (μ:List Loc) (H:List AObj) (w:World) (μ':List Loc) (H':List AObj) (w':World):Prop where
 loc:∀(i:Nat),i<base→μ'[i]? = μ[i]?
 len:base≤μ'.length
 mem:(memOf w (X++owned μ H)).le (memOf w' (X++owned μ' H'))
 below:Below B0 w w'
 dfr:∀b:Nat,w.heap[b]? = some (.deferred (some []))→w'.heap[b]? = some (.deferred (some []))
end
theorem Fut.trans {X:List Nat} {B0 base base':Nat} {μ H w μ' H' w' μ'' H'' w''} (hb:base≤base') (h:Fut X B0 base μ H w μ' H' w') (k:Fut X B0 base' μ' H' w' μ'' H'' w''):Fut X B0 base μ H w μ'' H'' w'':=
 ⟨fun i hi=>(k.loc i (by omega)).trans (h.loc i hi),by have:=k.len;omega,Mem.le_trans h.mem k.mem,h.below.trans k.below,fun b hb=>k.dfr b (h.dfr b hb)⟩
theorem mem_owned {b:Nat}:∀{μ:List Loc} {H:List AObj},b∈owned μ H↔∃i,Own μ H i b
 | [],H=>by simp[owned,Own]
 | _::_,[]=>by simp[owned,Own]
 | l::μ,o::H=>by
  simp only[owned,List.mem_append,mem_owned (μ:=μ) (H:=H)]
  constructor
  ·rintro(h | ⟨i,l',o',h1,h2,h3⟩)
   ·refine⟨0,l,o,rfl,rfl,?_⟩
    split at h
    ·rename_i b' hb;simp at h;rw[h,hb]
    ·simp at h
   ·exact⟨i+1,l',o',by simpa using h1,by simpa using h2,h3⟩
  ·rintro⟨i,l',o',h1,h2,h3⟩
   cases i with
   | zero=>
    left
    simp at h1 h2
    subst h1 h2
    simp[h3]
   | succ i=>exact .inr ⟨i,l',o',by simpa using h1,by simpa using h2,h3⟩
end Go.AM
namespace Go.AM
open Go Go.RowKit
section
variable {ty:Nat→K} {sz:Nat→Nat} {M:Mem} {μ:List Loc}
theorem cells_agg (cs:Array Value):(Value.agg cs).cells=cs:=rfl
mutual
theorem RV.size (hs:SzOk ty sz):∀u κ x,RV ty sz M μ u κ x→κ≠.bad→x.cells.size=ksz sz κ∧(∀c∈x.cells.toList,scal c=true)∧(κ.isAgg=false→scal x=true)
 | .d κ' d,κ,x,k,_=>by
  simp only[RV] at k
  exact⟨Rep.size hs _ _ _ k.2,(Rep.scal ty _ _ _ k.2).2,(Rep.scal ty _ _ _ k.2).1⟩
 | .agg κ' vs,κ,x,k,_=>by
  simp only[RV] at k
  obtain⟨rfl,b,cs,rfl,e⟩:=k
  have h:=RVs.size hs _ _ _ e
  simp only[Value.cells]
  refine⟨?_,h.2.2,fun h'=>by simp[h'] at b⟩
  cases κ' with
  | struct fs=>simp only[K.kids,ksz] at h ⊢;simpa using h.2.1 fs rfl
  | array n e'=>
   simp only[K.kids,ksz] at h ⊢
   have:=h.2.1 (List.replicate n e') (by simp)
   simpa using this
  | _=>simp[K.isAgg] at b
 | .tup vs,κ,x,k,hb=>by simp only[RV] at k;exact absurd k.1 hb
 | .dtup κs y,κ,x,k,hb=>by simp only[RV] at k;exact absurd k.1 hb
 | .sref b off len,κ,x,k,_=>by
  simp only[RV] at k
  obtain⟨l,n,e,a,b,rfl,_,r⟩:=k
  rcases r with ⟨_,_,y,rfl,_⟩ | ⟨_,c,rfl,_⟩ | ⟨_,_,_,y,rfl⟩<;>simp[ksz,Value.cells,scal]
 | .lit e ds,κ,x,k,_=>by
  simp only[RV] at k
  obtain⟨rfl,ad,cs,rfl,_⟩:=k
  simp[ksz,Value.cells,scal]
 | .ptr b p κ',κ,x,k,_=>by
  simp only[RV] at k
  obtain⟨⟨e,rfl,_⟩,l,a,_,b,c,rfl⟩:=k
  simp[ksz,Value.cells,scal]
 | .cptr κ' d,κ,x,k,_=>by
  simp only[RV] at k
  obtain⟨⟨e,rfl,_⟩,ad,y,rfl,_⟩:=k
  simp[ksz,Value.cells,scal]
 | .func f a c,κ,x,k,_=>by
  simp only[RV] at k
  obtain⟨rfl,xs,ys,rfl,_⟩:=k
  simp[ksz,Value.cells,scal]
 | .iface t u,κ,x,k,_=>by
  simp only[RV] at k
  obtain⟨⟨m,rfl⟩,_,y,rfl,_⟩:=k
  simp[ksz,Value.cells,scal]
 | .map b,κ,x,k,_=>by
  simp only[RV] at k
  obtain⟨l,a,e,_,_,rfl,rfl⟩:=k
  simp[ksz,Value.cells,scal]
 | .iter b,κ,x,k,hb=>by simp only[RV] at k;exact absurd k.1 hb
 | .yield b,κ,x,k,_=>by
  simp only[RV] at k
  obtain⟨rfl,l,_,_,rfl⟩:=k
  simp[ksz,Value.cells,scal]
 | .undef,κ,x,k,_=>by simp only[RV] at k
theorem RVs.size (hs:SzOk ty sz):∀us κs cs,RVs ty sz M μ us κs cs→cs.length=(κs.map (ksz sz)).sum∧(∀ts:List Nat,κs=ts.map ty→cs.length=(ts.map sz).sum)∧(∀c∈cs,scal c=true)
 | [],_,_,k=>by
  simp only[RVs] at k;obtain⟨rfl,rfl⟩:=k
  refine⟨rfl,fun ts h=>?_,by simp⟩
  have:ts=[]:=by simpa using h.symm
  simp[this]
 | u::us,κs,cs,k=>by
  simp only[RVs] at k
  obtain⟨κ,κs',x,rest,rfl,rfl,n,c,e⟩:=k
  have h1:=RV.size hs u _ _ c n
  have h2:=RVs.size hs us _ _ e
  refine⟨by simp[h1.1,h2.1],fun ts h=>?_,?_⟩
  ·cases ts with
   | nil=>simp at h
   | cons t ts=>
    simp only[List.map_cons,List.cons.injEq] at h
    obtain⟨rfl,h'⟩:=h
    have:=hs t n
    simp[h1.1,h2.2.1 ts h',this]
  ·intro c' hc
   rcases List.mem_append.1 hc with hc | hc
   ·exact h1.2.1 c' hc
   ·exact h2.2.2 c' hc
end
theorem RVs.length:∀{us κs cs},RVs ty sz M μ us κs cs→us.length=κs.length
 | [],_,_,k=>by simp only[RVs] at k;simp[k.1]
 | d::ds,κs,cs,k=>by
  simp only[RVs] at k
  obtain⟨κ,κs',x,rest,rfl,rfl,n,c,e⟩:=k
  simp[RVs.length e]
theorem RVs.append:∀{ds κs cs ds' κs' cs'},RVs ty sz M μ ds κs cs→RVs ty sz M μ ds' κs' cs'→RVs ty sz M μ (ds++ds') (κs++κs') (cs++cs')
 | [],_,_,_,_,_,k,k'=>by simp only[RVs] at k;obtain⟨rfl,rfl⟩:=k;simpa using k'
 | d::ds,κs,cs,ds',κs',cs',k,k'=>by
  simp only[RVs] at k
  obtain⟨κ,κs1,x,rest,rfl,rfl,n,c,e⟩:=k
  simp only[List.cons_append,RVs]
  exact⟨κ,κs1++κs',x,rest++cs',rfl,by simp,n,c,RVs.append e k'⟩
theorem RVs.split:∀{ds ds' κs cs},RVs ty sz M μ (ds++ds') κs cs→∃κ1 κ2 c1 c2,κs=κ1++κ2∧cs=c1++c2∧RVs ty sz M μ ds κ1 c1∧RVs ty sz M μ ds' κ2 c2
 | [],ds',κs,cs,k=>⟨[],κs,[],cs,rfl,rfl,by simp[RVs],k⟩
 | d::ds,ds',κs,cs,k=>by
  simp only[List.cons_append,RVs] at k
  obtain⟨κ,κs1,x,rest,rfl,rfl,n,c,e⟩:=k
  obtain⟨κ1,κ2,c1,c2,rfl,rfl,h1,h2⟩:=RVs.split e
  exact⟨κ::κ1,κ2,x.cells.toList++c1,c2,rfl,by simp,by simp only[RVs];exact⟨κ,κ1,x,c1,rfl,rfl,n,c,h1⟩,h2⟩
theorem RVs.one {d:V} {κ:K} {x:Value} (n:κ≠.bad) (h:RV ty sz M μ d κ x):RVs ty sz M μ [d] [κ] x.cells.toList:=by
 simp only[RVs];exact⟨κ,[],x,[],rfl,by simp,n,h,rfl,rfl⟩
theorem RVs.at {ds:List V} {κs:List K} {cs:List Value} (h:RVs ty sz M μ ds κs cs) {i:Nat} {u:V} (hu:ds[i]? = some u) :
  ∃c1 x c2,cs=c1++x.cells.toList++c2∧RVs ty sz M μ (ds.take i) (κs.take i) c1∧(∃κ,κs[i]? = some κ∧κ≠.bad∧RV ty sz M μ u κ x)∧RVs ty sz M μ (ds.drop (i+1)) (κs.drop (i+1)) c2:=by
 obtain⟨hi,hu⟩:=List.getElem?_eq_some_iff.1 hu
 have hd:ds=ds.take i++(u::ds.drop (i+1)):=by rw[←hu];simp
 have hl:=RVs.length h
 rw[hd] at h
 obtain⟨κ1,κ2,c1,c2,rfl,rfl,h1,h2⟩:=RVs.split h
 simp only[RVs] at h2
 obtain⟨κ,κs',x,rest,rfl,rfl,n,c,e⟩:=h2
 have hl1:κ1.length=i:=by
  have:=RVs.length h1;simp at this;omega
 refine⟨c1,x,rest,by simp,?_,⟨κ,by simp[←hl1],n,c⟩,?_⟩
 ·have:(κ1++κ::κs').take i=κ1:=by simp[←hl1]
  rw[this];exact h1
 ·have:(κ1++κ::κs').drop (i+1)=κs':=by
   rw[List.drop_append];simp[←hl1]
  rw[this];exact e
theorem RVs.set {ds:List V} {κs:List K} {i:Nat} {κ:K} {y:V} {y':Value} {c1 c2:List Value}
  (h1:RVs ty sz M μ (ds.take i) (κs.take i) c1) (n:κ≠.bad) (hy:RV ty sz M μ y κ y') (h2:RVs ty sz M μ (ds.drop (i+1)) (κs.drop (i+1)) c2) (hi:i<ds.length) (hκ:κs[i]? = some κ) :
  RVs ty sz M μ (ds.set i y) κs (c1++y'.cells.toList++c2):=by
 have hd:ds.set i y=ds.take i++([y]++ds.drop (i+1)):=by
  rw[List.set_eq_take_append_cons_drop];simp[hi]
 have hk:κs=κs.take i++([κ]++κs.drop (i+1)):=by
  obtain⟨hl,he⟩:=List.getElem?_eq_some_iff.1 hκ
  rw[←he];simp
 rw[hd]
 conv=>arg 6;rw[hk]
 rw[List.append_assoc]
 exact h1.append (.append (.one n hy) h2)
theorem RVs.of_spread {x:D}:∀{ds:List D} {κs:List K} {cs:List Value} {i:Nat},Reps ty M ds κs cs→(∀j,j<ds.length→x.at (i+j)=ds.getD j .nilFunc)→RVs ty sz M μ (spread x κs i) κs cs
 | [],κs,cs,i,k,_=>by simp only[Reps] at k;obtain⟨rfl,rfl⟩:=k;simp[spread,RVs]
 | d::ds,κs,cs,i,k,h=>by
  simp only[Reps] at k
  obtain⟨κ,κs',y,rest,rfl,rfl,c,e⟩:=k
  simp only[spread,RVs]
  have h0:x.at i=d:=by simpa using h 0 (by simp)
  refine⟨κ,κs',y,rest,rfl,rfl,fun hb=>Rep.notBad (hb▸c),?_,?_⟩
  ·simp only[RV,h0];exact⟨trivial,c⟩
  ·exact RVs.of_spread e (fun j hj=>by
    have:=h (j+1) (by simp;omega)
    simpa[Nat.add_assoc,Nat.add_comm 1 j] using this)
theorem RVs.of_agg {ds:List D} {κs:List K} {cs:List Value} (h:Reps ty M ds κs cs):RVs ty sz M μ (spread (.agg ds) κs 0) κs cs:=
 RVs.of_spread h (fun j _=>by simp[D.at,D.parts])
theorem RVs.pures:∀{vs:List V} {κs:List K} {cs:List Value} {ds:List D},RVs ty sz M μ vs κs cs→AM.pures vs=some ds→Reps ty M ds κs cs
 | [],κs,cs,ds,k,h=>by simp only[RVs] at k;simp[AM.pures] at h;subst h;simpa[Reps] using k
 | v::vs,κs,cs,ds,k,h=>by
  simp only[RVs] at k
  obtain⟨κ,κs',y,rest,rfl,rfl,n,c,e⟩:=k
  cases v with
  | d κ' x=>
   simp only[AM.pures] at h
   split at h
   ·rename_i ds' hp
    simp only[Option.some.injEq] at h;subst h
    simp only[RV] at c
    simp only[Reps]
    exact⟨κ,κs',y,rest,rfl,rfl,c.2,RVs.pures e hp⟩
   ·simp at h
  | _=>simp[AM.pures] at h
theorem RV.mkAgg {κ:K} {vs:List V} {cs:Array Value} (hκ:κ.isAgg=true) (h:RVs ty sz M μ vs (κ.kids ty) cs.toList):RV ty sz M μ (mkAgg κ vs) κ (.agg cs):=by
 unfold AM.mkAgg
 split
 ·rename_i ds hp
  simp only[RV,Rep]
  exact⟨trivial,hκ,cs,rfl,RVs.pures h hp⟩
 ·simp only[RV]
  exact⟨trivial,hκ,cs,rfl,h⟩
theorem kids_kid {κ:K} {i:Nat} (h:i<(κ.kids ty).length):(κ.kids ty)[i]? = some (κ.kid ty i):=by
 cases κ with
 | struct fs=>
  have hf:i<fs.length:=by simpa[K.kids] using h
  simp[K.kids,K.kid,List.getD_eq_getElem?_getD,hf]
 | array n e=>simp only[K.kids,List.length_replicate] at h;simp[K.kids,K.kid,h]
 | _=>simp[K.kids] at h
theorem kids_isAgg {κ:K} {i:Nat} (h:i<(κ.kids ty).length):κ.isAgg=true:=by
 cases κ<;>simp_all [K.kids,K.isAgg]
theorem kids_take {κ:K} {i:Nat} (h:i<(κ.kids ty).length):∃ts:List Nat,(κ.kids ty).take i=ts.map ty∧(ts.map sz).sum=kOff sz κ i:=by
 cases κ with
 | struct fs=>exact⟨fs.take i,by simp[K.kids,List.map_take],by simp[kOff,List.map_take]⟩
 | array n e=>
  simp[K.kids] at h
  refine⟨List.replicate i e,?_,by simp[kOff]⟩
  simp[K.kids,Nat.min_eq_left (Nat.le_of_lt h)]
 | _=>simp[K.kids] at h
theorem Rep.part (hs:SzOk ty sz) {d:D} {κ:K} {x:Value} (h:Rep ty M d κ x) {i:Nat} (hi:i<(κ.kids ty).length) :
  ∃ds cs c1 y c2,d = .agg ds∧x = .agg cs∧cs.toList=c1++y.cells.toList++c2∧c1.length=kOff sz κ i∧i<ds.length ∧
   Reps ty M (ds.take i) ((κ.kids ty).take i) c1∧Rep ty M (d.at i) (κ.kid ty i) y∧Reps ty M (ds.drop (i+1)) ((κ.kids ty).drop (i+1)) c2:=by
 obtain⟨ds,cs,rfl,rfl,r⟩:=Rep.isAgg h (kids_isAgg hi)
 have hl:=Reps.length r
 have hid:i<ds.length:=by omega
 obtain⟨c1,y,c2,e,h1,⟨κ',hk,hy⟩,h2⟩:=Reps.at r hid
 rw[kids_kid hi] at hk
 simp only[Option.some.injEq] at hk
 subst hk
 obtain⟨ts,ht,hts⟩:=kids_take (sz:=sz) hi
 refine⟨ds,cs,c1,y,c2,rfl,rfl,e,?_,hid,h1,?_,h2⟩
 ·rw[←hts];exact(Reps.size hs _ _ _ h1).2 ts ht
 ·simpa[D.at,D.parts] using hy
theorem Rep.get (hs:SzOk ty sz):∀{p:List Nat} {d:D} {κ:K} {x:Value},Rep ty M d κ x→pathOk ty κ p →
  ∃c1 y c2,x.cells.toList=c1++y.cells.toList++c2∧c1.length=(pathOff ty sz κ p).1∧Rep ty M (d.get p) (pathOff ty sz κ p).2 y
 | [],d,κ,x,h,_=>⟨[],x,[],by simp,rfl,h⟩
 | i::p,d,κ,x,h,hp=>by
  obtain⟨ds,cs,c1,y,c2,rfl,rfl,e,hl,hi,h1,hy,h2⟩:=Rep.part hs h hp.1
  obtain⟨c1',y',c2',e',hl',hy'⟩:=Rep.get hs hy hp.2
  refine⟨c1++c1',y',c2'++c2,?_,?_,?_⟩
  ·simp only[cells_agg,e,e'];simp
  ·simp[pathOff,hl,hl']
  ·simpa[D.get,pathOff] using hy'
theorem Rep.put (hs:SzOk ty sz):∀{p:List Nat} {d:D} {κ:K} {x:Value} {e:D} {z:Value},Rep ty M d κ x→pathOk ty κ p→Rep ty M e (pathOff ty sz κ p).2 z →
  ∃c1 y c2 x',x.cells.toList=c1++y++c2∧y.length=z.cells.toList.length∧c1.length=(pathOff ty sz κ p).1∧Rep ty M (d.put p e) κ x'∧x'.cells.toList=c1++z.cells.toList++c2
 | [],d,κ,x,e,z,h,_,hz=>by
  refine⟨[],x.cells.toList,[],z,by simp,?_,rfl,hz,by simp⟩
  have h1:=Rep.size hs _ _ _ h
  have h2:=Rep.size hs _ _ _ hz
  simp only[pathOff] at h2
  simp[h1,h2]
 | i::p,d,κ,x,e,z,h,hp,hz=>by
  obtain⟨ds,cs,c1,y,c2,rfl,rfl,he,hl,hi,h1,hy,h2⟩:=Rep.part hs h hp.1
  obtain⟨c1',y',c2',x',e1,e2,e3,e4,e5⟩:=Rep.put hs hy hp.2 (by simpa[pathOff] using hz)
  refine⟨c1++c1',y',c2'++c2,.agg (c1++x'.cells.toList++c2).toArray,?_,e2,?_,?_,?_⟩
  ·simp only[cells_agg,he,e1];simp
  ·simp[pathOff,hl,e3]
  ·have:=Reps.set h1 e4 h2 hi (kids_kid hp.1)
   simp only[D.put,D.parts,Rep]
   exact⟨kids_isAgg hp.1,_,rfl,by simpa using this⟩
  ·simp[cells_agg,e5]
theorem RV.part (hs:SzOk ty sz) {κ:K} {vs:List V} {cs:Array Value} (h:RVs ty sz M μ vs (κ.kids ty) cs.toList) {i:Nat} {u:V} (hi:i<(κ.kids ty).length) (hu:vs[i]? = some u) :
  ∃c1 y c2,cs.toList=c1++y.cells.toList++c2∧c1.length=kOff sz κ i ∧
   RVs ty sz M μ (vs.take i) ((κ.kids ty).take i) c1∧κ.kid ty i≠.bad∧RV ty sz M μ u (κ.kid ty i) y∧RVs ty sz M μ (vs.drop (i+1)) ((κ.kids ty).drop (i+1)) c2:=by
 obtain⟨c1,y,c2,e,h1,⟨κ',hk,hn,hy⟩,h2⟩:=RVs.at h hu
 rw[kids_kid hi] at hk
 simp only[Option.some.injEq] at hk
 subst hk
 obtain⟨ts,ht,hts⟩:=kids_take (sz:=sz) hi
 refine⟨c1,y,c2,e,?_,h1,hn,hy,h2⟩
 rw[←hts];exact(RVs.size hs _ _ _ h1).2.1 ts ht
theorem RV.get (hs:SzOk ty sz):∀{p:List Nat} {u:V} {κ:K} {x:Value} {u':V},RV ty sz M μ u κ x→κ≠.bad→pathOk ty κ p→V.get ty u p=some u' →
  ∃c1 y c2,x.cells.toList=c1++y.cells.toList++c2∧c1.length=(pathOff ty sz κ p).1∧(pathOff ty sz κ p).2≠.bad∧RV ty sz M μ u' (pathOff ty sz κ p).2 y
 | [],u,κ,x,u',h,hb,_,hg=>by
  simp only[V.get,Option.some.injEq] at hg;subst hg
  exact⟨[],x,[],by simp,rfl,hb,h⟩
 | i::p,u,κ,x,u',h,hb,hp,hg=>by
  cases u with
  | d κ' d=>
   simp only[V.get] at hg
   simp only[RV] at h
   obtain⟨rfl,h⟩:=h
   obtain⟨ds,cs,c1,y,c2,rfl,rfl,e,hl,hi,h1,hy,h2⟩:=Rep.part hs h hp.1
   have hy':RV ty sz M μ (.d (κ'.kid ty i) ((D.agg ds).at i)) (κ'.kid ty i) y:=by simp only[RV];exact⟨trivial,hy⟩
   obtain⟨c1',y',c2',e',hl',hn,hy'⟩:=RV.get hs hy' (fun hb=>Rep.notBad (hb▸hy)) hp.2 hg
   refine⟨c1++c1',y',c2'++c2,?_,?_,hn,hy'⟩
   ·simp only[cells_agg,e,e'];simp
   ·simp[pathOff,hl,hl']
  | agg κ' vs=>
   simp only[V.get] at hg
   simp only[RV] at h
   obtain⟨rfl,_,cs,rfl,h⟩:=h
   split at hg
   ·rename_i v hv
    obtain⟨c1,y,c2,e,hl,h1,hn,hy,h2⟩:=RV.part hs h hp.1 hv
    obtain⟨c1',y',c2',e',hl',hn',hy'⟩:=RV.get hs hy hn hp.2 hg
    refine⟨c1++c1',y',c2'++c2,?_,?_,hn',hy'⟩
    ·simp only[cells_agg,e,e'];simp
    ·simp[pathOff,hl,hl']
   ·simp at hg
  | _=>simp[V.get] at hg
theorem RV.put (hs:SzOk ty sz):∀{p:List Nat} {u:V} {κ:K} {x:Value} {e:V} {z:Value} {u':V},RV ty sz M μ u κ x→κ≠.bad→pathOk ty κ p→(pathOff ty sz κ p).2≠.bad→RV ty sz M μ e (pathOff ty sz κ p).2 z→V.put ty u p e=some u' →
  ∃c1 y c2 x',x.cells.toList=c1++y++c2∧y.length=z.cells.toList.length∧c1.length=(pathOff ty sz κ p).1∧RV ty sz M μ u' κ x'∧x'.cells.toList=c1++z.cells.toList++c2
 | [],u,κ,x,e,z,u',h,hb,_,_,hz,hg=>by
  simp only[V.put,Option.some.injEq] at hg;subst hg
  refine⟨[],x.cells.toList,[],z,by simp,?_,rfl,hz,by simp⟩
  have h1:=(RV.size hs _ _ _ h hb).1
  have h2:=(RV.size hs _ _ _ hz (by simpa[pathOff] using hb)).1
  simp only[pathOff] at h2
  simp[h1,h2]
 | i::p,u,κ,x,e,z,u',h,hb,hp,hn,hz,hg=>by
  have hagg:∀(vs:List V) (cs:Array Value),x = .agg cs→RVs ty sz M μ vs (κ.kids ty) cs.toList→∀(v v':V),vs[i]? = some v→V.put ty v p e=some v'→u'=AM.mkAgg κ (vs.set i v') →
    ∃c1 y c2 x',x.cells.toList=c1++y++c2∧y.length=z.cells.toList.length∧c1.length=(pathOff ty sz κ (i::p)).1∧RV ty sz M μ u' κ x'∧x'.cells.toList=c1++z.cells.toList++c2:=by
   intro vs cs hx hvs v v' hv hv' hu'
   subst hx hu'
   obtain⟨c1,y,c2,e0,hl,h1,hn0,hy,h2⟩:=RV.part hs hvs hp.1 hv
   obtain⟨c1',y',c2',x',e1,e2,e3,e4,e5⟩:=RV.put hs hy hn0 hp.2 (by simpa[pathOff] using hn) (by simpa[pathOff] using hz) hv'
   obtain⟨hi,_⟩:=List.getElem?_eq_some_iff.1 hv
   refine⟨c1++c1',y',c2'++c2,.agg (c1++x'.cells.toList++c2).toArray,?_,e2,?_,?_,?_⟩
   ·simp only[cells_agg,e0,e1];simp
   ·simp[pathOff,hl,e3]
   ·refine RV.mkAgg (kids_isAgg hp.1) ?_
    simpa using RVs.set h1 hn0 e4 h2 hi (kids_kid hp.1)
   ·simp[cells_agg,e5]
  have hpure:∀κ' d κ'' y,u = .d κ' d→e = .d κ'' y→u' = .d κ' (d.put (i::p) y) →
    ∃c1 y c2 x',x.cells.toList=c1++y++c2∧y.length=z.cells.toList.length∧c1.length=(pathOff ty sz κ (i::p)).1∧RV ty sz M μ u' κ x'∧x'.cells.toList=c1++z.cells.toList++c2:=by
   rintro κ' d κ'' y rfl rfl rfl
   simp only[RV] at h hz
   obtain⟨c1,y',c2,x',a1,a2,a3,a4,a5⟩:=Rep.put hs h.2 hp hz.2
   exact⟨c1,y',c2,x',a1,a2,a3,by simp only[RV];exact⟨h.1,a4⟩,a5⟩
  cases u with
  | d κ' d=>
   cases e with
   | d κ'' y=>
    simp only[V.put,Option.some.injEq] at hg
    exact hpure κ' d κ'' y rfl rfl hg.symm
   | _=>
    simp only[V.put] at hg
    simp only[RV] at h
    obtain⟨rfl,h⟩:=h
    obtain⟨ds,cs,rfl,rfl,r⟩:=Rep.isAgg h (kids_isAgg hp.1)
    split at hg
    ·rename_i v hv
     split at hg
     ·rename_i v' hv'
      simp only[Option.some.injEq] at hg
      exact hagg _ cs rfl (RVs.of_agg r) v v' hv hv' hg.symm
     ·simp at hg
    ·simp at hg
  | agg κ' vs=>
   simp only[RV] at h
   obtain⟨rfl,_,cs,rfl,h⟩:=h
   cases e <;>
   ·simp only[V.put] at hg
    split at hg
    ·rename_i v hv
     split at hg
     ·rename_i v' hv'
      simp only[Option.some.injEq] at hg
      exact hagg vs cs rfl h v v' hv hv' hg.symm
     ·simp at hg
    ·simp at hg
  | _=>cases e<;>simp[V.put] at hg
end
end Go.AM
namespace Go.AM
open Go Go.RowKit
theorem run_bind {α β:Type} (P:Program) (s:Sem α) (f:α→Sem β) (w:World) :
  (s >>= f).run P w=match s.run P w with | .ok a w'=>(f a).run P w' | .halt h w'=>.halt h w':=by
 show (Sem.bind s f).run P w=_
 induction s generalizing w with
 | pure a=>rfl
 | load m a k ih=>
  simp only[Sem.bind,Sem.run]
  cases w.cell? a with
  | some v=>simp only[ih]
  | none=>
   simp only[]
   split<;>simp_all
 | store m a v k ih=>
  simp only[Sem.bind]
  cases v<;>simp only[Sem.run]<;>(split<;>(try split)<;>simp_all)
 | new o k ih=>simp only[Sem.bind,Sem.run,ih]
 | shape r k ih=>simp only[Sem.bind,Sem.run,ih]
 | freeze a n k ih=>simp only[Sem.bind,Sem.run,ih]
 | frozen a k ih=>simp only[Sem.bind,Sem.run,ih]
 | getObj r k ih=>
  simp only[Sem.bind,Sem.run]
  split<;>simp_all
 | setObj r o k ih=>
  simp only[Sem.bind,Sem.run]
  split<;>simp_all
 | choose q k ih=>
  simp only[Sem.bind,Sem.run]
  split<;>simp only[ih]
 | sys c k ih=>simp only[Sem.bind,Sem.run,ih]
 | program k ih=>simp only[Sem.bind,Sem.run,ih]
 | mark m k ih=>simp only[Sem.bind,Sem.run,ih]
 | halt h=>rfl
theorem run_pure {α:Type} (P:Program) (a:α) (w:World):(pure a:Sem α).run P w = .ok a w:=rfl
def descOk (P:Program) (ty:Nat→K) (t:Nat):K→Prop
 | .bad=>True
 | .bool=>P.underlying t=some .bool
 | .int k=>P.underlying t=some (.int k)
 | .str=>P.underlying t=some .string
 | .struct fs=>∃fields,P.underlying t=some (.struct fields)∧fields.toList.map (·.type)=fs ∧
   ∀(j:Nat) (f:Field),fields[j]? = some f→f.offset=kOff P.cellsOf (.struct fs) j∧0<P.cellsOf f.type∧f.name ≠ "_" ∧ ty f.type≠.bad
 | .array n e=>P.underlying t=some (.array n e)∧0<P.cellsOf e∧ty e≠.bad
 | .slice e=>P.underlying t=some (.slice e)∧ty e≠.bad
 | .map a e=>P.underlying t=some (.map a e)∧ty a≠.bad∧ty e≠.bad
 | .iface m=>∃ms,P.underlying t=some (.interface ms)∧ms.isEmpty = !m
 | .ptr e=>P.underlying t=some (.pointer e)
 | .func=>∃ps rs v,P.underlying t=some (.func ps rs v)
structure TyFact (P:Program) (ty:Nat→K) (t:Nat) (i:TypeInfo):Prop where
 info:P.info? t=some i
 size:i.size=ksz P.cellsOf (ty t)
 bytes:i.bytes≤4096
 cells:i.size≤4096
 zero:∃z,i.zero=some z∧∀M,Rep ty M (zero ty (ty t)) (ty t) z
 cmp:K.cmp ty 20 (ty t)=true→i.comparable=true∧P.eqGuardType P.depth t=false∧P.stoodInHeld t=false
 desc:descOk P ty t (ty t)
def TyOk (P:Program) (ty:Nat→K):Prop:=∀t,ty t≠.bad→∃i,TyFact P ty t i
section
variable {P:Program} {ty:Nat→K} (T:TyOk P ty)
include T
theorem TyOk.szOk:SzOk ty P.cellsOf:=by
 intro t ht
 obtain⟨i,h⟩:=T t ht
 simp[Program.cellsOf,h.info,h.size]
theorem run_sizeOf {t:Nat} (ht:ty t≠.bad) (w:World):(sizeOf t).run P w = .ok (P.cellsOf t) w:=by
 obtain⟨i,h⟩:=T t ht
 simp[sizeOf,typeInfo,run_bind,program,Sem.run,h.info,Program.cellsOf,run_pure]
theorem run_zeroValue {t:Nat} (ht:ty t≠.bad) (w:World):∃z,(zeroValue t).run P w = .ok z w∧∀M,Rep ty M (zero ty (ty t)) (ty t) z:=by
 obtain⟨i,h⟩:=T t ht
 obtain⟨z,hz,hr⟩:=h.zero
 exact⟨z,by simp[zeroValue,typeInfo,run_bind,program,Sem.run,h.info,run_pure,hz],hr⟩
theorem run_underlying {t:Nat} {d:TypeDesc} (h:P.underlying t=some d) (w:World):(underlying t).run P w = .ok d w:=by
 simp[underlying,run_bind,program,Sem.run,h,run_pure]
theorem under_of {t:Nat} (ht:ty t≠.bad):descOk P ty t (ty t):=(T t ht).elim fun _ h=>h.desc
theorem run_isAgg {t:Nat} (ht:ty t≠.bad) (w:World):(isAgg t).run P w = .ok (ty t).isAgg w:=by
 have h:=under_of T ht
 cases hk:ty t<;>rw[hk] at h<;>simp only[descOk] at h
 all_goals first
  | (obtain⟨fields,h,_⟩:=h;simp[isAgg,run_bind,run_underlying T h,run_pure,K.isAgg])
  | (obtain⟨_,_,_,h⟩:=h;simp[isAgg,run_bind,run_underlying T h,run_pure,K.isAgg])
  | (obtain⟨h,_⟩:=h;simp[isAgg,run_bind,run_underlying T h,run_pure,K.isAgg])
  | (simp[isAgg,run_bind,run_underlying T h,run_pure,K.isAgg])
  | exact absurd hk ht
end
end Go.AM
namespace Go.AM
open Go Go.RowKit
def putBlk (w:World) (b:Nat) (o:Obj):World:={ w with heap:=w.heap.setIfInBounds b o }
theorem putBlk_heap {w:World} {b:Nat} {o:Obj} (k:Nat):(putBlk w b o).heap[k]? = if b=k∧k<w.heap.size then some o else w.heap[k]?:=by
 simp only[putBlk,Array.getElem?_setIfInBounds]
 by_cases h:b=k
 ·subst h
  by_cases h2:b<w.heap.size
  ·simp[h2]
  ·simp[h2]
 ·simp[h]
theorem putBlk_size {w:World} {b:Nat} {o:Obj}:(putBlk w b o).heap.size=w.heap.size:=by simp[putBlk]
theorem lt_of_block {w:World} {b:Nat} {o:Obj} (h:w.heap[b]? = some o):b<w.heap.size:=by
 rcases Nat.lt_or_ge b w.heap.size with h' | h'
 ·exact h'
 ·simp[Array.getElem?_eq_none h'] at h
theorem putBlk_same {w:World} {b:Nat} {o:Obj} (h:w.heap[b]? = some o):putBlk w b o=w:=by
 have hlt:=lt_of_block h
 have:w.heap.setIfInBounds b o=w.heap:=by
  apply Array.ext_getElem?
  intro i
  rw[Array.getElem?_setIfInBounds]
  split
  ·rename_i hb;subst hb;simp[hlt];simpa[Array.getElem?_eq_getElem hlt] using h.symm
  ·rfl
 simp[putBlk,this]
theorem setCell_put {w:World} {b o:Nat} {c:Array Value} {et:Nat} {fz:Nat×Nat} {v:Value} (h:w.heap[b]? = some (.cells c et fz)) :
  w.setCell ⟨b,o,none⟩ v=putBlk w b (.cells (c.setIfInBounds o v) et fz):=by
 have hlt:=lt_of_block h
 simp only[World.setCell,putBlk]
 congr 1
 apply Array.ext_getElem?
 intro i
 rw[Array.getElem?_modify,Array.getElem?_setIfInBounds]
 by_cases hi:b=i
 ·subst hi
  have hb:w.heap[b] = .cells c et fz:=by simpa[Array.getElem?_eq_getElem hlt] using h
  simp[hlt,hb]
 ·simp[hi]
theorem cell_of_block {w:World} {b o:Nat} {c:Array Value} {et:Nat} {fz:Nat×Nat} (h:w.heap[b]? = some (.cells c et fz)):w.cell? ⟨b,o,none⟩=c[o]?:=by
 simp[World.cell?,h]
theorem frozen_of_block {w:World} {b o:Nat} {c:Array Value} {et:Nat} {fz:Nat×Nat} (h:w.heap[b]? = some (.cells c et fz)):w.frozen? ⟨b,o,none⟩=(decide (fz.1≤o)&&decide (o<fz.2)):=by
 simp[World.frozen?,h]
theorem addr_add {a:Addr} (h:a.spot=none) (n:Nat):a.add n=⟨a.block,a.off+n,none⟩:=by
 cases a
 simp only at h
 subst h
 unfold Addr.add
 split
 ·rename_i h0;simp[h0]
 ·rfl
theorem run_loadCellsFrom {P:Program} {w:World} {a:Addr} (hs:a.spot=none):∀(cs:List Value) (i:Nat) (acc:Array Value),
  (∀j v,cs[j]? = some v→w.cell? ⟨a.block,a.off+(i+j),none⟩=some v)→(loadCellsFrom a i cs.length acc).run P w = .ok (acc++cs.toArray) w
 | [],i,acc,_=>by simp[loadCellsFrom,run_pure]
 | c::cs,i,acc,h=>by
  have h0:=h 0 c rfl
  simp only[List.length_cons,loadCellsFrom,run_bind,addr_add hs,load,Sem.run]
  simp only[Nat.add_zero] at h0
  rw[h0]
  simp only[]
  rw[run_loadCellsFrom hs cs (i+1) (acc.push c) (fun j v hj=>by
   have:=h (j+1) v (by simpa using hj)
   rwa [show i+1+j=i+(j+1) by omega])]
  congr 1
  simp
theorem run_loadCells {P:Program} {w:World} {a:Addr} (hs:a.spot=none) {cs:List Value} (h:∀(j:Nat) (v:Value),cs[j]? = some v→w.cell? ⟨a.block,a.off+j,none⟩=some v) :
  (loadCells a cs.length).run P w = .ok cs.toArray w:=by
 unfold loadCells
 rw[run_loadCellsFrom hs cs 0 #[] (fun j v hj=>by simpa using h j v hj)]
 simp
section
variable {P:Program} {ty:Nat→K} (T:TyOk P ty)
include T
theorem run_loadVar {t:Nat} (ht:ty t≠.bad) {w:World} {a:Addr} {y:Value} (hs:a.spot=none)
  (hc:∀(j:Nat) (v:Value),y.cells.toList[j]? = some v→w.cell? ⟨a.block,a.off+j,none⟩=some v) (hn:y.cells.size=P.cellsOf t)
  (h1:(ty t).isAgg=true→∃cs,y = .agg cs) (h2:(ty t).isAgg=false→scal y=true):(loadVar t a).run P w = .ok y w:=by
 simp only[loadVar,run_bind,run_isAgg T ht]
 cases hk:(ty t).isAgg with
 | true=>
  obtain⟨cs,rfl⟩:=h1 hk
  simp only[if_true,run_bind,run_sizeOf T ht]
  rw[←hn]
  have:=run_loadCells (P:=P) hs hc
  simp only[cells_agg,Array.length_toList] at this ⊢
  simp[this,run_pure]
 | false=>
  have hy:=cells_scal (h2 hk)
  rw[hy] at hc
  have h0:=hc 0 y rfl
  cases a
  simp only at hs
  subst hs
  simp only[Nat.add_zero] at h0
  simp[load,Sem.run,h0]
omit T in
theorem run_storeCells {b base:Nat} {et:Nat} {fz:Nat×Nat}:∀(vs:List Value) (i:Nat) (pre mid post:List Value) (w:World),
  w.heap[b]? = some (.cells (pre++mid++post).toArray et fz)→mid.length=vs.length→pre.length=base+i→(∀v∈vs,scal v=true) →
  (∀o,o<(pre++mid++post).length→¬(fz.1≤o∧o<fz.2)) →
  (storeCells ⟨b,base,none⟩ vs i).run P w = .ok () (putBlk w b (.cells (pre++vs++post).toArray et fz))
 | [],i,pre,mid,post,w,h,hm,hp,hv,hf=>by
  have:mid=[]:=by simpa using hm
  subst this
  simp only[storeCells,run_pure]
  rw[putBlk_same h]
 | v::vs,i,pre,mid,post,w,h,hm,hp,hv,hf=>by
  cases mid with
  | nil=>simp at hm
  | cons m mid=>
   simp only[storeCells,run_bind]
   have hcell:w.cell? ⟨b,base+i,none⟩=some m:=by
    rw[cell_of_block h];simp[←hp]
   have hfr:w.frozen? ⟨b,base+i,none⟩=false:=by
    rw[frozen_of_block h]
    have:=hf (base+i) (by simp[←hp])
    simp only[Bool.and_eq_false_imp,decide_eq_true_eq,decide_eq_false_iff_not]
    intro h1 h2;exact this ⟨h1,h2⟩
   have hst:(store ((⟨b,base,none⟩:Addr).add i) v).run P w=Result.ok () (w.setCell ⟨b,base+i,none⟩ v):=by
    have hsc:=hv v (by simp)
    rw[addr_add rfl]
    simp only[store]
    cases v<;>first | (simp[scal] at hsc;done) | simp[Sem.run,hcell,hfr]
   rw[hst]
   simp only[]
   rw[setCell_put h]
   have e1:(pre++m::mid++post).toArray.setIfInBounds (base+i) v=(pre++[v]++mid++post).toArray:=by
    rw[←hp];simp
   rw[e1]
   have hlt:=lt_of_block h
   have:=run_storeCells (b:=b) (base:=base) (et:=et) (fz:=fz) vs (i+1) (pre++[v]) mid post
    (putBlk w b (.cells (pre++[v]++mid++post).toArray et fz)) (by rw[putBlk_heap];simp[hlt]) (by simpa using hm) (by simp[hp];omega)
    (fun v' hv'=>hv v' (by simp[hv'])) (fun o ho=>hf o (by simpa using ho))
   rw[this]
   congr 1
   simp[putBlk]
end
end Go.AM
