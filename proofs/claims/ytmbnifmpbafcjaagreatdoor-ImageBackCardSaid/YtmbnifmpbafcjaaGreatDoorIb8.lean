/- Part 8 of the proof: the abstract machine, what the functions compute, and plain laws over that. -/
import Derived.Test.YtmbnifmpbafcjaaGreatDoorIb7
import Derived.KernelRfl
import Derived.Test.YtmbnifmpbafcjaaGreatDoorProg
set_option linter.all false
set_option linter.unusedSimpArgs false
set_option linter.unusedVariables false
set_option linter.unusedSectionVars false
namespace Go.AM.SY
open Go Go.AM Go.Proofs Go.RowKit
def tys:List K:=[
.bad,.func,.int .i64,.int .i64,.bool,.int .u8,.int .u8,.struct [2,3,4,6],
.struct [2,3,4,6],.str,.str,.str,.int .u64,.bad,.bad,.ptr 361,
.ptr 364,.ptr 372,.struct [17],.struct [17],.iface false,.int .i32,.slice 68,.struct [22,3,3],
.struct [22,3,3],.slice 32,.func,.func,.int .i64,.array 32 5,.array 32 5,.struct [28,3,9,3,3,30],
.struct [28,3,9,3,3,30],.slice 49,.bad,.func,.slice 62,.bad,.func,.struct [22,3,3],
.func,.func,.func,.func,.bad,.func,.func,.func,
.struct [3,3,9],.struct [3,3,9],.func,.slice 74,.func,.slice 70,.bad,.func,
.slice 59,.func,.struct [49,4],.struct [49,4],.func,.func,.struct [3,3,9],.func,
.func,.int .i64,.slice 9,.struct [3,9,9,4,3,66],.struct [3,9,9,4,3,66],.struct [65,3,9,68,66],.struct [65,3,9,68,66],.bad,
.func,.struct [28,9,9,3,3,3],.struct [28,9,9,3,3,3],.func,.func,.bad,.func,.func,
.func,.slice 3,.func,.func,.struct [3,30,25],.struct [3,30,25],.bad,.func,
.bad,.func,.bad,.func,.func,.func,.func,.slice 212,
.struct [95,3,3],.struct [95,3,3],.bad,.func,.func,.func,.bad,.func,
.func,.func,.func,.func,.slice 5,.func,.func,.ptr 113,
.struct [111,108],.struct [111,108],.func,.iface true,.iface true,.bad,.func,.func,
.func,.func,.func,.func,.func,.func,.func,.func,
.func,.struct [],.struct [],.bad,.bad,.func,.func,.func,
.func,.func,.func,.func,.ptr 142,.struct [24,74,25],.struct [24,74,25],.func,
.array 12 143,.func,.func,.func,.func,.ptr 151,.struct [9,30,85,97],.struct [9,30,85,97],
.func,.struct [3,30,25],.bad,.func,.slice 163,.struct [156,3,3],.struct [156,3,3],.bad,
.func,.func,.struct [68,3,30],.struct [68,3,30],.func,.map 3 3,.slice 30,.func,
.func,.func,.func,.ptr 173,.struct [85,9,3],.struct [85,9,3],.array 5 26,.bad,
.func,.func,.func,.func,.slice 183,.func,.iface true,.iface true,
.func,.func,.ptr 5,.func,.array 5 4,.func,.ptr 193,.func,
.struct [9],.struct [9],.func,.bad,.func,.func,.struct [65,3],.struct [65,3],
.func,.ptr 199,.array 4 152,.bad,.func,.bad,.func,.func,
.func,.bad,.func,.func,.struct [68,3,30],.func,.int .u32,.array 8 214,
.func,.array 64 214,.func,.func,.bad,.func,.int .u64,.func,
.bad,.func,.func,.func,.func,.func,.struct [229],.struct [229],
.bad,.ptr 97,.func,.func,.func,.struct [236],.struct [236],.ptr 212,
.func,.func,.func,.func,.func,.func,.str,.bad,
.func,.int .i64,.array 32 5,.bad,.func,.array 8 9,.func,.bad,
.func,.bad,.func,.func,.bad,.func,.func,.func,
.func,.func,.func,.bad,.func,.func,.func,.func,
.int .u64,.bad,.bad,.func,.iface true,.iface true,.func,.int .u8,
.func,.func,.func,.func,.func,.func,.int .u64,.func,
.func,.ptr 4,.func,.func,.slice 214,.struct [3,9,4],.struct [3,9,4],.func,
.func,.struct [30,9,4],.struct [30,9,4],.func,.struct [9,9,4],.struct [9,9,4],.func,.func,
.func,.func,.func,.func,.slice 21,.func,.func,.bad,
.map 28 20,.func,.func,.func,.bad,.func,.func,.func,
.func,.func,.struct [17],.struct [17],.ptr 376,.func,.func,.func,
.iface true,.bad,.func,.iface true,.iface true,.slice 116,.func,.func,
.func,.func,.func,.func,.str,.func,.func,.func,
.func,.func,.bad,.func,.func,.func,.bad,.func,
.func,.func,.bad,.func,.array 256 5,.struct [5,5],.struct [5,5],.array 16 358,
.struct [17,17,17,9],.struct [17,17,17,9],.array 0 16,.bad,.bad,.func,.func,.int .u8,
.func,.int .i32,.int .i32,.struct [12,12,214,367,5,5,279,368,186,369,370],.struct [12,12,214,367,5,5,279,368,186,369,370],.func,.func,.bad,
.bad,.ptr 381,.func,.int .u16,.bad,.bad,.bad,.int .i32,
.bad,.bad,.ptr 116]
def ty (t:Nat):K:=tys.getD t .bad
theorem tyOk:TyOk Tryz.prog ty:=tyOk_of (by kernel_rfl)
theorem mixed:Tryz.prog.follows .mixedOrders=true:=by kernel_rfl
def plainNames (l:List Func):Bool:=l.all fun f=>!(f.name == "runtime.NumGoroutine")
theorem names:plainNames Tryz.prog.funcs.toList=true:=by kernel_rfl
def plainRounds (l:List Func):Bool:=l.all roundsOk
theorem rounds_ok:plainRounds Tryz.prog.funcs.toList=true:=by kernel_rfl
def look {A:Type} (l:List (Nat×A)) (f:Nat):Option A:=match l.find? fun e=>e.1==f with | some e=>some e.2 | none=>none
def look2 (l:List (Nat×Nat×Hint)) (f i:Nat):Hint:=match l.find? fun e=>e.1==f&&e.2.1==i with | some e=>e.2.2 | none=>{}
def meths:List (String×List (Nat×Nat)):=[("cenotaph/event.put",[(246,286),(249,288),(250,290)])]
def lookM (m:String):List (Nat×Nat):=match meths.find? fun e=>e.1==m with | some e=>e.2 | none=>[]
def prims:List (Nat×(List D→Option D)):=[(258,add64P)]
noncomputable def env (cons:List (Nat×Con)) (exts:List (Nat×Ext)) (hints:List (Nat×Nat×Hint)) (M:Nat):Env:=
 {ty:=ty,fn:=fun f=>Tryz.prog.funcs[f]?,con:=look cons,hint:=look2 hints,fuel:=M+1,ext:=look exts,prim:=look prims,meth:=lookM }
def I (w:World):Prop:=Lib.Utf8Tabs 1 2 w
def gl:Nat:=3
theorem hgl (w:World) (h:I w):gl≤w.heap.size:=by
 have:=(h.2 0 (by omega)).1
 unfold gl
 rcases Nat.lt_or_ge 2 w.heap.size with h1 | h1
 ·omega
 ·simp[World.cell?,Array.getElem?_eq_none h1] at this
theorem hk (w w':World) (hb:Below gl w w') (h:I w):I w':=by
 have e:∀b o,b<3→w'.cell? ⟨b,o,none⟩=w.cell? ⟨b,o,none⟩:=fun b o hb2=>cell_congr (hb.block b hb2)
 exact⟨fun c hc=>by rw[e 1 _ (by omega)];exact h.1 c hc,fun i hi=>by rw[e 2 _ (by omega),e 2 _ (by omega)];exact h.2 i hi⟩
def ConOk (e:Nat×Con):Prop:=∀fn,Tryz.prog.funcs[e.1]? = some fn→Contract Tryz.prog ty I e.1 fn e.2
def XOk (e:Nat×Ext):Prop:=ExtOk Tryz.prog ty I gl e.1 e.2
theorem allNil {B:Type} {Q:B→Prop}:∀x∈([]:List B),Q x:=fun _ h=>absurd h List.not_mem_nil
theorem allCons {B:Type} {Q:B→Prop} {e:B} {l:List B} (h:Q e) (hl:∀x∈l,Q x):∀x∈e::l,Q x:=by
 intro x hx
 rcases List.mem_cons.1 hx with rfl | hx
 ·exact h
 ·exact hl x hx
theorem meth0_246 (y:Value) (w:World):(Go.method (Tryz.prog.types.size+Made.depth) 246 y "cenotaph/event.put").run Tryz.prog w = .ok (286,y) w:=by kernel_rfl
theorem meth0_249 (y:Value) (w:World):(Go.method (Tryz.prog.types.size+Made.depth) 249 y "cenotaph/event.put").run Tryz.prog w = .ok (288,y) w:=by kernel_rfl
theorem meth0_250 (y:Value) (w:World):(Go.method (Tryz.prog.types.size+Made.depth) 250 y "cenotaph/event.put").run Tryz.prog w = .ok (290,y) w:=by kernel_rfl
theorem meths_ok (m:String) (p:Nat×Nat) (hp:p∈lookM m) (y:Value) (w:World):(Go.method (Tryz.prog.types.size+Made.depth) p.1 y m).run Tryz.prog w = .ok (p.2,y) w:=by
 unfold lookM at hp
 split at hp
 ·rename_i e he
  have h1:=List.find?_some he
  have h2:=List.mem_of_find?_eq_some he
  simp only[beq_iff_eq] at h1
  subst h1
  simp only[meths,List.mem_cons,List.not_mem_nil,or_false] at h2
  rcases h2 with rfl
  ·simp only[List.mem_cons,List.not_mem_nil,or_false] at hp
   rcases hp with rfl | rfl | rfl
   ·exact meth0_246 y w
   ·exact meth0_249 y w
   ·exact meth0_250 y w
 ·exact absurd hp List.not_mem_nil
theorem prims_ok:∀e∈prims,PrimOk Tryz.prog ty e.1 e.2:=allCons (add64_ok (fn0:=Tryz.f258) (by kernel_rfl) (by kernel_rfl) (by kernel_rfl) (by kernel_rfl) (by kernel_rfl) (by kernel_rfl) (t1:=Tryz.f258.resultTypes[0]!) (t2:=Tryz.f258.resultTypes[1]!) (by kernel_rfl) (by kernel_rfl) (by kernel_rfl)) allNil
def voidC:Con:={ run:=fun _=>none }
theorem void_ok (n:Nat):ConOk (n,voidC):=fun fn _ X w ds xs r _ _ _ h=>by simp[voidC] at h
theorem envOk {cons:List (Nat×Con)} {exts:List (Nat×Ext)} {hints:List (Nat×Nat×Hint)} {M:Nat} (hc:∀e∈cons,ConOk e) (hx:∀e∈exts,XOk e):EnvOk Tryz.prog (env cons exts hints M) I gl:=by
 refine⟨tyOk,fun f fn hf=>⟨hf,?_⟩,fun f c fn hl hf=>?_,hk,mixed,fun f x hl=>?_,fun f fn hf=>List.all_eq_true.1 rounds_ok fn (by have hf':Tryz.prog.funcs[f]? = some fn:=hf;rw[←Array.getElem?_toList] at hf';exact List.mem_of_getElem? hf'),fun f x hl=>?_,fun m p hp y w=>?_⟩
 ·have h:=List.all_eq_true.1 names fn (by have hf':Tryz.prog.funcs[f]? = some fn:=hf;rw[←Array.getElem?_toList] at hf';exact List.mem_of_getElem? hf')
  simpa using h
 ·unfold env look at hl
  simp only at hl
  split at hl
  ·rename_i e he
   simp only[Option.some.injEq] at hl
   subst hl
   have h1:e.1=f:=by simpa using List.find?_some he
   subst h1
   exact hc e (List.mem_of_find?_eq_some he) fn hf
  ·simp at hl
 ·unfold env look at hl
  simp only at hl
  split at hl
  ·rename_i e he
   simp only[Option.some.injEq] at hl
   subst hl
   have h1:e.1=f:=by simpa using List.find?_some he
   subst h1
   exact hx e (List.mem_of_find?_eq_some he)
  ·simp at hl
 ·unfold env look at hl
  simp only at hl
  split at hl
  ·rename_i e he
   simp only[Option.some.injEq] at hl
   subst hl
   have h1:e.1=f:=by simpa using List.find?_some he
   subst h1
   exact prims_ok e (List.mem_of_find?_eq_some he)
  ·simp at hl
 ·exact meths_ok m p hp y w
theorem mkC {f dp:Nat} (fn:Func) (κs:List K) (ts:List Nat) {run:List D→Option D} {p:Bool} {cons:List (Nat×Con)} {exts:List (Nat×Ext)} {hints:List (Nat×Nat×Hint)} {M:Nat} {T:Tbl}
  (hf:Tryz.prog.funcs[f]? = some fn) (hs:fn.params.toList.map ty=κs) (hr:fn.resultTypes.toList=ts) (hp:(!p||ts.all fun t=>K.flat ty 20 (ty t))=true) (hc:∀e∈cons,ConOk e) (hx:∀e∈exts,XOk e) (hT:AllOk (env cons exts hints M) T)
  (h:∀a:Args κs,callS (env cons exts hints M) T dp (.fn f) (List.zipWith V.d κs (Args.ds κs a)) [] (fun v H=>finish ty ts v H)=run (Args.ds κs a)):ConOk (f,{ run:=run,plain:=p }):=by
 intro fn' hfn
 obtain rfl:fn=fn':=Option.some.inj (hf.symm.trans hfn)
 exact okC hgl hs hr hp (envOk hc hx) rfl rfl hT h
theorem mkF {f dp:Nat} (fn:Func) (κs:List K) (ts:List Nat) {run:List D→Option D} {cons:List (Nat×Con)} {exts:List (Nat×Ext)} {hints:List (Nat×Nat×Hint)} {M:Nat} {T:Tbl}
  (hf:Tryz.prog.funcs[f]? = some fn) (hs:fn.params.toList.map ty=κs) (hr:fn.resultTypes.toList=ts) (hc:∀e∈cons,ConOk e) (hx:∀e∈exts,XOk e) (hT:AllOk (env cons exts hints M) T)
  (h:∀a:Args κs,callS (env cons exts hints M) T dp (.fn f) (List.zipWith V.d κs (Args.ds κs a)) [] (fun v H=>finishFresh ty ts v H)=run (Args.ds κs a)):ConOk (f,{ run:=run,fresh:=true }):=by
 intro fn' hfn
 obtain rfl:fn=fn':=Option.some.inj (hf.symm.trans hfn)
 exact okF hgl hs hr (envOk hc hx) rfl rfl hT h
theorem fun261:Tryz.prog.funcs[261]? = some Tryz.f261:=by kernel_rfl
theorem decode_ok:ConOk (261,decodeC):=by
 intro fn hfn
 obtain rfl:Tryz.f261=fn:=Option.some.inj (fun261.symm.trans hfn)
 exact decodeC_ok (ρ:=Tryz.lays197_ren) Tryz.lays197 (fun _ h=>h) (t5:=Tryz.f261.resultTypes[0]!) (t3:=Tryz.f261.resultTypes[1]!) (by kernel_rfl) (by kernel_rfl) (by kernel_rfl) (by kernel_rfl)
theorem insert_ok:XOk (246,insertX 9):=insertX_ok (ρ:=Tryz.lays22_ren) tyOk Tryz.lays22 (by kernel_rfl) (by kernel_rfl)
theorem bldLies (r:Nat) (h:(List.range 387).all (fun t=>!(decide (ty t = .struct [111,108]))||liesAt Tryz.prog Tryz.prog.depth t (2 / Tryz.prog.cellsOf t) 0 r 1)=true):∀t,ty t = .struct [111,108]→liesAt Tryz.prog Tryz.prog.depth t (2 / Tryz.prog.cellsOf t) 0 r 1=true:=by
 intro t ht
 have hl:t<387:=by
  rcases Nat.lt_or_ge t 387 with h | h
  ·exact h
  ·have h0:ty t = .bad:=by
    unfold ty
    rw[List.getD_eq_getElem?_getD,List.getElem?_eq_none (by rw[show tys.length=387 by kernel_rfl];exact h)];rfl
   rw[h0] at ht;simp at ht
 have:=List.all_eq_true.1 h t (List.mem_range.2 hl)
 simpa[ht] using this
theorem bldTy (ρ:Go.Shelf.Ren) (h:ρ.t 72=113):BldTy Tryz.prog ty ρ (.struct [111,108]) 113 5:=⟨by kernel_rfl,rfl,by kernel_rfl,by kernel_rfl,by rw[h];exact bldLies 113 (by kernel_rfl)⟩
theorem copyCheck_ok:XOk (109,copyCheckX (.struct [111,108]) 5):=copyCheckX_ok (ρ:=Tryz.lays240_ren) tyOk Tryz.lays240 Tryz.X72_240 (bldTy _ rfl)
theorem string_ok:XOk (62,stringX (.struct [111,108])):=stringX_ok (ρ:=Tryz.lays169_ren) tyOk Tryz.lays169 Tryz.Builder_Extra_169 (bldTy _ rfl)
end Go.AM.SY
namespace Go.AM.SY
open Go Go.AM Go.Proofs Go.RowKit
def FUEL:Nat:=18446744073709551616
namespace F52
def cons:List (Nat×Con):=[]
def exts:List (Nat×Ext):=[]
def h:List (Nat×Nat×Hint):=[]
noncomputable def e (M:Nat):Env:=env cons exts h M
def s (M:Nat) (p0:D):Option D:=
 (some (db (gtI (p0.at 0).i 134217728)))
theorem run (M:Nat) (p0:D):callS (e M) (tblOf []) 12 (.fn 52) [.d (.struct [3,9,9,4,3,66]) p0] [] (fun v H=>finish ty [4] v H)=s M p0:=by kernel_rfl
def c:Con:={ run:=fun ds=>match ds with | [p0]=>s FUEL p0 | _=>none,plain:=true }
theorem ok:ConOk (52,c):=mkC Tryz.f52 [(.struct [3,9,9,4,3,66])] [4] (by kernel_rfl) (by kernel_rfl) (by kernel_rfl) (by kernel_rfl) allNil allNil AllOk.nil fun a=>run FUEL a.1
end F52
namespace F105
def cons:List (Nat×Con):=[]
def exts:List (Nat×Ext):=[]
def h:List (Nat×Nat×Hint):=[]
noncomputable def e (M:Nat):Env:=env cons exts h M
def s (M:Nat) (p0:Int) (p1:Int):Option D:=
 (cond (geI p0 0) (some (db (leI p0 p1))) (some (db false)))
theorem run (M:Nat) (p0:Int) (p1:Int):callS (e M) (tblOf []) 12 (.fn 105) [.d (.int .i64) (di p0),.d (.int .i64) (di p1)] [] (fun v H=>finish ty [4] v H)=s M p0 p1:=by kernel_rfl
def c:Con:={ run:=fun ds=>match ds with | [p0,p1]=>s FUEL p0.i p1.i | _=>none,plain:=true }
theorem ok:ConOk (105,c):=mkC Tryz.f105 [(.int .i64),(.int .i64)] [4] (by kernel_rfl) (by kernel_rfl) (by kernel_rfl) (by kernel_rfl) allNil allNil AllOk.nil fun a=>run FUEL a.1 a.2.1
end F105
namespace F163
def cons:List (Nat×Con):=[]
def exts:List (Nat×Ext):=[]
def h:List (Nat×Nat×Hint):=[]
noncomputable def e (M:Nat):Env:=env cons exts h M
def s (M:Nat) (p0:Int):Option D:=
 (cond (geI p0 1) (some (db (leI p0 1099511627776))) (some (db false)))
theorem run (M:Nat) (p0:Int):callS (e M) (tblOf []) 12 (.fn 163) [.d (.int .i64) (di p0)] [] (fun v H=>finish ty [4] v H)=s M p0:=by kernel_rfl
def c:Con:={ run:=fun ds=>match ds with | [p0]=>s FUEL p0.i | _=>none,plain:=true }
theorem ok:ConOk (163,c):=mkC Tryz.f163 [(.int .i64)] [4] (by kernel_rfl) (by kernel_rfl) (by kernel_rfl) (by kernel_rfl) allNil allNil AllOk.nil fun a=>run FUEL a.1
end F163
namespace F223
def cons:List (Nat×Con):=[]
def exts:List (Nat×Ext):=[]
def h:List (Nat×Nat×Hint):=[]
noncomputable def e (M:Nat):Env:=env cons exts h M
def s (M:Nat) (p0:Int):Option D:=
 (cond (ltI p0 32) (some (db true)) (cond (eqI p0 47) (some (db true)) (cond (leI 127 p0) (cond (leI p0 159) (some (db true)) (some (db (eqI p0 65533)))) (some (db (eqI p0 65533))))))
theorem run (M:Nat) (p0:Int):callS (e M) (tblOf []) 12 (.fn 223) [.d (.int .i32) (D.int .i32 p0)] [] (fun v H=>finish ty [4] v H)=s M p0:=by kernel_rfl
def c:Con:={ run:=fun ds=>match ds with | [p0]=>s FUEL p0.i | _=>none,plain:=true }
theorem ok:ConOk (223,c):=mkC Tryz.f223 [(.int .i32)] [4] (by kernel_rfl) (by kernel_rfl) (by kernel_rfl) (by kernel_rfl) allNil allNil AllOk.nil fun a=>run FUEL a.1
end F223
namespace F224
def cons:List (Nat×Con):=[]
def exts:List (Nat×Ext):=[]
def h:List (Nat×Nat×Hint):=[(224,3,{ live:=[3,5] })]
noncomputable def e (M:Nat):Env:=env cons exts h M
structure S3 where
 (i1:Int) (s2:ByteArray) (n3:Nat)
inductive X3 where
 | e0 (i1:Int) (s2:ByteArray) (n3:Nat)
def st3 (M:Nat):S3→(S3→Option D)→(X3→Option D)→Option D
 | ⟨i1,s2,n3⟩,rec,K=>(cond (decide (n3<s2.size)) (rec ⟨(ad .i64 i1 1),s2,(n3+(Utf8.decode s2 n3).2)⟩) (K (.e0 i1 s2 n3)))
def ex3 (k:Kont):X3→Option D
 | .e0 i1 s2 n3=>k (.exit 0) ((us 3 ((vi i1)::(us 1 ((.iter 0)::(.tup [(vb false)])::(vb false)::(us 3 [])))))) [(.iter s2 n3)]
def lv3:S3→List Leaf
 | ⟨i1,s2,n3⟩=>[.i i1,.s s2,.n n3]
def of3:List Leaf→Option S3
 | [.i i1,.s s2,.n n3]=>some ⟨i1,s2,n3⟩
 | _=>none
def ps3:List PV:=((up 3 ((.d (.int .i64) (.int .i64))::(up 1 ((.iter 0)::(up 5 []))))))
def qs3:List PO:=[.iter]
noncomputable def t (M:Nat):List Ent:=⟨224,11,0,3,sumS [3,5] ps3 qs3 [] of3 (st3 M) ex3 M⟩::[]
theorem t_ok (M:Nat):AllOk (e M) (tblOf (t M)):=AllOk.addS (n0:=1) (lv:=lv3) AllOk.nil (by kernel_rfl) rfl (by intro ls s h;unfold of3 at h;(repeat' split at h)<;>simp at h;subst h;rfl) (by intro s;kernel_rfl) (by intro s;kernel_rfl) (by intro s nx k;kernel_rfl)
def s (M:Nat) (p0:ByteArray):Option D:=
 (goS (st3 M) M ⟨0,p0,0⟩ fun x=>match x with | .e0 i1 s2 n3=>(some (di i1)))
theorem run (M:Nat) (p0:ByteArray):callS (e M) (tblOf (t M)) 12 (.fn 224) [.d .str (dS p0)] [] (fun v H=>finish ty [3] v H)=s M p0:=by kernel_rfl
def c:Con:={ run:=fun ds=>match ds with | [p0]=>s FUEL p0.s | _=>none,plain:=true }
theorem ok:ConOk (224,c):=mkC Tryz.f224 [.str] [3] (by kernel_rfl) (by kernel_rfl) (by kernel_rfl) (by kernel_rfl) allNil allNil (t_ok FUEL) fun a=>run FUEL a.1
end F224
namespace F164
def cons:List (Nat×Con):=[(223,F223.c),(224,F224.c)]
def exts:List (Nat×Ext):=[]
def h:List (Nat×Nat×Hint):=[(250,2,{ live:=[1,2,10] })]
noncomputable def e (M:Nat):Env:=env cons exts h M
structure S250_2 where
 (b2:Bool) (s3:ByteArray) (n4:Nat)
inductive X250_2 where
 | e0 (b2:Bool) (s3:ByteArray) (n4:Nat) (r5 r6:D)
 | e1 (b2:Bool) (s3:ByteArray) (n4:Nat)
def st250_2 (M:Nat):S250_2→(S250_2→Option D)→(X250_2→Option D)→Option D
 | ⟨b2,s3,n4⟩,rec,K=>(cond (decide (n4<s3.size)) (bd (F223.s FUEL ((Utf8.decode s3 n4).1:Int)) fun r5=>(bd (match D.eqv ty eqDepth r5 (db b2) .bool with | some z=>some (.bool z) | none=>none) fun r6=>(cond r6.b (K (.e0 b2 s3 n4 r5 r6)) (rec ⟨b2,s3,(n4+(Utf8.decode s3 n4).2)⟩)))) (K (.e1 b2 s3 n4)))
def ex250_2 (k:Kont):X250_2→Option D
 | .e0 b2 s3 n4 r5 r6=>k .ret ((us 1 ((vk .func (D.fn 223))::(vb b2)::(us 3 ((vi (nI n4))::(vi (nI n4))::(vk (.int .i32) (D.int .i32 ((Utf8.decode s3 n4).1:Int)))::(us 1 ((.iter 0)::(.tup [(vb true),(vi (nI n4)),(vk (.int .i32) (D.int .i32 ((Utf8.decode s3 n4).1:Int)))])::(vb true)::(vi (nI n4))::(vk (.int .i32) (D.int .i32 ((Utf8.decode s3 n4).1:Int)))::(vk .func (D.fn 223))::(vk (.int .i32) (D.int .i32 ((Utf8.decode s3 n4).1:Int)))::(vk .bool r5)::(vb b2)::(vk .bool r6)::(vi (nI n4))::[]))))))) [(.iter s3 (n4+(Utf8.decode s3 n4).2))]
 | .e1 b2 s3 n4=>k (.exit 0) ((us 1 ((vk .func (D.fn 223))::(vb b2)::(us 7 ((.iter 0)::(.tup [(vb false)])::(vb false)::(us 8 [])))))) [(.iter s3 n4)]
def lv250_2:S250_2→List Leaf
 | ⟨b2,s3,n4⟩=>[.b b2,.s s3,.n n4]
def of250_2:List Leaf→Option S250_2
 | [.b b2,.s s3,.n n4]=>some ⟨b2,s3,n4⟩
 | _=>none
def ps250_2:List PV:=((up 1 ((.d .func (.fn 223))::(.d .bool .bool)::(up 7 ((.iter 0)::(up 10 []))))))
def qs250_2:List PO:=[.iter]
noncomputable def t (M:Nat):List Ent:=⟨250,9,0,2,sumS [1,2,10] ps250_2 qs250_2 [] of250_2 (st250_2 M) ex250_2 M⟩::[]
theorem t_ok (M:Nat):AllOk (e M) (tblOf (t M)):=AllOk.addS (n0:=1) (lv:=lv250_2) AllOk.nil (by kernel_rfl) rfl (by intro ls s h;unfold of250_2 at h;(repeat' split at h)<;>simp at h;subst h;rfl) (by intro s;kernel_rfl) (by intro s;kernel_rfl) (by intro s nx k;kernel_rfl)
def s (M:Nat) (p0:ByteArray):Option D:=
 (bd (F224.s FUEL p0) fun r1=>(cond (gtI r1.i 0) (cond (leI r1.i 24) (goS (st250_2 M) M ⟨true,p0,0⟩ fun x=>match x with | .e0 b2 s3 n4 r5 r6=>(cond (ltI (nI n4) 0) (cond (inb 0 p0.size) (cond (neI (byteAt p0 0) 32) (cond (inb (sb .i64 (nI p0.size) 1) p0.size) (some (db (neI (byteAt p0 (sb .i64 (nI p0.size) 1).toNat) 32))) none) (some (db false))) none) (some (db false))) | .e1 b2 s3 n4=>(cond (inb 0 p0.size) (cond (neI (byteAt p0 0) 32) (cond (inb (sb .i64 (nI p0.size) 1) p0.size) (some (db (neI (byteAt p0 (sb .i64 (nI p0.size) 1).toNat) 32))) none) (some (db false))) none)) (some (db false))) (some (db false))))
theorem run (M:Nat) (p0:ByteArray):callS (e M) (tblOf (t M)) 12 (.fn 164) [.d .str (dS p0)] [] (fun v H=>finish ty [4] v H)=s M p0:=by kernel_rfl
def c:Con:={ run:=fun ds=>match ds with | [p0]=>s FUEL p0.s | _=>none,plain:=true }
theorem ok:ConOk (164,c):=mkC Tryz.f164 [.str] [4] (by kernel_rfl) (by kernel_rfl) (by kernel_rfl) (by kernel_rfl) (allCons F223.ok (allCons F224.ok allNil)) allNil (t_ok FUEL) fun a=>run FUEL a.1
end F164
namespace F251
def cons:List (Nat×Con):=[(261,decodeC)]
def exts:List (Nat×Ext):=[]
def h:List (Nat×Nat×Hint):=[]
noncomputable def e (M:Nat):Env:=env cons exts h M
def s (M:Nat) (p0:ByteArray) (p1:Int) (p2:Int):Option D:=
 (cond (neI p2 65533) (some (db false)) (cond ((leI 0 p1)&&(leI p1 (nI p0.size))&&(leI (nI p0.size) (nI p0.size))&&(leI (nI p0.size) (nI p0.size))) (some (db (ltI ((Lib.decodeGo (p0.extract p1.toNat p0.size)).2:Int) 2))) none))
theorem run (M:Nat) (p0:ByteArray) (p1:Int) (p2:Int):callS (e M) (tblOf []) 12 (.fn 251) [.d .str (dS p0),.d (.int .i64) (di p1),.d (.int .i32) (D.int .i32 p2)] [] (fun v H=>finish ty [4] v H)=s M p0 p1 p2:=by kernel_rfl
def c:Con:={ run:=fun ds=>match ds with | [p0,p1,p2]=>s FUEL p0.s p1.i p2.i | _=>none,plain:=true }
theorem ok:ConOk (251,c):=mkC Tryz.f251 [.str,(.int .i64),(.int .i32)] [4] (by kernel_rfl) (by kernel_rfl) (by kernel_rfl) (by kernel_rfl) (allCons decode_ok allNil) allNil AllOk.nil fun a=>run FUEL a.1 a.2.1 a.2.2.1
end F251
namespace F226
def cons:List (Nat×Con):=[(251,F251.c)]
def exts:List (Nat×Ext):=[]
def h:List (Nat×Nat×Hint):=[(226,3,{ live:=[0,3,7],rows:=[(3,21)] })]
noncomputable def e (M:Nat):Env:=env cons exts h M
structure S3 where
 (s1:ByteArray) (n2 n3:Nat) (s4:ByteArray) (n5:Nat) (b6:Bool) (l7:List D)
inductive X3 where
 | e0 (s1:ByteArray) (n2 n3:Nat) (s4:ByteArray) (n5:Nat) (b6:Bool) (l7:List D)
def st3 (M:Nat):S3→(S3→Option D)→(X3→Option D)→Option D
 | ⟨s1,n2,n3,s4,n5,b6,l7⟩,rec,K=>(cond (decide (n5<s4.size)) (bd (F251.s FUEL s1 (nI n5) ((Utf8.decode s4 n5).1:Int)) fun r8=>(cond r8.b (cond (inb (nI n5) s1.size) (cond (mx (n3+1)) (rec ⟨s1,0,(n3+1),s4,(n5+(Utf8.decode s4 n5).2),(b6||true),(ap ((l7.drop n2).take n3) [(D.int .i32 (ad .i32 1114112 (cv .i32 (byteAt s1 n5))))])⟩) none) none) (cond (mx (n3+1)) (rec ⟨s1,0,(n3+1),s4,(n5+(Utf8.decode s4 n5).2),(b6||true),(ap ((l7.drop n2).take n3) [(D.int .i32 ((Utf8.decode s4 n5).1:Int))])⟩) none))) (K (.e0 s1 n2 n3 s4 n5 b6 l7)))
def ex3 (k:Kont):X3→Option D
 | .e0 s1 n2 n3 s4 n5 b6 l7=>k (.exit 0) ((vS s1)::(us 2 ((.sref 1 n2 n3)::(us 3 ((.iter 0)::(.tup [(vb false)])::(vb false)::(us 16 [])))))) [(.iter s4 n5),(.row 21 true b6 l7)]
def lv3:S3→List Leaf
 | ⟨s1,n2,n3,s4,n5,b6,l7⟩=>[.s s1,.n n2,.n n3,.s s4,.n n5,.b b6,.l l7]
def of3:List Leaf→Option S3
 | [.s s1,.n n2,.n n3,.s s4,.n n5,.b b6,.l l7]=>some ⟨s1,n2,n3,s4,n5,b6,l7⟩
 | _=>none
def ps3:List PV:=((.d .str .str)::(up 2 ((.sref 1)::(up 3 ((.iter 0)::(up 18 []))))))
def qs3:List PO:=[.iter,(.row 21 true)]
noncomputable def t (M:Nat):List Ent:=⟨226,11,0,3,sumS [0,3,7] ps3 qs3 [(3,1)] of3 (st3 M) ex3 M⟩::[]
theorem t_ok (M:Nat):AllOk (e M) (tblOf (t M)):=AllOk.addS (n0:=2) (lv:=lv3) AllOk.nil (by kernel_rfl) rfl (by intro ls s h;unfold of3 at h;(repeat' split at h)<;>simp at h;subst h;rfl) (by intro s;kernel_rfl) (by intro s;kernel_rfl) (by intro s nx k;kernel_rfl)
def s (M:Nat) (p0:ByteArray):Option D:=
 (goS (st3 M) M ⟨p0,0,0,p0,0,false,[]⟩ fun x=>match x with | .e0 s1 n2 n3 s4 n5 b6 l7=>(cond ((decide (n3=l7.length))&&(decide (n2=0))) (some (.slice b6 l7)) none))
theorem run (M:Nat) (p0:ByteArray):callS (e M) (tblOf (t M)) 12 (.fn 226) [.d .str (dS p0)] [] (fun v H=>finishFresh ty [308] v H)=s M p0:=by kernel_rfl
def c:Con:={ run:=fun ds=>match ds with | [p0]=>s FUEL p0.s | _=>none,fresh:=true }
theorem ok:ConOk (226,c):=mkF Tryz.f226 [.str] [308] (by kernel_rfl) (by kernel_rfl) (by kernel_rfl) (allCons F251.ok allNil) allNil (t_ok FUEL) fun a=>run FUEL a.1
end F226
namespace F165
def cons:List (Nat×Con):=[(226,F226.c)]
def exts:List (Nat×Ext):=[]
def h:List (Nat×Nat×Hint):=[(165,3,{ live:=[5,6,13,14,15] })]
noncomputable def e (M:Nat):Env:=env cons exts h M
structure S3 where
 (n3 n4 n5 n6 n7 n8:Nat) (i9 i10:Int) (b11:Bool) (l12:List D) (b13:Bool) (l14:List D)
inductive X3 where
 | e0 (n3 n4 n5 n6 n7 n8:Nat) (i9 i10:Int) (b11:Bool) (l12:List D) (b13:Bool) (l14:List D)
 | e1 (n3 n4 n5 n6 n7 n8:Nat) (i9 i10:Int) (b11:Bool) (l12:List D) (b13:Bool) (l14:List D)
 | e2 (n3 n4 n5 n6 n7 n8:Nat) (i9 i10:Int) (b11:Bool) (l12:List D) (b13:Bool) (l14:List D)
def st3 (M:Nat):S3→(S3→Option D)→(X3→Option D)→Option D
 | ⟨n3,n4,n5,n6,n7,n8,i9,i10,b11,l12,b13,l14⟩,rec,K=>(cond (ltI i10 i9) (cond (inb i10 n8) (cond (geI i10 (nI n6)) (K (.e0 n3 n4 n5 n6 n7 n8 i9 i10 b11 l12 b13 l14)) (cond (inb i10 n6) (cond (neI (ix l12 (n7+i10.toNat)).i (ix l14 (n5+i10.toNat)).i) (cond (inb i10 n6) (K (.e1 n3 n4 n5 n6 n7 n8 i9 i10 b11 l12 b13 l14)) none) (rec ⟨n3,n4,n5,n6,n7,n8,i9,(ad .i64 i10 1),b11,l12,b13,l14⟩)) none)) none) (K (.e2 n3 n4 n5 n6 n7 n8 i9 i10 b11 l12 b13 l14)))
def ex3 (k:Kont):X3→Option D
 | .e0 n3 n4 n5 n6 n7 n8 i9 i10 b11 l12 b13 l14=>k .ret ((us 4 ((vb false)::(.sref 0 n3 n4)::(.sref 1 n5 n6)::(vi i10)::(vk (.int .i32) (ix l12 (n7+i10.toNat)))::(us 4 ((.sref 0 n7 n8)::(vi i9)::(vi i10)::(vb (ltI i10 i9))::(vi i10)::(.ptr 0 [(n7+i10.toNat)] (.int .i32))::(vk (.int .i32) (ix l12 (n7+i10.toNat)))::(vi i10)::(.sref 1 n5 n6)::(vi (nI n6))::(vb (geI i10 (nI n6)))::(us 18 [])))))) [(.row 21 true b11 l12),(.row 21 true b13 l14)]
 | .e1 n3 n4 n5 n6 n7 n8 i9 i10 b11 l12 b13 l14=>k .ret ((us 4 ((vb (ltI (ix l12 (n7+i10.toNat)).i (ix l14 (n5+i10.toNat)).i))::(.sref 0 n3 n4)::(.sref 1 n5 n6)::(vi i10)::(vk (.int .i32) (ix l12 (n7+i10.toNat)))::(us 4 ((.sref 0 n7 n8)::(vi i9)::(vi i10)::(vb (ltI i10 i9))::(vi i10)::(.ptr 0 [(n7+i10.toNat)] (.int .i32))::(vk (.int .i32) (ix l12 (n7+i10.toNat)))::(vi i10)::(.sref 1 n5 n6)::(vi (nI n6))::(vb (geI i10 (nI n6)))::(vk (.int .i32) (ix l12 (n7+i10.toNat)))::(.sref 1 n5 n6)::(vi i10)::(.ptr 1 [(n5+i10.toNat)] (.int .i32))::(vk (.int .i32) (ix l14 (n5+i10.toNat)))::(vb (neI (ix l12 (n7+i10.toNat)).i (ix l14 (n5+i10.toNat)).i))::(vk (.int .i32) (ix l12 (n7+i10.toNat)))::(.sref 1 n5 n6)::(vi i10)::(.ptr 1 [(n5+i10.toNat)] (.int .i32))::(vk (.int .i32) (ix l14 (n5+i10.toNat)))::(vb (ltI (ix l12 (n7+i10.toNat)).i (ix l14 (n5+i10.toNat)).i))::(us 6 [])))))) [(.row 21 true b11 l12),(.row 21 true b13 l14)]
 | .e2 n3 n4 n5 n6 n7 n8 i9 i10 b11 l12 b13 l14=>k (.exit 0) ((us 5 ((.sref 0 n3 n4)::(.sref 1 n5 n6)::(us 6 ((.sref 0 n7 n8)::(vi i9)::(vi i10)::(vb (ltI i10 i9))::(us 25 [])))))) [(.row 21 true b11 l12),(.row 21 true b13 l14)]
def lv3:S3→List Leaf
 | ⟨n3,n4,n5,n6,n7,n8,i9,i10,b11,l12,b13,l14⟩=>[.n n3,.n n4,.n n5,.n n6,.n n7,.n n8,.i i9,.i i10,.b b11,.l l12,.b b13,.l l14]
def of3:List Leaf→Option S3
 | [.n n3,.n n4,.n n5,.n n6,.n n7,.n n8,.i i9,.i i10,.b b11,.l l12,.b b13,.l l14]=>some ⟨n3,n4,n5,n6,n7,n8,i9,i10,b11,l12,b13,l14⟩
 | _=>none
def ps3:List PV:=((up 5 ((.sref 0)::(.sref 1)::(up 6 ((.sref 0)::(.d (.int .i64) (.int .i64))::(.d (.int .i64) (.int .i64))::(up 26 []))))))
def qs3:List PO:=[(.row 21 true),(.row 21 true)]
noncomputable def t (M:Nat):List Ent:=⟨165,11,0,3,sumS [5,6,13,14,15] ps3 qs3 [] of3 (st3 M) ex3 M⟩::[]
theorem t_ok (M:Nat):AllOk (e M) (tblOf (t M)):=AllOk.addS (n0:=2) (lv:=lv3) AllOk.nil (by kernel_rfl) rfl (by intro ls s h;unfold of3 at h;(repeat' split at h)<;>simp at h;subst h;rfl) (by intro s;kernel_rfl) (by intro s;kernel_rfl) (by intro s nx k;kernel_rfl)
def s (M:Nat) (p0:ByteArray) (p1:ByteArray):Option D:=
 (bd (F226.s FUEL p0) fun r1=>(bd (F226.s FUEL p1) fun r2=>(goS (st3 M) M ⟨0,r1.elems.length,0,r2.elems.length,0,r1.elems.length,(nI r1.elems.length),0,r1.nn,r1.elems,r2.nn,r2.elems⟩ fun x=>match x with | .e0 n3 n4 n5 n6 n7 n8 i9 i10 b11 l12 b13 l14=>(some (db false)) | .e1 n3 n4 n5 n6 n7 n8 i9 i10 b11 l12 b13 l14=>(some (db (ltI (ix l12 (n7+i10.toNat)).i (ix l14 (n5+i10.toNat)).i))) | .e2 n3 n4 n5 n6 n7 n8 i9 i10 b11 l12 b13 l14=>(some (db (ltI (nI n4) (nI n6)))))))
theorem run (M:Nat) (p0:ByteArray) (p1:ByteArray):callS (e M) (tblOf (t M)) 12 (.fn 165) [.d .str (dS p0),.d .str (dS p1)] [] (fun v H=>finish ty [4] v H)=s M p0 p1:=by kernel_rfl
def c:Con:={ run:=fun ds=>match ds with | [p0,p1]=>s FUEL p0.s p1.s | _=>none,plain:=true }
theorem ok:ConOk (165,c):=mkC Tryz.f165 [.str,.str] [4] (by kernel_rfl) (by kernel_rfl) (by kernel_rfl) (by kernel_rfl) (allCons F226.ok allNil) allNil (t_ok FUEL) fun a=>run FUEL a.1 a.2.1
end F165
namespace F106
def k0_:K:=(.struct [3,9,9,4,3,66])
def cons:List (Nat×Con):=[(163,F163.c),(164,F164.c),(165,F165.c)]
def exts:List (Nat×Ext):=[]
def h:List (Nat×Nat×Hint):=[(106,6,{ live:=[1,50,51,52] })]
noncomputable def e (M:Nat):Env:=env cons exts h M
structure S6 where
 (d3:D) (i4 i5:Int) (d6:D)
inductive X6 where
 | e0 (d3:D) (i4 i5:Int) (d6 r7:D)
 | e1 (d3:D) (i4 i5:Int) (d6 r7 r8:D)
 | e2 (d3:D) (i4 i5:Int) (d6:D)
def st6 (M:Nat):S6→(S6→Option D)→(X6→Option D)→Option D
 | ⟨d3,i4,i5,d6⟩,rec,K=>(cond (ltI i5 i4) (cond (inb i5 d3.elems.length) (bd (F164.s FUEL (ix d3.elems i5.toNat).s) fun r7=>(cond (!r7.b) (K (.e0 d3 i4 i5 d6 r7)) (cond (gtI i5 0) (cond (inb (sb .i64 i5 1) (d6.at 5).elems.length) (bd (F165.s FUEL (ix (d6.at 5).elems (sb .i64 i5 1).toNat).s (ix d3.elems i5.toNat).s) fun r8=>(cond (!r8.b) (K (.e1 d3 i4 i5 d6 r7 r8)) (rec ⟨d3,i4,(ad .i64 i5 1),d6⟩))) none) (rec ⟨d3,i4,(ad .i64 i5 1),d6⟩)))) none) (K (.e2 d3 i4 i5 d6)))
def ex6 (k:Kont):X6→Option D
 | .e0 d3 i4 i5 d6 r7=>k .ret ((us 1 ((.ptr 0 [] k0_)::(vb false)::(vi i5)::(vk .str (ix d3.elems i5.toNat))::(us 45 ((vk (.slice 9) d3)::(vi i4)::(vi i5)::(vb (ltI i5 i4))::(vi i5)::(.cptr .str (ix d3.elems i5.toNat))::(vk .str (ix d3.elems i5.toNat))::(vk .str (ix d3.elems i5.toNat))::(vk .bool r7)::(vb (!r7.b))::(vb true)::v0::v0::v0::v0::v0::v0::v0::v0::v0::v0::v0::v0::v0::(vb true)::(us 1 [])))))) [(.var k0_ (vk k0_ d6))]
 | .e1 d3 i4 i5 d6 r7 r8=>k .ret ((us 1 ((.ptr 0 [] k0_)::(vb false)::(vi i5)::(vk .str (ix d3.elems i5.toNat))::(us 45 ((vk (.slice 9) d3)::(vi i4)::(vi i5)::(vb (ltI i5 i4))::(vi i5)::(.cptr .str (ix d3.elems i5.toNat))::(vk .str (ix d3.elems i5.toNat))::(vk .str (ix d3.elems i5.toNat))::(vk .bool r7)::(vb (!r7.b))::(vb false)::(vi i5)::(vb (gtI i5 0))::(vb true)::(.ptr 0 [5] (.slice 9))::(vk (.slice 9) (d6.at 5))::(vi i5)::(vi (sb .i64 i5 1))::(.cptr .str (ix (d6.at 5).elems (sb .i64 i5 1).toNat))::(vk .str (ix (d6.at 5).elems (sb .i64 i5 1).toNat))::(vk .str (ix d3.elems i5.toNat))::(vk .bool r8)::(vb (!r8.b))::(vb (!r8.b))::(vb (!r8.b))::(us 1 [])))))) [(.var k0_ (vk k0_ d6))]
 | .e2 d3 i4 i5 d6=>k (.exit 0) ((us 1 ((.ptr 0 [] k0_)::(us 48 ((vk (.slice 9) d3)::(vi i4)::(vi i5)::(vb (ltI i5 i4))::(us 22 [])))))) [(.var k0_ (vk k0_ d6))]
def lv6:S6→List Leaf
 | ⟨d3,i4,i5,d6⟩=>[.d d3,.i i4,.i i5,.d d6]
def of6:List Leaf→Option S6
 | [.d d3,.i i4,.i i5,.d d6]=>some ⟨d3,i4,i5,d6⟩
 | _=>none
def ps6:List PV:=((up 1 ((.ptr 0 [] k0_)::(up 48 ((.d (.slice 9) .x)::(.d (.int .i64) (.int .i64))::(.d (.int .i64) (.int .i64))::(up 23 []))))))
def qs6:List PO:=[(.var k0_ (.d k0_ .x))]
noncomputable def t (M:Nat):List Ent:=⟨106,11,0,6,sumS [1,50,51,52] ps6 qs6 [] of6 (st6 M) ex6 M⟩::[]
theorem t_ok (M:Nat):AllOk (e M) (tblOf (t M)):=AllOk.addS (n0:=1) (lv:=lv6) AllOk.nil (by kernel_rfl) rfl (by intro ls s h;unfold of6 at h;(repeat' split at h)<;>simp at h;subst h;rfl) (by intro s;kernel_rfl) (by intro s;kernel_rfl) (by intro s nx k;kernel_rfl)
def s (M:Nat) (p0:D):Option D:=
 (bd (F163.s FUEL (p0.at 0).i) fun r1=>(cond (!r1.b) (some (db false)) (bd (F164.s FUEL (p0.at 1).s) fun r2=>(cond (!r2.b) (some (db false)) (cond (gtI (nI (p0.at 2).s.size) 600) (some (db false)) (cond (ltI (p0.at 4).i 0) (some (db false)) (cond (gtI (p0.at 4).i 1099511627776) (some (db false)) (cond (gtI (nI (p0.at 5).elems.length) 4) (some (db false)) (cond (!(p0.at 3).b) (cond (eqI (p0.at 4).i 0) (some (db (eqI (nI (p0.at 5).elems.length) 0))) (some (db false))) (goS (st6 M) M ⟨(p0.at 5),(nI (p0.at 5).elems.length),0,p0⟩ fun x=>match x with | .e0 d3 i4 i5 d6 r7=>(some (db false)) | .e1 d3 i4 i5 d6 r7 r8=>(some (db false)) | .e2 d3 i4 i5 d6=>(some (db true))))))))))))
theorem run (M:Nat) (p0:D):callS (e M) (tblOf (t M)) 12 (.fn 106) [.d (.struct [3,9,9,4,3,66]) p0] [] (fun v H=>finish ty [4] v H)=s M p0:=by kernel_rfl
def c:Con:={ run:=fun ds=>match ds with | [p0]=>s FUEL p0 | _=>none,plain:=true }
theorem ok:ConOk (106,c):=mkC Tryz.f106 [(.struct [3,9,9,4,3,66])] [4] (by kernel_rfl) (by kernel_rfl) (by kernel_rfl) (by kernel_rfl) (allCons F163.ok (allCons F164.ok (allCons F165.ok allNil))) allNil (t_ok FUEL) fun a=>run FUEL a.1
end F106
namespace F31
def k0_:K:=(.struct [22,3,3])
def k1_:K:=(.struct [3,9,9,4,3,66])
def cons:List (Nat×Con):=[]
def exts:List (Nat×Ext):=[]
def h:List (Nat×Nat×Hint):=[(78,2,{ live:=[0,1,7,8] })]
noncomputable def e (M:Nat):Env:=env cons exts h M
structure S78_2 where
 (d1:D) (i2 i3:Int) (d4:D) (s5:ByteArray)
inductive X78_2 where
 | e0 (d1:D) (i2 i3:Int) (d4:D) (s5:ByteArray)
 | e1 (d1:D) (i2 i3:Int) (d4:D) (s5:ByteArray)
def st78_2 (M:Nat):S78_2→(S78_2→Option D)→(X78_2→Option D)→Option D
 | ⟨d1,i2,i3,d4,s5⟩,rec,K=>(cond (ltI i3 i2) (cond (inb i3 d1.elems.length) (cond (eqS ((ix d1.elems i3.toNat).at 1).s s5) (K (.e0 d1 i2 i3 d4 s5)) (rec ⟨d1,i2,(ad .i64 i3 1),d4,s5⟩)) none) (K (.e1 d1 i2 i3 d4 s5)))
def ex78_2 (k:Kont):X78_2→Option D
 | .e0 d1 i2 i3 d4 s5=>k .ret ((vk (.slice 68) d1)::(.func (.func 79) [] [(.ptr 1 [] .str)])::(us 2 ((vi i3)::(vi i3)::(us 1 ((vi i2)::(vi i3)::(vb (ltI i3 i2))::(vi i3)::(.func (.func 79) [] [(.ptr 1 [] .str)])::(vk (.slice 68) d1)::(vi i3)::(.cptr k1_ (ix d1.elems i3.toNat))::(vk k1_ (ix d1.elems i3.toNat))::(vb (eqS ((ix d1.elems i3.toNat).at 1).s s5))::(vi i3)::(us 1 [])))))) [(.var k0_ (vk k0_ d4)),(.var .str (vS s5)),(.var k1_ (vk k1_ (ix d1.elems i3.toNat)))]
 | .e1 d1 i2 i3 d4 s5=>k (.exit 0) ((vk (.slice 68) d1)::(.func (.func 79) [] [(.ptr 1 [] .str)])::(us 5 ((vi i2)::(vi i3)::(vb (ltI i3 i2))::(us 9 [])))) [(.var k0_ (vk k0_ d4)),(.var .str (vS s5))]
def lv78_2:S78_2→List Leaf
 | ⟨d1,i2,i3,d4,s5⟩=>[.d d1,.i i2,.i i3,.d d4,.s s5]
def of78_2:List Leaf→Option S78_2
 | [.d d1,.i i2,.i i3,.d d4,.s s5]=>some ⟨d1,i2,i3,d4,s5⟩
 | _=>none
def ps78_2:List PV:=((.d (.slice 68) .x)::(.func 79 [] [(.ptr 1 [] .str)])::(up 5 ((.d (.int .i64) (.int .i64))::(.d (.int .i64) (.int .i64))::(up 10 []))))
def qs78_2:List PO:=[(.var k0_ (.d k0_ .x)),(.var .str (.d .str .str))]
noncomputable def t (M:Nat):List Ent:=⟨78,10,2,2,sumS [0,1,7,8] ps78_2 qs78_2 [] of78_2 (st78_2 M) ex78_2 M⟩::[]
theorem t_ok (M:Nat):AllOk (e M) (tblOf (t M)):=AllOk.addS (n0:=2) (lv:=lv78_2) AllOk.nil (by kernel_rfl) rfl (by intro ls s h;unfold of78_2 at h;(repeat' split at h)<;>simp at h;subst h;rfl) (by intro s;kernel_rfl) (by intro s;kernel_rfl) (by intro s nx k;kernel_rfl)
def s (M:Nat) (p0:D) (p1:ByteArray):Option D:=
 (goS (st78_2 M) M ⟨(p0.at 0),(nI (p0.at 0).elems.length),0,p0,p1⟩ fun x=>match x with | .e0 d1 i2 i3 d4 s5=>(some (di i3)) | .e1 d1 i2 i3 d4 s5=>(some (di (-1))))
theorem run (M:Nat) (p0:D) (p1:ByteArray):callS (e M) (tblOf (t M)) 12 (.fn 31) [.d (.struct [22,3,3]) p0,.d .str (dS p1)] [] (fun v H=>finish ty [3] v H)=s M p0 p1:=by kernel_rfl
def c:Con:={ run:=fun ds=>match ds with | [p0,p1]=>s FUEL p0 p1.s | _=>none,plain:=true }
theorem ok:ConOk (31,c):=mkC Tryz.f31 [(.struct [22,3,3]),.str] [3] (by kernel_rfl) (by kernel_rfl) (by kernel_rfl) (by kernel_rfl) allNil allNil (t_ok FUEL) fun a=>run FUEL a.1 a.2.1
end F31
namespace F53
def k0_:K:=(.struct [22,3,3])
def k1_:K:=(.struct [3,9,9,4,3,66])
def cons:List (Nat×Con):=[(31,F31.c),(105,F105.c),(106,F106.c)]
def exts:List (Nat×Ext):=[]
def h:List (Nat×Nat×Hint):=[(53,4,{ live:=[1,22,23,24] })]
noncomputable def e (M:Nat):Env:=env cons exts h M
structure S4 where
 (d3:D) (i4 i5:Int) (d6:D)
inductive X4 where
 | e0 (d3:D) (i4 i5:Int) (d6 r7:D)
 | e1 (d3:D) (i4 i5:Int) (d6 r7:D)
 | e2 (d3:D) (i4 i5:Int) (d6 r7 r8:D)
 | e3 (d3:D) (i4 i5:Int) (d6 r7 r8:D)
 | e4 (d3:D) (i4 i5:Int) (d6:D)
def st4 (M:Nat):S4→(S4→Option D)→(X4→Option D)→Option D
 | ⟨d3,i4,i5,d6⟩,rec,K=>(cond (ltI i5 i4) (cond (inb i5 d3.elems.length) (bd (F106.s FUEL (ix d3.elems i5.toNat)) fun r7=>(cond (!r7.b) (K (.e0 d3 i4 i5 d6 r7)) (cond (gtI ((ix d3.elems i5.toNat).at 0).i (d6.at 1).i) (K (.e1 d3 i4 i5 d6 r7)) (bd (F31.s FUEL d6 ((ix d3.elems i5.toNat).at 1).s) fun r8=>(cond (neI r8.i i5) (K (.e2 d3 i4 i5 d6 r7 r8)) (cond (gtI i5 0) (cond (inb (sb .i64 i5 1) (d6.at 0).elems.length) (cond (geI ((ix (d6.at 0).elems (sb .i64 i5 1).toNat).at 0).i ((ix d3.elems i5.toNat).at 0).i) (K (.e3 d3 i4 i5 d6 r7 r8)) (rec ⟨d3,i4,(ad .i64 i5 1),d6⟩)) none) (rec ⟨d3,i4,(ad .i64 i5 1),d6⟩))))))) none) (K (.e4 d3 i4 i5 d6)))
def ex4 (k:Kont):X4→Option D
 | .e0 d3 i4 i5 d6 r7=>k .ret ((us 1 ((.ptr 0 [] k0_)::(vb false)::(vi i5)::(.ptr 1 [] k1_)::(us 17 ((vk (.slice 68) d3)::(vi i4)::(vi i5)::(vb (ltI i5 i4))::(vi i5)::(.cptr k1_ (ix d3.elems i5.toNat))::(vk k1_ (ix d3.elems i5.toNat))::(vk k1_ (ix d3.elems i5.toNat))::(vk .bool r7)::(vb (!r7.b))::(vb true)::v0::v0::v0::v0::v0::(vb true)::(vb true)::v0::v0::v0::v0::v0::v0::(vb true)::(vb true)::v0::v0::v0::v0::v0::v0::v0::v0::v0::v0::v0::v0::v0::v0::(vb true)::(us 1 [])))))) [(.var k0_ (vk k0_ d6)),(.var k1_ (vk k1_ (ix d3.elems i5.toNat)))]
 | .e1 d3 i4 i5 d6 r7=>k .ret ((us 1 ((.ptr 0 [] k0_)::(vb false)::(vi i5)::(.ptr 1 [] k1_)::(us 17 ((vk (.slice 68) d3)::(vi i4)::(vi i5)::(vb (ltI i5 i4))::(vi i5)::(.cptr k1_ (ix d3.elems i5.toNat))::(vk k1_ (ix d3.elems i5.toNat))::(vk k1_ (ix d3.elems i5.toNat))::(vk .bool r7)::(vb (!r7.b))::(vb false)::(.ptr 1 [0] (.int .i64))::(vk (.int .i64) ((ix d3.elems i5.toNat).at 0))::(.ptr 0 [1] (.int .i64))::(vk (.int .i64) (d6.at 1))::(vb (gtI ((ix d3.elems i5.toNat).at 0).i (d6.at 1).i))::(vb (gtI ((ix d3.elems i5.toNat).at 0).i (d6.at 1).i))::(vb true)::v0::v0::v0::v0::v0::v0::(vb true)::(vb true)::v0::v0::v0::v0::v0::v0::v0::v0::v0::v0::v0::v0::v0::v0::(vb true)::(us 1 [])))))) [(.var k0_ (vk k0_ d6)),(.var k1_ (vk k1_ (ix d3.elems i5.toNat)))]
 | .e2 d3 i4 i5 d6 r7 r8=>k .ret ((us 1 ((.ptr 0 [] k0_)::(vb false)::(vi i5)::(.ptr 1 [] k1_)::(us 17 ((vk (.slice 68) d3)::(vi i4)::(vi i5)::(vb (ltI i5 i4))::(vi i5)::(.cptr k1_ (ix d3.elems i5.toNat))::(vk k1_ (ix d3.elems i5.toNat))::(vk k1_ (ix d3.elems i5.toNat))::(vk .bool r7)::(vb (!r7.b))::(vb false)::(.ptr 1 [0] (.int .i64))::(vk (.int .i64) ((ix d3.elems i5.toNat).at 0))::(.ptr 0 [1] (.int .i64))::(vk (.int .i64) (d6.at 1))::(vb (gtI ((ix d3.elems i5.toNat).at 0).i (d6.at 1).i))::(vb (gtI ((ix d3.elems i5.toNat).at 0).i (d6.at 1).i))::(vb false)::(vk k0_ d6)::(.ptr 1 [1] .str)::(vk .str ((ix d3.elems i5.toNat).at 1))::(vk (.int .i64) r8)::(vi i5)::(vb (neI r8.i i5))::(vb (neI r8.i i5))::(vb true)::v0::v0::v0::v0::v0::v0::v0::v0::v0::v0::v0::v0::v0::v0::(vb true)::(us 1 [])))))) [(.var k0_ (vk k0_ d6)),(.var k1_ (vk k1_ (ix d3.elems i5.toNat)))]
 | .e3 d3 i4 i5 d6 r7 r8=>k .ret ((us 1 ((.ptr 0 [] k0_)::(vb false)::(vi i5)::(.ptr 1 [] k1_)::(us 17 ((vk (.slice 68) d3)::(vi i4)::(vi i5)::(vb (ltI i5 i4))::(vi i5)::(.cptr k1_ (ix d3.elems i5.toNat))::(vk k1_ (ix d3.elems i5.toNat))::(vk k1_ (ix d3.elems i5.toNat))::(vk .bool r7)::(vb (!r7.b))::(vb false)::(.ptr 1 [0] (.int .i64))::(vk (.int .i64) ((ix d3.elems i5.toNat).at 0))::(.ptr 0 [1] (.int .i64))::(vk (.int .i64) (d6.at 1))::(vb (gtI ((ix d3.elems i5.toNat).at 0).i (d6.at 1).i))::(vb (gtI ((ix d3.elems i5.toNat).at 0).i (d6.at 1).i))::(vb false)::(vk k0_ d6)::(.ptr 1 [1] .str)::(vk .str ((ix d3.elems i5.toNat).at 1))::(vk (.int .i64) r8)::(vi i5)::(vb (neI r8.i i5))::(vb (neI r8.i i5))::(vb false)::(vi i5)::(vb (gtI i5 0))::(vb true)::(.ptr 0 [0] (.slice 68))::(vk (.slice 68) (d6.at 0))::(vi i5)::(vi (sb .i64 i5 1))::(.cptr k1_ (ix (d6.at 0).elems (sb .i64 i5 1).toNat))::(.cptr (.int .i64) ((ix (d6.at 0).elems (sb .i64 i5 1).toNat).at 0))::(vk (.int .i64) ((ix (d6.at 0).elems (sb .i64 i5 1).toNat).at 0))::(.ptr 1 [0] (.int .i64))::(vk (.int .i64) ((ix d3.elems i5.toNat).at 0))::(vb (geI ((ix (d6.at 0).elems (sb .i64 i5 1).toNat).at 0).i ((ix d3.elems i5.toNat).at 0).i))::(vb (geI ((ix (d6.at 0).elems (sb .i64 i5 1).toNat).at 0).i ((ix d3.elems i5.toNat).at 0).i))::(vb (geI ((ix (d6.at 0).elems (sb .i64 i5 1).toNat).at 0).i ((ix d3.elems i5.toNat).at 0).i))::(us 1 [])))))) [(.var k0_ (vk k0_ d6)),(.var k1_ (vk k1_ (ix d3.elems i5.toNat)))]
 | .e4 d3 i4 i5 d6=>k (.exit 0) ((us 1 ((.ptr 0 [] k0_)::(us 20 ((vk (.slice 68) d3)::(vi i4)::(vi i5)::(vb (ltI i5 i4))::(us 38 [])))))) [(.var k0_ (vk k0_ d6))]
def lv4:S4→List Leaf
 | ⟨d3,i4,i5,d6⟩=>[.d d3,.i i4,.i i5,.d d6]
def of4:List Leaf→Option S4
 | [.d d3,.i i4,.i i5,.d d6]=>some ⟨d3,i4,i5,d6⟩
 | _=>none
def ps4:List PV:=((up 1 ((.ptr 0 [] k0_)::(up 20 ((.d (.slice 68) .x)::(.d (.int .i64) (.int .i64))::(.d (.int .i64) (.int .i64))::(up 39 []))))))
def qs4:List PO:=[(.var k0_ (.d k0_ .x))]
noncomputable def t (M:Nat):List Ent:=⟨53,11,0,4,sumS [1,22,23,24] ps4 qs4 [] of4 (st4 M) ex4 M⟩::[]
theorem t_ok (M:Nat):AllOk (e M) (tblOf (t M)):=AllOk.addS (n0:=1) (lv:=lv4) AllOk.nil (by kernel_rfl) rfl (by intro ls s h;unfold of4 at h;(repeat' split at h)<;>simp at h;subst h;rfl) (by intro s;kernel_rfl) (by intro s;kernel_rfl) (by intro s nx k;kernel_rfl)
def s (M:Nat) (p0:D):Option D:=
 (cond (gtI (nI (p0.at 0).elems.length) 12) (some (db false)) (bd (F105.s FUEL (p0.at 1).i 1099511627776) fun r1=>(cond (!r1.b) (some (db false)) (bd (F105.s FUEL (p0.at 2).i 1099511627776) fun r2=>(cond (!r2.b) (some (db false)) (goS (st4 M) M ⟨(p0.at 0),(nI (p0.at 0).elems.length),0,p0⟩ fun x=>match x with | .e0 d3 i4 i5 d6 r7=>(some (db false)) | .e1 d3 i4 i5 d6 r7=>(some (db false)) | .e2 d3 i4 i5 d6 r7 r8=>(some (db false)) | .e3 d3 i4 i5 d6 r7 r8=>(some (db false)) | .e4 d3 i4 i5 d6=>(some (db true))))))))
theorem run (M:Nat) (p0:D):callS (e M) (tblOf (t M)) 12 (.fn 53) [.d (.struct [22,3,3]) p0] [] (fun v H=>finish ty [4] v H)=s M p0:=by kernel_rfl
def c:Con:={ run:=fun ds=>match ds with | [p0]=>s FUEL p0 | _=>none,plain:=true }
theorem ok:ConOk (53,c):=mkC Tryz.f53 [(.struct [22,3,3])] [4] (by kernel_rfl) (by kernel_rfl) (by kernel_rfl) (by kernel_rfl) (allCons F31.ok (allCons F105.ok (allCons F106.ok allNil))) allNil (t_ok FUEL) fun a=>run FUEL a.1
end F53
namespace F108
def cons:List (Nat×Con):=[]
def exts:List (Nat×Ext):=[]
def h:List (Nat×Nat×Hint):=[]
noncomputable def e (M:Nat):Env:=env cons exts h M
def s (M:Nat) (p0:D):Option D:=
 (cond (eqI (p0.at 0).i 0) (cond (eqI (p0.at 0).i 0) (some (dl true [(D.iface 249 (p0.at 1)),(D.iface 246 (p0.at 2))])) (cond (eqI (p0.at 0).i 1) (some (dl true [(D.iface 249 (p0.at 1)),(D.iface 249 (p0.at 4))])) (cond (eqI (p0.at 0).i 2) (some (dl true [(D.iface 249 (p0.at 1)),(D.iface 249 (p0.at 3)),(D.iface 249 (p0.at 4)),(D.iface 250 (p0.at 5))])) (cond (eqI (p0.at 0).i 3) (some (dl true [(D.iface 249 (p0.at 1)),(D.iface 249 (p0.at 3))])) (cond (eqI (p0.at 0).i 6) (some (dl true [(D.iface 249 (p0.at 1))])) (cond (eqI (p0.at 0).i 7) (some (dl true [(D.iface 249 (p0.at 3))])) (some (dl false [])))))))) (cond (eqI (p0.at 0).i 4) (cond (eqI (p0.at 0).i 4) (some (dl true [(D.iface 249 (p0.at 1)),(D.iface 246 (p0.at 2))])) (cond (eqI (p0.at 0).i 1) (some (dl true [(D.iface 249 (p0.at 1)),(D.iface 249 (p0.at 4))])) (cond (eqI (p0.at 0).i 2) (some (dl true [(D.iface 249 (p0.at 1)),(D.iface 249 (p0.at 3)),(D.iface 249 (p0.at 4)),(D.iface 250 (p0.at 5))])) (cond (eqI (p0.at 0).i 3) (some (dl true [(D.iface 249 (p0.at 1)),(D.iface 249 (p0.at 3))])) (cond (eqI (p0.at 0).i 6) (some (dl true [(D.iface 249 (p0.at 1))])) (cond (eqI (p0.at 0).i 7) (some (dl true [(D.iface 249 (p0.at 3))])) (some (dl false [])))))))) (cond (eqI (p0.at 0).i 5) (some (dl true [(D.iface 249 (p0.at 1)),(D.iface 246 (p0.at 2))])) (cond (eqI (p0.at 0).i 1) (some (dl true [(D.iface 249 (p0.at 1)),(D.iface 249 (p0.at 4))])) (cond (eqI (p0.at 0).i 2) (some (dl true [(D.iface 249 (p0.at 1)),(D.iface 249 (p0.at 3)),(D.iface 249 (p0.at 4)),(D.iface 250 (p0.at 5))])) (cond (eqI (p0.at 0).i 3) (some (dl true [(D.iface 249 (p0.at 1)),(D.iface 249 (p0.at 3))])) (cond (eqI (p0.at 0).i 6) (some (dl true [(D.iface 249 (p0.at 1))])) (cond (eqI (p0.at 0).i 7) (some (dl true [(D.iface 249 (p0.at 3))])) (some (dl false []))))))))))
theorem run (M:Nat) (p0:D):callS (e M) (tblOf []) 12 (.fn 108) [.d (.struct [28,3,9,3,3,30]) p0] [] (fun v H=>finish ty [180] v H)=s M p0:=by kernel_rfl
def c:Con:={ run:=fun ds=>match ds with | [p0]=>s FUEL p0 | _=>none }
theorem ok:ConOk (108,c):=mkC Tryz.f108 [(.struct [28,3,9,3,3,30])] [180] (by kernel_rfl) (by kernel_rfl) (by kernel_rfl) (by kernel_rfl) allNil allNil AllOk.nil fun a=>run FUEL a.1
end F108
namespace F108f
def cons:List (Nat×Con):=[]
def exts:List (Nat×Ext):=[]
def h:List (Nat×Nat×Hint):=[(108,6,{ own:=true }),(108,8,{ own:=true }),(108,10,{ own:=true }),(108,12,{ own:=true }),(108,14,{ own:=true }),(108,16,{ own:=true })]
noncomputable def e (M:Nat):Env:=env cons exts h M
def s (M:Nat) (p0:D):Option D:=
 (cond (eqI (p0.at 0).i 0) (cond (eqI (p0.at 0).i 0) (some (.slice true [(D.iface 249 (p0.at 1)),(D.iface 246 (p0.at 2))])) (cond (eqI (p0.at 0).i 1) (some (.slice true [(D.iface 249 (p0.at 1)),(D.iface 249 (p0.at 4))])) (cond (eqI (p0.at 0).i 2) (some (.slice true [(D.iface 249 (p0.at 1)),(D.iface 249 (p0.at 3)),(D.iface 249 (p0.at 4)),(D.iface 250 (p0.at 5))])) (cond (eqI (p0.at 0).i 3) (some (.slice true [(D.iface 249 (p0.at 1)),(D.iface 249 (p0.at 3))])) (cond (eqI (p0.at 0).i 6) (some (.slice true [(D.iface 249 (p0.at 1))])) (cond (eqI (p0.at 0).i 7) (some (.slice true [(D.iface 249 (p0.at 3))])) (some (.slice false [])))))))) (cond (eqI (p0.at 0).i 4) (cond (eqI (p0.at 0).i 4) (some (.slice true [(D.iface 249 (p0.at 1)),(D.iface 246 (p0.at 2))])) (cond (eqI (p0.at 0).i 1) (some (.slice true [(D.iface 249 (p0.at 1)),(D.iface 249 (p0.at 4))])) (cond (eqI (p0.at 0).i 2) (some (.slice true [(D.iface 249 (p0.at 1)),(D.iface 249 (p0.at 3)),(D.iface 249 (p0.at 4)),(D.iface 250 (p0.at 5))])) (cond (eqI (p0.at 0).i 3) (some (.slice true [(D.iface 249 (p0.at 1)),(D.iface 249 (p0.at 3))])) (cond (eqI (p0.at 0).i 6) (some (.slice true [(D.iface 249 (p0.at 1))])) (cond (eqI (p0.at 0).i 7) (some (.slice true [(D.iface 249 (p0.at 3))])) (some (.slice false [])))))))) (cond (eqI (p0.at 0).i 5) (some (.slice true [(D.iface 249 (p0.at 1)),(D.iface 246 (p0.at 2))])) (cond (eqI (p0.at 0).i 1) (some (.slice true [(D.iface 249 (p0.at 1)),(D.iface 249 (p0.at 4))])) (cond (eqI (p0.at 0).i 2) (some (.slice true [(D.iface 249 (p0.at 1)),(D.iface 249 (p0.at 3)),(D.iface 249 (p0.at 4)),(D.iface 250 (p0.at 5))])) (cond (eqI (p0.at 0).i 3) (some (.slice true [(D.iface 249 (p0.at 1)),(D.iface 249 (p0.at 3))])) (cond (eqI (p0.at 0).i 6) (some (.slice true [(D.iface 249 (p0.at 1))])) (cond (eqI (p0.at 0).i 7) (some (.slice true [(D.iface 249 (p0.at 3))])) (some (.slice false []))))))))))
theorem run (M:Nat) (p0:D):callS (e M) (tblOf []) 12 (.fn 108) [.d (.struct [28,3,9,3,3,30]) p0] [] (fun v H=>finishFresh ty [180] v H)=s M p0:=by kernel_rfl
def c:Con:={ run:=fun ds=>match ds with | [p0]=>s FUEL p0 | _=>none,fresh:=true }
theorem ok:ConOk (108,c):=mkF Tryz.f108 [(.struct [28,3,9,3,3,30])] [180] (by kernel_rfl) (by kernel_rfl) (by kernel_rfl) allNil allNil AllOk.nil fun a=>run FUEL a.1
end F108f
namespace F166
def k0_:K:=(.struct [28,3,9,3,3,30])
def cons:List (Nat×Con):=[]
def exts:List (Nat×Ext):=[]
def h:List (Nat×Nat×Hint):=[(166,4,{ live:=[0,4,5,6,14,15,16],rows:=[(6,3)] })]
noncomputable def e (M:Nat):Env:=env cons exts h M
structure S4 where
 (i21:Int) (n22 n23:Nat) (d24:D) (i25 i26 i27 i28:Int) (s29:ByteArray) (i30 i31:Int) (d32:D) (i33 i34:Int) (d35:D) (i36 i37:Int) (d38:D) (b39:Bool) (l40:List D)
inductive X4 where
 | e0 (i21:Int) (n22 n23:Nat) (d24:D) (i25 i26 i27 i28:Int) (s29:ByteArray) (i30 i31:Int) (d32:D) (i33 i34:Int) (d35:D) (i36 i37:Int) (d38:D) (b39:Bool) (l40:List D)
def st4 (M:Nat):S4→(S4→Option D)→(X4→Option D)→Option D
 | ⟨i21,n22,n23,d24,i25,i26,i27,i28,s29,i30,i31,d32,i33,i34,d35,i36,i37,d38,b39,l40⟩,rec,K=>(cond (ltI i26 i25) (cond (inb i26 d24.elems.length) (cond (isT 249 (ix d24.elems i26.toNat)) (cond (mx (n23+1)) (rec ⟨i21,0,(n23+1),d24,i25,(ad .i64 i26 1),i27,i28,s29,i30,i31,d32,i33,i34,d35,i36,i37,d38,(b39||true),(ap ((l40.drop n22).take n23) [(assertD 249 (di 0) (ix d24.elems i26.toNat))])⟩) none) (cond (isT 246 (ix d24.elems i26.toNat)) (rec ⟨i21,n22,n23,d24,i25,(ad .i64 i26 1),i27,i28,s29,i30,i31,d32,i33,i34,(assertD 246 (dS (bs [])) (ix d24.elems i26.toNat)),i36,i37,d38,b39,l40⟩) (cond (isT 250 (ix d24.elems i26.toNat)) (rec ⟨i21,n22,n23,d24,i25,(ad .i64 i26 1),i27,i28,s29,i30,i31,d32,i33,i34,d35,i36,i37,(assertD 250 (da (rp 32 (D.int .u8 0))) (ix d24.elems i26.toNat)),b39,l40⟩) (rec ⟨i21,n22,n23,d24,i25,(ad .i64 i26 1),i27,i28,s29,i30,i31,d32,i33,i34,d35,i36,i37,d38,b39,l40⟩)))) none) (K (.e0 i21 n22 n23 d24 i25 i26 i27 i28 s29 i30 i31 d32 i33 i34 d35 i36 i37 d38 b39 l40)))
def ex4 (k:Kont):X4→Option D
 | .e0 i21 n22 n23 d24 i25 i26 i27 i28 s29 i30 i31 d32 i33 i34 d35 i36 i37 d38 b39 l40=>k (.exit 0) ((vi i21)::(us 3 ((.ptr 0 [] k0_)::(.ptr 1 [] k0_)::(.sref 2 n22 n23)::(us 7 ((vk (.slice 183) d24)::(vi i25)::(vi i26)::(vb (ltI i26 i25))::(us 56 [])))))) [(.var k0_ (vk k0_ (da [(di i27),(di i28),(dS s29),(di i30),(di i31),d32]))),(.var k0_ (vk k0_ (da [(di i33),(di i34),d35,(di i36),(di i37),d38]))),(.row 3 true b39 l40)]
def lv4:S4→List Leaf
 | ⟨i21,n22,n23,d24,i25,i26,i27,i28,s29,i30,i31,d32,i33,i34,d35,i36,i37,d38,b39,l40⟩=>[.i i21,.n n22,.n n23,.d d24,.i i25,.i i26,.i i27,.i i28,.s s29,.i i30,.i i31,.d d32,.i i33,.i i34,.d d35,.i i36,.i i37,.d d38,.b b39,.l l40]
def of4:List Leaf→Option S4
 | [.i i21,.n n22,.n n23,.d d24,.i i25,.i i26,.i i27,.i i28,.s s29,.i i30,.i i31,.d d32,.i i33,.i i34,.d d35,.i i36,.i i37,.d d38,.b b39,.l l40]=>some ⟨i21,n22,n23,d24,i25,i26,i27,i28,s29,i30,i31,d32,i33,i34,d35,i36,i37,d38,b39,l40⟩
 | _=>none
def ps4:List PV:=((.d (.int .i64) (.int .i64))::(up 3 ((.ptr 0 [] k0_)::(.ptr 1 [] k0_)::(.sref 2)::(up 7 ((.d (.slice 183) .x)::(.d (.int .i64) (.int .i64))::(.d (.int .i64) (.int .i64))::(up 57 []))))))
def qs4:List PO:=[(.var k0_ (.d k0_ (.agg [(.int .i64),(.int .i64),.str,(.int .i64),(.int .i64),.x]))),(.var k0_ (.d k0_ (.agg [(.int .i64),(.int .i64),.x,(.int .i64),(.int .i64),.x]))),(.row 3 true)]
noncomputable def t (M:Nat):List Ent:=⟨166,11,0,4,sumS [0,4,5,6,14,15,16] ps4 qs4 [(6,2)] of4 (st4 M) ex4 M⟩::[]
theorem t_ok (M:Nat):AllOk (e M) (tblOf (t M)):=AllOk.addS (n0:=3) (lv:=lv4) AllOk.nil (by kernel_rfl) rfl (by intro ls s h;unfold of4 at h;(repeat' split at h)<;>simp at h;subst h;rfl) (by intro s;kernel_rfl) (by intro s;kernel_rfl) (by intro s nx k;kernel_rfl)
def s (M:Nat) (p0:Int) (p1:D):Option D:=
 (goS (st4 M) M ⟨p0,0,0,p1,(nI p1.elems.length),0,0,0,(bs []),0,0,(da (rp 32 (D.int .u8 0))),p0,0,(dS (bs [])),0,0,(da (rp 32 (D.int .u8 0))),false,[]⟩ fun x=>match x with | .e0 i21 n22 n23 d24 i25 i26 i27 i28 s29 i30 i31 d32 i33 i34 d35 i36 i37 d38 b39 l40=>(cond (eqI i21 7) (cond (inb 0 n23) (some (da [(di i33),(di i34),d35,(ix l40 (n22+0)),(di i37),d38])) none) (cond (eqI i21 1) (cond (inb 1 n23) (cond (inb 0 n23) (some (da [(di i33),(ix l40 (n22+0)),d35,(di i36),(ix l40 (n22+1)),d38])) none) none) (cond (eqI i21 2) (cond (inb 1 n23) (cond (inb 2 n23) (cond (inb 0 n23) (some (da [(di i33),(ix l40 (n22+0)),d35,(ix l40 (n22+1)),(ix l40 (n22+2)),d38])) none) none) none) (cond (eqI i21 3) (cond (inb 1 n23) (cond (inb 0 n23) (some (da [(di i33),(ix l40 (n22+0)),d35,(ix l40 (n22+1)),(di i37),d38])) none) none) (cond (inb 0 n23) (some (da [(di i33),(ix l40 (n22+0)),d35,(di i36),(di i37),d38])) none))))))
theorem run (M:Nat) (p0:Int) (p1:D):callS (e M) (tblOf (t M)) 12 (.fn 166) [.d (.int .i64) (di p0),.d (.slice 183) p1] [] (fun v H=>finish ty [32] v H)=s M p0 p1:=by kernel_rfl
def c:Con:={ run:=fun ds=>match ds with | [p0,p1]=>s FUEL p0.i p1 | _=>none,plain:=true }
theorem ok:ConOk (166,c):=mkC Tryz.f166 [(.int .i64),(.slice 183)] [32] (by kernel_rfl) (by kernel_rfl) (by kernel_rfl) (by kernel_rfl) allNil allNil (t_ok FUEL) fun a=>run FUEL a.1 a.2.1
end F166
namespace F167
def cons:List (Nat×Con):=[]
def exts:List (Nat×Ext):=[]
def h:List (Nat×Nat×Hint):=[]
noncomputable def e (M:Nat):Env:=env cons exts h M
def s (M:Nat) (p0:Int) (p1:Int) (p2:Int):Option D:=
 (cond (leI p1 p0) (some (db (leI p0 p2))) (some (db false)))
theorem run (M:Nat) (p0:Int) (p1:Int) (p2:Int):callS (e M) (tblOf []) 12 (.fn 167) [.d (.int .i64) (di p0),.d (.int .i64) (di p1),.d (.int .i64) (di p2)] [] (fun v H=>finish ty [4] v H)=s M p0 p1 p2:=by kernel_rfl
def c:Con:={ run:=fun ds=>match ds with | [p0,p1,p2]=>s FUEL p0.i p1.i p2.i | _=>none,plain:=true }
theorem ok:ConOk (167,c):=mkC Tryz.f167 [(.int .i64),(.int .i64),(.int .i64)] [4] (by kernel_rfl) (by kernel_rfl) (by kernel_rfl) (by kernel_rfl) allNil allNil AllOk.nil fun a=>run FUEL a.1 a.2.1 a.2.2.1
end F167
namespace F107
def k0_:K:=(.struct [28,3,9,3,3,30])
def cons:List (Nat×Con):=[(108,F108.c),(164,F164.c),(166,F166.c),(167,F167.c)]
def exts:List (Nat×Ext):=[]
def h:List (Nat×Nat×Hint):=[(107,9,{ live:=[1,4,5,26,27,28] })]
noncomputable def e (M:Nat):Env:=env cons exts h M
structure S9 where
 (i11:Int) (d12 d13:D) (i14 i15:Int) (d16:D)
inductive X9 where
 | e0 (i11:Int) (d12 d13:D) (i14 i15:Int) (d16:D)
def st9 (M:Nat):S9→(S9→Option D)→(X9→Option D)→Option D
 | ⟨i11,d12,d13,i14,i15,d16⟩,rec,K=>(cond (ltI i15 i14) (cond (inb i15 d13.elems.length) (cond (isT 246 (ix d13.elems i15.toNat)) (bd (F164.s FUEL (assertD 246 (dS (bs [])) (ix d13.elems i15.toNat)).s) fun r17=>(rec ⟨i11,r17,d13,i14,(ad .i64 i15 1),d16⟩)) (rec ⟨i11,d12,d13,i14,(ad .i64 i15 1),d16⟩)) none) (K (.e0 i11 d12 d13 i14 i15 d16)))
def ex9 (k:Kont):X9→Option D
 | .e0 i11 d12 d13 i14 i15 d16=>k (.exit 0) ((us 1 ((.ptr 0 [] k0_)::(us 2 ((vi i11)::(vk .bool d12)::(us 20 ((vk (.slice 183) d13)::(vi i14)::(vi i15)::(vb (ltI i15 i14))::(us 33 [])))))))) [(.var k0_ (vk k0_ d16))]
def lv9:S9→List Leaf
 | ⟨i11,d12,d13,i14,i15,d16⟩=>[.i i11,.d d12,.d d13,.i i14,.i i15,.d d16]
def of9:List Leaf→Option S9
 | [.i i11,.d d12,.d d13,.i i14,.i i15,.d d16]=>some ⟨i11,d12,d13,i14,i15,d16⟩
 | _=>none
def ps9:List PV:=((up 1 ((.ptr 0 [] k0_)::(up 2 ((.d (.int .i64) (.int .i64))::(.d .bool .x)::(up 20 ((.d (.slice 183) .x)::(.d (.int .i64) (.int .i64))::(.d (.int .i64) (.int .i64))::(up 34 []))))))))
def qs9:List PO:=[(.var k0_ (.d k0_ .x))]
noncomputable def t (M:Nat):List Ent:=⟨107,11,0,9,sumS [1,4,5,26,27,28] ps9 qs9 [] of9 (st9 M) ex9 M⟩::[]
theorem t_ok (M:Nat):AllOk (e M) (tblOf (t M)):=AllOk.addS (n0:=1) (lv:=lv9) AllOk.nil (by kernel_rfl) rfl (by intro ls s h;unfold of9 at h;(repeat' split at h)<;>simp at h;subst h;rfl) (by intro s;kernel_rfl) (by intro s;kernel_rfl) (by intro s nx k;kernel_rfl)
def s (M:Nat) (p0:D):Option D:=
 (bd (F108.s FUEL p0) fun r1=>(cond (eqI (nI r1.elems.length) 0) (some (db false)) (bd (F166.s FUEL (p0.at 0).i r1) fun r2=>(bd (match D.eqv ty eqDepth r2 p0 (.struct [28,3,9,3,3,30]) with | some z=>some (.bool (!z)) | none=>none) fun r3=>(cond r3.b (some (db false)) (cond (eqI (p0.at 0).i 1) (goS (st9 M) M ⟨1,(db true),r1,(nI r1.elems.length),0,p0⟩ fun x=>match x with | .e0 i11 d12 d13 i14 i15 d16=>(cond d12.b (cond (eqI (d16.at 0).i 7) (bd (F167.s FUEL (d16.at 3).i 0 1099511627776) fun r18=>(cond r18.b (bd (F167.s FUEL (d16.at 4).i i11 600) fun r19=>(some r19)) (some (db false)))) (bd (F167.s FUEL (d16.at 1).i 1 1099511627776) fun r20=>(cond r20.b (bd (F167.s FUEL (d16.at 3).i 0 1099511627776) fun r21=>(cond r21.b (bd (F167.s FUEL (d16.at 4).i i11 600) fun r22=>(some r22)) (some (db false)))) (some (db false))))) (some (db false)))) (goS (st9 M) M ⟨0,(db true),r1,(nI r1.elems.length),0,p0⟩ fun x=>match x with | .e0 i11 d12 d13 i14 i15 d16=>(cond d12.b (cond (eqI (d16.at 0).i 7) (bd (F167.s FUEL (d16.at 3).i 0 1099511627776) fun r23=>(cond r23.b (bd (F167.s FUEL (d16.at 4).i i11 600) fun r24=>(some r24)) (some (db false)))) (bd (F167.s FUEL (d16.at 1).i 1 1099511627776) fun r25=>(cond r25.b (bd (F167.s FUEL (d16.at 3).i 0 1099511627776) fun r26=>(cond r26.b (bd (F167.s FUEL (d16.at 4).i i11 600) fun r27=>(some r27)) (some (db false)))) (some (db false))))) (some (db false))))))))))
theorem run (M:Nat) (p0:D):callS (e M) (tblOf (t M)) 12 (.fn 107) [.d (.struct [28,3,9,3,3,30]) p0] [] (fun v H=>finish ty [4] v H)=s M p0:=by kernel_rfl
def c:Con:={ run:=fun ds=>match ds with | [p0]=>s FUEL p0 | _=>none,plain:=true }
theorem ok:ConOk (107,c):=mkC Tryz.f107 [(.struct [28,3,9,3,3,30])] [4] (by kernel_rfl) (by kernel_rfl) (by kernel_rfl) (by kernel_rfl) (allCons F108.ok (allCons F164.ok (allCons F166.ok (allCons F167.ok allNil)))) allNil (t_ok FUEL) fun a=>run FUEL a.1
end F107
namespace F90
def cons:List (Nat×Con):=[]
def exts:List (Nat×Ext):=[]
def h:List (Nat×Nat×Hint):=[(90,3,{ live:=[0,3],rows:=[(3,5)],out:=some [0,3] })]
noncomputable def e (M:Nat):Env:=env cons exts h M
structure S3 where
 (i1:Int) (n2 n3:Nat) (b4:Bool) (l5:List D)
inductive X3 where
 | e0 (i1:Int) (n2 n3:Nat) (b4:Bool) (l5:List D)
def st3 (M:Nat):S3→(S3→Option D)→(X3→Option D)→Option D
 | ⟨i1,n2,n3,b4,l5⟩,rec,K=>(cond (geI i1 128) (cond (mx (n3+1)) (rec ⟨(shrI .i64 i1 7),0,(n3+1),(b4||true),(ap ((l5.drop n2).take n3) [(D.int .u8 (orI .u8 (cv .u8 i1) 128))])⟩) none) (K (.e0 i1 n2 n3 b4 l5)))
def ex3 (k:Kont):X3→Option D
 | .e0 i1 n2 n3 b4 l5=>k (.exit 0) ((vi i1)::(us 2 ((.sref 0 n2 n3)::(us 19 [])))) [(.row 5 true b4 l5)]
def lv3:S3→List Leaf
 | ⟨i1,n2,n3,b4,l5⟩=>[.i i1,.n n2,.n n3,.b b4,.l l5]
def of3:List Leaf→Option S3
 | [.i i1,.n n2,.n n3,.b b4,.l l5]=>some ⟨i1,n2,n3,b4,l5⟩
 | _=>none
def ps3:List PV:=((.d (.int .i64) (.int .i64))::(up 2 ((.sref 0)::(up 19 []))))
def qs3:List PO:=[(.row 5 true)]
noncomputable def t (M:Nat):List Ent:=⟨90,11,0,3,sumS [0,3] ps3 qs3 [(3,0)] of3 (st3 M) ex3 M⟩::[]
theorem t_ok (M:Nat):AllOk (e M) (tblOf (t M)):=AllOk.addS (n0:=1) (lv:=lv3) AllOk.nil (by kernel_rfl) rfl (by intro ls s h;unfold of3 at h;(repeat' split at h)<;>simp at h;subst h;rfl) (by intro s;kernel_rfl) (by intro s;kernel_rfl) (by intro s nx k;kernel_rfl)
def s (M:Nat) (p0:Int):Option D:=
 (goS (st3 M) M ⟨(mini (maxi p0 0) 1125899906842624),0,0,false,[]⟩ fun x=>match x with | .e0 i1 n2 n3 b4 l5=>(cond (mx (n3+1)) (some (dS (ofBytes (((ap ((l5.drop n2).take n3) [(D.int .u8 (cv .u8 i1))]).drop 0).take (n3+1))))) none))
theorem run (M:Nat) (p0:Int):callS (e M) (tblOf (t M)) 12 (.fn 90) [.d (.int .i64) (di p0)] [] (fun v H=>finish ty [9] v H)=s M p0:=by kernel_rfl
def c:Con:={ run:=fun ds=>match ds with | [p0]=>s FUEL p0.i | _=>none,plain:=true }
theorem ok:ConOk (90,c):=mkC Tryz.f90 [(.int .i64)] [9] (by kernel_rfl) (by kernel_rfl) (by kernel_rfl) (by kernel_rfl) allNil allNil (t_ok FUEL) fun a=>run FUEL a.1
end F90
namespace F57
def cons:List (Nat×Con):=[(90,F90.c)]
def exts:List (Nat×Ext):=[]
def h:List (Nat×Nat×Hint):=[]
noncomputable def e (M:Nat):Env:=env cons exts h M
def s (M:Nat) (p0:ByteArray):Option D:=
 (bd (F90.s FUEL (nI p0.size)) fun r1=>(bd (cat r1.s p0) fun r2=>(some r2)))
theorem run (M:Nat) (p0:ByteArray):callS (e M) (tblOf []) 12 (.fn 57) [.d .str (dS p0)] [] (fun v H=>finish ty [9] v H)=s M p0:=by kernel_rfl
def c:Con:={ run:=fun ds=>match ds with | [p0]=>s FUEL p0.s | _=>none,plain:=true }
theorem ok:ConOk (57,c):=mkC Tryz.f57 [.str] [9] (by kernel_rfl) (by kernel_rfl) (by kernel_rfl) (by kernel_rfl) (allCons F90.ok allNil) allNil AllOk.nil fun a=>run FUEL a.1
end F57
namespace F286
def cons:List (Nat×Con):=[(57,F57.c)]
def exts:List (Nat×Ext):=[]
def h:List (Nat×Nat×Hint):=[]
noncomputable def e (M:Nat):Env:=env cons exts h M
def s (M:Nat) (p0:ByteArray):Option D:=
 (bd (F57.s FUEL p0) fun r1=>(some r1))
theorem run (M:Nat) (p0:ByteArray):callS (e M) (tblOf []) 12 (.fn 286) [.d .str (dS p0)] [] (fun v H=>finish ty [9] v H)=s M p0:=by kernel_rfl
def c:Con:={ run:=fun ds=>match ds with | [p0]=>s FUEL p0.s | _=>none,plain:=true }
theorem ok:ConOk (286,c):=mkC Tryz.f286 [.str] [9] (by kernel_rfl) (by kernel_rfl) (by kernel_rfl) (by kernel_rfl) (allCons F57.ok allNil) allNil AllOk.nil fun a=>run FUEL a.1
end F286
namespace F288
def cons:List (Nat×Con):=[(90,F90.c)]
def exts:List (Nat×Ext):=[]
def h:List (Nat×Nat×Hint):=[]
noncomputable def e (M:Nat):Env:=env cons exts h M
def s (M:Nat) (p0:Int):Option D:=
 (bd (F90.s FUEL p0) fun r1=>(some r1))
theorem run (M:Nat) (p0:Int):callS (e M) (tblOf []) 12 (.fn 288) [.d (.int .i64) (di p0)] [] (fun v H=>finish ty [9] v H)=s M p0:=by kernel_rfl
def c:Con:={ run:=fun ds=>match ds with | [p0]=>s FUEL p0.i | _=>none,plain:=true }
theorem ok:ConOk (288,c):=mkC Tryz.f288 [(.int .i64)] [9] (by kernel_rfl) (by kernel_rfl) (by kernel_rfl) (by kernel_rfl) (allCons F90.ok allNil) allNil AllOk.nil fun a=>run FUEL a.1
end F288
namespace F91
def cons:List (Nat×Con):=[]
def exts:List (Nat×Ext):=[]
def h:List (Nat×Nat×Hint):=[(91,0,{ own:=true })]
noncomputable def e (M:Nat):Env:=env cons exts h M
def s (M:Nat) (p0:D):Option D:=
 (cond (Nat.beq p0.parts.length 32) (cond (true&&true&&true&&(Nat.beq p0.parts.length 32)) (some (dS (ofBytes ((p0.parts.drop 0).take 32)))) none) none)
theorem run (M:Nat) (p0:D):callS (e M) (tblOf []) 12 (.fn 91) [.d (.array 32 5) p0] [] (fun v H=>finish ty [9] v H)=s M p0:=by kernel_rfl
def c:Con:={ run:=fun ds=>match ds with | [p0]=>s FUEL p0 | _=>none,plain:=true }
theorem ok:ConOk (91,c):=mkC Tryz.f91 [(.array 32 5)] [9] (by kernel_rfl) (by kernel_rfl) (by kernel_rfl) (by kernel_rfl) allNil allNil AllOk.nil fun a=>run FUEL a.1
end F91
namespace F290
def cons:List (Nat×Con):=[(91,F91.c)]
def exts:List (Nat×Ext):=[]
def h:List (Nat×Nat×Hint):=[]
noncomputable def e (M:Nat):Env:=env cons exts h M
def s (M:Nat) (p0:D):Option D:=
 (bd (F91.s FUEL p0) fun r1=>(some r1))
theorem run (M:Nat) (p0:D):callS (e M) (tblOf []) 12 (.fn 290) [.d (.array 32 5) p0] [] (fun v H=>finish ty [9] v H)=s M p0:=by kernel_rfl
def c:Con:={ run:=fun ds=>match ds with | [p0]=>s FUEL p0 | _=>none,plain:=true }
theorem ok:ConOk (290,c):=mkC Tryz.f290 [(.array 32 5)] [9] (by kernel_rfl) (by kernel_rfl) (by kernel_rfl) (by kernel_rfl) (allCons F91.ok allNil) allNil AllOk.nil fun a=>run FUEL a.1
end F290
namespace F55
def k0_:K:=(.struct [28,3,9,3,3,30])
def cons:List (Nat×Con):=[(90,F90.c),(107,F107.c),(108,F108.c),(286,F286.c),(288,F288.c),(290,F290.c)]
def exts:List (Nat×Ext):=[]
def h:List (Nat×Nat×Hint):=[(55,5,{ live:=[4,14,15,16],out:=some [4] })]
noncomputable def e (M:Nat):Env:=env cons exts h M
structure S5 where
 (d4 d5:D) (i6 i7:Int) (d8:D)
inductive X5 where
 | e0 (d4 d8:D)
def st5 (M:Nat):S5→(S5→Option D)→(X5→Option D)→Option D
 | ⟨d4,d5,i6,i7,d8⟩,rec,K=>(cond (ltI i7 i6) (cond (inb i7 d5.elems.length) (bd (bif isT 246 (ix d5.elems i7.toNat) then (F286.s FUEL (payload (ix d5.elems i7.toNat)).s) else (bif isT 249 (ix d5.elems i7.toNat) then (F288.s FUEL (payload (ix d5.elems i7.toNat)).i) else (bif isT 250 (ix d5.elems i7.toNat) then (F290.s FUEL (payload (ix d5.elems i7.toNat))) else none))) fun r9=>(bd (cat d4.s r9.s) fun r10=>(rec ⟨r10,d5,i6,(ad .i64 i7 1),d8⟩))) none) (K (.e0 d4 d8)))
def ex5 (k:Kont):X5→Option D
 | .e0 d4 d8=>k (.exit 0) ((us 4 ((vk .str d4)::(us 21 [])))) [(.var k0_ (vk k0_ d8))]
def lv5:S5→List Leaf
 | ⟨d4,d5,i6,i7,d8⟩=>[.d d4,.d d5,.i i6,.i i7,.d d8]
def of5:List Leaf→Option S5
 | [.d d4,.d d5,.i i6,.i i7,.d d8]=>some ⟨d4,d5,i6,i7,d8⟩
 | _=>none
def ps5:List PV:=((up 4 ((.d .str .x)::(up 9 ((.d (.slice 183) .x)::(.d (.int .i64) (.int .i64))::(.d (.int .i64) (.int .i64))::(up 9 []))))))
def qs5:List PO:=[(.var k0_ (.d k0_ .x))]
noncomputable def t (M:Nat):List Ent:=⟨55,11,0,5,sumS [4,14,15,16] ps5 qs5 [] of5 (st5 M) ex5 M⟩::[]
theorem t_ok (M:Nat):AllOk (e M) (tblOf (t M)):=AllOk.addS (n0:=1) (lv:=lv5) AllOk.nil (by kernel_rfl) rfl (by intro ls s h;unfold of5 at h;(repeat' split at h)<;>simp at h;subst h;rfl) (by intro s;kernel_rfl) (by intro s;kernel_rfl) (by intro s nx k;kernel_rfl)
def s (M:Nat) (p0:D):Option D:=
 (bd (F107.s FUEL p0) fun r1=>(cond (!r1.b) (some (D.tup [(dS (bs [])),(db false)])) (bd (F90.s FUEL (p0.at 0).i) fun r2=>(bd (F108.s FUEL p0) fun r3=>(goS (st5 M) M ⟨r2,r3,(nI r3.elems.length),0,p0⟩ fun x=>match x with | .e0 d4 d8=>(some (D.tup [d4,(db true)])))))))
theorem run (M:Nat) (p0:D):callS (e M) (tblOf (t M)) 12 (.fn 55) [.d (.struct [28,3,9,3,3,30]) p0] [] (fun v H=>finish ty [9,4] v H)=s M p0:=by kernel_rfl
def c:Con:={ run:=fun ds=>match ds with | [p0]=>s FUEL p0 | _=>none,plain:=true }
theorem ok:ConOk (55,c):=mkC Tryz.f55 [(.struct [28,3,9,3,3,30])] [9,4] (by kernel_rfl) (by kernel_rfl) (by kernel_rfl) (by kernel_rfl) (allCons F90.ok (allCons F107.ok (allCons F108.ok (allCons F286.ok (allCons F288.ok (allCons F290.ok allNil)))))) allNil (t_ok FUEL) fun a=>run FUEL a.1
end F55
namespace F60
def k0_:K:=(.struct [111,108])
def k1_:K:=(.struct [22,3,3])
def k2_:K:=(.struct [3,9,9,4,3,66])
def cons:List (Nat×Con):=[(57,F57.c),(90,F90.c)]
def exts:List (Nat×Ext):=[(62,stringX (.struct [111,108])),(109,copyCheckX (.struct [111,108]) 5)]
def h:List (Nat×Nat×Hint):=[(60,5,{ live:=[5,6,25,26,27],rows:=[(1056769,5)],out:=some [5] }),(60,14,{ live:=[5,6,25,26,27,55,56,57],rows:=[(1056769,5)],out:=some [5,6,25,26,27] }),(111,1,{ unr:=some 8 })]
def q0_:PO:=(.var k1_ (.d k1_ .x))
noncomputable def e (M:Nat):Env:=env cons exts h M
structure S14 where
 (d19:D) (i20 i21:Int) (d22:D) (i23 i24:Int) (d25:D) (n26 n27:Nat) (d28:D) (b29:Bool) (l30:List D)
inductive X14 where
 | e0 (d19:D) (i20 i21:Int) (d25:D) (n26 n27:Nat) (d28:D) (b29:Bool) (l30:List D)
def st14 (M:Nat):S14→(S14→Option D)→(X14→Option D)→Option D
 | ⟨d19,i20,i21,d22,i23,i24,d25,n26,n27,d28,b29,l30⟩,rec,K=>(cond (ltI i24 i23) (cond (inb i24 d22.elems.length) (bd (F57.s FUEL (ix d22.elems i24.toNat).s) fun r31=>(cond (mx (n27+(bytesOf r31.s).length)) (rec ⟨d19,i20,i21,d22,i23,(ad .i64 i24 1),d25,0,(n27+(bytesOf r31.s).length),d28,(b29||(!(bytesOf r31.s).isEmpty)),(ap ((l30.drop n26).take n27) (bytesOf r31.s))⟩) none)) none) (K (.e0 d19 i20 i21 d25 n26 n27 d28 b29 l30)))
def ex14 (k:Kont):X14→Option D
 | .e0 d19 i20 i21 d25 n26 n27 d28 b29 l30=>k (.exit 2) ((us 5 ((.ptr 1 [] k0_)::(.func (.func 111) [] [(.ptr 1 [] k0_)])::(us 18 ((vk (.slice 68) d19)::(vi i20)::(vi i21)::(us 39 [])))))) [(.var k1_ (vk k1_ d25)),(.var k0_ (.agg k0_ [(.ptr 1 [] k0_),(.sref 12 n26 n27)])),.dead,.dead,.dead,.dead,(.var k2_ (vk k2_ d28)),.dead,.dead,.dead,.dead,.dead,(.row 5 true b29 l30)]
def lv14:S14→List Leaf
 | ⟨d19,i20,i21,d22,i23,i24,d25,n26,n27,d28,b29,l30⟩=>[.d d19,.i i20,.i i21,.d d22,.i i23,.i i24,.d d25,.n n26,.n n27,.d d28,.b b29,.l l30]
def of14:List Leaf→Option S14
 | [.d d19,.i i20,.i i21,.d d22,.i i23,.i i24,.d d25,.n n26,.n n27,.d d28,.b b29,.l l30]=>some ⟨d19,i20,i21,d22,i23,i24,d25,n26,n27,d28,b29,l30⟩
 | _=>none
def ps14:List PV:=((up 5 ((.ptr 1 [] k0_)::(.func 111 [] [(.ptr 1 [] k0_)])::(up 18 ((.d (.slice 68) .x)::(.d (.int .i64) (.int .i64))::(.d (.int .i64) (.int .i64))::(up 27 ((.d (.slice 9) .x)::(.d (.int .i64) (.int .i64))::(.d (.int .i64) (.int .i64))::(up 9 []))))))))
def qs14:List PO:=[q0_,(.var k0_ (.agg k0_ [(.ptr 1 [] k0_),(.sref 12)])),.dead,.dead,.dead,.dead,(.var k2_ (.d k2_ .x)),.dead,.dead,.dead,.dead,.dead,(.row 5 true)]
noncomputable def t1 (M:Nat):List Ent:=⟨60,11,0,14,sumS [5,6,25,26,27,55,56,57] ps14 qs14 [(1056769,12)] of14 (st14 M) ex14 M⟩::[]
theorem t1_ok (M:Nat):AllOk (e M) (tblOf (t1 M)):=AllOk.addS (n0:=13) (lv:=lv14) AllOk.nil (by kernel_rfl) rfl (by intro ls s h;unfold of14 at h;(repeat' split at h)<;>simp at h;subst h;rfl) (by intro s;kernel_rfl) (by intro s;kernel_rfl) (by intro s nx k;kernel_rfl)
structure S5 where
 (d5:D) (i6 i7:Int) (d8:D) (n9 n10:Nat) (b11:Bool) (l12:List D)
inductive X5 where
 | e0 (d8:D) (n9 n10:Nat) (b11:Bool) (l12:List D)
def st5 (M:Nat):S5→(S5→Option D)→(X5→Option D)→Option D
 | ⟨d5,i6,i7,d8,n9,n10,b11,l12⟩,rec,K=>(cond (ltI i7 i6) (cond (inb i7 d5.elems.length) (bd (F90.s FUEL ((ix d5.elems i7.toNat).at 0).i) fun r13=>(cond (mx (n10+(bytesOf r13.s).length)) (bd (F57.s FUEL ((ix d5.elems i7.toNat).at 1).s) fun r14=>(cond (mx ((n10+(bytesOf r13.s).length)+(bytesOf r14.s).length)) (cond ((ix d5.elems i7.toNat).at 3).b (bd (F90.s FUEL 1) fun r15=>(cond (mx (((n10+(bytesOf r13.s).length)+(bytesOf r14.s).length)+(bytesOf r15.s).length)) (bd (F90.s FUEL ((ix d5.elems i7.toNat).at 4).i) fun r16=>(cond (mx ((((n10+(bytesOf r13.s).length)+(bytesOf r14.s).length)+(bytesOf r15.s).length)+(bytesOf r16.s).length)) (bd (F90.s FUEL (nI ((ix d5.elems i7.toNat).at 2).s.size)) fun r17=>(cond (mx (((((n10+(bytesOf r13.s).length)+(bytesOf r14.s).length)+(bytesOf r15.s).length)+(bytesOf r16.s).length)+(bytesOf r17.s).length)) (bd (F90.s FUEL (nI ((ix d5.elems i7.toNat).at 5).elems.length)) fun r18=>(cond (mx ((((((n10+(bytesOf r13.s).length)+(bytesOf r14.s).length)+(bytesOf r15.s).length)+(bytesOf r16.s).length)+(bytesOf r17.s).length)+(bytesOf r18.s).length)) (goS (st14 M) M ⟨d5,i6,i7,((ix d5.elems i7.toNat).at 5),(nI ((ix d5.elems i7.toNat).at 5).elems.length),0,d8,0,((((((n10+(bytesOf r13.s).length)+(bytesOf r14.s).length)+(bytesOf r15.s).length)+(bytesOf r16.s).length)+(bytesOf r17.s).length)+(bytesOf r18.s).length),(ix d5.elems i7.toNat),((((((b11||(!(bytesOf r13.s).isEmpty))||(!(bytesOf r14.s).isEmpty))||(!(bytesOf r15.s).isEmpty))||(!(bytesOf r16.s).isEmpty))||(!(bytesOf r17.s).isEmpty))||(!(bytesOf r18.s).isEmpty)),(ap (((ap (((ap (((ap (((ap (((ap ((l12.drop n9).take n10) (bytesOf r13.s)).drop 0).take (n10+(bytesOf r13.s).length)) (bytesOf r14.s)).drop 0).take ((n10+(bytesOf r13.s).length)+(bytesOf r14.s).length)) (bytesOf r15.s)).drop 0).take (((n10+(bytesOf r13.s).length)+(bytesOf r14.s).length)+(bytesOf r15.s).length)) (bytesOf r16.s)).drop 0).take ((((n10+(bytesOf r13.s).length)+(bytesOf r14.s).length)+(bytesOf r15.s).length)+(bytesOf r16.s).length)) (bytesOf r17.s)).drop 0).take (((((n10+(bytesOf r13.s).length)+(bytesOf r14.s).length)+(bytesOf r15.s).length)+(bytesOf r16.s).length)+(bytesOf r17.s).length)) (bytesOf r18.s))⟩ fun x=>match x with | .e0 d19 i20 i21 d25 n26 n27 d28 b29 l30=>(rec ⟨d19,i20,(ad .i64 i21 1),d25,n26,n27,b29,l30⟩)) none)) none)) none)) none)) (bd (F90.s FUEL 0) fun r32=>(cond (mx (((n10+(bytesOf r13.s).length)+(bytesOf r14.s).length)+(bytesOf r32.s).length)) (bd (F90.s FUEL ((ix d5.elems i7.toNat).at 4).i) fun r33=>(cond (mx ((((n10+(bytesOf r13.s).length)+(bytesOf r14.s).length)+(bytesOf r32.s).length)+(bytesOf r33.s).length)) (bd (F90.s FUEL (nI ((ix d5.elems i7.toNat).at 2).s.size)) fun r34=>(cond (mx (((((n10+(bytesOf r13.s).length)+(bytesOf r14.s).length)+(bytesOf r32.s).length)+(bytesOf r33.s).length)+(bytesOf r34.s).length)) (bd (F90.s FUEL (nI ((ix d5.elems i7.toNat).at 5).elems.length)) fun r35=>(cond (mx ((((((n10+(bytesOf r13.s).length)+(bytesOf r14.s).length)+(bytesOf r32.s).length)+(bytesOf r33.s).length)+(bytesOf r34.s).length)+(bytesOf r35.s).length)) (goS (st14 M) M ⟨d5,i6,i7,((ix d5.elems i7.toNat).at 5),(nI ((ix d5.elems i7.toNat).at 5).elems.length),0,d8,0,((((((n10+(bytesOf r13.s).length)+(bytesOf r14.s).length)+(bytesOf r32.s).length)+(bytesOf r33.s).length)+(bytesOf r34.s).length)+(bytesOf r35.s).length),(ix d5.elems i7.toNat),((((((b11||(!(bytesOf r13.s).isEmpty))||(!(bytesOf r14.s).isEmpty))||(!(bytesOf r32.s).isEmpty))||(!(bytesOf r33.s).isEmpty))||(!(bytesOf r34.s).isEmpty))||(!(bytesOf r35.s).isEmpty)),(ap (((ap (((ap (((ap (((ap (((ap ((l12.drop n9).take n10) (bytesOf r13.s)).drop 0).take (n10+(bytesOf r13.s).length)) (bytesOf r14.s)).drop 0).take ((n10+(bytesOf r13.s).length)+(bytesOf r14.s).length)) (bytesOf r32.s)).drop 0).take (((n10+(bytesOf r13.s).length)+(bytesOf r14.s).length)+(bytesOf r32.s).length)) (bytesOf r33.s)).drop 0).take ((((n10+(bytesOf r13.s).length)+(bytesOf r14.s).length)+(bytesOf r32.s).length)+(bytesOf r33.s).length)) (bytesOf r34.s)).drop 0).take (((((n10+(bytesOf r13.s).length)+(bytesOf r14.s).length)+(bytesOf r32.s).length)+(bytesOf r33.s).length)+(bytesOf r34.s).length)) (bytesOf r35.s))⟩ fun x=>match x with | .e0 d19 i20 i21 d25 n26 n27 d28 b29 l30=>(rec ⟨d19,i20,(ad .i64 i21 1),d25,n26,n27,b29,l30⟩)) none)) none)) none)) none))) none)) none)) none) (K (.e0 d8 n9 n10 b11 l12)))
def ex5 (k:Kont):X5→Option D
 | .e0 d8 n9 n10 b11 l12=>k (.exit 0) ((us 5 ((.ptr 1 [] k0_)::(us 61 [])))) [(.var k1_ (vk k1_ d8)),(.var k0_ (.agg k0_ [(.ptr 1 [] k0_),(.sref 5 n9 n10)])),.dead,.dead,.dead,(.row 5 true b11 l12)]
def lv5:S5→List Leaf
 | ⟨d5,i6,i7,d8,n9,n10,b11,l12⟩=>[.d d5,.i i6,.i i7,.d d8,.n n9,.n n10,.b b11,.l l12]
def of5:List Leaf→Option S5
 | [.d d5,.i i6,.i i7,.d d8,.n n9,.n n10,.b b11,.l l12]=>some ⟨d5,i6,i7,d8,n9,n10,b11,l12⟩
 | _=>none
def ps5:List PV:=((up 5 ((.ptr 1 [] k0_)::(.func 111 [] [(.ptr 1 [] k0_)])::(up 18 ((.d (.slice 68) .x)::(.d (.int .i64) (.int .i64))::(.d (.int .i64) (.int .i64))::(up 39 []))))))
def qs5:List PO:=[q0_,(.var k0_ (.agg k0_ [(.ptr 1 [] k0_),(.sref 5)])),.dead,.dead,.dead,(.row 5 true)]
noncomputable def t (M:Nat):List Ent:=⟨60,11,0,5,sumS [5,6,25,26,27] ps5 qs5 [(1056769,5)] of5 (st5 M) ex5 M⟩::t1 M
theorem t_ok (M:Nat):AllOk (e M) (tblOf (t M)):=AllOk.addS (n0:=6) (lv:=lv5) (t1_ok M) (by kernel_rfl) rfl (by intro ls s h;unfold of5 at h;(repeat' split at h)<;>simp at h;subst h;rfl) (by intro s;kernel_rfl) (by intro s;kernel_rfl) (by intro s nx k;kernel_rfl)
def s (M:Nat) (p0:D) (p1:Int):Option D:=
 (bd (F90.s FUEL (p0.at 1).i) fun r1=>(cond (mx (bytesOf r1.s).length) (bd (F90.s FUEL (p0.at 2).i) fun r2=>(cond (mx ((bytesOf r1.s).length+(bytesOf r2.s).length)) (bd (F90.s FUEL (nI (p0.at 0).elems.length)) fun r3=>(cond (mx (((bytesOf r1.s).length+(bytesOf r2.s).length)+(bytesOf r3.s).length)) (bd (F90.s FUEL p1) fun r4=>(cond (mx ((((bytesOf r1.s).length+(bytesOf r2.s).length)+(bytesOf r3.s).length)+(bytesOf r4.s).length)) (goS (st5 M) M ⟨(p0.at 0),(nI (p0.at 0).elems.length),0,p0,0,((((bytesOf r1.s).length+(bytesOf r2.s).length)+(bytesOf r3.s).length)+(bytesOf r4.s).length),((((!(bytesOf r1.s).isEmpty)||(!(bytesOf r2.s).isEmpty))||(!(bytesOf r3.s).isEmpty))||(!(bytesOf r4.s).isEmpty)),(ap (((ap (((ap (((bytesOf r1.s).drop 0).take (bytesOf r1.s).length) (bytesOf r2.s)).drop 0).take ((bytesOf r1.s).length+(bytesOf r2.s).length)) (bytesOf r3.s)).drop 0).take (((bytesOf r1.s).length+(bytesOf r2.s).length)+(bytesOf r3.s).length)) (bytesOf r4.s))⟩ fun x=>match x with | .e0 d8 n9 n10 b11 l12=>(cond (true&&((bif b11 then (decide (0<n10)) else true)&&(mx n10))) (some (dS (ofBytes ((l12.drop n9).take n10)))) none)) none)) none)) none)) none))
theorem run (M:Nat) (p0:D) (p1:Int):callS (e M) (tblOf (t M)) 12 (.fn 60) [.d (.struct [22,3,3]) p0,.d (.int .i64) (di p1)] [] (fun v H=>finish ty [9] v H)=s M p0 p1:=by kernel_rfl
def c:Con:={ run:=fun ds=>match ds with | [p0,p1]=>s FUEL p0 p1.i | _=>none,plain:=true }
theorem ok:ConOk (60,c):=mkC Tryz.f60 [(.struct [22,3,3]),(.int .i64)] [9] (by kernel_rfl) (by kernel_rfl) (by kernel_rfl) (by kernel_rfl) (allCons F57.ok (allCons F90.ok allNil)) (allCons string_ok (allCons copyCheck_ok allNil)) (t_ok FUEL) fun a=>run FUEL a.1 a.2.1
end F60
end Go.AM.SY
