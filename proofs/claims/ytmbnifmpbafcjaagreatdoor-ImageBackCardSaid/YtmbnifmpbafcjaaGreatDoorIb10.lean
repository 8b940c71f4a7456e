/- Part 10 of the proof: the abstract machine, what the functions compute, and plain laws over that. -/
import Derived.Test.YtmbnifmpbafcjaaGreatDoorIb9
set_option linter.all false
set_option linter.unusedSimpArgs false
set_option linter.unusedVariables false
set_option linter.unusedSectionVars false
namespace Go.AM.SY
open Go Go.AM Go.Proofs Go.RowKit
namespace F77
def cons:List (Nat×Con):=[]
def exts:List (Nat×Ext):=[]
def h:List (Nat×Nat×Hint):=[]
noncomputable def e (M:Nat):Env:=env cons exts h M
def s (M:Nat) (p0:Int):Option D:=
 (some (da [(di p0),(di 0),(dS (bs [])),(da [(di 0),(dS (bs [])),(dS (bs [])),(db false),(di 0),(dl false [])]),(dl false [])]))
theorem run (M:Nat) (p0:Int):callS (e M) (tblOf []) 12 (.fn 77) [.d (.int .i64) (di p0)] [] (fun v H=>finish ty [70] v H)=s M p0:=by kernel_rfl
def c:Con:={ run:=fun ds=>match ds with | [p0]=>s FUEL p0.i | _=>none }
theorem ok:ConOk (77,c):=mkC Tryz.f77 [(.int .i64)] [70] (by kernel_rfl) (by kernel_rfl) (by kernel_rfl) (by kernel_rfl) allNil allNil AllOk.nil fun a=>run FUEL a.1
end F77
namespace F174
def cons:List (Nat×Con):=[(163,F163.c),(164,F164.c)]
def exts:List (Nat×Ext):=[]
def h:List (Nat×Nat×Hint):=[]
noncomputable def e (M:Nat):Env:=env cons exts h M
def s (M:Nat) (p0:Int) (p1:ByteArray):Option D:=
 (bd (F164.s FUEL p1) fun r1=>(cond (!r1.b) (some (D.tup [(da [(di 0),(dS (bs [])),(dS (bs [])),(db false),(di 0),(dl false [])]),(di 2)])) (bd (F163.s FUEL p0) fun r2=>(cond (!r2.b) (some (D.tup [(da [(di 0),(dS (bs [])),(dS (bs [])),(db false),(di 0),(dl false [])]),(di 1)])) (some (D.tup [(da [(di p0),(dS p1),(dS (bs [])),(db false),(di 0),(dl false [])]),(di 0)]))))))
theorem run (M:Nat) (p0:Int) (p1:ByteArray):callS (e M) (tblOf []) 12 (.fn 174) [.d (.int .i64) (di p0),.d .str (dS p1)] [] (fun v H=>finish ty [68,65] v H)=s M p0 p1:=by kernel_rfl
def c:Con:={ run:=fun ds=>match ds with | [p0,p1]=>s FUEL p0.i p1.s | _=>none }
theorem ok:ConOk (174,c):=mkC Tryz.f174 [(.int .i64),.str] [68,65] (by kernel_rfl) (by kernel_rfl) (by kernel_rfl) (by kernel_rfl) (allCons F163.ok (allCons F164.ok allNil)) allNil AllOk.nil fun a=>run FUEL a.1 a.2.1
end F174
namespace F175
def cons:List (Nat×Con):=[]
def exts:List (Nat×Ext):=[]
def h:List (Nat×Nat×Hint):=[]
noncomputable def e (M:Nat):Env:=env cons exts h M
def s (M:Nat) (p0:D):Option D:=
 (cond (!p0.nn) (some (.slice false [])) (cond (mx p0.elems.length) (cond ((decide (p0.elems.length=p0.elems.length))&&true) (some (.slice true p0.elems)) none) none))
theorem run (M:Nat) (p0:D):callS (e M) (tblOf []) 12 (.fn 175) [.d (.slice 68) p0] [] (fun v H=>finishFresh ty [22] v H)=s M p0:=by kernel_rfl
def c:Con:={ run:=fun ds=>match ds with | [p0]=>s FUEL p0 | _=>none,fresh:=true }
theorem ok:ConOk (175,c):=mkF Tryz.f175 [(.slice 68)] [22] (by kernel_rfl) (by kernel_rfl) (by kernel_rfl) allNil allNil AllOk.nil fun a=>run FUEL a.1
end F175
namespace F253
def cons:List (Nat×Con):=[]
def exts:List (Nat×Ext):=[]
def h:List (Nat×Nat×Hint):=[]
noncomputable def e (M:Nat):Env:=env cons exts h M
def s (M:Nat) (p0:D) (p1:ByteArray):Option D:=
 (cond (p0.at 3).b (some (D.tup [p0,(di 5)])) (cond (eqS p1 (bs [])) (some (D.tup [p0,(di 1)])) (cond (gtI (ad .i64 (nI (p0.at 2).s.size) (nI p1.size)) 600) (some (D.tup [p0,(di 10)])) (bd (cat (p0.at 2).s p1) fun r1=>(some (D.tup [(D.agg (p0.parts.set 2 r1)),(di 0)]))))))
theorem run (M:Nat) (p0:D) (p1:ByteArray):callS (e M) (tblOf []) 12 (.fn 253) [.d (.struct [3,9,9,4,3,66]) p0,.d .str (dS p1)] [] (fun v H=>finish ty [68,65] v H)=s M p0 p1:=by kernel_rfl
def c:Con:={ run:=fun ds=>match ds with | [p0,p1]=>s FUEL p0 p1.s | _=>none }
theorem ok:ConOk (253,c):=mkC Tryz.f253 [(.struct [3,9,9,4,3,66]),.str] [68,65] (by kernel_rfl) (by kernel_rfl) (by kernel_rfl) (by kernel_rfl) allNil allNil AllOk.nil fun a=>run FUEL a.1 a.2.1
end F253
namespace F248
def cons:List (Nat×Con):=[]
def exts:List (Nat×Ext):=[]
def h:List (Nat×Nat×Hint):=[(248,2,{ live:=[0,1,7,8] })]
noncomputable def e (M:Nat):Env:=env cons exts h M
structure S2 where
 (d1:D) (s2:ByteArray) (i3 i4:Int)
inductive X2 where
 | e0 (d1:D) (s2:ByteArray) (i3 i4:Int)
 | e1 (d1:D) (s2:ByteArray) (i3 i4:Int)
def st2 (M:Nat):S2→(S2→Option D)→(X2→Option D)→Option D
 | ⟨d1,s2,i3,i4⟩,rec,K=>(cond (ltI i4 i3) (cond (inb i4 d1.elems.length) (cond (eqS s2 (ix d1.elems i4.toNat).s) (K (.e0 d1 s2 i3 i4)) (rec ⟨d1,s2,i3,(ad .i64 i4 1)⟩)) none) (K (.e1 d1 s2 i3 i4)))
def ex2 (k:Kont):X2→Option D
 | .e0 d1 s2 i3 i4=>k .ret ((vk (.slice 9) d1)::(vS s2)::(us 2 ((vi i4)::(vi i4)::(us 1 ((vi i3)::(vi i4)::(vb (ltI i4 i3))::(vi i4)::(vS s2)::(vk (.slice 9) d1)::(vi i4)::(.cptr .str (ix d1.elems i4.toNat))::(vk .str (ix d1.elems i4.toNat))::(vb (eqS s2 (ix d1.elems i4.toNat).s))::(vi i4)::(us 1 [])))))) []
 | .e1 d1 s2 i3 i4=>k (.exit 0) ((vk (.slice 9) d1)::(vS s2)::(us 5 ((vi i3)::(vi i4)::(vb (ltI i4 i3))::(us 9 [])))) []
def lv2:S2→List Leaf
 | ⟨d1,s2,i3,i4⟩=>[.d d1,.s s2,.i i3,.i i4]
def of2:List Leaf→Option S2
 | [.d d1,.s s2,.i i3,.i i4]=>some ⟨d1,s2,i3,i4⟩
 | _=>none
def ps2:List PV:=((.d (.slice 9) .x)::(.d .str .str)::(up 5 ((.d (.int .i64) (.int .i64))::(.d (.int .i64) (.int .i64))::(up 10 []))))
def qs2:List PO:=[]
noncomputable def t (M:Nat):List Ent:=⟨248,11,0,2,sumS [0,1,7,8] ps2 qs2 [] of2 (st2 M) ex2 M⟩::[]
theorem t_ok (M:Nat):AllOk (e M) (tblOf (t M)):=AllOk.addS (n0:=0) (lv:=lv2) AllOk.nil (by kernel_rfl) rfl (by intro ls s h;unfold of2 at h;(repeat' split at h)<;>simp at h;subst h;rfl) (by intro s;kernel_rfl) (by intro s;kernel_rfl) (by intro s nx k;kernel_rfl)
def s (M:Nat) (p0:D) (p1:ByteArray):Option D:=
 (goS (st2 M) M ⟨p0,p1,(nI p0.elems.length),0⟩ fun x=>match x with | .e0 d1 s2 i3 i4=>(some (di i4)) | .e1 d1 s2 i3 i4=>(some (di (-1))))
theorem run (M:Nat) (p0:D) (p1:ByteArray):callS (e M) (tblOf (t M)) 12 (.fn 248) [.d (.slice 9) p0,.d .str (dS p1)] [] (fun v H=>finish ty [3] v H)=s M p0 p1:=by kernel_rfl
def c:Con:={ run:=fun ds=>match ds with | [p0,p1]=>s FUEL p0 p1.s | _=>none,plain:=true }
theorem ok:ConOk (248,c):=mkC Tryz.f248 [(.slice 9),.str] [3] (by kernel_rfl) (by kernel_rfl) (by kernel_rfl) (by kernel_rfl) allNil allNil (t_ok FUEL) fun a=>run FUEL a.1 a.2.1
end F248
namespace F243
def cons:List (Nat×Con):=[(248,F248.c)]
def exts:List (Nat×Ext):=[]
def h:List (Nat×Nat×Hint):=[]
noncomputable def e (M:Nat):Env:=env cons exts h M
def s (M:Nat) (p0:D) (p1:ByteArray):Option D:=
 (bd (F248.s FUEL p0 p1) fun r1=>(some (db (geI r1.i 0))))
theorem run (M:Nat) (p0:D) (p1:ByteArray):callS (e M) (tblOf []) 12 (.fn 243) [.d (.slice 9) p0,.d .str (dS p1)] [] (fun v H=>finish ty [4] v H)=s M p0 p1:=by kernel_rfl
def c:Con:={ run:=fun ds=>match ds with | [p0,p1]=>s FUEL p0 p1.s | _=>none,plain:=true }
theorem ok:ConOk (243,c):=mkC Tryz.f243 [(.slice 9),.str] [4] (by kernel_rfl) (by kernel_rfl) (by kernel_rfl) (by kernel_rfl) (allCons F248.ok allNil) allNil AllOk.nil fun a=>run FUEL a.1 a.2.1
end F243
namespace F245
end F245
namespace F247
def cons:List (Nat×Con):=[]
def exts:List (Nat×Ext):=[]
def h:List (Nat×Nat×Hint):=[]
noncomputable def e (M:Nat):Env:=env cons exts h M
def s (M:Nat) (p0:D):Option D:=
 (cond (!p0.nn) (some (.slice false [])) (cond (mx p0.elems.length) (cond ((decide (p0.elems.length=p0.elems.length))&&true) (some (.slice true p0.elems)) none) none))
theorem run (M:Nat) (p0:D):callS (e M) (tblOf []) 12 (.fn 247) [.d (.slice 9) p0] [] (fun v H=>finishFresh ty [66] v H)=s M p0:=by kernel_rfl
def c:Con:={ run:=fun ds=>match ds with | [p0]=>s FUEL p0 | _=>none,fresh:=true }
theorem ok:ConOk (247,c):=mkF Tryz.f247 [(.slice 9)] [66] (by kernel_rfl) (by kernel_rfl) (by kernel_rfl) allNil allNil AllOk.nil fun a=>run FUEL a.1
end F247
namespace F218
def k0_:K:=(.struct [3,9,9,4,3,66])
def cons:List (Nat×Con):=[(164,F164.c),(165,F165.c),(243,F243.c),(247,F247.c)]
def exts:List (Nat×Ext):=[(246,insertX 9)]
def h:List (Nat×Nat×Hint):=[(218,12,{ own:=true }),(244,2,{ live:=[0,1,7,8] })]
noncomputable def e (M:Nat):Env:=env cons exts h M
structure S244_2 where
 (d3:D) (s4:ByteArray) (i5 i6:Int) (d7:D) (i8:Int) (s9 s10:ByteArray) (b11:Bool) (i12:Int) (b13:Bool) (l14:List D)
inductive X244_2 where
 | e0 (d3:D) (s4:ByteArray) (i5 i6:Int) (d7:D) (i8:Int) (s9 s10:ByteArray) (b11:Bool) (i12:Int) (b13:Bool) (l14:List D) (r15:D)
 | e1 (d3:D) (s4:ByteArray) (i5 i6:Int) (d7:D) (i8:Int) (s9 s10:ByteArray) (b11:Bool) (i12:Int) (b13:Bool) (l14:List D)
def st244_2 (M:Nat):S244_2→(S244_2→Option D)→(X244_2→Option D)→Option D
 | ⟨d3,s4,i5,i6,d7,i8,s9,s10,b11,i12,b13,l14⟩,rec,K=>(cond (ltI i6 i5) (cond (inb i6 d3.elems.length) (bd (F165.s FUEL (ix d3.elems i6.toNat).s s4) fun r15=>(cond (!r15.b) (K (.e0 d3 s4 i5 i6 d7 i8 s9 s10 b11 i12 b13 l14 r15)) (rec ⟨d3,s4,i5,(ad .i64 i6 1),d7,i8,s9,s10,b11,i12,b13,l14⟩))) none) (K (.e1 d3 s4 i5 i6 d7 i8 s9 s10 b11 i12 b13 l14)))
def ex244_2 (k:Kont):X244_2→Option D
 | .e0 d3 s4 i5 i6 d7 i8 s9 s10 b11 i12 b13 l14 r15=>k .ret ((vk (.slice 9) d3)::(.func (.func 245) [(vS s4)] [])::(us 2 ((vi i6)::(vi i6)::(us 1 ((vi i5)::(vi i6)::(vb (ltI i6 i5))::(vi i6)::(.func (.func 245) [(vS s4)] [])::(vk (.slice 9) d3)::(vi i6)::(.cptr .str (ix d3.elems i6.toNat))::(vk .str (ix d3.elems i6.toNat))::(vb (!r15.b))::(vi i6)::(us 1 [])))))) [(.var k0_ (vk k0_ d7)),(.var k0_ (vk k0_ (da [(di i8),(dS s9),(dS s10),(db b11),(di i12),(dl b13 l14)])))]
 | .e1 d3 s4 i5 i6 d7 i8 s9 s10 b11 i12 b13 l14=>k (.exit 0) ((vk (.slice 9) d3)::(.func (.func 245) [(vS s4)] [])::(us 5 ((vi i5)::(vi i6)::(vb (ltI i6 i5))::(us 9 [])))) [(.var k0_ (vk k0_ d7)),(.var k0_ (vk k0_ (da [(di i8),(dS s9),(dS s10),(db b11),(di i12),(dl b13 l14)])))]
def lv244_2:S244_2→List Leaf
 | ⟨d3,s4,i5,i6,d7,i8,s9,s10,b11,i12,b13,l14⟩=>[.d d3,.s s4,.i i5,.i i6,.d d7,.i i8,.s s9,.s s10,.b b11,.i i12,.b b13,.l l14]
def of244_2:List Leaf→Option S244_2
 | [.d d3,.s s4,.i i5,.i i6,.d d7,.i i8,.s s9,.s s10,.b b11,.i i12,.b b13,.l l14]=>some ⟨d3,s4,i5,i6,d7,i8,s9,s10,b11,i12,b13,l14⟩
 | _=>none
def ps244_2:List PV:=((.d (.slice 9) .x)::(.func 245 [(.d .str .str)] [])::(up 5 ((.d (.int .i64) (.int .i64))::(.d (.int .i64) (.int .i64))::(up 10 []))))
def qs244_2:List PO:=[(.var k0_ (.d k0_ .x)),(.var k0_ (.d k0_ (.agg [(.int .i64),.str,.str,.bool,(.int .i64),.slice])))]
noncomputable def t (M:Nat):List Ent:=⟨244,10,2,2,sumS [0,1,7,8] ps244_2 qs244_2 [] of244_2 (st244_2 M) ex244_2 M⟩::[]
theorem t_ok (M:Nat):AllOk (e M) (tblOf (t M)):=AllOk.addS (n0:=2) (lv:=lv244_2) AllOk.nil (by kernel_rfl) rfl (by intro ls s h;unfold of244_2 at h;(repeat' split at h)<;>simp at h;subst h;rfl) (by intro s;kernel_rfl) (by intro s;kernel_rfl) (by intro s nx k;kernel_rfl)
def s (M:Nat) (p0:D) (p1:ByteArray):Option D:=
 (cond (!(p0.at 3).b) (some (D.tup [p0,(di 6)])) (bd (F164.s FUEL p1) fun r1=>(cond (!r1.b) (some (D.tup [p0,(di 2)])) (bd (F243.s FUEL (p0.at 5) p1) fun r2=>(cond r2.b (some (D.tup [p0,(di 4)])) (cond (geI (nI (p0.at 5).elems.length) 4) (some (D.tup [p0,(di 10)])) (goS (st244_2 M) M ⟨(p0.at 5),p1,(nI (p0.at 5).elems.length),0,p0,0,(bs []),(bs []),false,0,false,[]⟩ fun x=>match x with | .e0 d3 s4 i5 i6 d7 i8 s9 s10 b11 i12 b13 l14 r15=>(cond (ltI i6 0) (bd (F247.s FUEL (d7.at 5)) fun r16=>(cond (true&&true&&true&&(leI 0 (nI (d7.at 5).elems.length))&&(leI (nI (d7.at 5).elems.length) (nI r16.elems.length))&&(mx (r16.elems.length+1))) (some (D.tup [(da [(d7.at 0),(d7.at 1),(d7.at 2),(d7.at 3),(d7.at 4),(dl true (((ap (ap (((r16.elems.drop 0).take r16.elems.length).take (d7.at 5).elems.length) [(dS p1)]) (((r16.elems.drop 0).take r16.elems.length).drop (d7.at 5).elems.length)).drop 0).take (r16.elems.length+1)))]),(di 0)])) none)) (bd (F247.s FUEL (d7.at 5)) fun r17=>(cond (true&&true&&true&&(leI 0 i6)&&(leI i6 (nI r17.elems.length))&&(mx (r17.elems.length+1))) (some (D.tup [(da [(d7.at 0),(d7.at 1),(d7.at 2),(d7.at 3),(d7.at 4),(dl true (((ap (ap (((r17.elems.drop 0).take r17.elems.length).take i6.toNat) [(dS p1)]) (((r17.elems.drop 0).take r17.elems.length).drop i6.toNat)).drop 0).take (r17.elems.length+1)))]),(di 0)])) none))) | .e1 d3 s4 i5 i6 d7 i8 s9 s10 b11 i12 b13 l14=>(bd (F247.s FUEL (d7.at 5)) fun r18=>(cond (true&&true&&true&&(leI 0 (nI (d7.at 5).elems.length))&&(leI (nI (d7.at 5).elems.length) (nI r18.elems.length))&&(mx (r18.elems.length+1))) (some (D.tup [(da [(d7.at 0),(d7.at 1),(d7.at 2),(d7.at 3),(d7.at 4),(dl true (((ap (ap (((r18.elems.drop 0).take r18.elems.length).take (d7.at 5).elems.length) [(dS p1)]) (((r18.elems.drop 0).take r18.elems.length).drop (d7.at 5).elems.length)).drop 0).take (r18.elems.length+1)))]),(di 0)])) none)))))))))
theorem run (M:Nat) (p0:D) (p1:ByteArray):callS (e M) (tblOf (t M)) 12 (.fn 218) [.d (.struct [3,9,9,4,3,66]) p0,.d .str (dS p1)] [] (fun v H=>finish ty [68,65] v H)=s M p0 p1:=by kernel_rfl
def c:Con:={ run:=fun ds=>match ds with | [p0,p1]=>s FUEL p0 p1.s | _=>none }
theorem ok:ConOk (218,c):=mkC Tryz.f218 [(.struct [3,9,9,4,3,66]),.str] [68,65] (by kernel_rfl) (by kernel_rfl) (by kernel_rfl) (by kernel_rfl) (allCons F164.ok (allCons F165.ok (allCons F243.ok (allCons F247.ok allNil)))) (allCons insert_ok allNil) (t_ok FUEL) fun a=>run FUEL a.1 a.2.1
end F218
namespace F220
def cons:List (Nat×Con):=[(247,F247.c),(248,F248.c)]
def exts:List (Nat×Ext):=[]
def h:List (Nat×Nat×Hint):=[(249,5,{ inpl:=true })]
noncomputable def e (M:Nat):Env:=env cons exts h M
def s (M:Nat) (p0:D) (p1:ByteArray):Option D:=
 (bd (F248.s FUEL (p0.at 5) p1) fun r1=>(cond (ltI r1.i 0) (some (D.tup [p0,(di 3)])) (bd (F247.s FUEL (p0.at 5)) fun r2=>(cond ((leI 0 r1.i)&&(leI r1.i (ad .i64 r1.i 1))&&(leI (ad .i64 r1.i 1) (nI r2.elems.length))&&(leI (nI r2.elems.length) (nI r2.elems.length))&&(eqN (0+r2.elems.length) r2.elems.length)) (cond (eqI r1.i (ad .i64 r1.i 1)) (some (D.tup [(da [(p0.at 0),(p0.at 1),(p0.at 2),(p0.at 3),(p0.at 4),(dl r2.nn ((r2.elems.drop 0).take r2.elems.length))]),(di 0)])) (cond (true&&(leI 0 r1.i)&&(leN (0+(r1.i).toNat) r2.elems.length)) (cond ((leI 0 (ad .i64 r1.i 1))&&(leI (ad .i64 r1.i 1) (nI r2.elems.length))&&(leN (0+r2.elems.length) r2.elems.length)) (cond (leN ((0+((r1.i).toNat-0))+((r2.elems.drop (0+(ad .i64 r1.i 1).toNat)).take (r2.elems.length-(ad .i64 r1.i 1).toNat)).length) r2.elems.length) (cond ((leI 0 (nI (((r1.i).toNat-0)+((r2.elems.drop (0+(ad .i64 r1.i 1).toNat)).take (r2.elems.length-(ad .i64 r1.i 1).toNat)).length)))&&(leI (nI (((r1.i).toNat-0)+((r2.elems.drop (0+(ad .i64 r1.i 1).toNat)).take (r2.elems.length-(ad .i64 r1.i 1).toNat)).length)) (nI r2.elems.length))&&(leN (0+r2.elems.length) (ap (ap (r2.elems.take (0+((r1.i).toNat-0))) ((r2.elems.drop (0+(ad .i64 r1.i 1).toNat)).take (r2.elems.length-(ad .i64 r1.i 1).toNat))) (r2.elems.drop ((0+((r1.i).toNat-0))+((r2.elems.drop (0+(ad .i64 r1.i 1).toNat)).take (r2.elems.length-(ad .i64 r1.i 1).toNat)).length))).length)) (some (D.tup [(da [(p0.at 0),(p0.at 1),(p0.at 2),(p0.at 3),(p0.at 4),(dl r2.nn (((ap (ap ((ap (ap (r2.elems.take (0+((r1.i).toNat-0))) ((r2.elems.drop (0+(ad .i64 r1.i 1).toNat)).take (r2.elems.length-(ad .i64 r1.i 1).toNat))) (r2.elems.drop ((0+((r1.i).toNat-0))+((r2.elems.drop (0+(ad .i64 r1.i 1).toNat)).take (r2.elems.length-(ad .i64 r1.i 1).toNat)).length))).take (0+(((r1.i).toNat-0)+((r2.elems.drop (0+(ad .i64 r1.i 1).toNat)).take (r2.elems.length-(ad .i64 r1.i 1).toNat)).length))) (rp (r2.elems.length-(((r1.i).toNat-0)+((r2.elems.drop (0+(ad .i64 r1.i 1).toNat)).take (r2.elems.length-(ad .i64 r1.i 1).toNat)).length)) (dS (bs [])))) ((ap (ap (r2.elems.take (0+((r1.i).toNat-0))) ((r2.elems.drop (0+(ad .i64 r1.i 1).toNat)).take (r2.elems.length-(ad .i64 r1.i 1).toNat))) (r2.elems.drop ((0+((r1.i).toNat-0))+((r2.elems.drop (0+(ad .i64 r1.i 1).toNat)).take (r2.elems.length-(ad .i64 r1.i 1).toNat)).length))).drop ((0+(((r1.i).toNat-0)+((r2.elems.drop (0+(ad .i64 r1.i 1).toNat)).take (r2.elems.length-(ad .i64 r1.i 1).toNat)).length))+(r2.elems.length-(((r1.i).toNat-0)+((r2.elems.drop (0+(ad .i64 r1.i 1).toNat)).take (r2.elems.length-(ad .i64 r1.i 1).toNat)).length))))).drop 0).take (((r1.i).toNat-0)+((r2.elems.drop (0+(ad .i64 r1.i 1).toNat)).take (r2.elems.length-(ad .i64 r1.i 1).toNat)).length)))]),(di 0)])) none) none) none) none)) none))))
theorem run (M:Nat) (p0:D) (p1:ByteArray):callS (e M) (tblOf []) 12 (.fn 220) [.d (.struct [3,9,9,4,3,66]) p0,.d .str (dS p1)] [] (fun v H=>finish ty [68,65] v H)=s M p0 p1:=by kernel_rfl
def c:Con:={ run:=fun ds=>match ds with | [p0,p1]=>s FUEL p0 p1.s | _=>none }
theorem ok:ConOk (220,c):=mkC Tryz.f220 [(.struct [3,9,9,4,3,66]),.str] [68,65] (by kernel_rfl) (by kernel_rfl) (by kernel_rfl) (by kernel_rfl) (allCons F247.ok (allCons F248.ok allNil)) allNil AllOk.nil fun a=>run FUEL a.1 a.2.1
end F220
namespace F242
def cons:List (Nat×Con):=[]
def exts:List (Nat×Ext):=[]
def h:List (Nat×Nat×Hint):=[]
noncomputable def e (M:Nat):Env:=env cons exts h M
def s (M:Nat) (p0:Int):Option D:=
 (cond (geI p0 0) (some (db (leI p0 1099511627776))) (some (db false)))
theorem run (M:Nat) (p0:Int):callS (e M) (tblOf []) 12 (.fn 242) [.d (.int .i64) (di p0)] [] (fun v H=>finish ty [4] v H)=s M p0:=by kernel_rfl
def c:Con:={ run:=fun ds=>match ds with | [p0]=>s FUEL p0.i | _=>none,plain:=true }
theorem ok:ConOk (242,c):=mkC Tryz.f242 [(.int .i64)] [4] (by kernel_rfl) (by kernel_rfl) (by kernel_rfl) (by kernel_rfl) allNil allNil AllOk.nil fun a=>run FUEL a.1
end F242
namespace F213
def cons:List (Nat×Con):=[(242,F242.c)]
def exts:List (Nat×Ext):=[]
def h:List (Nat×Nat×Hint):=[]
noncomputable def e (M:Nat):Env:=env cons exts h M
def s (M:Nat) (p0:D) (p1:Int):Option D:=
 (cond (p0.at 3).b (some (D.tup [p0,(di 5)])) (bd (F242.s FUEL p1) fun r1=>(cond (!r1.b) (some (D.tup [p0,(di 1)])) (some (D.tup [(D.agg ((D.agg (p0.parts.set 3 (db true))).parts.set 4 (di p1))),(di 0)])))))
theorem run (M:Nat) (p0:D) (p1:Int):callS (e M) (tblOf []) 12 (.fn 213) [.d (.struct [3,9,9,4,3,66]) p0,.d (.int .i64) (di p1)] [] (fun v H=>finish ty [68,65] v H)=s M p0 p1:=by kernel_rfl
def c:Con:={ run:=fun ds=>match ds with | [p0,p1]=>s FUEL p0 p1.i | _=>none }
theorem ok:ConOk (213,c):=mkC Tryz.f213 [(.struct [3,9,9,4,3,66]),(.int .i64)] [68,65] (by kernel_rfl) (by kernel_rfl) (by kernel_rfl) (by kernel_rfl) (allCons F242.ok allNil) allNil AllOk.nil fun a=>run FUEL a.1 a.2.1
end F213
namespace F216
def cons:List (Nat×Con):=[(242,F242.c)]
def exts:List (Nat×Ext):=[]
def h:List (Nat×Nat×Hint):=[]
noncomputable def e (M:Nat):Env:=env cons exts h M
def s (M:Nat) (p0:D) (p1:Int):Option D:=
 (cond (!(p0.at 3).b) (some (D.tup [p0,(di 6)])) (bd (F242.s FUEL p1) fun r1=>(cond (!r1.b) (some (D.tup [p0,(di 1)])) (cond (ltI p1 (p0.at 4).i) (some (D.tup [p0,(di 7)])) (some (D.tup [(D.agg (p0.parts.set 4 (di p1))),(di 0)]))))))
theorem run (M:Nat) (p0:D) (p1:Int):callS (e M) (tblOf []) 12 (.fn 216) [.d (.struct [3,9,9,4,3,66]) p0,.d (.int .i64) (di p1)] [] (fun v H=>finish ty [68,65] v H)=s M p0 p1:=by kernel_rfl
def c:Con:={ run:=fun ds=>match ds with | [p0,p1]=>s FUEL p0 p1.i | _=>none }
theorem ok:ConOk (216,c):=mkC Tryz.f216 [(.struct [3,9,9,4,3,66]),(.int .i64)] [68,65] (by kernel_rfl) (by kernel_rfl) (by kernel_rfl) (by kernel_rfl) (allCons F242.ok allNil) allNil AllOk.nil fun a=>run FUEL a.1 a.2.1
end F216
namespace F182
def cons:List (Nat×Con):=[]
def exts:List (Nat×Ext):=[]
def h:List (Nat×Nat×Hint):=[]
noncomputable def e (M:Nat):Env:=env cons exts h M
def s (M:Nat) (p0:D) (p1:Int):Option D:=
 (cond (!(p0.at 3).b) (some (di 6)) (cond (ltI p1 (p0.at 4).i) (some (di 8)) (cond (gtI (nI (p0.at 5).elems.length) 0) (some (di 9)) (some (di 0)))))
theorem run (M:Nat) (p0:D) (p1:Int):callS (e M) (tblOf []) 12 (.fn 182) [.d (.struct [3,9,9,4,3,66]) p0,.d (.int .i64) (di p1)] [] (fun v H=>finish ty [65] v H)=s M p0 p1:=by kernel_rfl
def c:Con:={ run:=fun ds=>match ds with | [p0,p1]=>s FUEL p0 p1.i | _=>none,plain:=true }
theorem ok:ConOk (182,c):=mkC Tryz.f182 [(.struct [3,9,9,4,3,66]),(.int .i64)] [65] (by kernel_rfl) (by kernel_rfl) (by kernel_rfl) (by kernel_rfl) allNil allNil AllOk.nil fun a=>run FUEL a.1 a.2.1
end F182
namespace F228
def cons:List (Nat×Con):=[]
def exts:List (Nat×Ext):=[]
def h:List (Nat×Nat×Hint):=[]
noncomputable def e (M:Nat):Env:=env cons exts h M
def s (M:Nat)  : Option D:=
 (some (dl true [(D.tup [(di 1),(D.iface 315 (D.fn 253))]),(D.tup [(di 4),(D.iface 315 (D.fn 218))]),(D.tup [(di 5),(D.iface 315 (D.fn 220))]),(D.tup [(di 2),(D.iface 317 (D.fn 213))]),(D.tup [(di 3),(D.iface 317 (D.fn 216))]),(D.tup [(di 6),(D.iface 314 (D.fn 182))])]))
theorem run (M:Nat)  : callS (e M) (tblOf []) 12 (.fn 228) [] [] (fun v H=>finishFresh ty [312] v H)=s M  := by kernel_rfl
def c:Con:={ run:=fun ds=>match ds with | []=>s FUEL  | _=>none,fresh:=true }
theorem ok:ConOk (228,c):=mkF Tryz.f228 [] [312] (by kernel_rfl) (by kernel_rfl) (by kernel_rfl) allNil allNil AllOk.nil fun _=>run FUEL
end F228
namespace F199
def cons:List (Nat×Con):=[]
def exts:List (Nat×Ext):=[]
def h:List (Nat×Nat×Hint):=[(199,2,{ live:=[0,3],out:=some [0,2] })]
noncomputable def e (M:Nat):Env:=env cons exts h M
structure S2 where
 (i1 i2:Int)
inductive X2 where
 | e0 (i1:Int)
 | e1 (i1:Int)
def st2 (M:Nat):S2→(S2→Option D)→(X2→Option D)→Option D
 | ⟨i1,i2⟩,rec,K=>(cond (leI (ml .i64 i2 i2) i1) (bd (if i2=0 then none else some (.int .i64 (remI i1 i2))) fun r3=>(cond (eqI r3.i 0) (K (.e0 i1)) (rec ⟨i1,(ad .i64 i2 1)⟩))) (K (.e1 i1)))
def ex2 (k:Kont):X2→Option D
 | .e0 i1=>k .ret ((vi i1)::(us 1 ((vb false)::(us 14 [])))) []
 | .e1 i1=>k (.exit 0) ((vi i1)::(us 16 [])) []
def lv2:S2→List Leaf
 | ⟨i1,i2⟩=>[.i i1,.i i2]
def of2:List Leaf→Option S2
 | [.i i1,.i i2]=>some ⟨i1,i2⟩
 | _=>none
def ps2:List PV:=((.d (.int .i64) (.int .i64))::(up 2 ((.d (.int .i64) (.int .i64))::(up 13 []))))
def qs2:List PO:=[]
noncomputable def t (M:Nat):List Ent:=⟨199,11,0,2,sumS [0,3] ps2 qs2 [] of2 (st2 M) ex2 M⟩::[]
theorem t_ok (M:Nat):AllOk (e M) (tblOf (t M)):=AllOk.addS (n0:=0) (lv:=lv2) AllOk.nil (by kernel_rfl) rfl (by intro ls s h;unfold of2 at h;(repeat' split at h)<;>simp at h;subst h;rfl) (by intro s;kernel_rfl) (by intro s;kernel_rfl) (by intro s nx k;kernel_rfl)
def s (M:Nat) (p0:Int):Option D:=
 (goS (st2 M) M ⟨p0,2⟩ fun x=>match x with | .e0 i1=>(some (db false)) | .e1 i1=>(some (db (gtI i1 1))))
theorem run (M:Nat) (p0:Int):callS (e M) (tblOf (t M)) 12 (.fn 199) [.d (.int .i64) (di p0)] [] (fun v H=>finish ty [4] v H)=s M p0:=by kernel_rfl
def c:Con:={ run:=fun ds=>match ds with | [p0]=>s FUEL p0.i | _=>none,plain:=true }
theorem ok:ConOk (199,c):=mkC Tryz.f199 [(.int .i64)] [4] (by kernel_rfl) (by kernel_rfl) (by kernel_rfl) (by kernel_rfl) allNil allNil (t_ok FUEL) fun a=>run FUEL a.1
end F199
namespace F257
def cons:List (Nat×Con):=[]
def exts:List (Nat×Ext):=[]
def h:List (Nat×Nat×Hint):=[]
noncomputable def e (M:Nat):Env:=env cons exts h M
def s (M:Nat) (p0:Int) (p1:Int):Option D:=
 (some (D.tup [(D.int .u64 (ad .u64 (ad .u64 (ml .u64 (shrI .u64 p0 32) (shrI .u64 p1 32)) (shrI .u64 (ad .u64 (ml .u64 (shrI .u64 p0 32) (andI .u64 p1 4294967295)) (shrI .u64 (ml .u64 (andI .u64 p0 4294967295) (andI .u64 p1 4294967295)) 32)) 32)) (shrI .u64 (ad .u64 (andI .u64 (ad .u64 (ml .u64 (shrI .u64 p0 32) (andI .u64 p1 4294967295)) (shrI .u64 (ml .u64 (andI .u64 p0 4294967295) (andI .u64 p1 4294967295)) 32)) 4294967295) (ml .u64 (andI .u64 p0 4294967295) (shrI .u64 p1 32))) 32))),(D.int .u64 (ml .u64 p0 p1))]))
theorem run (M:Nat) (p0:Int) (p1:Int):callS (e M) (tblOf []) 12 (.fn 257) [.d (.int .u64) (D.int .u64 p0),.d (.int .u64) (D.int .u64 p1)] [] (fun v H=>finish ty [286,286] v H)=s M p0 p1:=by kernel_rfl
def c:Con:={ run:=fun ds=>match ds with | [p0,p1]=>s FUEL p0.i p1.i | _=>none,plain:=true }
theorem ok:ConOk (257,c):=mkC Tryz.f257 [(.int .u64),(.int .u64)] [286,286] (by kernel_rfl) (by kernel_rfl) (by kernel_rfl) (by kernel_rfl) allNil allNil AllOk.nil fun a=>run FUEL a.1 a.2.1
end F257
namespace F237
def cons:List (Nat×Con):=[(257,F257.c)]
def exts:List (Nat×Ext):=[]
def h:List (Nat×Nat×Hint):=[]
noncomputable def e (M:Nat):Env:=env cons exts h M
def s (M:Nat) (p0:Int) (p1:Int) (p2:Int):Option D:=
 (bd (F257.s FUEL p0 p0) fun r1=>(cond (eqI p2 2) (cond (ltI (r1.at 0).i p1) (some (db true)) (cond (eqI (r1.at 0).i p1) (some (db (eqI (r1.at 1).i 0))) (some (db false)))) (bd (F257.s FUEL (r1.at 1).i p0) fun r2=>(bd (F257.s FUEL (r1.at 0).i p0) fun r3=>(cond (Nat.ble 0 1) (cond (ltI (orI .u64 (shlI .u64 (ad .u64 (r3.at 0).i ((((r2.at 0).i.toNat+(r3.at 1).i.toNat+0) / 18446744073709551616:Nat):Int)) 32) (shrI .u64 ((((r2.at 0).i.toNat+(r3.at 1).i.toNat+0)%18446744073709551616:Nat):Int) 32)) p1) (some (db true)) (cond (eqI (orI .u64 (shlI .u64 (ad .u64 (r3.at 0).i ((((r2.at 0).i.toNat+(r3.at 1).i.toNat+0) / 18446744073709551616:Nat):Int)) 32) (shrI .u64 ((((r2.at 0).i.toNat+(r3.at 1).i.toNat+0)%18446744073709551616:Nat):Int) 32)) p1) (cond (eqI (cv .u32 ((((r2.at 0).i.toNat+(r3.at 1).i.toNat+0)%18446744073709551616:Nat):Int)) 0) (some (db (eqI (r2.at 1).i 0))) (some (db false))) (some (db false)))) none)))))
theorem run (M:Nat) (p0:Int) (p1:Int) (p2:Int):callS (e M) (tblOf []) 12 (.fn 237) [.d (.int .u64) (D.int .u64 p0),.d (.int .u64) (D.int .u64 p1),.d (.int .i64) (di p2)] [] (fun v H=>finish ty [4] v H)=s M p0 p1 p2:=by kernel_rfl
def c:Con:={ run:=fun ds=>match ds with | [p0,p1,p2]=>s FUEL p0.i p1.i p2.i | _=>none,plain:=true }
theorem ok:ConOk (237,c):=mkC Tryz.f237 [(.int .u64),(.int .u64),(.int .i64)] [4] (by kernel_rfl) (by kernel_rfl) (by kernel_rfl) (by kernel_rfl) (allCons F257.ok allNil) allNil AllOk.nil fun a=>run FUEL a.1 a.2.1 a.2.2.1
end F237
namespace F200
def cons:List (Nat×Con):=[(237,F237.c)]
def exts:List (Nat×Ext):=[]
def h:List (Nat×Nat×Hint):=[(200,3,{ live:=[0,1,5,6],out:=some [5] })]
noncomputable def e (M:Nat):Env:=env cons exts h M
structure S3 where
 (i1 i2 i3 i4:Int)
inductive X3 where
 | e0 (i3:Int)
def st3 (M:Nat):S3→(S3→Option D)→(X3→Option D)→Option D
 | ⟨i1,i2,i3,i4⟩,rec,K=>(cond (gtI i4 0) (bd (F237.s FUEL (orI .u64 i3 i4) i1 i2) fun r5=>(cond r5.b (rec ⟨i1,i2,(orI .u64 i3 i4),(shrI .u64 i4 1)⟩) (rec ⟨i1,i2,i3,(shrI .u64 i4 1)⟩))) (K (.e0 i3)))
def ex3 (k:Kont):X3→Option D
 | .e0 i3=>k (.exit 0) ((us 5 ((vk (.int .u64) (D.int .u64 i3))::(us 16 [])))) []
def lv3:S3→List Leaf
 | ⟨i1,i2,i3,i4⟩=>[.i i1,.i i2,.i i3,.i i4]
def of3:List Leaf→Option S3
 | [.i i1,.i i2,.i i3,.i i4]=>some ⟨i1,i2,i3,i4⟩
 | _=>none
def ps3:List PV:=((.d (.int .u64) (.int .u64))::(.d (.int .i64) (.int .i64))::(up 3 ((.d (.int .u64) (.int .u64))::(.d (.int .u64) (.int .u64))::(up 15 []))))
def qs3:List PO:=[]
noncomputable def t (M:Nat):List Ent:=⟨200,11,0,3,sumS [0,1,5,6] ps3 qs3 [] of3 (st3 M) ex3 M⟩::[]
theorem t_ok (M:Nat):AllOk (e M) (tblOf (t M)):=AllOk.addS (n0:=0) (lv:=lv3) AllOk.nil (by kernel_rfl) rfl (by intro ls s h;unfold of3 at h;(repeat' split at h)<;>simp at h;subst h;rfl) (by intro s;kernel_rfl) (by intro s;kernel_rfl) (by intro s nx k;kernel_rfl)
def s (M:Nat) (p0:Int) (p1:Int):Option D:=
 (goS (st3 M) M ⟨p0,p1,0,137438953472⟩ fun x=>match x with | .e0 i3=>(some (D.int .u32 (cv .u32 i3))))
theorem run (M:Nat) (p0:Int) (p1:Int):callS (e M) (tblOf (t M)) 12 (.fn 200) [.d (.int .u64) (D.int .u64 p0),.d (.int .i64) (di p1)] [] (fun v H=>finish ty [214] v H)=s M p0 p1:=by kernel_rfl
def c:Con:={ run:=fun ds=>match ds with | [p0,p1]=>s FUEL p0.i p1.i | _=>none,plain:=true }
theorem ok:ConOk (200,c):=mkC Tryz.f200 [(.int .u64),(.int .i64)] [214] (by kernel_rfl) (by kernel_rfl) (by kernel_rfl) (by kernel_rfl) (allCons F237.ok allNil) allNil (t_ok FUEL) fun a=>run FUEL a.1 a.2.1
end F200
namespace F149
def cons:List (Nat×Con):=[(199,F199.c),(200,F200.c)]
def exts:List (Nat×Ext):=[]
def h:List (Nat×Nat×Hint):=[(149,3,{ live:=[0,1,2,3] })]
noncomputable def e (M:Nat):Env:=env cons exts h M
structure S3 where
 (i15 i16:Int) (d17 d18:D)
inductive X3 where
 | e0 (i15 i16:Int) (d17 d18:D)
def st3 (M:Nat):S3→(S3→Option D)→(X3→Option D)→Option D
 | ⟨i15,i16,d17,d18⟩,rec,K=>(cond (ltI i15 64) (bd (F199.s FUEL i16) fun r19=>(cond (!r19.b) (rec ⟨i15,(ad .i64 i16 1),d17,d18⟩) (bd (F200.s FUEL (cv .u64 i16) 3) fun r20=>(cond (inb i15 64) (cond (ltI i15 8) (bd (F200.s FUEL (cv .u64 i16) 2) fun r21=>(cond (inb i15 8) (rec ⟨(ad .i64 i15 1),(ad .i64 i16 1),(D.agg (d17.parts.set i15.toNat r21)),(D.agg (d18.parts.set i15.toNat r20))⟩) none)) (rec ⟨(ad .i64 i15 1),(ad .i64 i16 1),d17,(D.agg (d18.parts.set i15.toNat r20))⟩)) none)))) (K (.e0 i15 i16 d17 d18)))
def ex3 (k:Kont):X3→Option D
 | .e0 i15 i16 d17 d18=>k (.exit 0) ((.ptr 0 [] (.array 8 214))::(.ptr 1 [] (.array 64 214))::(vi i15)::(vi i16)::(vi i15)::(vb (ltI i15 64))::(us 21 [])) [(.var (.array 8 214) (vk (.array 8 214) d17)),(.var (.array 64 214) (vk (.array 64 214) d18))]
def lv3:S3→List Leaf
 | ⟨i15,i16,d17,d18⟩=>[.i i15,.i i16,.d d17,.d d18]
def of3:List Leaf→Option S3
 | [.i i15,.i i16,.d d17,.d d18]=>some ⟨i15,i16,d17,d18⟩
 | _=>none
def ps3:List PV:=((.ptr 0 [] (.array 8 214))::(.ptr 1 [] (.array 64 214))::(.d (.int .i64) (.int .i64))::(.d (.int .i64) (.int .i64))::(up 23 []))
def qs3:List PO:=[(.var (.array 8 214) (.d (.array 8 214) .x)),(.var (.array 64 214) (.d (.array 64 214) .x))]
noncomputable def t (M:Nat):List Ent:=⟨149,11,0,3,sumS [0,1,2,3] ps3 qs3 [] of3 (st3 M) ex3 M⟩::[]
theorem t_ok (M:Nat):AllOk (e M) (tblOf (t M)):=AllOk.addS (n0:=2) (lv:=lv3) AllOk.nil (by kernel_rfl) rfl (by intro ls s h;unfold of3 at h;(repeat' split at h)<;>simp at h;subst h;rfl) (by intro s;kernel_rfl) (by intro s;kernel_rfl) (by intro s nx k;kernel_rfl)
def s (M:Nat)  : Option D:=
 (goS (st3 M) M ⟨0,2,(da (rp 8 (D.int .u32 0))),(da (rp 64 (D.int .u32 0)))⟩ fun x=>match x with | .e0 i15 i16 d17 d18=>(some (D.tup [d17,d18])))
theorem run (M:Nat)  : callS (e M) (tblOf (t M)) 12 (.fn 149) [] [] (fun v H=>finish ty [215,217] v H)=s M  := by kernel_rfl
def c:Con:={ run:=fun ds=>match ds with | []=>s FUEL  | _=>none,plain:=true }
theorem ok:ConOk (149,c):=mkC Tryz.f149 [] [215,217] (by kernel_rfl) (by kernel_rfl) (by kernel_rfl) (by kernel_rfl) (allCons F199.ok (allCons F200.ok allNil)) allNil (t_ok FUEL) fun _=>run FUEL
end F149
namespace F150
def cons:List (Nat×Con):=[]
def exts:List (Nat×Ext):=[]
def h:List (Nat×Nat×Hint):=[(150,2,{ live:=[0,3],rows:=[(3,5)] }),(150,6,{ live:=[3,4,5],rows:=[(3,5)] })]
noncomputable def e (M:Nat):Env:=env cons exts h M
structure S2 where
 (s1:ByteArray) (n2 n3:Nat) (b4:Bool) (l5:List D)
inductive X2 where
 | e0 (s1:ByteArray) (n2 n3:Nat) (b4:Bool) (l5:List D)
def st2 (M:Nat):S2→(S2→Option D)→(X2→Option D)→Option D
 | ⟨s1,n2,n3,b4,l5⟩,rec,K=>(cond (neI (remI (nI n3) 64) 56) (cond (mx (n3+1)) (rec ⟨s1,0,(n3+1),(b4||true),(ap ((l5.drop n2).take n3) [(D.int .u8 0)])⟩) none) (K (.e0 s1 n2 n3 b4 l5)))
def ex2 (k:Kont):X2→Option D
 | .e0 s1 n2 n3 b4 l5=>k (.exit 0) ((vS s1)::(us 2 ((.sref 1 n2 n3)::(us 6 ((.sref 1 n2 n3)::(vi (nI n3))::(vi (remI (nI n3) 64))::(vb (neI (remI (nI n3) 64) 56))::(us 21 [])))))) [.dead,(.row 5 true b4 l5)]
def lv2:S2→List Leaf
 | ⟨s1,n2,n3,b4,l5⟩=>[.s s1,.n n2,.n n3,.b b4,.l l5]
def of2:List Leaf→Option S2
 | [.s s1,.n n2,.n n3,.b b4,.l l5]=>some ⟨s1,n2,n3,b4,l5⟩
 | _=>none
def ps2:List PV:=((.d .str .str)::(up 2 ((.sref 1)::(up 31 []))))
def qs2:List PO:=[.dead,(.row 5 true)]
noncomputable def t1 (M:Nat):List Ent:=⟨150,11,0,2,sumS [0,3] ps2 qs2 [(3,1)] of2 (st2 M) ex2 M⟩::[]
theorem t1_ok (M:Nat):AllOk (e M) (tblOf (t1 M)):=AllOk.addS (n0:=2) (lv:=lv2) AllOk.nil (by kernel_rfl) rfl (by intro ls s h;unfold of2 at h;(repeat' split at h)<;>simp at h;subst h;rfl) (by intro s;kernel_rfl) (by intro s;kernel_rfl) (by intro s nx k;kernel_rfl)
structure S6 where
 (n6 n7:Nat) (i8 i9:Int) (b10:Bool) (l11:List D)
inductive X6 where
 | e0 (n6 n7:Nat) (i8 i9:Int) (b10:Bool) (l11:List D)
def st6 (M:Nat):S6→(S6→Option D)→(X6→Option D)→Option D
 | ⟨n6,n7,i8,i9,b10,l11⟩,rec,K=>(cond (geI i9 0) (bd (if (ml .i64 8 i9)<0 then none else some (.int .u64 (shrI .u64 i8 (ml .i64 8 i9).toNat))) fun r12=>(cond (mx (n7+1)) (rec ⟨0,(n7+1),i8,(sb .i64 i9 1),(b10||true),(ap ((l11.drop n6).take n7) [(D.int .u8 (cv .u8 r12.i))])⟩) none)) (K (.e0 n6 n7 i8 i9 b10 l11)))
def ex6 (k:Kont):X6→Option D
 | .e0 n6 n7 i8 i9 b10 l11=>k (.exit 2) ((us 3 ((.sref 1 n6 n7)::(vk (.int .u64) (D.int .u64 i8))::(vi i9)::(us 15 ((vi i9)::(vb (geI i9 0))::(us 12 [])))))) [.dead,(.row 5 true b10 l11)]
def lv6:S6→List Leaf
 | ⟨n6,n7,i8,i9,b10,l11⟩=>[.n n6,.n n7,.i i8,.i i9,.b b10,.l l11]
def of6:List Leaf→Option S6
 | [.n n6,.n n7,.i i8,.i i9,.b b10,.l l11]=>some ⟨n6,n7,i8,i9,b10,l11⟩
 | _=>none
def ps6:List PV:=((up 3 ((.sref 1)::(.d (.int .u64) (.int .u64))::(.d (.int .i64) (.int .i64))::(up 29 []))))
def qs6:List PO:=[.dead,(.row 5 true)]
noncomputable def t (M:Nat):List Ent:=⟨150,11,0,6,sumS [3,4,5] ps6 qs6 [(3,1)] of6 (st6 M) ex6 M⟩::t1 M
theorem t_ok (M:Nat):AllOk (e M) (tblOf (t M)):=AllOk.addS (n0:=2) (lv:=lv6) (t1_ok M) (by kernel_rfl) rfl (by intro ls s h;unfold of6 at h;(repeat' split at h)<;>simp at h;subst h;rfl) (by intro s;kernel_rfl) (by intro s;kernel_rfl) (by intro s nx k;kernel_rfl)
def s (M:Nat) (p0:ByteArray):Option D:=
 (cond (mx p0.size) (cond (mx (p0.size+1)) (goS (st2 M) M ⟨p0,0,(p0.size+1),true,(ap (((bytesOf p0).drop 0).take p0.size) [(D.int .u8 128)])⟩ fun x=>match x with | .e0 s1 n2 n3 b4 l5=>(goS (st6 M) M ⟨n2,n3,(shlI .u64 (cv .u64 (nI s1.size)) 3),7,b4,l5⟩ fun x=>match x with | .e0 n6 n7 i8 i9 b10 l11=>(some (dS (ofBytes ((l11.drop n6).take n7)))))) none) none)
theorem run (M:Nat) (p0:ByteArray):callS (e M) (tblOf (t M)) 12 (.fn 150) [.d .str (dS p0)] [] (fun v H=>finish ty [9] v H)=s M p0:=by kernel_rfl
def c:Con:={ run:=fun ds=>match ds with | [p0]=>s FUEL p0.s | _=>none,plain:=true }
theorem ok:ConOk (150,c):=mkC Tryz.f150 [.str] [9] (by kernel_rfl) (by kernel_rfl) (by kernel_rfl) (by kernel_rfl) allNil allNil (t_ok FUEL) fun a=>run FUEL a.1
end F150
namespace F238
def cons:List (Nat×Con):=[]
def exts:List (Nat×Ext):=[]
def h:List (Nat×Nat×Hint):=[]
noncomputable def e (M:Nat):Env:=env cons exts h M
def s (M:Nat) (p0:Int) (p1:Int):Option D:=
 (bd (if (andI .u64 (cv .u64 p1) 31)<0 then none else some (.int .u32 (shlI .u32 p0 (andI .u64 (cv .u64 p1) 31).toNat))) fun r1=>(bd (if (sb .u64 32 (andI .u64 (cv .u64 p1) 31))<0 then none else some (.int .u32 (shrI .u32 p0 (sb .u64 32 (andI .u64 (cv .u64 p1) 31)).toNat))) fun r2=>(some (D.int .u32 (orI .u32 r1.i r2.i)))))
theorem run (M:Nat) (p0:Int) (p1:Int):callS (e M) (tblOf []) 12 (.fn 238) [.d (.int .u32) (D.int .u32 p0),.d (.int .i64) (di p1)] [] (fun v H=>finish ty [214] v H)=s M p0 p1:=by kernel_rfl
def c:Con:={ run:=fun ds=>match ds with | [p0,p1]=>s FUEL p0.i p1.i | _=>none,plain:=true }
theorem ok:ConOk (238,c):=mkC Tryz.f238 [(.int .u32),(.int .i64)] [214] (by kernel_rfl) (by kernel_rfl) (by kernel_rfl) (by kernel_rfl) allNil allNil AllOk.nil fun a=>run FUEL a.1 a.2.1
end F238
namespace F202
def cons:List (Nat×Con):=[(238,F238.c)]
def exts:List (Nat×Ext):=[]
def h:List (Nat×Nat×Hint):=[]
noncomputable def e (M:Nat):Env:=env cons exts h M
def s (M:Nat) (p0:Int) (p1:Int):Option D:=
 (bd (F238.s FUEL p0 (sb .i64 0 p1)) fun r1=>(some r1))
theorem run (M:Nat) (p0:Int) (p1:Int):callS (e M) (tblOf []) 12 (.fn 202) [.d (.int .u32) (D.int .u32 p0),.d (.int .i64) (di p1)] [] (fun v H=>finish ty [214] v H)=s M p0 p1:=by kernel_rfl
def c:Con:={ run:=fun ds=>match ds with | [p0,p1]=>s FUEL p0.i p1.i | _=>none,plain:=true }
theorem ok:ConOk (202,c):=mkC Tryz.f202 [(.int .u32),(.int .i64)] [214] (by kernel_rfl) (by kernel_rfl) (by kernel_rfl) (by kernel_rfl) (allCons F238.ok allNil) allNil AllOk.nil fun a=>run FUEL a.1 a.2.1
end F202
namespace F201
def cons:List (Nat×Con):=[(202,F202.c)]
def exts:List (Nat×Ext):=[]
def h:List (Nat×Nat×Hint):=[(201,3,{ live:=[0,2,3,7] })]
def q0_:PO:=(.var (.array 64 214) (.d (.array 64 214) .x))
noncomputable def e (M:Nat):Env:=env cons exts h M
structure S3 where
 (s1:ByteArray) (i2:Int) (d3 d4:D)
inductive X3 where
 | e0 (s1:ByteArray) (i2:Int) (d3 d4:D)
def st3 (M:Nat):S3→(S3→Option D)→(X3→Option D)→Option D
 | ⟨s1,i2,d3,d4⟩,rec,K=>(cond (ltI i2 64) (cond (ltI i2 16) (cond (inb (ml .i64 4 i2) s1.size) (cond (inb (ad .i64 (ml .i64 4 i2) 1) s1.size) (cond (inb (ad .i64 (ml .i64 4 i2) 2) s1.size) (cond (inb (ad .i64 (ml .i64 4 i2) 3) s1.size) (cond (inb i2 64) (rec ⟨s1,(ad .i64 i2 1),d3,(D.agg (d4.parts.set i2.toNat (D.int .u32 (orI .u32 (orI .u32 (orI .u32 (shlI .u32 (cv .u32 (byteAt s1 (ml .i64 4 i2).toNat)) 24) (shlI .u32 (cv .u32 (byteAt s1 (ad .i64 (ml .i64 4 i2) 1).toNat)) 16)) (shlI .u32 (cv .u32 (byteAt s1 (ad .i64 (ml .i64 4 i2) 2).toNat)) 8)) (cv .u32 (byteAt s1 (ad .i64 (ml .i64 4 i2) 3).toNat))))))⟩) none) none) none) none) none) (cond (inb (sb .i64 i2 15) 64) (cond (inb (sb .i64 i2 2) 64) (cond (inb (sb .i64 i2 16) 64) (bd (F202.s FUEL (d4.at (sb .i64 i2 15).toNat).i 7) fun r5=>(bd (F202.s FUEL (d4.at (sb .i64 i2 15).toNat).i 18) fun r6=>(cond (inb (sb .i64 i2 7) 64) (bd (F202.s FUEL (d4.at (sb .i64 i2 2).toNat).i 17) fun r7=>(bd (F202.s FUEL (d4.at (sb .i64 i2 2).toNat).i 19) fun r8=>(cond (inb i2 64) (rec ⟨s1,(ad .i64 i2 1),d3,(D.agg (d4.parts.set i2.toNat (D.int .u32 (ad .u32 (ad .u32 (ad .u32 (d4.at (sb .i64 i2 16).toNat).i (xorI .u32 (xorI .u32 r5.i r6.i) (shrI .u32 (d4.at (sb .i64 i2 15).toNat).i 3))) (d4.at (sb .i64 i2 7).toNat).i) (xorI .u32 (xorI .u32 r7.i r8.i) (shrI .u32 (d4.at (sb .i64 i2 2).toNat).i 10))))))⟩) none))) none))) none) none) none)) (K (.e0 s1 i2 d3 d4)))
def ex3 (k:Kont):X3→Option D
 | .e0 s1 i2 d3 d4=>k (.exit 0) ((vS s1)::(us 1 ((.ptr 0 [] (.array 64 214))::(.ptr 1 [] (.array 64 214))::(us 3 ((vi i2)::(vb (ltI i2 64))::(us 73 [])))))) [(.var (.array 64 214) (vk (.array 64 214) d3)),(.var (.array 64 214) (vk (.array 64 214) d4))]
def lv3:S3→List Leaf
 | ⟨s1,i2,d3,d4⟩=>[.s s1,.i i2,.d d3,.d d4]
def of3:List Leaf→Option S3
 | [.s s1,.i i2,.d d3,.d d4]=>some ⟨s1,i2,d3,d4⟩
 | _=>none
def ps3:List PV:=((.d .str .str)::(up 1 ((.ptr 0 [] (.array 64 214))::(.ptr 1 [] (.array 64 214))::(up 3 ((.d (.int .i64) (.int .i64))::(up 74 []))))))
def qs3:List PO:=[q0_,q0_]
noncomputable def t (M:Nat):List Ent:=⟨201,11,0,3,sumS [0,2,3,7] ps3 qs3 [] of3 (st3 M) ex3 M⟩::[]
theorem t_ok (M:Nat):AllOk (e M) (tblOf (t M)):=AllOk.addS (n0:=2) (lv:=lv3) AllOk.nil (by kernel_rfl) rfl (by intro ls s h;unfold of3 at h;(repeat' split at h)<;>simp at h;subst h;rfl) (by intro s;kernel_rfl) (by intro s;kernel_rfl) (by intro s nx k;kernel_rfl)
def s (M:Nat) (p0:ByteArray):Option D:=
 (goS (st3 M) M ⟨p0,0,(da (rp 64 (D.int .u32 0))),(da (rp 64 (D.int .u32 0)))⟩ fun x=>match x with | .e0 s1 i2 d3 d4=>(some d4))
theorem run (M:Nat) (p0:ByteArray):callS (e M) (tblOf (t M)) 12 (.fn 201) [.d .str (dS p0)] [] (fun v H=>finish ty [217] v H)=s M p0:=by kernel_rfl
def c:Con:={ run:=fun ds=>match ds with | [p0]=>s FUEL p0.s | _=>none,plain:=true }
theorem ok:ConOk (201,c):=mkC Tryz.f201 [.str] [217] (by kernel_rfl) (by kernel_rfl) (by kernel_rfl) (by kernel_rfl) (allCons F202.ok allNil) allNil (t_ok FUEL) fun a=>run FUEL a.1
end F201
namespace F151
def cons:List (Nat×Con):=[(201,F201.c),(202,F202.c)]
def exts:List (Nat×Ext):=[]
def h:List (Nat×Nat×Hint):=[(151,1,{ own:=true }),(151,3,{ live:=[3,4,6,7,17,18] }),(151,13,{ live:=[3,6,7,91] })]
def q0_:PO:=(.var (.array 8 214) (.d (.array 8 214) (.agg [(.int .u32),(.int .u32),(.int .u32),(.int .u32),(.int .u32),(.int .u32),(.int .u32),(.int .u32)])))
def q1_:PO:=(.var (.array 64 214) (.d (.array 64 214) .x))
def q2_:PO:=(.var (.array 8 214) (.d (.array 8 214) .x))
noncomputable def e (M:Nat):Env:=env cons exts h M
structure S3 where
 (d2:D) (i3:Int) (d4 d5:D) (i6 i7 i8 i9 i10 i11 i12 i13:Int) (b14:Bool) (l15:List D)
inductive X3 where
 | e0 (d2:D) (i3:Int) (d4 d5:D) (i6 i7 i8 i9 i10 i11 i12 i13:Int) (b14:Bool) (l15:List D)
def st3 (M:Nat):S3→(S3→Option D)→(X3→Option D)→Option D
 | ⟨d2,i3,d4,d5,i6,i7,i8,i9,i10,i11,i12,i13,b14,l15⟩,rec,K=>(cond (ltI i3 64) (cond (inb i3 64) (bd (F202.s FUEL (ix l15 4).i 6) fun r16=>(bd (F202.s FUEL (ix l15 4).i 11) fun r17=>(bd (F202.s FUEL (ix l15 4).i 25) fun r18=>(cond (inb i3 64) (bd (F202.s FUEL (ix l15 0).i 2) fun r19=>(bd (F202.s FUEL (ix l15 0).i 13) fun r20=>(bd (F202.s FUEL (ix l15 0).i 22) fun r21=>(cond (true&&true&&true&&(Nat.beq l15.length 8)) (cond (true&&true&&true&&(Nat.beq l15.length 8)) (rec ⟨d2,(ad .i64 i3 1),d4,d5,i6,i7,i8,i9,i10,i11,i12,i13,b14,(((ap (ap (l15.take 1) (((l15.drop 0).take 7).take (min ((l15.drop 0).take 7).length 7))) (l15.drop (1+(min ((l15.drop 0).take 7).length 7)))).set 0 (D.int .u32 (ad .u32 (ad .u32 (ad .u32 (ad .u32 (ad .u32 (ix l15 7).i (xorI .u32 (xorI .u32 r16.i r17.i) r18.i)) (xorI .u32 (andI .u32 (ix l15 4).i (ix l15 5).i) (andI .u32 (notI .u32 (ix l15 4).i) (ix l15 6).i))) (d5.at i3.toNat).i) (d2.at i3.toNat).i) (ad .u32 (xorI .u32 (xorI .u32 r19.i r20.i) r21.i) (xorI .u32 (xorI .u32 (andI .u32 (ix l15 0).i (ix l15 1).i) (andI .u32 (ix l15 0).i (ix l15 2).i)) (andI .u32 (ix l15 1).i (ix l15 2).i)))))).set 4 (D.int .u32 (ad .u32 (ix ((ap (ap (l15.take 1) (((l15.drop 0).take 7).take (min ((l15.drop 0).take 7).length 7))) (l15.drop (1+(min ((l15.drop 0).take 7).length 7)))).set 0 (D.int .u32 (ad .u32 (ad .u32 (ad .u32 (ad .u32 (ad .u32 (ix l15 7).i (xorI .u32 (xorI .u32 r16.i r17.i) r18.i)) (xorI .u32 (andI .u32 (ix l15 4).i (ix l15 5).i) (andI .u32 (notI .u32 (ix l15 4).i) (ix l15 6).i))) (d5.at i3.toNat).i) (d2.at i3.toNat).i) (ad .u32 (xorI .u32 (xorI .u32 r19.i r20.i) r21.i) (xorI .u32 (xorI .u32 (andI .u32 (ix l15 0).i (ix l15 1).i) (andI .u32 (ix l15 0).i (ix l15 2).i)) (andI .u32 (ix l15 1).i (ix l15 2).i)))))) 4).i (ad .u32 (ad .u32 (ad .u32 (ad .u32 (ix l15 7).i (xorI .u32 (xorI .u32 r16.i r17.i) r18.i)) (xorI .u32 (andI .u32 (ix l15 4).i (ix l15 5).i) (andI .u32 (notI .u32 (ix l15 4).i) (ix l15 6).i))) (d5.at i3.toNat).i) (d2.at i3.toNat).i))))⟩) none) none)))) none)))) none) (K (.e0 d2 i3 d4 d5 i6 i7 i8 i9 i10 i11 i12 i13 b14 l15)))
def ex3 (k:Kont):X3→Option D
 | .e0 d2 i3 d4 d5 i6 i7 i8 i9 i10 i11 i12 i13 b14 l15=>k (.exit 0) ((us 3 ((.ptr 0 [] (.array 8 214))::(.ptr 1 [] (.array 64 214))::(us 1 ((.ptr 2 [] (.array 8 214))::(.ptr 3 [] (.array 8 214))::(us 9 ((vk (.array 64 214) d2)::(vi i3)::(vb (ltI i3 64))::(us 84 [])))))))) [(.var (.array 8 214) (vk (.array 8 214) d4)),(.var (.array 64 214) (vk (.array 64 214) d5)),(.var (.array 8 214) (vk (.array 8 214) (da [(D.int .u32 i6),(D.int .u32 i7),(D.int .u32 i8),(D.int .u32 i9),(D.int .u32 i10),(D.int .u32 i11),(D.int .u32 i12),(D.int .u32 i13)]))),(.row 214 true b14 l15)]
def lv3:S3→List Leaf
 | ⟨d2,i3,d4,d5,i6,i7,i8,i9,i10,i11,i12,i13,b14,l15⟩=>[.d d2,.i i3,.d d4,.d d5,.i i6,.i i7,.i i8,.i i9,.i i10,.i i11,.i i12,.i i13,.b b14,.l l15]
def of3:List Leaf→Option S3
 | [.d d2,.i i3,.d d4,.d d5,.i i6,.i i7,.i i8,.i i9,.i i10,.i i11,.i i12,.i i13,.b b14,.l l15]=>some ⟨d2,i3,d4,d5,i6,i7,i8,i9,i10,i11,i12,i13,b14,l15⟩
 | _=>none
def ps3:List PV:=((up 3 ((.ptr 0 [] (.array 8 214))::(.ptr 1 [] (.array 64 214))::(up 1 ((.ptr 2 [] (.array 8 214))::(.ptr 3 [] (.array 8 214))::(up 9 ((.d (.array 64 214) .x)::(.d (.int .i64) (.int .i64))::(up 85 []))))))))
def qs3:List PO:=[q2_,q1_,q0_,(.row 214 true)]
noncomputable def t1 (M:Nat):List Ent:=⟨151,11,0,3,sumS [3,4,6,7,17,18] ps3 qs3 [] of3 (st3 M) ex3 M⟩::[]
theorem t1_ok (M:Nat):AllOk (e M) (tblOf (t1 M)):=AllOk.addS (n0:=4) (lv:=lv3) AllOk.nil (by kernel_rfl) rfl (by intro ls s h;unfold of3 at h;(repeat' split at h)<;>simp at h;subst h;rfl) (by intro s;kernel_rfl) (by intro s;kernel_rfl) (by intro s nx k;kernel_rfl)
structure S13 where
 (i22:Int) (d23 d24:D) (i25 i26 i27 i28 i29 i30 i31 i32:Int) (b33:Bool) (l34:List D)
inductive X13 where
 | e0 (i22:Int) (d23 d24:D) (i25 i26 i27 i28 i29 i30 i31 i32:Int) (b33:Bool) (l34:List D)
def st13 (M:Nat):S13→(S13→Option D)→(X13→Option D)→Option D
 | ⟨i22,d23,d24,i25,i26,i27,i28,i29,i30,i31,i32,b33,l34⟩,rec,K=>(cond (ltI i22 8) (cond (inb i22 8) (cond (inb i22 8) (cond (inb i22 8) (rec ⟨(ad .i64 i22 1),(D.agg (d23.parts.set i22.toNat (D.int .u32 (ad .u32 (d23.at i22.toNat).i (ix l34 i22.toNat).i)))),d24,i25,i26,i27,i28,i29,i30,i31,i32,b33,l34⟩) none) none) none) (K (.e0 i22 d23 d24 i25 i26 i27 i28 i29 i30 i31 i32 b33 l34)))
def ex13 (k:Kont):X13→Option D
 | .e0 i22 d23 d24 i25 i26 i27 i28 i29 i30 i31 i32 b33 l34=>k (.exit 2) ((us 3 ((.ptr 0 [] (.array 8 214))::(us 2 ((.ptr 2 [] (.array 8 214))::(.ptr 3 [] (.array 8 214))::(us 83 ((vi i22)::(vb (ltI i22 8))::(us 11 [])))))))) [(.var (.array 8 214) (vk (.array 8 214) d23)),(.var (.array 64 214) (vk (.array 64 214) d24)),(.var (.array 8 214) (vk (.array 8 214) (da [(D.int .u32 i25),(D.int .u32 i26),(D.int .u32 i27),(D.int .u32 i28),(D.int .u32 i29),(D.int .u32 i30),(D.int .u32 i31),(D.int .u32 i32)]))),(.row 214 true b33 l34)]
def lv13:S13→List Leaf
 | ⟨i22,d23,d24,i25,i26,i27,i28,i29,i30,i31,i32,b33,l34⟩=>[.i i22,.d d23,.d d24,.i i25,.i i26,.i i27,.i i28,.i i29,.i i30,.i i31,.i i32,.b b33,.l l34]
def of13:List Leaf→Option S13
 | [.i i22,.d d23,.d d24,.i i25,.i i26,.i i27,.i i28,.i i29,.i i30,.i i31,.i i32,.b b33,.l l34]=>some ⟨i22,d23,d24,i25,i26,i27,i28,i29,i30,i31,i32,b33,l34⟩
 | _=>none
def ps13:List PV:=((up 3 ((.ptr 0 [] (.array 8 214))::(up 2 ((.ptr 2 [] (.array 8 214))::(.ptr 3 [] (.array 8 214))::(up 83 ((.d (.int .i64) (.int .i64))::(up 12 []))))))))
def qs13:List PO:=[q2_,q1_,q0_,(.row 214 true)]
noncomputable def t (M:Nat):List Ent:=⟨151,11,0,13,sumS [3,6,7,91] ps13 qs13 [] of13 (st13 M) ex13 M⟩::t1 M
theorem t_ok (M:Nat):AllOk (e M) (tblOf (t M)):=AllOk.addS (n0:=4) (lv:=lv13) (t1_ok M) (by kernel_rfl) rfl (by intro ls s h;unfold of13 at h;(repeat' split at h)<;>simp at h;subst h;rfl) (by intro s;kernel_rfl) (by intro s;kernel_rfl) (by intro s nx k;kernel_rfl)
def s (M:Nat) (p0:D) (p1:D) (p2:ByteArray):Option D:=
 (cond (Nat.beq p0.parts.length 8) (bd (F201.s FUEL p2) fun r1=>(goS (st3 M) M ⟨r1,0,p0,p1,0,0,0,0,0,0,0,0,true,p0.parts⟩ fun x=>match x with | .e0 d2 i3 d4 d5 i6 i7 i8 i9 i10 i11 i12 i13 b14 l15=>(goS (st13 M) M ⟨0,d4,d5,i6,i7,i8,i9,i10,i11,i12,i13,b14,l15⟩ fun x=>match x with | .e0 i22 d23 d24 i25 i26 i27 i28 i29 i30 i31 i32 b33 l34=>(some d23)))) none)
theorem run (M:Nat) (p0:D) (p1:D) (p2:ByteArray):callS (e M) (tblOf (t M)) 12 (.fn 151) [.d (.array 8 214) p0,.d (.array 64 214) p1,.d .str (dS p2)] [] (fun v H=>finish ty [215] v H)=s M p0 p1 p2:=by kernel_rfl
def c:Con:={ run:=fun ds=>match ds with | [p0,p1,p2]=>s FUEL p0 p1 p2.s | _=>none,plain:=true }
theorem ok:ConOk (151,c):=mkC Tryz.f151 [(.array 8 214),(.array 64 214),.str] [215] (by kernel_rfl) (by kernel_rfl) (by kernel_rfl) (by kernel_rfl) (allCons F201.ok (allCons F202.ok allNil)) allNil (t_ok FUEL) fun a=>run FUEL a.1 a.2.1 a.2.2.1
end F151
namespace F93
def cons:List (Nat×Con):=[(149,F149.c),(150,F150.c),(151,F151.c)]
def exts:List (Nat×Ext):=[]
def h:List (Nat×Nat×Hint):=[(93,3,{ live:=[2,3,4,5] }),(93,8,{ live:=[2,3,6,24] })]
def q0_:PO:=(.var (.array 64 214) (.d (.array 64 214) .x))
def q1_:PO:=(.var (.array 8 214) (.d (.array 8 214) .x))
def q2_:PO:=(.var (.array 32 5) (.d (.array 32 5) .x))
noncomputable def e (M:Nat):Env:=env cons exts h M
structure S3 where
 (d3 d4 d5 d6:D)
inductive X3 where
 | e0 (d3 d4 d5 d6:D)
def st3 (M:Nat):S3→(S3→Option D)→(X3→Option D)→Option D
 | ⟨d3,d4,d5,d6⟩,rec,K=>(cond (gtI (nI d3.s.size) 0) (cond (true&&true&&(leI 64 (nI d3.s.size))&&(leI (nI d3.s.size) (nI d3.s.size))) (bd (F151.s FUEL d5 d6 (d3.s.extract 0 64)) fun r7=>(cond (true&&(leI 64 (nI d3.s.size))&&(leI (nI d3.s.size) (nI d3.s.size))&&(leI (nI d3.s.size) (nI d3.s.size))) (rec ⟨(dS (d3.s.extract 64 d3.s.size)),d4,r7,d6⟩) none)) none) (K (.e0 d3 d4 d5 d6)))
def ex3 (k:Kont):X3→Option D
 | .e0 d3 d4 d5 d6=>k (.exit 0) ((us 2 ((.ptr 0 [] (.array 32 5))::(.ptr 1 [] (.array 8 214))::(.ptr 2 [] (.array 64 214))::(vk .str d3)::(us 8 ((vk .str d3)::(vi (nI d3.s.size))::(vb (gtI (nI d3.s.size) 0))::(us 24 [])))))) [(.var (.array 32 5) (vk (.array 32 5) d4)),(.var (.array 8 214) (vk (.array 8 214) d5)),(.var (.array 64 214) (vk (.array 64 214) d6))]
def lv3:S3→List Leaf
 | ⟨d3,d4,d5,d6⟩=>[.d d3,.d d4,.d d5,.d d6]
def of3:List Leaf→Option S3
 | [.d d3,.d d4,.d d5,.d d6]=>some ⟨d3,d4,d5,d6⟩
 | _=>none
def ps3:List PV:=((up 2 ((.ptr 0 [] (.array 32 5))::(.ptr 1 [] (.array 8 214))::(.ptr 2 [] (.array 64 214))::(.d .str .x)::(up 35 []))))
def qs3:List PO:=[q2_,q1_,q0_]
noncomputable def t1 (M:Nat):List Ent:=⟨93,11,0,3,sumS [2,3,4,5] ps3 qs3 [] of3 (st3 M) ex3 M⟩::[]
theorem t1_ok (M:Nat):AllOk (e M) (tblOf (t1 M)):=AllOk.addS (n0:=3) (lv:=lv3) AllOk.nil (by kernel_rfl) rfl (by intro ls s h;unfold of3 at h;(repeat' split at h)<;>simp at h;subst h;rfl) (by intro s;kernel_rfl) (by intro s;kernel_rfl) (by intro s nx k;kernel_rfl)
structure S8 where
 (i8:Int) (d9 d10 d11 d12:D)
inductive X8 where
 | e0 (i8:Int) (d9 d10 d11 d12:D)
def st8 (M:Nat):S8→(S8→Option D)→(X8→Option D)→Option D
 | ⟨i8,d9,d10,d11,d12⟩,rec,K=>(cond (ltI i8 32) (cond (inb (quoI .i64 i8 4) 8) (bd (if (sb .i64 24 (ml .i64 8 (remI i8 4)))<0 then none else some (.int .u32 (shrI .u32 (d10.at (quoI .i64 i8 4).toNat).i (sb .i64 24 (ml .i64 8 (remI i8 4))).toNat))) fun r13=>(cond (inb i8 32) (rec ⟨(ad .i64 i8 1),d9,d10,d11,(D.agg (d12.parts.set i8.toNat (D.int .u8 (cv .u8 r13.i))))⟩) none)) none) (K (.e0 i8 d9 d10 d11 d12)))
def ex8 (k:Kont):X8→Option D
 | .e0 i8 d9 d10 d11 d12=>k (.exit 2) ((us 2 ((.ptr 0 [] (.array 32 5))::(.ptr 1 [] (.array 8 214))::(us 2 ((.ptr 3 [] (.array 32 5))::(us 17 ((vi i8)::(vb (ltI i8 32))::(us 15 [])))))))) [(.var (.array 32 5) (vk (.array 32 5) d9)),(.var (.array 8 214) (vk (.array 8 214) d10)),(.var (.array 64 214) (vk (.array 64 214) d11)),(.var (.array 32 5) (vk (.array 32 5) d12))]
def lv8:S8→List Leaf
 | ⟨i8,d9,d10,d11,d12⟩=>[.i i8,.d d9,.d d10,.d d11,.d d12]
def of8:List Leaf→Option S8
 | [.i i8,.d d9,.d d10,.d d11,.d d12]=>some ⟨i8,d9,d10,d11,d12⟩
 | _=>none
def ps8:List PV:=((up 2 ((.ptr 0 [] (.array 32 5))::(.ptr 1 [] (.array 8 214))::(up 2 ((.ptr 3 [] (.array 32 5))::(up 17 ((.d (.int .i64) (.int .i64))::(up 16 []))))))))
def qs8:List PO:=[q2_,q1_,q0_,q2_]
noncomputable def t (M:Nat):List Ent:=⟨93,11,0,8,sumS [2,3,6,24] ps8 qs8 [] of8 (st8 M) ex8 M⟩::t1 M
theorem t_ok (M:Nat):AllOk (e M) (tblOf (t M)):=AllOk.addS (n0:=4) (lv:=lv8) (t1_ok M) (by kernel_rfl) rfl (by intro ls s h;unfold of8 at h;(repeat' split at h)<;>simp at h;subst h;rfl) (by intro s;kernel_rfl) (by intro s;kernel_rfl) (by intro s nx k;kernel_rfl)
def s (M:Nat) (p0:ByteArray):Option D:=
 (bd (F149.s FUEL) fun r1=>(bd (F150.s FUEL p0) fun r2=>(goS (st3 M) M ⟨r2,(da (rp 32 (D.int .u8 0))),(r1.at 0),(r1.at 1)⟩ fun x=>match x with | .e0 d3 d4 d5 d6=>(goS (st8 M) M ⟨0,d4,d5,d6,(da (rp 32 (D.int .u8 0)))⟩ fun x=>match x with | .e0 i8 d9 d10 d11 d12=>(some d12)))))
theorem run (M:Nat) (p0:ByteArray):callS (e M) (tblOf (t M)) 12 (.fn 93) [.d .str (dS p0)] [] (fun v H=>finish ty [30] v H)=s M p0:=by kernel_rfl
def c:Con:={ run:=fun ds=>match ds with | [p0]=>s FUEL p0.s | _=>none,plain:=true }
theorem ok:ConOk (93,c):=mkC Tryz.f93 [.str] [30] (by kernel_rfl) (by kernel_rfl) (by kernel_rfl) (by kernel_rfl) (allCons F149.ok (allCons F150.ok (allCons F151.ok allNil))) allNil (t_ok FUEL) fun a=>run FUEL a.1
end F93
namespace F229
def cons:List (Nat×Con):=[(93,F93.c)]
def exts:List (Nat×Ext):=[]
def h:List (Nat×Nat×Hint):=[]
noncomputable def e (M:Nat):Env:=env cons exts h M
def s (M:Nat) (p0:D) (p1:D):Option D:=
 (cond (eqI (p1.at 0).i 1) (some (da [(p1.at 0),(p0.at 0),(dS (bs [])),(di 0),(di (nI (p1.at 2).s.size)),(da (rp 32 (D.int .u8 0)))])) (cond (eqI (p1.at 0).i 2) (bd (F93.s FUEL (p0.at 2).s) fun r1=>(some (da [(p1.at 0),(p0.at 0),(dS (bs [])),(p1.at 3),(di (nI (p0.at 2).s.size)),r1]))) (cond (eqI (p1.at 0).i 3) (some (da [(p1.at 0),(p0.at 0),(dS (bs [])),(p1.at 3),(di 0),(da (rp 32 (D.int .u8 0)))])) (cond (eqI (p1.at 0).i 4) (cond (eqI (p1.at 0).i 4) (some (da [(p1.at 0),(p0.at 0),(p1.at 2),(di 0),(di 0),(da (rp 32 (D.int .u8 0)))])) (some (da [(p1.at 0),(p0.at 0),(dS (bs [])),(di 0),(di 0),(da (rp 32 (D.int .u8 0)))]))) (cond (eqI (p1.at 0).i 5) (some (da [(p1.at 0),(p0.at 0),(p1.at 2),(di 0),(di 0),(da (rp 32 (D.int .u8 0)))])) (some (da [(p1.at 0),(p0.at 0),(dS (bs [])),(di 0),(di 0),(da (rp 32 (D.int .u8 0)))])))))))
theorem run (M:Nat) (p0:D) (p1:D):callS (e M) (tblOf []) 12 (.fn 229) [.d (.struct [3,9,9,4,3,66]) p0,.d (.struct [28,9,9,3,3,3]) p1] [] (fun v H=>finish ty [32] v H)=s M p0 p1:=by kernel_rfl
def c:Con:={ run:=fun ds=>match ds with | [p0,p1]=>s FUEL p0 p1 | _=>none,plain:=true }
theorem ok:ConOk (229,c):=mkC Tryz.f229 [(.struct [3,9,9,4,3,66]),(.struct [28,9,9,3,3,3])] [32] (by kernel_rfl) (by kernel_rfl) (by kernel_rfl) (by kernel_rfl) (allCons F93.ok allNil) allNil AllOk.nil fun a=>run FUEL a.1 a.2.1
end F229
namespace F176
def cons:List (Nat×Con):=[(182,F182.c),(213,F213.c),(216,F216.c),(218,F218.c),(220,F220.c),(228,F228.c),(229,F229.c),(253,F253.c)]
def exts:List (Nat×Ext):=[]
def h:List (Nat×Nat×Hint):=[]
noncomputable def e (M:Nat):Env:=env cons exts h M
def s (M:Nat) (p0:D) (p1:D) (p2:Int):Option D:=
 (cond (eqI (p1.at 0).i 1) (cond (eqI (p1.at 0).i 0) (some (D.tup [p0,(da [(di 0),(di 0),(dS (bs [])),(di 0),(di 0),(da (rp 32 (D.int .u8 0)))]),(di 4)])) (cond (eqI (p1.at 0).i 6) none (bd (F253.s FUEL p0 (p1.at 2).s) fun r1=>(cond (neI (r1.at 1).i 0) (some (D.tup [p0,(da [(di 0),(di 0),(dS (bs [])),(di 0),(di 0),(da (rp 32 (D.int .u8 0)))]),(r1.at 1)])) (bd (F229.s FUEL p0 p1) fun r2=>(some (D.tup [(r1.at 0),r2,(di 0)]))))))) (cond (eqI (p1.at 0).i 4) (cond (eqI (p1.at 0).i 0) (some (D.tup [p0,(da [(di 0),(di 0),(dS (bs [])),(di 0),(di 0),(da (rp 32 (D.int .u8 0)))]),(di 4)])) (cond (eqI (p1.at 0).i 6) none (bd (F218.s FUEL p0 (p1.at 2).s) fun r3=>(cond (neI (r3.at 1).i 0) (some (D.tup [p0,(da [(di 0),(di 0),(dS (bs [])),(di 0),(di 0),(da (rp 32 (D.int .u8 0)))]),(r3.at 1)])) (bd (F229.s FUEL p0 p1) fun r4=>(some (D.tup [(r3.at 0),r4,(di 0)]))))))) (cond (eqI (p1.at 0).i 5) (cond (eqI (p1.at 0).i 0) (some (D.tup [p0,(da [(di 0),(di 0),(dS (bs [])),(di 0),(di 0),(da (rp 32 (D.int .u8 0)))]),(di 4)])) (cond (eqI (p1.at 0).i 6) none (bd (F220.s FUEL p0 (p1.at 2).s) fun r5=>(cond (neI (r5.at 1).i 0) (some (D.tup [p0,(da [(di 0),(di 0),(dS (bs [])),(di 0),(di 0),(da (rp 32 (D.int .u8 0)))]),(r5.at 1)])) (bd (F229.s FUEL p0 p1) fun r6=>(some (D.tup [(r5.at 0),r6,(di 0)]))))))) (cond (eqI (p1.at 0).i 2) (cond (eqI (p1.at 0).i 0) (some (D.tup [p0,(da [(di 0),(di 0),(dS (bs [])),(di 0),(di 0),(da (rp 32 (D.int .u8 0)))]),(di 4)])) (cond (eqI (p1.at 0).i 6) none (bd (F213.s FUEL p0 (p1.at 3).i) fun r7=>(cond (neI (r7.at 1).i 0) (some (D.tup [p0,(da [(di 0),(di 0),(dS (bs [])),(di 0),(di 0),(da (rp 32 (D.int .u8 0)))]),(r7.at 1)])) (bd (F229.s FUEL p0 p1) fun r8=>(some (D.tup [(r7.at 0),r8,(di 0)]))))))) (cond (eqI (p1.at 0).i 3) (cond (eqI (p1.at 0).i 0) (some (D.tup [p0,(da [(di 0),(di 0),(dS (bs [])),(di 0),(di 0),(da (rp 32 (D.int .u8 0)))]),(di 4)])) (cond (eqI (p1.at 0).i 6) none (bd (F216.s FUEL p0 (p1.at 3).i) fun r9=>(cond (neI (r9.at 1).i 0) (some (D.tup [p0,(da [(di 0),(di 0),(dS (bs [])),(di 0),(di 0),(da (rp 32 (D.int .u8 0)))]),(r9.at 1)])) (bd (F229.s FUEL p0 p1) fun r10=>(some (D.tup [(r9.at 0),r10,(di 0)]))))))) (cond (eqI (p1.at 0).i 6) (cond (eqI (p1.at 0).i 0) (some (D.tup [p0,(da [(di 0),(di 0),(dS (bs [])),(di 0),(di 0),(da (rp 32 (D.int .u8 0)))]),(di 4)])) (cond (eqI (p1.at 0).i 6) (bd (F182.s FUEL p0 p2) fun r11=>(cond (neI r11.i 0) (some (D.tup [p0,(da [(di 0),(di 0),(dS (bs [])),(di 0),(di 0),(da (rp 32 (D.int .u8 0)))]),r11])) (bd (F229.s FUEL p0 p1) fun r12=>(some (D.tup [(da [(di 0),(dS (bs [])),(dS (bs [])),(db false),(di 0),(dl false [])]),r12,(di 0)]))))) none)) (cond (eqI (p1.at 0).i 0) (some (D.tup [p0,(da [(di 0),(di 0),(dS (bs [])),(di 0),(di 0),(da (rp 32 (D.int .u8 0)))]),(di 4)])) (some (D.tup [p0,(da [(di 0),(di 0),(dS (bs [])),(di 0),(di 0),(da (rp 32 (D.int .u8 0)))]),(di 1)])))))))))
theorem run (M:Nat) (p0:D) (p1:D) (p2:Int):callS (e M) (tblOf []) 12 (.fn 176) [.d (.struct [3,9,9,4,3,66]) p0,.d (.struct [28,9,9,3,3,3]) p1,.d (.int .i64) (di p2)] [] (fun v H=>finish ty [68,32,65] v H)=s M p0 p1 p2:=by kernel_rfl
def c:Con:={ run:=fun ds=>match ds with | [p0,p1,p2]=>s FUEL p0 p1 p2.i | _=>none }
theorem ok:ConOk (176,c):=mkC Tryz.f176 [(.struct [3,9,9,4,3,66]),(.struct [28,9,9,3,3,3]),(.int .i64)] [68,32,65] (by kernel_rfl) (by kernel_rfl) (by kernel_rfl) (by kernel_rfl) (allCons F182.ok (allCons F213.ok (allCons F216.ok (allCons F218.ok (allCons F220.ok (allCons F228.ok (allCons F229.ok (allCons F253.ok allNil)))))))) allNil AllOk.nil fun a=>run FUEL a.1 a.2.1 a.2.2.1
end F176
namespace F178
def cons:List (Nat×Con):=[]
def exts:List (Nat×Ext):=[]
def h:List (Nat×Nat×Hint):=[]
noncomputable def e (M:Nat):Env:=env cons exts h M
def s (M:Nat) (p0:Int) (p1:Int):Option D:=
 (some (di (maxi p0 (mini (maxi p1 0) 1099511627776))))
theorem run (M:Nat) (p0:Int) (p1:Int):callS (e M) (tblOf []) 12 (.fn 178) [.d (.int .i64) (di p0),.d (.int .i64) (di p1)] [] (fun v H=>finish ty [3] v H)=s M p0 p1:=by kernel_rfl
def c:Con:={ run:=fun ds=>match ds with | [p0,p1]=>s FUEL p0.i p1.i | _=>none,plain:=true }
theorem ok:ConOk (178,c):=mkC Tryz.f178 [(.int .i64),(.int .i64)] [3] (by kernel_rfl) (by kernel_rfl) (by kernel_rfl) (by kernel_rfl) allNil allNil AllOk.nil fun a=>run FUEL a.1 a.2.1
end F178
namespace F179
def cons:List (Nat×Con):=[(182,F182.c)]
def exts:List (Nat×Ext):=[]
def h:List (Nat×Nat×Hint):=[(179,4,{ live:=[5] }),(254,1,{ live:=[0,2,6,7,8],rows:=[(1048576,3)] })]
noncomputable def e (M:Nat):Env:=env cons exts h M
structure S254_1 where
 (d1:D) (i2 i3:Int) (n4 n5:Nat) (d6:D) (i7:Int) (b8:Bool) (l9:List D)
inductive X254_1 where
 | e0 (d1:D) (i2 i3:Int) (n4 n5:Nat) (d6:D) (i7:Int) (b8:Bool) (l9:List D)
def st254_1 (M:Nat):S254_1→(S254_1→Option D)→(X254_1→Option D)→Option D
 | ⟨d1,i2,i3,n4,n5,d6,i7,b8,l9⟩,rec,K=>(cond (ltI i3 i2) (cond (inb i3 d1.elems.length) (bd (F182.s FUEL (ix d1.elems i3.toNat) i7) fun r10=>(cond (eqI r10.i 0) (cond (mx (n5+1)) (rec ⟨d1,i2,(ad .i64 i3 1),0,(n5+1),d6,i7,(b8||true),(ap ((l9.drop n4).take n5) [((ix d1.elems i3.toNat).at 0)])⟩) none) (rec ⟨d1,i2,(ad .i64 i3 1),n4,n5,d6,i7,b8,l9⟩))) none) (K (.e0 d1 i2 i3 n4 n5 d6 i7 b8 l9)))
def ex254_1 (k:Kont):X254_1→Option D
 | .e0 d1 i2 i3 n4 n5 d6 i7 b8 l9=>k (.exit 0) ((.yield 3)::(us 1 ((.ptr 2 [] (.int .i64))::(us 3 ((vk (.slice 68) d1)::(vi i2)::(vi i3)::(vb (ltI i3 i2))::(us 13 [])))))) [(.var (.slice 3) (.sref 4 n4 n5)),(.var (.slice 68) (vk (.slice 68) d6)),(.var (.int .i64) (vi i7)),(.loop .ready 179 4 (.tup ((us 5 ((.ptr 0 [] (.slice 3))::(us 11 [])))))),(.row 3 true b8 l9)]
def lv254_1:S254_1→List Leaf
 | ⟨d1,i2,i3,n4,n5,d6,i7,b8,l9⟩=>[.d d1,.i i2,.i i3,.n n4,.n n5,.d d6,.i i7,.b b8,.l l9]
def of254_1:List Leaf→Option S254_1
 | [.d d1,.i i2,.i i3,.n n4,.n n5,.d d6,.i i7,.b b8,.l l9]=>some ⟨d1,i2,i3,n4,n5,d6,i7,b8,l9⟩
 | _=>none
def ps254_1:List PV:=((.yield 3)::(up 1 ((.ptr 2 [] (.int .i64))::(up 3 ((.d (.slice 68) .x)::(.d (.int .i64) (.int .i64))::(.d (.int .i64) (.int .i64))::(up 14 []))))))
def qs254_1:List PO:=[(.var (.slice 3) (.sref 4)),(.var (.slice 68) (.d (.slice 68) .x)),(.var (.int .i64) (.d (.int .i64) (.int .i64))),(.loop false 179 4 (.tup ((up 5 ((.ptr 0 [] (.slice 3))::(up 11 [])))))),(.row 3 true)]
noncomputable def t (M:Nat):List Ent:=⟨254,10,4,1,sumS [0,2,6,7,8] ps254_1 qs254_1 [(1048576,4)] of254_1 (st254_1 M) ex254_1 M⟩::[]
theorem t_ok (M:Nat):AllOk (e M) (tblOf (t M)):=AllOk.addS (n0:=5) (lv:=lv254_1) AllOk.nil (by kernel_rfl) rfl (by intro ls s h;unfold of254_1 at h;(repeat' split at h)<;>simp at h;subst h;rfl) (by intro s;kernel_rfl) (by intro s;kernel_rfl) (by intro s nx k;kernel_rfl)
def s (M:Nat) (p0:D) (p1:Int):Option D:=
 (goS (st254_1 M) M ⟨p0,(nI p0.elems.length),0,0,0,p0,p1,false,[]⟩ fun x=>match x with | .e0 d1 i2 i3 n4 n5 d6 i7 b8 l9=>(cond ((decide (n5=l9.length))&&(decide (n4=0))) (some (.slice b8 l9)) none))
theorem run (M:Nat) (p0:D) (p1:Int):callS (e M) (tblOf (t M)) 12 (.fn 179) [.d (.slice 68) p0,.d (.int .i64) (di p1)] [] (fun v H=>finishFresh ty [81] v H)=s M p0 p1:=by kernel_rfl
def c:Con:={ run:=fun ds=>match ds with | [p0,p1]=>s FUEL p0 p1.i | _=>none,fresh:=true }
theorem ok:ConOk (179,c):=mkF Tryz.f179 [(.slice 68),(.int .i64)] [81] (by kernel_rfl) (by kernel_rfl) (by kernel_rfl) (allCons F182.ok allNil) allNil (t_ok FUEL) fun a=>run FUEL a.1 a.2.1
end F179
namespace F183
def cons:List (Nat×Con):=[]
def exts:List (Nat×Ext):=[]
def h:List (Nat×Nat×Hint):=[]
noncomputable def e (M:Nat):Env:=env cons exts h M
def s (M:Nat) (p0:D) (p1:Int) (p2:Int):Option D:=
 (cond (ltI p1 0) (some (D.tup [(dS (bs [])),(di 1)])) (cond (ltI p2 p1) (some (D.tup [(dS (bs [])),(di 1)])) (cond (gtI p2 (nI (p0.at 2).s.size)) (some (D.tup [(dS (bs [])),(di 1)])) (cond ((leI 0 p1)&&(leI p1 p2)&&(leI p2 (nI (p0.at 2).s.size))&&(leI (nI (p0.at 2).s.size) (nI (p0.at 2).s.size))) (some (D.tup [(dS ((p0.at 2).s.extract p1.toNat p2.toNat)),(di 0)])) none))))
theorem run (M:Nat) (p0:D) (p1:Int) (p2:Int):callS (e M) (tblOf []) 12 (.fn 183) [.d (.struct [3,9,9,4,3,66]) p0,.d (.int .i64) (di p1),.d (.int .i64) (di p2)] [] (fun v H=>finish ty [9,65] v H)=s M p0 p1 p2:=by kernel_rfl
def c:Con:={ run:=fun ds=>match ds with | [p0,p1,p2]=>s FUEL p0 p1.i p2.i | _=>none,plain:=true }
theorem ok:ConOk (183,c):=mkC Tryz.f183 [(.struct [3,9,9,4,3,66]),(.int .i64),(.int .i64)] [9,65] (by kernel_rfl) (by kernel_rfl) (by kernel_rfl) (by kernel_rfl) allNil allNil AllOk.nil fun a=>run FUEL a.1 a.2.1 a.2.2.1
end F183
namespace F184
def cons:List (Nat×Con):=[]
def exts:List (Nat×Ext):=[]
def h:List (Nat×Nat×Hint):=[]
noncomputable def e (M:Nat):Env:=env cons exts h M
def s (M:Nat) (p0:D):Option D:=
 (some (D.agg (p0.parts.set 2 (dS (bs [])))))
theorem run (M:Nat) (p0:D):callS (e M) (tblOf []) 12 (.fn 184) [.d (.struct [3,9,9,4,3,66]) p0] [] (fun v H=>finish ty [68] v H)=s M p0:=by kernel_rfl
def c:Con:={ run:=fun ds=>match ds with | [p0]=>s FUEL p0 | _=>none }
theorem ok:ConOk (184,c):=mkC Tryz.f184 [(.struct [3,9,9,4,3,66])] [68] (by kernel_rfl) (by kernel_rfl) (by kernel_rfl) (by kernel_rfl) allNil allNil AllOk.nil fun a=>run FUEL a.1
end F184
namespace F186
def cons:List (Nat×Con):=[(165,F165.c)]
def exts:List (Nat×Ext):=[]
def h:List (Nat×Nat×Hint):=[]
noncomputable def e (M:Nat):Env:=env cons exts h M
def s (M:Nat) (p0:ByteArray) (p1:ByteArray):Option D:=
 (bd (F165.s FUEL p0 p1) fun r1=>(cond r1.b (some (di (-1))) (bd (F165.s FUEL p1 p0) fun r2=>(cond r2.b (some (di 1)) (some (di 0))))))
theorem run (M:Nat) (p0:ByteArray) (p1:ByteArray):callS (e M) (tblOf []) 12 (.fn 186) [.d .str (dS p0),.d .str (dS p1)] [] (fun v H=>finish ty [3] v H)=s M p0 p1:=by kernel_rfl
def c:Con:={ run:=fun ds=>match ds with | [p0,p1]=>s FUEL p0.s p1.s | _=>none,plain:=true }
theorem ok:ConOk (186,c):=mkC Tryz.f186 [.str,.str] [3] (by kernel_rfl) (by kernel_rfl) (by kernel_rfl) (by kernel_rfl) (allCons F165.ok allNil) allNil AllOk.nil fun a=>run FUEL a.1 a.2.1
end F186
namespace F30
def k0_:K:=(.struct [22,3,3])
def k1_:K:=(.struct [24,74,25])
def k2_:K:=(.struct [28,9,9,3,3,3])
def k3_:K:=(.struct [3,9,9,4,3,66])
def k4_:K:=(.struct [65,3,9,68,66])
def cons:List (Nat×Con):=[(31,F31.c),(77,F77.c),(164,F164.c),(174,F174.c),(175,F175.c),(176,F176.c),(178,F178.c),(179,F179.c),(182,F182.c),(183,F183.c),(184,F184.c),(186,F186.c),(256,voidC)]
def exts:List (Nat×Ext):=[]
def h:List (Nat×Nat×Hint):=[(78,2,{ live:=[0,1,7,8] }),(126,3,{ live:=[1,2,3,17,18,19],rows:=[(1060868,32)] }),(129,3,{ live:=[2,3,10,11,12],rows:=[(3,9)] }),(177,5,{ inpl:=true }),(180,5,{ live:=[0,1,5,6] }),(231,2,{ live:=[0,1,2,6,7,8] }),(231,7,{ live:=[0,1,2,6] }),(231,9,{ live:=[0,1,2,6,7,8] }),(255,1,{ live:=[0,1,2,3,8] }),(255,4,{ live:=[0,1,2,3,8,9] })]
def o0_:AObj:=(.var (.array 12 143) (.agg (.array 12 143) [(.func (.func 123) [(.ptr 4 [] k1_)] []),(.func (.func 124) [(.ptr 4 [] k1_)] []),(.func (.func 124) [(.ptr 4 [] k1_)] []),(.func (.func 124) [(.ptr 4 [] k1_)] []),(.func (.func 124) [(.ptr 4 [] k1_)] []),(.func (.func 124) [(.ptr 4 [] k1_)] []),(.func (.func 124) [(.ptr 4 [] k1_)] []),(.func (.func 125) [(.ptr 4 [] k1_)] []),(.func (.func 126) [(.ptr 4 [] k1_)] []),(.func (.func 127) [(.ptr 4 [] k1_)] []),(.func (.func 128) [(.ptr 4 [] k1_)] []),(.func (.func 129) [(.ptr 4 [] k1_)] [])]))
def o1_:AObj:=(.var (.ptr 142) (.ptr 4 [] k1_))
def q0_:PO:=(.var (.array 12 143) (.agg (.array 12 143) [(.func 123 [(.ptr 4 [] k1_)] []),(.func 124 [(.ptr 4 [] k1_)] []),(.func 124 [(.ptr 4 [] k1_)] []),(.func 124 [(.ptr 4 [] k1_)] []),(.func 124 [(.ptr 4 [] k1_)] []),(.func 124 [(.ptr 4 [] k1_)] []),(.func 124 [(.ptr 4 [] k1_)] []),(.func 125 [(.ptr 4 [] k1_)] []),(.func 126 [(.ptr 4 [] k1_)] []),(.func 127 [(.ptr 4 [] k1_)] []),(.func 128 [(.ptr 4 [] k1_)] []),(.func 129 [(.ptr 4 [] k1_)] [])]))
def q1_:PO:=(.var k4_ (.d k4_ (.agg [(.int .i64),(.int .i64),.str,(.agg [(.int .i64),.str,.str,.bool,(.int .i64),.slice]),.slice])))
def q2_:PO:=(.var k1_ (.agg k1_ [(.d k0_ .x),(.d k2_ .x),(.sref 10)]))
def q3_:PO:=(.var k0_ (.d k0_ (.agg [.slice,(.int .i64),(.int .i64)])))
def q4_:PO:=(.var k1_ (.d k1_ (.agg [.x,.x,.slice])))
def q5_:PO:=(.var k2_ (.d k2_ .x))
def q6_:PO:=(.var k0_ (.d k0_ .x))
def q7_:PO:=(.var (.ptr 142) (.ptr 4 [] k1_))
noncomputable def e (M:Nat):Env:=env cons exts h M
structure S126_3 where
 (n44 n45 n46 n47:Nat) (i48 i49:Int) (d50 d51:D) (b52:Bool) (l53:List D) (i54 i55 i56 i57:Int) (s58:ByteArray) (i59:Int) (s60 s61:ByteArray) (b62:Bool) (i63:Int) (b64:Bool) (l65:List D) (b66:Bool) (l67:List D) (d68 d69:D) (n70 n71:Nat) (i72 i73:Int) (s74:ByteArray) (i75:Int) (s76 s77:ByteArray) (b78:Bool) (i79:Int) (b80:Bool) (l81:List D) (b82:Bool) (l83:List D) (b84:Bool) (l85:List D) (b86:Bool) (l87:List D)
inductive X126_3 where
 | e0 (n44 n45 n46 n47:Nat) (i48 i49:Int) (d50 d51:D) (b52:Bool) (l53:List D) (i54 i55 i56 i57:Int) (s58:ByteArray) (i59:Int) (s60 s61:ByteArray) (b62:Bool) (i63:Int) (b64:Bool) (l65:List D) (b66:Bool) (l67:List D) (d68 d69:D) (n70 n71:Nat) (i72 i73:Int) (s74:ByteArray) (i75:Int) (s76 s77:ByteArray) (b78:Bool) (i79:Int) (b80:Bool) (l81:List D) (b82:Bool) (l83:List D) (b84:Bool) (l85:List D) (b86:Bool) (l87:List D)
def st126_3 (M:Nat):S126_3→(S126_3→Option D)→(X126_3→Option D)→Option D
 | ⟨n44,n45,n46,n47,i48,i49,d50,d51,b52,l53,i54,i55,i56,i57,s58,i59,s60,s61,b62,i63,b64,l65,b66,l67,d68,d69,n70,n71,i72,i73,s74,i75,s76,s77,b78,i79,b80,l81,b82,l83,b84,l85,b86,l87⟩,rec,K=>(cond (ltI i49 i48) (cond (inb i49 n47) (cond (mx (n71+1)) (rec ⟨n44,n45,n46,n47,i48,(ad .i64 i49 1),d50,d51,b52,l53,i54,i55,i56,i57,s58,i59,s60,s61,b62,i63,b64,l65,b66,l67,d68,d69,0,(n71+1),i72,i73,s74,i75,s76,s77,b78,i79,b80,l81,b82,l83,b84,l85,(b86||true),(ap ((l87.drop n70).take n71) [(da [(di 6),(ix l85 (n46+i49.toNat)),(dS (bs [])),(di 0),(di 0),(da (rp 32 (D.int .u8 0)))])])⟩) none) none) (K (.e0 n44 n45 n46 n47 i48 i49 d50 d51 b52 l53 i54 i55 i56 i57 s58 i59 s60 s61 b62 i63 b64 l65 b66 l67 d68 d69 n70 n71 i72 i73 s74 i75 s76 s77 b78 i79 b80 l81 b82 l83 b84 l85 b86 l87)))
def ex126_3 (k:Kont):X126_3→Option D
 | .e0 n44 n45 n46 n47 i48 i49 d50 d51 b52 l53 i54 i55 i56 i57 s58 i59 s60 s61 b62 i63 b64 l65 b66 l67 d68 d69 n70 n71 i72 i73 s74 i75 s76 s77 b78 i79 b80 l81 b82 l83 b84 l85 b86 l87=>k (.exit 0) ((us 1 ((.ptr 7 [] (.ptr 142))::(.ptr 8 [] k4_)::(.sref 9 n44 n45)::(us 13 ((.sref 9 n46 n47)::(vi i48)::(vi i49)::(vb (ltI i49 i48))::(us 29 [])))))) [(.var k0_ (vk k0_ d50)),(.var k2_ (vk k2_ d51)),(.var k0_ (vk k0_ (da [(dl b52 l53),(di i54),(di i55)]))),(.var k4_ (vk k4_ (da [(di i56),(di i57),(dS s58),(da [(di i59),(dS s60),(dS s61),(db b62),(di i63),(dl b64 l65)]),(dl b66 l67)]))),(.var k1_ (.agg k1_ [(vk k0_ d68),(vk k2_ d69),(.sref 10 n70 n71)])),o0_,o0_,o1_,(.var k4_ (vk k4_ (da [(di i72),(di i73),(dS s74),(da [(di i75),(dS s76),(dS s77),(db b78),(di i79),(dl b80 l81)]),(dl b82 l83)]))),(.row 3 true b84 l85),(.row 32 true b86 l87)]
def lv126_3:S126_3→List Leaf
 | ⟨n44,n45,n46,n47,i48,i49,d50,d51,b52,l53,i54,i55,i56,i57,s58,i59,s60,s61,b62,i63,b64,l65,b66,l67,d68,d69,n70,n71,i72,i73,s74,i75,s76,s77,b78,i79,b80,l81,b82,l83,b84,l85,b86,l87⟩=>[.n n44,.n n45,.n n46,.n n47,.i i48,.i i49,.d d50,.d d51,.b b52,.l l53,.i i54,.i i55,.i i56,.i i57,.s s58,.i i59,.s s60,.s s61,.b b62,.i i63,.b b64,.l l65,.b b66,.l l67,.d d68,.d d69,.n n70,.n n71,.i i72,.i i73,.s s74,.i i75,.s s76,.s s77,.b b78,.i i79,.b b80,.l l81,.b b82,.l l83,.b b84,.l l85,.b b86,.l l87]
def of126_3:List Leaf→Option S126_3
 | .n n44::.n n45::.n n46::.n n47::.i i48::.i i49::.d d50::.d d51::.b b52::.l l53::.i i54::.i i55::.i i56::.i i57::.s s58::.i i59::.s s60::.s s61::.b b62::.i i63::.b b64::.l l65::.b b66::.l l67::.d d68::.d d69::.n n70::.n n71::rest2=>(match rest2 with
  | [.i i72,.i i73,.s s74,.i i75,.s s76,.s s77,.b b78,.i i79,.b b80,.l l81,.b b82,.l l83,.b b84,.l l85,.b b86,.l l87]=>some ⟨n44,n45,n46,n47,i48,i49,d50,d51,b52,l53,i54,i55,i56,i57,s58,i59,s60,s61,b62,i63,b64,l65,b66,l67,d68,d69,n70,n71,i72,i73,s74,i75,s76,s77,b78,i79,b80,l81,b82,l83,b84,l85,b86,l87⟩
  | _=>none)
 | _=>none
def ps126_3:List PV:=((up 1 ((.ptr 7 [] (.ptr 142))::(.ptr 8 [] k4_)::(.sref 9)::(up 13 ((.sref 9)::(.d (.int .i64) (.int .i64))::(.d (.int .i64) (.int .i64))::(up 30 []))))))
def qs126_3:List PO:=[q6_,q5_,q3_,q1_,q2_,q0_,q0_,q7_,q1_,(.row 3 true),(.row 32 true)]
noncomputable def t1 (M:Nat):List Ent:=⟨126,10,7,3,sumS [1,2,3,17,18,19] ps126_3 qs126_3 [(1060868,10)] of126_3 (st126_3 M) ex126_3 M⟩::[]
theorem t1_ok (M:Nat):AllOk (e M) (tblOf (t1 M)):=AllOk.addS (n0:=11) (lv:=lv126_3) AllOk.nil (by kernel_rfl) rfl (by intro ls s h;unfold of126_3 at h;(repeat' split at h)<;>simp at h;subst h;rfl) (by intro s;kernel_rfl) (by intro s;kernel_rfl) (by intro s nx k;kernel_rfl)
structure S78_2 where
 (n89 n90:Nat) (i91 i92:Int) (d93 d94:D) (b95:Bool) (l96:List D) (i97 i98 i99 i100:Int) (s101:ByteArray) (i102:Int) (s103 s104:ByteArray) (b105:Bool) (i106:Int) (b107:Bool) (l108:List D) (b109:Bool) (l110:List D) (d111 d112:D) (n113 n114:Nat) (i115 i116:Int) (s117:ByteArray) (i118:Int) (s119 s120:ByteArray) (b121:Bool) (i122:Int) (b123:Bool) (l124:List D) (b125:Bool) (l126:List D) (b127:Bool) (l128:List D) (b129:Bool) (l130:List D) (b131:Bool) (l132:List D)
inductive X78_2 where
 | e0 (n89 n90:Nat) (i91 i92:Int) (d93 d94:D) (b95:Bool) (l96:List D) (i97 i98 i99 i100:Int) (s101:ByteArray) (i102:Int) (s103 s104:ByteArray) (b105:Bool) (i106:Int) (b107:Bool) (l108:List D) (b109:Bool) (l110:List D) (d111 d112:D) (n113 n114:Nat) (i115 i116:Int) (s117:ByteArray) (i118:Int) (s119 s120:ByteArray) (b121:Bool) (i122:Int) (b123:Bool) (l124:List D) (b125:Bool) (l126:List D) (b127:Bool) (l128:List D) (b129:Bool) (l130:List D) (b131:Bool) (l132:List D) (r133:D)
 | e1 (n89 n90:Nat) (i91 i92:Int) (d93 d94:D) (b95:Bool) (l96:List D) (i97 i98 i99 i100:Int) (s101:ByteArray) (i102:Int) (s103 s104:ByteArray) (b105:Bool) (i106:Int) (b107:Bool) (l108:List D) (b109:Bool) (l110:List D) (d111 d112:D) (n113 n114:Nat) (i115 i116:Int) (s117:ByteArray) (i118:Int) (s119 s120:ByteArray) (b121:Bool) (i122:Int) (b123:Bool) (l124:List D) (b125:Bool) (l126:List D) (b127:Bool) (l128:List D) (b129:Bool) (l130:List D) (b131:Bool) (l132:List D)
def st78_2 (M:Nat):S78_2→(S78_2→Option D)→(X78_2→Option D)→Option D
 | ⟨n89,n90,i91,i92,d93,d94,b95,l96,i97,i98,i99,i100,s101,i102,s103,s104,b105,i106,b107,l108,b109,l110,d111,d112,n113,n114,i115,i116,s117,i118,s119,s120,b121,i122,b123,l124,b125,l126,b127,l128,b129,l130,b131,l132⟩,rec,K=>(cond (ltI i92 i91) (cond (inb i92 n90) (bd (F182.s FUEL (ix l132 (n89+i92.toNat)) (d111.at 2).i) fun r133=>(cond (eqI r133.i 0) (K (.e0 n89 n90 i91 i92 d93 d94 b95 l96 i97 i98 i99 i100 s101 i102 s103 s104 b105 i106 b107 l108 b109 l110 d111 d112 n113 n114 i115 i116 s117 i118 s119 s120 b121 i122 b123 l124 b125 l126 b127 l128 b129 l130 b131 l132 r133)) (rec ⟨n89,n90,i91,(ad .i64 i92 1),d93,d94,b95,l96,i97,i98,i99,i100,s101,i102,s103,s104,b105,i106,b107,l108,b109,l110,d111,d112,n113,n114,i115,i116,s117,i118,s119,s120,b121,i122,b123,l124,b125,l126,b127,l128,b129,l130,b131,l132⟩))) none) (K (.e1 n89 n90 i91 i92 d93 d94 b95 l96 i97 i98 i99 i100 s101 i102 s103 s104 b105 i106 b107 l108 b109 l110 d111 d112 n113 n114 i115 i116 s117 i118 s119 s120 b121 i122 b123 l124 b125 l126 b127 l128 b129 l130 b131 l132)))
def ex78_2 (k:Kont):X78_2→Option D
 | .e0 n89 n90 i91 i92 d93 d94 b95 l96 i97 i98 i99 i100 s101 i102 s103 s104 b105 i106 b107 l108 b109 l110 d111 d112 n113 n114 i115 i116 s117 i118 s119 s120 b121 i122 b123 l124 b125 l126 b127 l128 b129 l130 b131 l132 r133=>k .ret ((.sref 11 n89 n90)::(.func (.func 181) [] [(.ptr 7 [] (.ptr 142))])::(us 2 ((vi i92)::(vi i92)::(us 1 ((vi i91)::(vi i92)::(vb (ltI i92 i91))::(vi i92)::(.func (.func 181) [] [(.ptr 7 [] (.ptr 142))])::(.sref 11 n89 n90)::(vi i92)::(.ptr 11 [(n89+i92.toNat)] k3_)::(vk k3_ (ix l132 (n89+i92.toNat)))::(vb (eqI r133.i 0))::(vi i92)::(us 1 [])))))) [(.var k0_ (vk k0_ d93)),(.var k2_ (vk k2_ d94)),(.var k0_ (vk k0_ (da [(dl b95 l96),(di i97),(di i98)]))),(.var k4_ (vk k4_ (da [(di i99),(di i100),(dS s101),(da [(di i102),(dS s103),(dS s104),(db b105),(di i106),(dl b107 l108)]),(dl b109 l110)]))),(.var k1_ (.agg k1_ [(vk k0_ d111),(vk k2_ d112),(.sref 10 n113 n114)])),o0_,o0_,o1_,(.var k4_ (vk k4_ (da [(di i115),(di i116),(dS s117),(da [(di i118),(dS s119),(dS s120),(db b121),(di i122),(dl b123 l124)]),(dl b125 l126)]))),(.row 3 true b127 l128),(.row 32 true b129 l130),(.row 68 true b131 l132),(.var k3_ (vk k3_ (ix l132 (n89+i92.toNat))))]
 | .e1 n89 n90 i91 i92 d93 d94 b95 l96 i97 i98 i99 i100 s101 i102 s103 s104 b105 i106 b107 l108 b109 l110 d111 d112 n113 n114 i115 i116 s117 i118 s119 s120 b121 i122 b123 l124 b125 l126 b127 l128 b129 l130 b131 l132=>k (.exit 0) ((.sref 11 n89 n90)::(.func (.func 181) [] [(.ptr 7 [] (.ptr 142))])::(us 5 ((vi i91)::(vi i92)::(vb (ltI i92 i91))::(us 9 [])))) [(.var k0_ (vk k0_ d93)),(.var k2_ (vk k2_ d94)),(.var k0_ (vk k0_ (da [(dl b95 l96),(di i97),(di i98)]))),(.var k4_ (vk k4_ (da [(di i99),(di i100),(dS s101),(da [(di i102),(dS s103),(dS s104),(db b105),(di i106),(dl b107 l108)]),(dl b109 l110)]))),(.var k1_ (.agg k1_ [(vk k0_ d111),(vk k2_ d112),(.sref 10 n113 n114)])),o0_,o0_,o1_,(.var k4_ (vk k4_ (da [(di i115),(di i116),(dS s117),(da [(di i118),(dS s119),(dS s120),(db b121),(di i122),(dl b123 l124)]),(dl b125 l126)]))),(.row 3 true b127 l128),(.row 32 true b129 l130),(.row 68 true b131 l132)]
def lv78_2:S78_2→List Leaf
 | ⟨n89,n90,i91,i92,d93,d94,b95,l96,i97,i98,i99,i100,s101,i102,s103,s104,b105,i106,b107,l108,b109,l110,d111,d112,n113,n114,i115,i116,s117,i118,s119,s120,b121,i122,b123,l124,b125,l126,b127,l128,b129,l130,b131,l132⟩=>[.n n89,.n n90,.i i91,.i i92,.d d93,.d d94,.b b95,.l l96,.i i97,.i i98,.i i99,.i i100,.s s101,.i i102,.s s103,.s s104,.b b105,.i i106,.b b107,.l l108,.b b109,.l l110,.d d111,.d d112,.n n113,.n n114,.i i115,.i i116,.s s117,.i i118,.s s119,.s s120,.b b121,.i i122,.b b123,.l l124,.b b125,.l l126,.b b127,.l l128,.b b129,.l l130,.b b131,.l l132]
def of78_2:List Leaf→Option S78_2
 | .n n89::.n n90::.i i91::.i i92::.d d93::.d d94::.b b95::.l l96::.i i97::.i i98::.i i99::.i i100::.s s101::.i i102::.s s103::.s s104::.b b105::.i i106::.b b107::.l l108::.b b109::.l l110::.d d111::.d d112::.n n113::.n n114::.i i115::.i i116::rest2=>(match rest2 with
  | [.s s117,.i i118,.s s119,.s s120,.b b121,.i i122,.b b123,.l l124,.b b125,.l l126,.b b127,.l l128,.b b129,.l l130,.b b131,.l l132]=>some ⟨n89,n90,i91,i92,d93,d94,b95,l96,i97,i98,i99,i100,s101,i102,s103,s104,b105,i106,b107,l108,b109,l110,d111,d112,n113,n114,i115,i116,s117,i118,s119,s120,b121,i122,b123,l124,b125,l126,b127,l128,b129,l130,b131,l132⟩
  | _=>none)
 | _=>none
def ps78_2:List PV:=((.sref 11)::(.func 181 [] [(.ptr 7 [] (.ptr 142))])::(up 5 ((.d (.int .i64) (.int .i64))::(.d (.int .i64) (.int .i64))::(up 10 []))))
def qs78_2:List PO:=[q6_,q5_,q3_,q1_,q2_,q0_,q0_,q7_,q1_,(.row 3 true),(.row 32 true),(.row 68 true)]
noncomputable def t2 (M:Nat):List Ent:=⟨78,8,12,2,sumS [0,1,7,8] ps78_2 qs78_2 [] of78_2 (st78_2 M) ex78_2 M⟩::t1 M
theorem t2_ok (M:Nat):AllOk (e M) (tblOf (t2 M)):=AllOk.addS (n0:=12) (lv:=lv78_2) (t1_ok M) (by kernel_rfl) rfl (by intro ls s h;unfold of78_2 at h;(repeat' split at h)<;>simp at h;subst h;rfl) (by intro s;kernel_rfl) (by intro s;kernel_rfl) (by intro s nx k;kernel_rfl)
structure S180_5 where
 (n134 n135:Nat) (i136 i137:Int) (d138 d139:D) (b140:Bool) (l141:List D) (i142 i143 i144 i145:Int) (s146:ByteArray) (i147:Int) (s148 s149:ByteArray) (b150:Bool) (i151:Int) (b152:Bool) (l153:List D) (b154:Bool) (l155:List D) (d156 d157:D) (n158 n159:Nat) (i160 i161:Int) (s162:ByteArray) (i163:Int) (s164 s165:ByteArray) (b166:Bool) (i167:Int) (b168:Bool) (l169:List D) (b170:Bool) (l171:List D) (b172:Bool) (l173:List D) (b174:Bool) (l175:List D) (b176:Bool) (l177:List D) (d178:D)
inductive X180_5 where
 | e0 (n134 n135:Nat) (i136 i137:Int) (d138 d139:D) (b140:Bool) (l141:List D) (i142 i143 i144 i145:Int) (s146:ByteArray) (i147:Int) (s148 s149:ByteArray) (b150:Bool) (i151:Int) (b152:Bool) (l153:List D) (b154:Bool) (l155:List D) (d156 d157:D) (n158 n159:Nat) (i160 i161:Int) (s162:ByteArray) (i163:Int) (s164 s165:ByteArray) (b166:Bool) (i167:Int) (b168:Bool) (l169:List D) (b170:Bool) (l171:List D) (b172:Bool) (l173:List D) (b174:Bool) (l175:List D) (b176:Bool) (l177:List D) (d178:D)
def st180_5 (M:Nat):S180_5→(S180_5→Option D)→(X180_5→Option D)→Option D
 | ⟨n134,n135,i136,i137,d138,d139,b140,l141,i142,i143,i144,i145,s146,i147,s148,s149,b150,i151,b152,l153,b154,l155,d156,d157,n158,n159,i160,i161,s162,i163,s164,s165,b166,i167,b168,l169,b170,l171,b172,l173,b174,l175,b176,l177,d178⟩,rec,K=>(cond (ltI i137 (nI n135)) (cond (inb i137 n135) (bd (F182.s FUEL (ix l177 (n134+i137.toNat)) (d156.at 2).i) fun r179=>(cond (!(eqI r179.i 0)) (cond (inb i136 n135) (rec ⟨n134,n135,(ad .i64 i136 1),(ad .i64 i137 1),d138,d139,b140,l141,i142,i143,i144,i145,s146,i147,s148,s149,b150,i151,b152,l153,b154,l155,d156,d157,n158,n159,i160,i161,s162,i163,s164,s165,b166,i167,b168,l169,b170,l171,b172,l173,b174,l175,b176,(l177.set (n134+i136.toNat) (ix l177 (n134+i137.toNat))),d178⟩) none) (rec ⟨n134,n135,i136,(ad .i64 i137 1),d138,d139,b140,l141,i142,i143,i144,i145,s146,i147,s148,s149,b150,i151,b152,l153,b154,l155,d156,d157,n158,n159,i160,i161,s162,i163,s164,s165,b166,i167,b168,l169,b170,l171,b172,l173,b174,l175,b176,l177,d178⟩))) none) (K (.e0 n134 n135 i136 i137 d138 d139 b140 l141 i142 i143 i144 i145 s146 i147 s148 s149 b150 i151 b152 l153 b154 l155 d156 d157 n158 n159 i160 i161 s162 i163 s164 s165 b166 i167 b168 l169 b170 l171 b172 l173 b174 l175 b176 l177 d178)))
def ex180_5 (k:Kont):X180_5→Option D
 | .e0 n134 n135 i136 i137 d138 d139 b140 l141 i142 i143 i144 i145 s146 i147 s148 s149 b150 i151 b152 l153 b154 l155 d156 d157 n158 n159 i160 i161 s162 i163 s164 s165 b166 i167 b168 l169 b170 l171 b172 l173 b174 l175 b176 l177 d178=>k (.exit 0) ((.sref 11 n134 n135)::(.func (.func 181) [] [(.ptr 7 [] (.ptr 142))])::(us 3 ((vi i136)::(vi i137)::(us 9 ((vi i137)::(.sref 11 n134 n135)::(vi (nI n135))::(vb (ltI i137 (nI n135)))::(us 22 [])))))) [(.var k0_ (vk k0_ d138)),(.var k2_ (vk k2_ d139)),(.var k0_ (vk k0_ (da [(dl b140 l141),(di i142),(di i143)]))),(.var k4_ (vk k4_ (da [(di i144),(di i145),(dS s146),(da [(di i147),(dS s148),(dS s149),(db b150),(di i151),(dl b152 l153)]),(dl b154 l155)]))),(.var k1_ (.agg k1_ [(vk k0_ d156),(vk k2_ d157),(.sref 10 n158 n159)])),o0_,o0_,o1_,(.var k4_ (vk k4_ (da [(di i160),(di i161),(dS s162),(da [(di i163),(dS s164),(dS s165),(db b166),(di i167),(dl b168 l169)]),(dl b170 l171)]))),(.row 3 true b172 l173),(.row 32 true b174 l175),(.row 68 true b176 l177),(.var k3_ (vk k3_ d178))]
def lv180_5:S180_5→List Leaf
 | ⟨n134,n135,i136,i137,d138,d139,b140,l141,i142,i143,i144,i145,s146,i147,s148,s149,b150,i151,b152,l153,b154,l155,d156,d157,n158,n159,i160,i161,s162,i163,s164,s165,b166,i167,b168,l169,b170,l171,b172,l173,b174,l175,b176,l177,d178⟩=>[.n n134,.n n135,.i i136,.i i137,.d d138,.d d139,.b b140,.l l141,.i i142,.i i143,.i i144,.i i145,.s s146,.i i147,.s s148,.s s149,.b b150,.i i151,.b b152,.l l153,.b b154,.l l155,.d d156,.d d157,.n n158,.n n159,.i i160,.i i161,.s s162,.i i163,.s s164,.s s165,.b b166,.i i167,.b b168,.l l169,.b b170,.l l171,.b b172,.l l173,.b b174,.l l175,.b b176,.l l177,.d d178]
def of180_5:List Leaf→Option S180_5
 | .n n134::.n n135::.i i136::.i i137::.d d138::.d d139::.b b140::.l l141::.i i142::.i i143::.i i144::.i i145::.s s146::.i i147::.s s148::.s s149::.b b150::.i i151::.b b152::.l l153::.b b154::.l l155::.d d156::.d d157::.n n158::.n n159::.i i160::.i i161::rest2=>(match rest2 with
  | [.s s162,.i i163,.s s164,.s s165,.b b166,.i i167,.b b168,.l l169,.b b170,.l l171,.b b172,.l l173,.b b174,.l l175,.b b176,.l l177,.d d178]=>some ⟨n134,n135,i136,i137,d138,d139,b140,l141,i142,i143,i144,i145,s146,i147,s148,s149,b150,i151,b152,l153,b154,l155,d156,d157,n158,n159,i160,i161,s162,i163,s164,s165,b166,i167,b168,l169,b170,l171,b172,l173,b174,l175,b176,l177,d178⟩
  | _=>none)
 | _=>none
def ps180_5:List PV:=((.sref 11)::(.func 181 [] [(.ptr 7 [] (.ptr 142))])::(up 3 ((.d (.int .i64) (.int .i64))::(.d (.int .i64) (.int .i64))::(up 35 []))))
def qs180_5:List PO:=[q6_,q5_,q3_,q1_,q2_,q0_,q0_,q7_,q1_,(.row 3 true),(.row 32 true),(.row 68 true),(.var k3_ (.d k3_ .x))]
noncomputable def t3 (M:Nat):List Ent:=⟨180,9,12,5,sumS [0,1,5,6] ps180_5 qs180_5 [] of180_5 (st180_5 M) ex180_5 M⟩::t2 M
theorem t3_ok (M:Nat):AllOk (e M) (tblOf (t3 M)):=AllOk.addS (n0:=13) (lv:=lv180_5) (t2_ok M) (by kernel_rfl) rfl (by intro ls s h;unfold of180_5 at h;(repeat' split at h)<;>simp at h;subst h;rfl) (by intro s;kernel_rfl) (by intro s;kernel_rfl) (by intro s nx k;kernel_rfl)
structure S129_3 where
 (n186 n187:Nat) (d188:D) (i189 i190:Int) (d191 d192:D) (b193:Bool) (l194:List D) (i195 i196 i197 i198:Int) (s199:ByteArray) (i200:Int) (s201 s202:ByteArray) (b203:Bool) (i204:Int) (b205:Bool) (l206:List D) (b207:Bool) (l208:List D) (d209 d210:D) (b211:Bool) (l212:List D) (i213 i214:Int) (s215:ByteArray) (i216:Int) (s217 s218:ByteArray) (b219:Bool) (i220:Int) (b221:Bool) (l222:List D) (b223:Bool) (l224:List D) (b225:Bool) (l226:List D)
inductive X129_3 where
 | e0 (n186 n187:Nat) (d188:D) (i189 i190:Int) (d191 d192:D) (b193:Bool) (l194:List D) (i195 i196 i197 i198:Int) (s199:ByteArray) (i200:Int) (s201 s202:ByteArray) (b203:Bool) (i204:Int) (b205:Bool) (l206:List D) (b207:Bool) (l208:List D) (d209 d210:D) (b211:Bool) (l212:List D) (i213 i214:Int) (s215:ByteArray) (i216:Int) (s217 s218:ByteArray) (b219:Bool) (i220:Int) (b221:Bool) (l222:List D) (b223:Bool) (l224:List D) (b225:Bool) (l226:List D)
def st129_3 (M:Nat):S129_3→(S129_3→Option D)→(X129_3→Option D)→Option D
 | ⟨n186,n187,d188,i189,i190,d191,d192,b193,l194,i195,i196,i197,i198,s199,i200,s201,s202,b203,i204,b205,l206,b207,l208,d209,d210,b211,l212,i213,i214,s215,i216,s217,s218,b219,i220,b221,l222,b223,l224,b225,l226⟩,rec,K=>(cond (ltI i190 i189) (cond (inb i190 d188.elems.length) (cond (mx (n187+1)) (rec ⟨0,(n187+1),d188,i189,(ad .i64 i190 1),d191,d192,b193,l194,i195,i196,i197,i198,s199,i200,s201,s202,b203,i204,b205,l206,b207,l208,d209,d210,b211,l212,i213,i214,s215,i216,s217,s218,b219,i220,b221,l222,b223,l224,(b225||true),(ap ((l226.drop n186).take n187) [((ix d188.elems i190.toNat).at 1)])⟩) none) none) (K (.e0 n186 n187 d188 i189 i190 d191 d192 b193 l194 i195 i196 i197 i198 s199 i200 s201 s202 b203 i204 b205 l206 b207 l208 d209 d210 b211 l212 i213 i214 s215 i216 s217 s218 b219 i220 b221 l222 b223 l224 b225 l226)))
def ex129_3 (k:Kont):X129_3→Option D
 | .e0 n186 n187 d188 i189 i190 d191 d192 b193 l194 i195 i196 i197 i198 s199 i200 s201 s202 b203 i204 b205 l206 b207 l208 d209 d210 b211 l212 i213 i214 s215 i216 s217 s218 b219 i220 b221 l222 b223 l224 b225 l226=>k (.exit 0) ((us 2 ((.ptr 7 [] k4_)::(.sref 8 n186 n187)::(us 6 ((vk (.slice 68) d188)::(vi i189)::(vi i190)::(vb (ltI i190 i189))::(us 12 [])))))) [(.var k0_ (vk k0_ d191)),(.var k2_ (vk k2_ d192)),(.var k0_ (vk k0_ (da [(dl b193 l194),(di i195),(di i196)]))),(.var k4_ (vk k4_ (da [(di i197),(di i198),(dS s199),(da [(di i200),(dS s201),(dS s202),(db b203),(di i204),(dl b205 l206)]),(dl b207 l208)]))),(.var k1_ (vk k1_ (da [d209,d210,(dl b211 l212)]))),o0_,o0_,(.var k4_ (vk k4_ (da [(di i213),(di i214),(dS s215),(da [(di i216),(dS s217),(dS s218),(db b219),(di i220),(dl b221 l222)]),(dl b223 l224)]))),(.row 9 true b225 l226)]
def lv129_3:S129_3→List Leaf
 | ⟨n186,n187,d188,i189,i190,d191,d192,b193,l194,i195,i196,i197,i198,s199,i200,s201,s202,b203,i204,b205,l206,b207,l208,d209,d210,b211,l212,i213,i214,s215,i216,s217,s218,b219,i220,b221,l222,b223,l224,b225,l226⟩=>[.n n186,.n n187,.d d188,.i i189,.i i190,.d d191,.d d192,.b b193,.l l194,.i i195,.i i196,.i i197,.i i198,.s s199,.i i200,.s s201,.s s202,.b b203,.i i204,.b b205,.l l206,.b b207,.l l208,.d d209,.d d210,.b b211,.l l212,.i i213,.i i214,.s s215,.i i216,.s s217,.s s218,.b b219,.i i220,.b b221,.l l222,.b b223,.l l224,.b b225,.l l226]
def of129_3:List Leaf→Option S129_3
 | .n n186::.n n187::.d d188::.i i189::.i i190::.d d191::.d d192::.b b193::.l l194::.i i195::.i i196::.i i197::.i i198::.s s199::.i i200::.s s201::.s s202::.b b203::.i i204::.b b205::.l l206::.b b207::.l l208::.d d209::.d d210::.b b211::.l l212::.i i213::rest2=>(match rest2 with
  | [.i i214,.s s215,.i i216,.s s217,.s s218,.b b219,.i i220,.b b221,.l l222,.b b223,.l l224,.b b225,.l l226]=>some ⟨n186,n187,d188,i189,i190,d191,d192,b193,l194,i195,i196,i197,i198,s199,i200,s201,s202,b203,i204,b205,l206,b207,l208,d209,d210,b211,l212,i213,i214,s215,i216,s217,s218,b219,i220,b221,l222,b223,l224,b225,l226⟩
  | _=>none)
 | _=>none
def ps129_3:List PV:=((up 2 ((.ptr 7 [] k4_)::(.sref 8)::(up 6 ((.d (.slice 68) .x)::(.d (.int .i64) (.int .i64))::(.d (.int .i64) (.int .i64))::(up 13 []))))))
def qs129_3:List PO:=[q6_,q5_,q3_,q1_,q4_,q0_,q0_,q1_,(.row 9 true)]
noncomputable def t4 (M:Nat):List Ent:=⟨129,10,7,3,sumS [2,3,10,11,12] ps129_3 qs129_3 [(3,8)] of129_3 (st129_3 M) ex129_3 M⟩::t3 M
theorem t4_ok (M:Nat):AllOk (e M) (tblOf (t4 M)):=AllOk.addS (n0:=9) (lv:=lv129_3) (t3_ok M) (by kernel_rfl) rfl (by intro ls s h;unfold of129_3 at h;(repeat' split at h)<;>simp at h;subst h;rfl) (by intro s;kernel_rfl) (by intro s;kernel_rfl) (by intro s nx k;kernel_rfl)
structure S255_4 where
 (n310 n311:Nat) (i312 i313 i314 i315:Int) (d316 d317:D) (b318:Bool) (l319:List D) (i320 i321 i322 i323:Int) (s324:ByteArray) (i325:Int) (s326 s327:ByteArray) (b328:Bool) (i329:Int) (b330:Bool) (l331:List D) (b332:Bool) (l333:List D) (d334 d335:D) (b336:Bool) (l337:List D) (i338 i339:Int) (s340:ByteArray) (i341:Int) (s342 s343:ByteArray) (b344:Bool) (i345:Int) (b346:Bool) (l347:List D) (b348:Bool) (l349:List D) (b350:Bool) (l351:List D)
inductive X255_4 where
 | e0 (n310 n311:Nat) (i312 i313 i314 i315:Int) (d316 d317:D) (b318:Bool) (l319:List D) (i320 i321 i322 i323:Int) (s324:ByteArray) (i325:Int) (s326 s327:ByteArray) (b328:Bool) (i329:Int) (b330:Bool) (l331:List D) (b332:Bool) (l333:List D) (d334 d335:D) (b336:Bool) (l337:List D) (i338 i339:Int) (s340:ByteArray) (i341:Int) (s342 s343:ByteArray) (b344:Bool) (i345:Int) (b346:Bool) (l347:List D) (b348:Bool) (l349:List D) (b350:Bool) (l351:List D) (r352:D)
 | e1 (n310 n311:Nat) (i312 i313 i314 i315:Int) (d316 d317:D) (b318:Bool) (l319:List D) (i320 i321 i322 i323:Int) (s324:ByteArray) (i325:Int) (s326 s327:ByteArray) (b328:Bool) (i329:Int) (b330:Bool) (l331:List D) (b332:Bool) (l333:List D) (d334 d335:D) (b336:Bool) (l337:List D) (i338 i339:Int) (s340:ByteArray) (i341:Int) (s342 s343:ByteArray) (b344:Bool) (i345:Int) (b346:Bool) (l347:List D) (b348:Bool) (l349:List D) (b350:Bool) (l351:List D)
def st255_4 (M:Nat):S255_4→(S255_4→Option D)→(X255_4→Option D)→Option D
 | ⟨n310,n311,i312,i313,i314,i315,d316,d317,b318,l319,i320,i321,i322,i323,s324,i325,s326,s327,b328,i329,b330,l331,b332,l333,d334,d335,b336,l337,i338,i339,s340,i341,s342,s343,b344,i345,b346,l347,b348,l349,b350,l351⟩,rec,K=>(cond (gtI i315 i312) (cond (inb i315 n311) (cond (inb (sb .i64 i315 1) n311) (bd (F186.s FUEL (ix l351 (n310+i315.toNat)).s (ix l351 (n310+(sb .i64 i315 1).toNat)).s) fun r352=>(cond (ltI r352.i 0) (cond (inb (sb .i64 i315 1) n311) (cond (inb i315 n311) (cond (inb i315 n311) (cond (inb (sb .i64 i315 1) n311) (rec ⟨n310,n311,i312,i313,i314,(sb .i64 i315 1),d316,d317,b318,l319,i320,i321,i322,i323,s324,i325,s326,s327,b328,i329,b330,l331,b332,l333,d334,d335,b336,l337,i338,i339,s340,i341,s342,s343,b344,i345,b346,l347,b348,l349,b350,((l351.set (n310+i315.toNat) (ix l351 (n310+(sb .i64 i315 1).toNat))).set (n310+(sb .i64 i315 1).toNat) (ix l351 (n310+i315.toNat)))⟩) none) none) none) none) (K (.e0 n310 n311 i312 i313 i314 i315 d316 d317 b318 l319 i320 i321 i322 i323 s324 i325 s326 s327 b328 i329 b330 l331 b332 l333 d334 d335 b336 l337 i338 i339 s340 i341 s342 s343 b344 i345 b346 l347 b348 l349 b350 l351 r352)))) none) none) (K (.e1 n310 n311 i312 i313 i314 i315 d316 d317 b318 l319 i320 i321 i322 i323 s324 i325 s326 s327 b328 i329 b330 l331 b332 l333 d334 d335 b336 l337 i338 i339 s340 i341 s342 s343 b344 i345 b346 l347 b348 l349 b350 l351)))
def ex255_4 (k:Kont):X255_4→Option D
 | .e0 n310 n311 i312 i313 i314 i315 d316 d317 b318 l319 i320 i321 i322 i323 s324 i325 s326 s327 b328 i329 b330 l331 b332 l333 d334 d335 b336 l337 i338 i339 s340 i341 s342 s343 b344 i345 b346 l347 b348 l349 b350 l351 r352=>k (.exit 2) ((.sref 8 n310 n311)::(vi i312)::(vi i313)::(vk .func (D.fn 186))::(us 4 ((vi i314)::(vi i315)::(us 8 ((vi i315)::(vi i312)::(vb (gtI i315 i312))::(vb true)::(vk .func (D.fn 186))::(.sref 8 n310 n311)::(vi i315)::(.ptr 8 [(n310+i315.toNat)] .str)::(vk .str (ix l351 (n310+i315.toNat)))::(.sref 8 n310 n311)::(vi i315)::(vi (sb .i64 i315 1))::(.ptr 8 [(n310+(sb .i64 i315 1).toNat)] .str)::(vk .str (ix l351 (n310+(sb .i64 i315 1).toNat)))::(vk (.int .i64) r352)::(vb (ltI r352.i 0))::(vb (ltI r352.i 0))::(us 18 [])))))) [(.var k0_ (vk k0_ d316)),(.var k2_ (vk k2_ d317)),(.var k0_ (vk k0_ (da [(dl b318 l319),(di i320),(di i321)]))),(.var k4_ (vk k4_ (da [(di i322),(di i323),(dS s324),(da [(di i325),(dS s326),(dS s327),(db b328),(di i329),(dl b330 l331)]),(dl b332 l333)]))),(.var k1_ (vk k1_ (da [d334,d335,(dl b336 l337)]))),o0_,o0_,(.var k4_ (vk k4_ (da [(di i338),(di i339),(dS s340),(da [(di i341),(dS s342),(dS s343),(db b344),(di i345),(dl b346 l347)]),(dl b348 l349)]))),(.row 9 true b350 l351)]
 | .e1 n310 n311 i312 i313 i314 i315 d316 d317 b318 l319 i320 i321 i322 i323 s324 i325 s326 s327 b328 i329 b330 l331 b332 l333 d334 d335 b336 l337 i338 i339 s340 i341 s342 s343 b344 i345 b346 l347 b348 l349 b350 l351=>k (.exit 2) ((.sref 8 n310 n311)::(vi i312)::(vi i313)::(vk .func (D.fn 186))::(us 4 ((vi i314)::(vi i315)::(us 8 ((vi i315)::(vi i312)::(vb (gtI i315 i312))::(vb false)::v0::v0::v0::v0::v0::v0::v0::v0::v0::v0::v0::v0::(vb false)::(us 18 [])))))) [(.var k0_ (vk k0_ d316)),(.var k2_ (vk k2_ d317)),(.var k0_ (vk k0_ (da [(dl b318 l319),(di i320),(di i321)]))),(.var k4_ (vk k4_ (da [(di i322),(di i323),(dS s324),(da [(di i325),(dS s326),(dS s327),(db b328),(di i329),(dl b330 l331)]),(dl b332 l333)]))),(.var k1_ (vk k1_ (da [d334,d335,(dl b336 l337)]))),o0_,o0_,(.var k4_ (vk k4_ (da [(di i338),(di i339),(dS s340),(da [(di i341),(dS s342),(dS s343),(db b344),(di i345),(dl b346 l347)]),(dl b348 l349)]))),(.row 9 true b350 l351)]
def lv255_4:S255_4→List Leaf
 | ⟨n310,n311,i312,i313,i314,i315,d316,d317,b318,l319,i320,i321,i322,i323,s324,i325,s326,s327,b328,i329,b330,l331,b332,l333,d334,d335,b336,l337,i338,i339,s340,i341,s342,s343,b344,i345,b346,l347,b348,l349,b350,l351⟩=>[.n n310,.n n311,.i i312,.i i313,.i i314,.i i315,.d d316,.d d317,.b b318,.l l319,.i i320,.i i321,.i i322,.i i323,.s s324,.i i325,.s s326,.s s327,.b b328,.i i329,.b b330,.l l331,.b b332,.l l333,.d d334,.d d335,.b b336,.l l337,.i i338,.i i339,.s s340,.i i341,.s s342,.s s343,.b b344,.i i345,.b b346,.l l347,.b b348,.l l349,.b b350,.l l351]
def of255_4:List Leaf→Option S255_4
 | .n n310::.n n311::.i i312::.i i313::.i i314::.i i315::.d d316::.d d317::.b b318::.l l319::.i i320::.i i321::.i i322::.i i323::.s s324::.i i325::.s s326::.s s327::.b b328::.i i329::.b b330::.l l331::.b b332::.l l333::.d d334::.d d335::.b b336::.l l337::rest2=>(match rest2 with
  | [.i i338,.i i339,.s s340,.i i341,.s s342,.s s343,.b b344,.i i345,.b b346,.l l347,.b b348,.l l349,.b b350,.l l351]=>some ⟨n310,n311,i312,i313,i314,i315,d316,d317,b318,l319,i320,i321,i322,i323,s324,i325,s326,s327,b328,i329,b330,l331,b332,l333,d334,d335,b336,l337,i338,i339,s340,i341,s342,s343,b344,i345,b346,l347,b348,l349,b350,l351⟩
  | _=>none)
 | _=>none
def ps255_4:List PV:=((.sref 8)::(.d (.int .i64) (.int .i64))::(.d (.int .i64) (.int .i64))::(.d .func (.fn 186))::(up 4 ((.d (.int .i64) (.int .i64))::(.d (.int .i64) (.int .i64))::(up 43 []))))
def qs255_4:List PO:=[q6_,q5_,q3_,q1_,q4_,q0_,q0_,q1_,(.row 9 true)]
noncomputable def t5 (M:Nat):List Ent:=⟨255,7,9,4,sumS [0,1,2,3,8,9] ps255_4 qs255_4 [] of255_4 (st255_4 M) ex255_4 M⟩::t4 M
theorem t5_ok (M:Nat):AllOk (e M) (tblOf (t5 M)):=AllOk.addS (n0:=9) (lv:=lv255_4) (t4_ok M) (by kernel_rfl) rfl (by intro ls s h;unfold of255_4 at h;(repeat' split at h)<;>simp at h;subst h;rfl) (by intro s;kernel_rfl) (by intro s;kernel_rfl) (by intro s nx k;kernel_rfl)
structure S255_1 where
 (n269 n270:Nat) (i271 i272 i273:Int) (d274 d275:D) (b276:Bool) (l277:List D) (i278 i279 i280 i281:Int) (s282:ByteArray) (i283:Int) (s284 s285:ByteArray) (b286:Bool) (i287:Int) (b288:Bool) (l289:List D) (b290:Bool) (l291:List D) (d292 d293:D) (b294:Bool) (l295:List D) (i296 i297:Int) (s298:ByteArray) (i299:Int) (s300 s301:ByteArray) (b302:Bool) (i303:Int) (b304:Bool) (l305:List D) (b306:Bool) (l307:List D) (b308:Bool) (l309:List D)
inductive X255_1 where
 | e0 (n269 n270:Nat) (i271 i272 i273:Int) (d274 d275:D) (b276:Bool) (l277:List D) (i278 i279 i280 i281:Int) (s282:ByteArray) (i283:Int) (s284 s285:ByteArray) (b286:Bool) (i287:Int) (b288:Bool) (l289:List D) (b290:Bool) (l291:List D) (d292 d293:D) (b294:Bool) (l295:List D) (i296 i297:Int) (s298:ByteArray) (i299:Int) (s300 s301:ByteArray) (b302:Bool) (i303:Int) (b304:Bool) (l305:List D) (b306:Bool) (l307:List D) (b308:Bool) (l309:List D)
def st255_1 (M:Nat):S255_1→(S255_1→Option D)→(X255_1→Option D)→Option D
 | ⟨n269,n270,i271,i272,i273,d274,d275,b276,l277,i278,i279,i280,i281,s282,i283,s284,s285,b286,i287,b288,l289,b290,l291,d292,d293,b294,l295,i296,i297,s298,i299,s300,s301,b302,i303,b304,l305,b306,l307,b308,l309⟩,rec,K=>(cond (ltI i273 i272) (goS (st255_4 M) M ⟨n269,n270,i271,i272,i273,i273,d274,d275,b276,l277,i278,i279,i280,i281,s282,i283,s284,s285,b286,i287,b288,l289,b290,l291,d292,d293,b294,l295,i296,i297,s298,i299,s300,s301,b302,i303,b304,l305,b306,l307,b308,l309⟩ fun x=>match x with | .e0 n310 n311 i312 i313 i314 i315 d316 d317 b318 l319 i320 i321 i322 i323 s324 i325 s326 s327 b328 i329 b330 l331 b332 l333 d334 d335 b336 l337 i338 i339 s340 i341 s342 s343 b344 i345 b346 l347 b348 l349 b350 l351 r352=>(rec ⟨n310,n311,i312,i313,(ad .i64 i314 1),d316,d317,b318,l319,i320,i321,i322,i323,s324,i325,s326,s327,b328,i329,b330,l331,b332,l333,d334,d335,b336,l337,i338,i339,s340,i341,s342,s343,b344,i345,b346,l347,b348,l349,b350,l351⟩) | .e1 n310 n311 i312 i313 i314 i315 d316 d317 b318 l319 i320 i321 i322 i323 s324 i325 s326 s327 b328 i329 b330 l331 b332 l333 d334 d335 b336 l337 i338 i339 s340 i341 s342 s343 b344 i345 b346 l347 b348 l349 b350 l351=>(rec ⟨n310,n311,i312,i313,(ad .i64 i314 1),d316,d317,b318,l319,i320,i321,i322,i323,s324,i325,s326,s327,b328,i329,b330,l331,b332,l333,d334,d335,b336,l337,i338,i339,s340,i341,s342,s343,b344,i345,b346,l347,b348,l349,b350,l351⟩)) (K (.e0 n269 n270 i271 i272 i273 d274 d275 b276 l277 i278 i279 i280 i281 s282 i283 s284 s285 b286 i287 b288 l289 b290 l291 d292 d293 b294 l295 i296 i297 s298 i299 s300 s301 b302 i303 b304 l305 b306 l307 b308 l309)))
def ex255_1 (k:Kont):X255_1→Option D
 | .e0 n269 n270 i271 i272 i273 d274 d275 b276 l277 i278 i279 i280 i281 s282 i283 s284 s285 b286 i287 b288 l289 b290 l291 d292 d293 b294 l295 i296 i297 s298 i299 s300 s301 b302 i303 b304 l305 b306 l307 b308 l309=>k (.exit 0) ((.sref 8 n269 n270)::(vi i271)::(vi i272)::(vk .func (D.fn 186))::(us 4 ((vi i273)::(us 3 ((vi i273)::(vi i272)::(vb (ltI i273 i272))::(us 38 [])))))) [(.var k0_ (vk k0_ d274)),(.var k2_ (vk k2_ d275)),(.var k0_ (vk k0_ (da [(dl b276 l277),(di i278),(di i279)]))),(.var k4_ (vk k4_ (da [(di i280),(di i281),(dS s282),(da [(di i283),(dS s284),(dS s285),(db b286),(di i287),(dl b288 l289)]),(dl b290 l291)]))),(.var k1_ (vk k1_ (da [d292,d293,(dl b294 l295)]))),o0_,o0_,(.var k4_ (vk k4_ (da [(di i296),(di i297),(dS s298),(da [(di i299),(dS s300),(dS s301),(db b302),(di i303),(dl b304 l305)]),(dl b306 l307)]))),(.row 9 true b308 l309)]
def lv255_1:S255_1→List Leaf
 | ⟨n269,n270,i271,i272,i273,d274,d275,b276,l277,i278,i279,i280,i281,s282,i283,s284,s285,b286,i287,b288,l289,b290,l291,d292,d293,b294,l295,i296,i297,s298,i299,s300,s301,b302,i303,b304,l305,b306,l307,b308,l309⟩=>[.n n269,.n n270,.i i271,.i i272,.i i273,.d d274,.d d275,.b b276,.l l277,.i i278,.i i279,.i i280,.i i281,.s s282,.i i283,.s s284,.s s285,.b b286,.i i287,.b b288,.l l289,.b b290,.l l291,.d d292,.d d293,.b b294,.l l295,.i i296,.i i297,.s s298,.i i299,.s s300,.s s301,.b b302,.i i303,.b b304,.l l305,.b b306,.l l307,.b b308,.l l309]
def of255_1:List Leaf→Option S255_1
 | .n n269::.n n270::.i i271::.i i272::.i i273::.d d274::.d d275::.b b276::.l l277::.i i278::.i i279::.i i280::.i i281::.s s282::.i i283::.s s284::.s s285::.b b286::.i i287::.b b288::.l l289::.b b290::.l l291::.d d292::.d d293::.b b294::.l l295::.i i296::rest2=>(match rest2 with
  | [.i i297,.s s298,.i i299,.s s300,.s s301,.b b302,.i i303,.b b304,.l l305,.b b306,.l l307,.b b308,.l l309]=>some ⟨n269,n270,i271,i272,i273,d274,d275,b276,l277,i278,i279,i280,i281,s282,i283,s284,s285,b286,i287,b288,l289,b290,l291,d292,d293,b294,l295,i296,i297,s298,i299,s300,s301,b302,i303,b304,l305,b306,l307,b308,l309⟩
  | _=>none)
 | _=>none
def ps255_1:List PV:=((.sref 8)::(.d (.int .i64) (.int .i64))::(.d (.int .i64) (.int .i64))::(.d .func (.fn 186))::(up 4 ((.d (.int .i64) (.int .i64))::(up 44 []))))
def qs255_1:List PO:=[q6_,q5_,q3_,q1_,q4_,q0_,q0_,q1_,(.row 9 true)]
noncomputable def t6 (M:Nat):List Ent:=⟨255,7,9,1,sumS [0,1,2,3,8] ps255_1 qs255_1 [] of255_1 (st255_1 M) ex255_1 M⟩::t5 M
theorem t6_ok (M:Nat):AllOk (e M) (tblOf (t6 M)):=AllOk.addS (n0:=9) (lv:=lv255_1) (t5_ok M) (by kernel_rfl) rfl (by intro ls s h;unfold of255_1 at h;(repeat' split at h)<;>simp at h;subst h;rfl) (by intro s;kernel_rfl) (by intro s;kernel_rfl) (by intro s nx k;kernel_rfl)
structure S231_2 where
 (n227 n228:Nat) (i229 i230 i231 i232:Int) (d233 d234:D) (b235:Bool) (l236:List D) (i237 i238 i239 i240:Int) (s241:ByteArray) (i242:Int) (s243 s244:ByteArray) (b245:Bool) (i246:Int) (b247:Bool) (l248:List D) (b249:Bool) (l250:List D) (d251 d252:D) (b253:Bool) (l254:List D) (i255 i256:Int) (s257:ByteArray) (i258:Int) (s259 s260:ByteArray) (b261:Bool) (i262:Int) (b263:Bool) (l264:List D) (b265:Bool) (l266:List D) (b267:Bool) (l268:List D)
inductive X231_2 where
 | e0 (n227 n228:Nat) (i229 i230 i231 i232:Int) (d233 d234:D) (b235:Bool) (l236:List D) (i237 i238 i239 i240:Int) (s241:ByteArray) (i242:Int) (s243 s244:ByteArray) (b245:Bool) (i246:Int) (b247:Bool) (l248:List D) (b249:Bool) (l250:List D) (d251 d252:D) (b253:Bool) (l254:List D) (i255 i256:Int) (s257:ByteArray) (i258:Int) (s259 s260:ByteArray) (b261:Bool) (i262:Int) (b263:Bool) (l264:List D) (b265:Bool) (l266:List D) (b267:Bool) (l268:List D)
def st231_2 (M:Nat):S231_2→(S231_2→Option D)→(X231_2→Option D)→Option D
 | ⟨n227,n228,i229,i230,i231,i232,d233,d234,b235,l236,i237,i238,i239,i240,s241,i242,s243,s244,b245,i246,b247,l248,b249,l250,d251,d252,b253,l254,i255,i256,s257,i258,s259,s260,b261,i262,b263,l264,b265,l266,b267,l268⟩,rec,K=>(cond (leI i232 i229) (goS (st255_1 M) M ⟨n227,n228,i231,i232,(ad .i64 i231 1),d233,d234,b235,l236,i237,i238,i239,i240,s241,i242,s243,s244,b245,i246,b247,l248,b249,l250,d251,d252,b253,l254,i255,i256,s257,i258,s259,s260,b261,i262,b263,l264,b265,l266,b267,l268⟩ fun x=>match x with | .e0 n269 n270 i271 i272 i273 d274 d275 b276 l277 i278 i279 i280 i281 s282 i283 s284 s285 b286 i287 b288 l289 b290 l291 d292 d293 b294 l295 i296 i297 s298 i299 s300 s301 b302 i303 b304 l305 b306 l307 b308 l309=>(rec ⟨n227,n228,i229,i230,i232,(ad .i64 i232 i230),d274,d275,b276,l277,i278,i279,i280,i281,s282,i283,s284,s285,b286,i287,b288,l289,b290,l291,d292,d293,b294,l295,i296,i297,s298,i299,s300,s301,b302,i303,b304,l305,b306,l307,b308,l309⟩)) (K (.e0 n227 n228 i229 i230 i231 i232 d233 d234 b235 l236 i237 i238 i239 i240 s241 i242 s243 s244 b245 i246 b247 l248 b249 l250 d251 d252 b253 l254 i255 i256 s257 i258 s259 s260 b261 i262 b263 l264 b265 l266 b267 l268)))
def ex231_2 (k:Kont):X231_2→Option D
 | .e0 n227 n228 i229 i230 i231 i232 d233 d234 b235 l236 i237 i238 i239 i240 s241 i242 s243 s244 b245 i246 b247 l248 b249 l250 d251 d252 b253 l254 i255 i256 s257 i258 s259 s260 b261 i262 b263 l264 b265 l266 b267 l268=>k (.exit 0) ((.sref 8 n227 n228)::(vi i229)::(vk .func (D.fn 186))::(us 3 ((vi i230)::(vi i231)::(vi i232)::(us 2 ((vi i232)::(vi i229)::(vb (leI i232 i229))::(us 49 [])))))) [(.var k0_ (vk k0_ d233)),(.var k2_ (vk k2_ d234)),(.var k0_ (vk k0_ (da [(dl b235 l236),(di i237),(di i238)]))),(.var k4_ (vk k4_ (da [(di i239),(di i240),(dS s241),(da [(di i242),(dS s243),(dS s244),(db b245),(di i246),(dl b247 l248)]),(dl b249 l250)]))),(.var k1_ (vk k1_ (da [d251,d252,(dl b253 l254)]))),o0_,o0_,(.var k4_ (vk k4_ (da [(di i255),(di i256),(dS s257),(da [(di i258),(dS s259),(dS s260),(db b261),(di i262),(dl b263 l264)]),(dl b265 l266)]))),(.row 9 true b267 l268)]
def lv231_2:S231_2→List Leaf
 | ⟨n227,n228,i229,i230,i231,i232,d233,d234,b235,l236,i237,i238,i239,i240,s241,i242,s243,s244,b245,i246,b247,l248,b249,l250,d251,d252,b253,l254,i255,i256,s257,i258,s259,s260,b261,i262,b263,l264,b265,l266,b267,l268⟩=>[.n n227,.n n228,.i i229,.i i230,.i i231,.i i232,.d d233,.d d234,.b b235,.l l236,.i i237,.i i238,.i i239,.i i240,.s s241,.i i242,.s s243,.s s244,.b b245,.i i246,.b b247,.l l248,.b b249,.l l250,.d d251,.d d252,.b b253,.l l254,.i i255,.i i256,.s s257,.i i258,.s s259,.s s260,.b b261,.i i262,.b b263,.l l264,.b b265,.l l266,.b b267,.l l268]
def of231_2:List Leaf→Option S231_2
 | .n n227::.n n228::.i i229::.i i230::.i i231::.i i232::.d d233::.d d234::.b b235::.l l236::.i i237::.i i238::.i i239::.i i240::.s s241::.i i242::.s s243::.s s244::.b b245::.i i246::.b b247::.l l248::.b b249::.l l250::.d d251::.d d252::.b b253::.l l254::rest2=>(match rest2 with
  | [.i i255,.i i256,.s s257,.i i258,.s s259,.s s260,.b b261,.i i262,.b b263,.l l264,.b b265,.l l266,.b b267,.l l268]=>some ⟨n227,n228,i229,i230,i231,i232,d233,d234,b235,l236,i237,i238,i239,i240,s241,i242,s243,s244,b245,i246,b247,l248,b249,l250,d251,d252,b253,l254,i255,i256,s257,i258,s259,s260,b261,i262,b263,l264,b265,l266,b267,l268⟩
  | _=>none)
 | _=>none
def ps231_2:List PV:=((.sref 8)::(.d (.int .i64) (.int .i64))::(.d .func (.fn 186))::(up 3 ((.d (.int .i64) (.int .i64))::(.d (.int .i64) (.int .i64))::(.d (.int .i64) (.int .i64))::(up 54 []))))
def qs231_2:List PO:=[q6_,q5_,q3_,q1_,q4_,q0_,q0_,q1_,(.row 9 true)]
noncomputable def t7 (M:Nat):List Ent:=⟨231,8,9,2,sumS [0,1,2,6,7,8] ps231_2 qs231_2 [] of231_2 (st231_2 M) ex231_2 M⟩::t6 M
theorem t7_ok (M:Nat):AllOk (e M) (tblOf (t7 M)):=AllOk.addS (n0:=9) (lv:=lv231_2) (t6_ok M) (by kernel_rfl) rfl (by intro ls s h;unfold of231_2 at h;(repeat' split at h)<;>simp at h;subst h;rfl) (by intro s;kernel_rfl) (by intro s;kernel_rfl) (by intro s nx k;kernel_rfl)
structure S231_9 where
 (n393 n394:Nat) (i395 i396 i397 i398:Int) (d399 d400:D) (b401:Bool) (l402:List D) (i403 i404 i405 i406:Int) (s407:ByteArray) (i408:Int) (s409 s410:ByteArray) (b411:Bool) (i412:Int) (b413:Bool) (l414:List D) (b415:Bool) (l416:List D) (d417 d418:D) (b419:Bool) (l420:List D) (i421 i422:Int) (s423:ByteArray) (i424:Int) (s425 s426:ByteArray) (b427:Bool) (i428:Int) (b429:Bool) (l430:List D) (b431:Bool) (l432:List D) (b433:Bool) (l434:List D)
inductive X231_9 where
 | e0 (n393 n394:Nat) (i395 i396 i397 i398:Int) (d399 d400:D) (b401:Bool) (l402:List D) (i403 i404 i405 i406:Int) (s407:ByteArray) (i408:Int) (s409 s410:ByteArray) (b411:Bool) (i412:Int) (b413:Bool) (l414:List D) (b415:Bool) (l416:List D) (d417 d418:D) (b419:Bool) (l420:List D) (i421 i422:Int) (s423:ByteArray) (i424:Int) (s425 s426:ByteArray) (b427:Bool) (i428:Int) (b429:Bool) (l430:List D) (b431:Bool) (l432:List D) (b433:Bool) (l434:List D)
def st231_9 (M:Nat):S231_9→(S231_9→Option D)→(X231_9→Option D)→Option D
 | ⟨n393,n394,i395,i396,i397,i398,d399,d400,b401,l402,i403,i404,i405,i406,s407,i408,s409,s410,b411,i412,b413,l414,b415,l416,d417,d418,b419,l420,i421,i422,s423,i424,s425,s426,b427,i428,b429,l430,b431,l432,b433,l434⟩,rec,K=>(cond (leI i398 i395) none (K (.e0 n393 n394 i395 i396 i397 i398 d399 d400 b401 l402 i403 i404 i405 i406 s407 i408 s409 s410 b411 i412 b413 l414 b415 l416 d417 d418 b419 l420 i421 i422 s423 i424 s425 s426 b427 i428 b429 l430 b431 l432 b433 l434)))
def ex231_9 (k:Kont):X231_9→Option D
 | .e0 n393 n394 i395 i396 i397 i398 d399 d400 b401 l402 i403 i404 i405 i406 s407 i408 s409 s410 b411 i412 b413 l414 b415 l416 d417 d418 b419 l420 i421 i422 s423 i424 s425 s426 b427 i428 b429 l430 b431 l432 b433 l434=>k (.exit 4) ((.sref 8 n393 n394)::(vi i395)::(vk .func (D.fn 186))::(us 3 ((vi i396)::(vi i397)::(vi i398)::(us 24 ((vi i398)::(vi i395)::(vb (leI i398 i395))::(us 27 [])))))) [(.var k0_ (vk k0_ d399)),(.var k2_ (vk k2_ d400)),(.var k0_ (vk k0_ (da [(dl b401 l402),(di i403),(di i404)]))),(.var k4_ (vk k4_ (da [(di i405),(di i406),(dS s407),(da [(di i408),(dS s409),(dS s410),(db b411),(di i412),(dl b413 l414)]),(dl b415 l416)]))),(.var k1_ (vk k1_ (da [d417,d418,(dl b419 l420)]))),o0_,o0_,(.var k4_ (vk k4_ (da [(di i421),(di i422),(dS s423),(da [(di i424),(dS s425),(dS s426),(db b427),(di i428),(dl b429 l430)]),(dl b431 l432)]))),(.row 9 true b433 l434)]
def lv231_9:S231_9→List Leaf
 | ⟨n393,n394,i395,i396,i397,i398,d399,d400,b401,l402,i403,i404,i405,i406,s407,i408,s409,s410,b411,i412,b413,l414,b415,l416,d417,d418,b419,l420,i421,i422,s423,i424,s425,s426,b427,i428,b429,l430,b431,l432,b433,l434⟩=>[.n n393,.n n394,.i i395,.i i396,.i i397,.i i398,.d d399,.d d400,.b b401,.l l402,.i i403,.i i404,.i i405,.i i406,.s s407,.i i408,.s s409,.s s410,.b b411,.i i412,.b b413,.l l414,.b b415,.l l416,.d d417,.d d418,.b b419,.l l420,.i i421,.i i422,.s s423,.i i424,.s s425,.s s426,.b b427,.i i428,.b b429,.l l430,.b b431,.l l432,.b b433,.l l434]
def of231_9:List Leaf→Option S231_9
 | .n n393::.n n394::.i i395::.i i396::.i i397::.i i398::.d d399::.d d400::.b b401::.l l402::.i i403::.i i404::.i i405::.i i406::.s s407::.i i408::.s s409::.s s410::.b b411::.i i412::.b b413::.l l414::.b b415::.l l416::.d d417::.d d418::.b b419::.l l420::rest2=>(match rest2 with
  | [.i i421,.i i422,.s s423,.i i424,.s s425,.s s426,.b b427,.i i428,.b b429,.l l430,.b b431,.l l432,.b b433,.l l434]=>some ⟨n393,n394,i395,i396,i397,i398,d399,d400,b401,l402,i403,i404,i405,i406,s407,i408,s409,s410,b411,i412,b413,l414,b415,l416,d417,d418,b419,l420,i421,i422,s423,i424,s425,s426,b427,i428,b429,l430,b431,l432,b433,l434⟩
  | _=>none)
 | _=>none
def ps231_9:List PV:=((.sref 8)::(.d (.int .i64) (.int .i64))::(.d .func (.fn 186))::(up 3 ((.d (.int .i64) (.int .i64))::(.d (.int .i64) (.int .i64))::(.d (.int .i64) (.int .i64))::(up 54 []))))
def qs231_9:List PO:=[q6_,q5_,q3_,q1_,q4_,q0_,q0_,q1_,(.row 9 true)]
noncomputable def t8 (M:Nat):List Ent:=⟨231,8,9,9,sumS [0,1,2,6,7,8] ps231_9 qs231_9 [] of231_9 (st231_9 M) ex231_9 M⟩::t7 M
theorem t8_ok (M:Nat):AllOk (e M) (tblOf (t8 M)):=AllOk.addS (n0:=9) (lv:=lv231_9) (t7_ok M) (by kernel_rfl) rfl (by intro ls s h;unfold of231_9 at h;(repeat' split at h)<;>simp at h;subst h;rfl) (by intro s;kernel_rfl) (by intro s;kernel_rfl) (by intro s nx k;kernel_rfl)
structure S231_7 where
 (n353 n354:Nat) (i355 i356:Int) (d357 d358:D) (b359:Bool) (l360:List D) (i361 i362 i363 i364:Int) (s365:ByteArray) (i366:Int) (s367 s368:ByteArray) (b369:Bool) (i370:Int) (b371:Bool) (l372:List D) (b373:Bool) (l374:List D) (d375 d376:D) (b377:Bool) (l378:List D) (i379 i380:Int) (s381:ByteArray) (i382:Int) (s383 s384:ByteArray) (b385:Bool) (i386:Int) (b387:Bool) (l388:List D) (b389:Bool) (l390:List D) (b391:Bool) (l392:List D)
inductive X231_7 where
 | e0 (n353 n354:Nat) (i355 i356:Int) (d357 d358:D) (b359:Bool) (l360:List D) (i361 i362 i363 i364:Int) (s365:ByteArray) (i366:Int) (s367 s368:ByteArray) (b369:Bool) (i370:Int) (b371:Bool) (l372:List D) (b373:Bool) (l374:List D) (d375 d376:D) (b377:Bool) (l378:List D) (i379 i380:Int) (s381:ByteArray) (i382:Int) (s383 s384:ByteArray) (b385:Bool) (i386:Int) (b387:Bool) (l388:List D) (b389:Bool) (l390:List D) (b391:Bool) (l392:List D)
def st231_7 (M:Nat):S231_7→(S231_7→Option D)→(X231_7→Option D)→Option D
 | ⟨n353,n354,i355,i356,d357,d358,b359,l360,i361,i362,i363,i364,s365,i366,s367,s368,b369,i370,b371,l372,b373,l374,d375,d376,b377,l378,i379,i380,s381,i382,s383,s384,b385,i386,b387,l388,b389,l390,b391,l392⟩,rec,K=>(cond (ltI i356 i355) (goS (st231_9 M) M ⟨n353,n354,i355,i356,0,(ml .i64 2 i356),d357,d358,b359,l360,i361,i362,i363,i364,s365,i366,s367,s368,b369,i370,b371,l372,b373,l374,d375,d376,b377,l378,i379,i380,s381,i382,s383,s384,b385,i386,b387,l388,b389,l390,b391,l392⟩ fun x=>match x with | .e0 n393 n394 i395 i396 i397 i398 d399 d400 b401 l402 i403 i404 i405 i406 s407 i408 s409 s410 b411 i412 b413 l414 b415 l416 d417 d418 b419 l420 i421 i422 s423 i424 s425 s426 b427 i428 b429 l430 b431 l432 b433 l434=>(cond (ltI (ad .i64 i397 i396) i395) none (rec ⟨n393,n394,i395,(ml .i64 i396 2),d399,d400,b401,l402,i403,i404,i405,i406,s407,i408,s409,s410,b411,i412,b413,l414,b415,l416,d417,d418,b419,l420,i421,i422,s423,i424,s425,s426,b427,i428,b429,l430,b431,l432,b433,l434⟩))) (K (.e0 n353 n354 i355 i356 d357 d358 b359 l360 i361 i362 i363 i364 s365 i366 s367 s368 b369 i370 b371 l372 b373 l374 d375 d376 b377 l378 i379 i380 s381 i382 s383 s384 b385 i386 b387 l388 b389 l390 b391 l392)))
def ex231_7 (k:Kont):X231_7→Option D
 | .e0 n353 n354 i355 i356 d357 d358 b359 l360 i361 i362 i363 i364 s365 i366 s367 s368 b369 i370 b371 l372 b373 l374 d375 d376 b377 l378 i379 i380 s381 i382 s383 s384 b385 i386 b387 l388 b389 l390 b391 l392=>k (.exit 2) ((.sref 8 n353 n354)::(vi i355)::(vk .func (D.fn 186))::(us 3 ((vi i356)::(us 21 ((vi i356)::(vi i355)::(vb (ltI i356 i355))::(us 32 [])))))) [(.var k0_ (vk k0_ d357)),(.var k2_ (vk k2_ d358)),(.var k0_ (vk k0_ (da [(dl b359 l360),(di i361),(di i362)]))),(.var k4_ (vk k4_ (da [(di i363),(di i364),(dS s365),(da [(di i366),(dS s367),(dS s368),(db b369),(di i370),(dl b371 l372)]),(dl b373 l374)]))),(.var k1_ (vk k1_ (da [d375,d376,(dl b377 l378)]))),o0_,o0_,(.var k4_ (vk k4_ (da [(di i379),(di i380),(dS s381),(da [(di i382),(dS s383),(dS s384),(db b385),(di i386),(dl b387 l388)]),(dl b389 l390)]))),(.row 9 true b391 l392)]
def lv231_7:S231_7→List Leaf
 | ⟨n353,n354,i355,i356,d357,d358,b359,l360,i361,i362,i363,i364,s365,i366,s367,s368,b369,i370,b371,l372,b373,l374,d375,d376,b377,l378,i379,i380,s381,i382,s383,s384,b385,i386,b387,l388,b389,l390,b391,l392⟩=>[.n n353,.n n354,.i i355,.i i356,.d d357,.d d358,.b b359,.l l360,.i i361,.i i362,.i i363,.i i364,.s s365,.i i366,.s s367,.s s368,.b b369,.i i370,.b b371,.l l372,.b b373,.l l374,.d d375,.d d376,.b b377,.l l378,.i i379,.i i380,.s s381,.i i382,.s s383,.s s384,.b b385,.i i386,.b b387,.l l388,.b b389,.l l390,.b b391,.l l392]
def of231_7:List Leaf→Option S231_7
 | .n n353::.n n354::.i i355::.i i356::.d d357::.d d358::.b b359::.l l360::.i i361::.i i362::.i i363::.i i364::.s s365::.i i366::.s s367::.s s368::.b b369::.i i370::.b b371::.l l372::.b b373::.l l374::.d d375::.d d376::.b b377::.l l378::.i i379::.i i380::rest2=>(match rest2 with
  | [.s s381,.i i382,.s s383,.s s384,.b b385,.i i386,.b b387,.l l388,.b b389,.l l390,.b b391,.l l392]=>some ⟨n353,n354,i355,i356,d357,d358,b359,l360,i361,i362,i363,i364,s365,i366,s367,s368,b369,i370,b371,l372,b373,l374,d375,d376,b377,l378,i379,i380,s381,i382,s383,s384,b385,i386,b387,l388,b389,l390,b391,l392⟩
  | _=>none)
 | _=>none
def ps231_7:List PV:=((.sref 8)::(.d (.int .i64) (.int .i64))::(.d .func (.fn 186))::(up 3 ((.d (.int .i64) (.int .i64))::(up 56 []))))
def qs231_7:List PO:=[q6_,q5_,q3_,q1_,q4_,q0_,q0_,q1_,(.row 9 true)]
noncomputable def t (M:Nat):List Ent:=⟨231,8,9,7,sumS [0,1,2,6] ps231_7 qs231_7 [] of231_7 (st231_7 M) ex231_7 M⟩::t8 M
theorem t_ok (M:Nat):AllOk (e M) (tblOf (t M)):=AllOk.addS (n0:=9) (lv:=lv231_7) (t8_ok M) (by kernel_rfl) rfl (by intro ls s h;unfold of231_7 at h;(repeat' split at h)<;>simp at h;subst h;rfl) (by intro s;kernel_rfl) (by intro s;kernel_rfl) (by intro s nx k;kernel_rfl)
def s (M:Nat) (p0:D) (p1:D):Option D:=
 (cond (ltI (p1.at 0).i 0) (bd (F77.s FUEL 1) fun r1=>(some (D.tup [p0,r1,(dl false [])]))) (cond (geI (p1.at 0).i 12) (bd (F77.s FUEL 1) fun r2=>(some (D.tup [p0,r2,(dl false [])]))) (cond (inb (p1.at 0).i 12) (cond ((p1.at 0).i.toNat==0) (bd (F164.s FUEL (p1.at 1).s) fun r3=>(cond (!r3.b) (bd (F77.s FUEL 2) fun r4=>(some (D.tup [p0,r4,(dl false [])]))) (bd (F31.s FUEL p0 (p1.at 1).s) fun r5=>(cond (geI r5.i 0) (bd (F77.s FUEL 4) fun r6=>(some (D.tup [p0,r6,(dl false [])]))) (cond (geI (nI (p0.at 0).elems.length) 12) (bd (F77.s FUEL 10) fun r7=>(some (D.tup [p0,r7,(dl false [])]))) (cond (geI (p0.at 1).i 1099511627776) (bd (F77.s FUEL 10) fun r8=>(some (D.tup [p0,r8,(dl false [])]))) (bd (F174.s FUEL (ad .i64 (p0.at 1).i 1) (p1.at 1).s) fun r9=>(cond (neI (r9.at 1).i 0) (bd (F77.s FUEL (r9.at 1).i) fun r10=>(some (D.tup [p0,r10,(dl false [])]))) (bd (F175.s FUEL (p0.at 0)) fun r11=>(cond (mx (r11.elems.length+1)) (some (D.tup [(da [(dl (r11.nn||true) (((ap ((r11.elems.drop 0).take r11.elems.length) [(r9.at 0)]).drop 0).take (r11.elems.length+1))),((r9.at 0).at 0),(p0.at 2)]),(da [(di 0),((r9.at 0).at 0),(dS (bs [])),(da [(di 0),(dS (bs [])),(dS (bs [])),(db false),(di 0),(dl false [])]),(dl false [])]),(dl true [(da [(di 0),((r9.at 0).at 0),((r9.at 0).at 1),(di 0),(di 0),(da (rp 32 (D.int .u8 0)))])])])) none)))))))))) (cond (((p1.at 0).i.toNat-1)==0) (bd (F31.s FUEL p0 (p1.at 1).s) fun r12=>(cond (ltI r12.i 0) (bd (F77.s FUEL 3) fun r13=>(some (D.tup [p0,r13,(dl false [])]))) (cond (inb r12.i (p0.at 0).elems.length) (bd (F176.s FUEL (ix (p0.at 0).elems (r12.i).toNat) p1 (p0.at 2).i) fun r14=>(cond (neI (r14.at 2).i 0) (bd (F77.s FUEL (r14.at 2).i) fun r15=>(some (D.tup [p0,r15,(dl false [])]))) (bd (F175.s FUEL (p0.at 0)) fun r16=>(cond (eqI (p1.at 0).i 6) (cond ((leI 0 r12.i)&&(leI r12.i (ad .i64 r12.i 1))&&(leI (ad .i64 r12.i 1) (nI r16.elems.length))&&(leI (nI r16.elems.length) (nI r16.elems.length))&&(eqN (0+r16.elems.length) r16.elems.length)) (cond (eqI r12.i (ad .i64 r12.i 1)) (some (D.tup [(da [(dl r16.nn ((r16.elems.drop 0).take r16.elems.length)),(p0.at 1),(p0.at 2)]),(da [(di 0),((r14.at 1).at 1),(dS (bs [])),(da [(di 0),(dS (bs [])),(dS (bs [])),(db false),(di 0),(dl false [])]),(dl false [])]),(dl true [(r14.at 1)])])) (cond (true&&(leI 0 r12.i)&&(leN (0+(r12.i).toNat) r16.elems.length)) (cond ((leI 0 (ad .i64 r12.i 1))&&(leI (ad .i64 r12.i 1) (nI r16.elems.length))&&(leN (0+r16.elems.length) r16.elems.length)) (cond (leN ((0+((r12.i).toNat-0))+((r16.elems.drop (0+(ad .i64 r12.i 1).toNat)).take (r16.elems.length-(ad .i64 r12.i 1).toNat)).length) r16.elems.length) (cond ((leI 0 (nI (((r12.i).toNat-0)+((r16.elems.drop (0+(ad .i64 r12.i 1).toNat)).take (r16.elems.length-(ad .i64 r12.i 1).toNat)).length)))&&(leI (nI (((r12.i).toNat-0)+((r16.elems.drop (0+(ad .i64 r12.i 1).toNat)).take (r16.elems.length-(ad .i64 r12.i 1).toNat)).length)) (nI r16.elems.length))&&(leN (0+r16.elems.length) (ap (ap (r16.elems.take (0+((r12.i).toNat-0))) ((r16.elems.drop (0+(ad .i64 r12.i 1).toNat)).take (r16.elems.length-(ad .i64 r12.i 1).toNat))) (r16.elems.drop ((0+((r12.i).toNat-0))+((r16.elems.drop (0+(ad .i64 r12.i 1).toNat)).take (r16.elems.length-(ad .i64 r12.i 1).toNat)).length))).length)) (some (D.tup [(da [(dl r16.nn (((ap (ap ((ap (ap (r16.elems.take (0+((r12.i).toNat-0))) ((r16.elems.drop (0+(ad .i64 r12.i 1).toNat)).take (r16.elems.length-(ad .i64 r12.i 1).toNat))) (r16.elems.drop ((0+((r12.i).toNat-0))+((r16.elems.drop (0+(ad .i64 r12.i 1).toNat)).take (r16.elems.length-(ad .i64 r12.i 1).toNat)).length))).take (0+(((r12.i).toNat-0)+((r16.elems.drop (0+(ad .i64 r12.i 1).toNat)).take (r16.elems.length-(ad .i64 r12.i 1).toNat)).length))) (rp (r16.elems.length-(((r12.i).toNat-0)+((r16.elems.drop (0+(ad .i64 r12.i 1).toNat)).take (r16.elems.length-(ad .i64 r12.i 1).toNat)).length)) (da [(di 0),(dS (bs [])),(dS (bs [])),(db false),(di 0),(dl false [])]))) ((ap (ap (r16.elems.take (0+((r12.i).toNat-0))) ((r16.elems.drop (0+(ad .i64 r12.i 1).toNat)).take (r16.elems.length-(ad .i64 r12.i 1).toNat))) (r16.elems.drop ((0+((r12.i).toNat-0))+((r16.elems.drop (0+(ad .i64 r12.i 1).toNat)).take (r16.elems.length-(ad .i64 r12.i 1).toNat)).length))).drop ((0+(((r12.i).toNat-0)+((r16.elems.drop (0+(ad .i64 r12.i 1).toNat)).take (r16.elems.length-(ad .i64 r12.i 1).toNat)).length))+(r16.elems.length-(((r12.i).toNat-0)+((r16.elems.drop (0+(ad .i64 r12.i 1).toNat)).take (r16.elems.length-(ad .i64 r12.i 1).toNat)).length))))).drop 0).take (((r12.i).toNat-0)+((r16.elems.drop (0+(ad .i64 r12.i 1).toNat)).take (r16.elems.length-(ad .i64 r12.i 1).toNat)).length))),(p0.at 1),(p0.at 2)]),(da [(di 0),((r14.at 1).at 1),(dS (bs [])),(da [(di 0),(dS (bs [])),(dS (bs [])),(db false),(di 0),(dl false [])]),(dl false [])]),(dl true [(r14.at 1)])])) none) none) none) none)) none) (cond (inb r12.i r16.elems.length) (some (D.tup [(da [(dl r16.nn (((r16.elems.set (0+(r12.i).toNat) (r14.at 0)).drop 0).take r16.elems.length)),(p0.at 1),(p0.at 2)]),(da [(di 0),(di (nI ((r14.at 0).at 2).s.size)),(dS (bs [])),(da [(di 0),(dS (bs [])),(dS (bs [])),(db false),(di 0),(dl false [])]),(dl false [])]),(dl true [(r14.at 1)])])) none))))) none))) (cond ((((p1.at 0).i.toNat-1)-1)==0) (bd (F31.s FUEL p0 (p1.at 1).s) fun r17=>(cond (ltI r17.i 0) (bd (F77.s FUEL 3) fun r18=>(some (D.tup [p0,r18,(dl false [])]))) (cond (inb r17.i (p0.at 0).elems.length) (bd (F176.s FUEL (ix (p0.at 0).elems (r17.i).toNat) p1 (p0.at 2).i) fun r19=>(cond (neI (r19.at 2).i 0) (bd (F77.s FUEL (r19.at 2).i) fun r20=>(some (D.tup [p0,r20,(dl false [])]))) (bd (F175.s FUEL (p0.at 0)) fun r21=>(cond (eqI (p1.at 0).i 6) (cond ((leI 0 r17.i)&&(leI r17.i (ad .i64 r17.i 1))&&(leI (ad .i64 r17.i 1) (nI r21.elems.length))&&(leI (nI r21.elems.length) (nI r21.elems.length))&&(eqN (0+r21.elems.length) r21.elems.length)) (cond (eqI r17.i (ad .i64 r17.i 1)) (some (D.tup [(da [(dl r21.nn ((r21.elems.drop 0).take r21.elems.length)),(p0.at 1),(p0.at 2)]),(da [(di 0),((r19.at 1).at 1),(dS (bs [])),(da [(di 0),(dS (bs [])),(dS (bs [])),(db false),(di 0),(dl false [])]),(dl false [])]),(dl true [(r19.at 1)])])) (cond (true&&(leI 0 r17.i)&&(leN (0+(r17.i).toNat) r21.elems.length)) (cond ((leI 0 (ad .i64 r17.i 1))&&(leI (ad .i64 r17.i 1) (nI r21.elems.length))&&(leN (0+r21.elems.length) r21.elems.length)) (cond (leN ((0+((r17.i).toNat-0))+((r21.elems.drop (0+(ad .i64 r17.i 1).toNat)).take (r21.elems.length-(ad .i64 r17.i 1).toNat)).length) r21.elems.length) (cond ((leI 0 (nI (((r17.i).toNat-0)+((r21.elems.drop (0+(ad .i64 r17.i 1).toNat)).take (r21.elems.length-(ad .i64 r17.i 1).toNat)).length)))&&(leI (nI (((r17.i).toNat-0)+((r21.elems.drop (0+(ad .i64 r17.i 1).toNat)).take (r21.elems.length-(ad .i64 r17.i 1).toNat)).length)) (nI r21.elems.length))&&(leN (0+r21.elems.length) (ap (ap (r21.elems.take (0+((r17.i).toNat-0))) ((r21.elems.drop (0+(ad .i64 r17.i 1).toNat)).take (r21.elems.length-(ad .i64 r17.i 1).toNat))) (r21.elems.drop ((0+((r17.i).toNat-0))+((r21.elems.drop (0+(ad .i64 r17.i 1).toNat)).take (r21.elems.length-(ad .i64 r17.i 1).toNat)).length))).length)) (some (D.tup [(da [(dl r21.nn (((ap (ap ((ap (ap (r21.elems.take (0+((r17.i).toNat-0))) ((r21.elems.drop (0+(ad .i64 r17.i 1).toNat)).take (r21.elems.length-(ad .i64 r17.i 1).toNat))) (r21.elems.drop ((0+((r17.i).toNat-0))+((r21.elems.drop (0+(ad .i64 r17.i 1).toNat)).take (r21.elems.length-(ad .i64 r17.i 1).toNat)).length))).take (0+(((r17.i).toNat-0)+((r21.elems.drop (0+(ad .i64 r17.i 1).toNat)).take (r21.elems.length-(ad .i64 r17.i 1).toNat)).length))) (rp (r21.elems.length-(((r17.i).toNat-0)+((r21.elems.drop (0+(ad .i64 r17.i 1).toNat)).take (r21.elems.length-(ad .i64 r17.i 1).toNat)).length)) (da [(di 0),(dS (bs [])),(dS (bs [])),(db false),(di 0),(dl false [])]))) ((ap (ap (r21.elems.take (0+((r17.i).toNat-0))) ((r21.elems.drop (0+(ad .i64 r17.i 1).toNat)).take (r21.elems.length-(ad .i64 r17.i 1).toNat))) (r21.elems.drop ((0+((r17.i).toNat-0))+((r21.elems.drop (0+(ad .i64 r17.i 1).toNat)).take (r21.elems.length-(ad .i64 r17.i 1).toNat)).length))).drop ((0+(((r17.i).toNat-0)+((r21.elems.drop (0+(ad .i64 r17.i 1).toNat)).take (r21.elems.length-(ad .i64 r17.i 1).toNat)).length))+(r21.elems.length-(((r17.i).toNat-0)+((r21.elems.drop (0+(ad .i64 r17.i 1).toNat)).take (r21.elems.length-(ad .i64 r17.i 1).toNat)).length))))).drop 0).take (((r17.i).toNat-0)+((r21.elems.drop (0+(ad .i64 r17.i 1).toNat)).take (r21.elems.length-(ad .i64 r17.i 1).toNat)).length))),(p0.at 1),(p0.at 2)]),(da [(di 0),((r19.at 1).at 1),(dS (bs [])),(da [(di 0),(dS (bs [])),(dS (bs [])),(db false),(di 0),(dl false [])]),(dl false [])]),(dl true [(r19.at 1)])])) none) none) none) none)) none) (cond (inb r17.i r21.elems.length) (some (D.tup [(da [(dl r21.nn (((r21.elems.set (0+(r17.i).toNat) (r19.at 0)).drop 0).take r21.elems.length)),(p0.at 1),(p0.at 2)]),(da [(di 0),(di (nI ((r19.at 0).at 2).s.size)),(dS (bs [])),(da [(di 0),(dS (bs [])),(dS (bs [])),(db false),(di 0),(dl false [])]),(dl false [])]),(dl true [(r19.at 1)])])) none))))) none))) (cond (((((p1.at 0).i.toNat-1)-1)-1)==0) (bd (F31.s FUEL p0 (p1.at 1).s) fun r22=>(cond (ltI r22.i 0) (bd (F77.s FUEL 3) fun r23=>(some (D.tup [p0,r23,(dl false [])]))) (cond (inb r22.i (p0.at 0).elems.length) (bd (F176.s FUEL (ix (p0.at 0).elems (r22.i).toNat) p1 (p0.at 2).i) fun r24=>(cond (neI (r24.at 2).i 0) (bd (F77.s FUEL (r24.at 2).i) fun r25=>(some (D.tup [p0,r25,(dl false [])]))) (bd (F175.s FUEL (p0.at 0)) fun r26=>(cond (eqI (p1.at 0).i 6) (cond ((leI 0 r22.i)&&(leI r22.i (ad .i64 r22.i 1))&&(leI (ad .i64 r22.i 1) (nI r26.elems.length))&&(leI (nI r26.elems.length) (nI r26.elems.length))&&(eqN (0+r26.elems.length) r26.elems.length)) (cond (eqI r22.i (ad .i64 r22.i 1)) (some (D.tup [(da [(dl r26.nn ((r26.elems.drop 0).take r26.elems.length)),(p0.at 1),(p0.at 2)]),(da [(di 0),((r24.at 1).at 1),(dS (bs [])),(da [(di 0),(dS (bs [])),(dS (bs [])),(db false),(di 0),(dl false [])]),(dl false [])]),(dl true [(r24.at 1)])])) (cond (true&&(leI 0 r22.i)&&(leN (0+(r22.i).toNat) r26.elems.length)) (cond ((leI 0 (ad .i64 r22.i 1))&&(leI (ad .i64 r22.i 1) (nI r26.elems.length))&&(leN (0+r26.elems.length) r26.elems.length)) (cond (leN ((0+((r22.i).toNat-0))+((r26.elems.drop (0+(ad .i64 r22.i 1).toNat)).take (r26.elems.length-(ad .i64 r22.i 1).toNat)).length) r26.elems.length) (cond ((leI 0 (nI (((r22.i).toNat-0)+((r26.elems.drop (0+(ad .i64 r22.i 1).toNat)).take (r26.elems.length-(ad .i64 r22.i 1).toNat)).length)))&&(leI (nI (((r22.i).toNat-0)+((r26.elems.drop (0+(ad .i64 r22.i 1).toNat)).take (r26.elems.length-(ad .i64 r22.i 1).toNat)).length)) (nI r26.elems.length))&&(leN (0+r26.elems.length) (ap (ap (r26.elems.take (0+((r22.i).toNat-0))) ((r26.elems.drop (0+(ad .i64 r22.i 1).toNat)).take (r26.elems.length-(ad .i64 r22.i 1).toNat))) (r26.elems.drop ((0+((r22.i).toNat-0))+((r26.elems.drop (0+(ad .i64 r22.i 1).toNat)).take (r26.elems.length-(ad .i64 r22.i 1).toNat)).length))).length)) (some (D.tup [(da [(dl r26.nn (((ap (ap ((ap (ap (r26.elems.take (0+((r22.i).toNat-0))) ((r26.elems.drop (0+(ad .i64 r22.i 1).toNat)).take (r26.elems.length-(ad .i64 r22.i 1).toNat))) (r26.elems.drop ((0+((r22.i).toNat-0))+((r26.elems.drop (0+(ad .i64 r22.i 1).toNat)).take (r26.elems.length-(ad .i64 r22.i 1).toNat)).length))).take (0+(((r22.i).toNat-0)+((r26.elems.drop (0+(ad .i64 r22.i 1).toNat)).take (r26.elems.length-(ad .i64 r22.i 1).toNat)).length))) (rp (r26.elems.length-(((r22.i).toNat-0)+((r26.elems.drop (0+(ad .i64 r22.i 1).toNat)).take (r26.elems.length-(ad .i64 r22.i 1).toNat)).length)) (da [(di 0),(dS (bs [])),(dS (bs [])),(db false),(di 0),(dl false [])]))) ((ap (ap (r26.elems.take (0+((r22.i).toNat-0))) ((r26.elems.drop (0+(ad .i64 r22.i 1).toNat)).take (r26.elems.length-(ad .i64 r22.i 1).toNat))) (r26.elems.drop ((0+((r22.i).toNat-0))+((r26.elems.drop (0+(ad .i64 r22.i 1).toNat)).take (r26.elems.length-(ad .i64 r22.i 1).toNat)).length))).drop ((0+(((r22.i).toNat-0)+((r26.elems.drop (0+(ad .i64 r22.i 1).toNat)).take (r26.elems.length-(ad .i64 r22.i 1).toNat)).length))+(r26.elems.length-(((r22.i).toNat-0)+((r26.elems.drop (0+(ad .i64 r22.i 1).toNat)).take (r26.elems.length-(ad .i64 r22.i 1).toNat)).length))))).drop 0).take (((r22.i).toNat-0)+((r26.elems.drop (0+(ad .i64 r22.i 1).toNat)).take (r26.elems.length-(ad .i64 r22.i 1).toNat)).length))),(p0.at 1),(p0.at 2)]),(da [(di 0),((r24.at 1).at 1),(dS (bs [])),(da [(di 0),(dS (bs [])),(dS (bs [])),(db false),(di 0),(dl false [])]),(dl false [])]),(dl true [(r24.at 1)])])) none) none) none) none)) none) (cond (inb r22.i r26.elems.length) (some (D.tup [(da [(dl r26.nn (((r26.elems.set (0+(r22.i).toNat) (r24.at 0)).drop 0).take r26.elems.length)),(p0.at 1),(p0.at 2)]),(da [(di 0),(di (nI ((r24.at 0).at 2).s.size)),(dS (bs [])),(da [(di 0),(dS (bs [])),(dS (bs [])),(db false),(di 0),(dl false [])]),(dl false [])]),(dl true [(r24.at 1)])])) none))))) none))) (cond ((((((p1.at 0).i.toNat-1)-1)-1)-1)==0) (bd (F31.s FUEL p0 (p1.at 1).s) fun r27=>(cond (ltI r27.i 0) (bd (F77.s FUEL 3) fun r28=>(some (D.tup [p0,r28,(dl false [])]))) (cond (inb r27.i (p0.at 0).elems.length) (bd (F176.s FUEL (ix (p0.at 0).elems (r27.i).toNat) p1 (p0.at 2).i) fun r29=>(cond (neI (r29.at 2).i 0) (bd (F77.s FUEL (r29.at 2).i) fun r30=>(some (D.tup [p0,r30,(dl false [])]))) (bd (F175.s FUEL (p0.at 0)) fun r31=>(cond (eqI (p1.at 0).i 6) (cond ((leI 0 r27.i)&&(leI r27.i (ad .i64 r27.i 1))&&(leI (ad .i64 r27.i 1) (nI r31.elems.length))&&(leI (nI r31.elems.length) (nI r31.elems.length))&&(eqN (0+r31.elems.length) r31.elems.length)) (cond (eqI r27.i (ad .i64 r27.i 1)) (some (D.tup [(da [(dl r31.nn ((r31.elems.drop 0).take r31.elems.length)),(p0.at 1),(p0.at 2)]),(da [(di 0),((r29.at 1).at 1),(dS (bs [])),(da [(di 0),(dS (bs [])),(dS (bs [])),(db false),(di 0),(dl false [])]),(dl false [])]),(dl true [(r29.at 1)])])) (cond (true&&(leI 0 r27.i)&&(leN (0+(r27.i).toNat) r31.elems.length)) (cond ((leI 0 (ad .i64 r27.i 1))&&(leI (ad .i64 r27.i 1) (nI r31.elems.length))&&(leN (0+r31.elems.length) r31.elems.length)) (cond (leN ((0+((r27.i).toNat-0))+((r31.elems.drop (0+(ad .i64 r27.i 1).toNat)).take (r31.elems.length-(ad .i64 r27.i 1).toNat)).length) r31.elems.length) (cond ((leI 0 (nI (((r27.i).toNat-0)+((r31.elems.drop (0+(ad .i64 r27.i 1).toNat)).take (r31.elems.length-(ad .i64 r27.i 1).toNat)).length)))&&(leI (nI (((r27.i).toNat-0)+((r31.elems.drop (0+(ad .i64 r27.i 1).toNat)).take (r31.elems.length-(ad .i64 r27.i 1).toNat)).length)) (nI r31.elems.length))&&(leN (0+r31.elems.length) (ap (ap (r31.elems.take (0+((r27.i).toNat-0))) ((r31.elems.drop (0+(ad .i64 r27.i 1).toNat)).take (r31.elems.length-(ad .i64 r27.i 1).toNat))) (r31.elems.drop ((0+((r27.i).toNat-0))+((r31.elems.drop (0+(ad .i64 r27.i 1).toNat)).take (r31.elems.length-(ad .i64 r27.i 1).toNat)).length))).length)) (some (D.tup [(da [(dl r31.nn (((ap (ap ((ap (ap (r31.elems.take (0+((r27.i).toNat-0))) ((r31.elems.drop (0+(ad .i64 r27.i 1).toNat)).take (r31.elems.length-(ad .i64 r27.i 1).toNat))) (r31.elems.drop ((0+((r27.i).toNat-0))+((r31.elems.drop (0+(ad .i64 r27.i 1).toNat)).take (r31.elems.length-(ad .i64 r27.i 1).toNat)).length))).take (0+(((r27.i).toNat-0)+((r31.elems.drop (0+(ad .i64 r27.i 1).toNat)).take (r31.elems.length-(ad .i64 r27.i 1).toNat)).length))) (rp (r31.elems.length-(((r27.i).toNat-0)+((r31.elems.drop (0+(ad .i64 r27.i 1).toNat)).take (r31.elems.length-(ad .i64 r27.i 1).toNat)).length)) (da [(di 0),(dS (bs [])),(dS (bs [])),(db false),(di 0),(dl false [])]))) ((ap (ap (r31.elems.take (0+((r27.i).toNat-0))) ((r31.elems.drop (0+(ad .i64 r27.i 1).toNat)).take (r31.elems.length-(ad .i64 r27.i 1).toNat))) (r31.elems.drop ((0+((r27.i).toNat-0))+((r31.elems.drop (0+(ad .i64 r27.i 1).toNat)).take (r31.elems.length-(ad .i64 r27.i 1).toNat)).length))).drop ((0+(((r27.i).toNat-0)+((r31.elems.drop (0+(ad .i64 r27.i 1).toNat)).take (r31.elems.length-(ad .i64 r27.i 1).toNat)).length))+(r31.elems.length-(((r27.i).toNat-0)+((r31.elems.drop (0+(ad .i64 r27.i 1).toNat)).take (r31.elems.length-(ad .i64 r27.i 1).toNat)).length))))).drop 0).take (((r27.i).toNat-0)+((r31.elems.drop (0+(ad .i64 r27.i 1).toNat)).take (r31.elems.length-(ad .i64 r27.i 1).toNat)).length))),(p0.at 1),(p0.at 2)]),(da [(di 0),((r29.at 1).at 1),(dS (bs [])),(da [(di 0),(dS (bs [])),(dS (bs [])),(db false),(di 0),(dl false [])]),(dl false [])]),(dl true [(r29.at 1)])])) none) none) none) none)) none) (cond (inb r27.i r31.elems.length) (some (D.tup [(da [(dl r31.nn (((r31.elems.set (0+(r27.i).toNat) (r29.at 0)).drop 0).take r31.elems.length)),(p0.at 1),(p0.at 2)]),(da [(di 0),(di (nI ((r29.at 0).at 2).s.size)),(dS (bs [])),(da [(di 0),(dS (bs [])),(dS (bs [])),(db false),(di 0),(dl false [])]),(dl false [])]),(dl true [(r29.at 1)])])) none))))) none))) (cond (((((((p1.at 0).i.toNat-1)-1)-1)-1)-1)==0) (bd (F31.s FUEL p0 (p1.at 1).s) fun r32=>(cond (ltI r32.i 0) (bd (F77.s FUEL 3) fun r33=>(some (D.tup [p0,r33,(dl false [])]))) (cond (inb r32.i (p0.at 0).elems.length) (bd (F176.s FUEL (ix (p0.at 0).elems (r32.i).toNat) p1 (p0.at 2).i) fun r34=>(cond (neI (r34.at 2).i 0) (bd (F77.s FUEL (r34.at 2).i) fun r35=>(some (D.tup [p0,r35,(dl false [])]))) (bd (F175.s FUEL (p0.at 0)) fun r36=>(cond (eqI (p1.at 0).i 6) (cond ((leI 0 r32.i)&&(leI r32.i (ad .i64 r32.i 1))&&(leI (ad .i64 r32.i 1) (nI r36.elems.length))&&(leI (nI r36.elems.length) (nI r36.elems.length))&&(eqN (0+r36.elems.length) r36.elems.length)) (cond (eqI r32.i (ad .i64 r32.i 1)) (some (D.tup [(da [(dl r36.nn ((r36.elems.drop 0).take r36.elems.length)),(p0.at 1),(p0.at 2)]),(da [(di 0),((r34.at 1).at 1),(dS (bs [])),(da [(di 0),(dS (bs [])),(dS (bs [])),(db false),(di 0),(dl false [])]),(dl false [])]),(dl true [(r34.at 1)])])) (cond (true&&(leI 0 r32.i)&&(leN (0+(r32.i).toNat) r36.elems.length)) (cond ((leI 0 (ad .i64 r32.i 1))&&(leI (ad .i64 r32.i 1) (nI r36.elems.length))&&(leN (0+r36.elems.length) r36.elems.length)) (cond (leN ((0+((r32.i).toNat-0))+((r36.elems.drop (0+(ad .i64 r32.i 1).toNat)).take (r36.elems.length-(ad .i64 r32.i 1).toNat)).length) r36.elems.length) (cond ((leI 0 (nI (((r32.i).toNat-0)+((r36.elems.drop (0+(ad .i64 r32.i 1).toNat)).take (r36.elems.length-(ad .i64 r32.i 1).toNat)).length)))&&(leI (nI (((r32.i).toNat-0)+((r36.elems.drop (0+(ad .i64 r32.i 1).toNat)).take (r36.elems.length-(ad .i64 r32.i 1).toNat)).length)) (nI r36.elems.length))&&(leN (0+r36.elems.length) (ap (ap (r36.elems.take (0+((r32.i).toNat-0))) ((r36.elems.drop (0+(ad .i64 r32.i 1).toNat)).take (r36.elems.length-(ad .i64 r32.i 1).toNat))) (r36.elems.drop ((0+((r32.i).toNat-0))+((r36.elems.drop (0+(ad .i64 r32.i 1).toNat)).take (r36.elems.length-(ad .i64 r32.i 1).toNat)).length))).length)) (some (D.tup [(da [(dl r36.nn (((ap (ap ((ap (ap (r36.elems.take (0+((r32.i).toNat-0))) ((r36.elems.drop (0+(ad .i64 r32.i 1).toNat)).take (r36.elems.length-(ad .i64 r32.i 1).toNat))) (r36.elems.drop ((0+((r32.i).toNat-0))+((r36.elems.drop (0+(ad .i64 r32.i 1).toNat)).take (r36.elems.length-(ad .i64 r32.i 1).toNat)).length))).take (0+(((r32.i).toNat-0)+((r36.elems.drop (0+(ad .i64 r32.i 1).toNat)).take (r36.elems.length-(ad .i64 r32.i 1).toNat)).length))) (rp (r36.elems.length-(((r32.i).toNat-0)+((r36.elems.drop (0+(ad .i64 r32.i 1).toNat)).take (r36.elems.length-(ad .i64 r32.i 1).toNat)).length)) (da [(di 0),(dS (bs [])),(dS (bs [])),(db false),(di 0),(dl false [])]))) ((ap (ap (r36.elems.take (0+((r32.i).toNat-0))) ((r36.elems.drop (0+(ad .i64 r32.i 1).toNat)).take (r36.elems.length-(ad .i64 r32.i 1).toNat))) (r36.elems.drop ((0+((r32.i).toNat-0))+((r36.elems.drop (0+(ad .i64 r32.i 1).toNat)).take (r36.elems.length-(ad .i64 r32.i 1).toNat)).length))).drop ((0+(((r32.i).toNat-0)+((r36.elems.drop (0+(ad .i64 r32.i 1).toNat)).take (r36.elems.length-(ad .i64 r32.i 1).toNat)).length))+(r36.elems.length-(((r32.i).toNat-0)+((r36.elems.drop (0+(ad .i64 r32.i 1).toNat)).take (r36.elems.length-(ad .i64 r32.i 1).toNat)).length))))).drop 0).take (((r32.i).toNat-0)+((r36.elems.drop (0+(ad .i64 r32.i 1).toNat)).take (r36.elems.length-(ad .i64 r32.i 1).toNat)).length))),(p0.at 1),(p0.at 2)]),(da [(di 0),((r34.at 1).at 1),(dS (bs [])),(da [(di 0),(dS (bs [])),(dS (bs [])),(db false),(di 0),(dl false [])]),(dl false [])]),(dl true [(r34.at 1)])])) none) none) none) none)) none) (cond (inb r32.i r36.elems.length) (some (D.tup [(da [(dl r36.nn (((r36.elems.set (0+(r32.i).toNat) (r34.at 0)).drop 0).take r36.elems.length)),(p0.at 1),(p0.at 2)]),(da [(di 0),(di (nI ((r34.at 0).at 2).s.size)),(dS (bs [])),(da [(di 0),(dS (bs [])),(dS (bs [])),(db false),(di 0),(dl false [])]),(dl false [])]),(dl true [(r34.at 1)])])) none))))) none))) (cond ((((((((p1.at 0).i.toNat-1)-1)-1)-1)-1)-1)==0) (bd (F31.s FUEL p0 (p1.at 1).s) fun r37=>(cond (ltI r37.i 0) (bd (F77.s FUEL 3) fun r38=>(some (D.tup [p0,r38,(dl false [])]))) (cond (inb r37.i (p0.at 0).elems.length) (bd (F176.s FUEL (ix (p0.at 0).elems (r37.i).toNat) p1 (p0.at 2).i) fun r39=>(cond (neI (r39.at 2).i 0) (bd (F77.s FUEL (r39.at 2).i) fun r40=>(some (D.tup [p0,r40,(dl false [])]))) (bd (F175.s FUEL (p0.at 0)) fun r41=>(cond (eqI (p1.at 0).i 6) (cond ((leI 0 r37.i)&&(leI r37.i (ad .i64 r37.i 1))&&(leI (ad .i64 r37.i 1) (nI r41.elems.length))&&(leI (nI r41.elems.length) (nI r41.elems.length))&&(eqN (0+r41.elems.length) r41.elems.length)) (cond (eqI r37.i (ad .i64 r37.i 1)) (some (D.tup [(da [(dl r41.nn ((r41.elems.drop 0).take r41.elems.length)),(p0.at 1),(p0.at 2)]),(da [(di 0),((r39.at 1).at 1),(dS (bs [])),(da [(di 0),(dS (bs [])),(dS (bs [])),(db false),(di 0),(dl false [])]),(dl false [])]),(dl true [(r39.at 1)])])) (cond (true&&(leI 0 r37.i)&&(leN (0+(r37.i).toNat) r41.elems.length)) (cond ((leI 0 (ad .i64 r37.i 1))&&(leI (ad .i64 r37.i 1) (nI r41.elems.length))&&(leN (0+r41.elems.length) r41.elems.length)) (cond (leN ((0+((r37.i).toNat-0))+((r41.elems.drop (0+(ad .i64 r37.i 1).toNat)).take (r41.elems.length-(ad .i64 r37.i 1).toNat)).length) r41.elems.length) (cond ((leI 0 (nI (((r37.i).toNat-0)+((r41.elems.drop (0+(ad .i64 r37.i 1).toNat)).take (r41.elems.length-(ad .i64 r37.i 1).toNat)).length)))&&(leI (nI (((r37.i).toNat-0)+((r41.elems.drop (0+(ad .i64 r37.i 1).toNat)).take (r41.elems.length-(ad .i64 r37.i 1).toNat)).length)) (nI r41.elems.length))&&(leN (0+r41.elems.length) (ap (ap (r41.elems.take (0+((r37.i).toNat-0))) ((r41.elems.drop (0+(ad .i64 r37.i 1).toNat)).take (r41.elems.length-(ad .i64 r37.i 1).toNat))) (r41.elems.drop ((0+((r37.i).toNat-0))+((r41.elems.drop (0+(ad .i64 r37.i 1).toNat)).take (r41.elems.length-(ad .i64 r37.i 1).toNat)).length))).length)) (some (D.tup [(da [(dl r41.nn (((ap (ap ((ap (ap (r41.elems.take (0+((r37.i).toNat-0))) ((r41.elems.drop (0+(ad .i64 r37.i 1).toNat)).take (r41.elems.length-(ad .i64 r37.i 1).toNat))) (r41.elems.drop ((0+((r37.i).toNat-0))+((r41.elems.drop (0+(ad .i64 r37.i 1).toNat)).take (r41.elems.length-(ad .i64 r37.i 1).toNat)).length))).take (0+(((r37.i).toNat-0)+((r41.elems.drop (0+(ad .i64 r37.i 1).toNat)).take (r41.elems.length-(ad .i64 r37.i 1).toNat)).length))) (rp (r41.elems.length-(((r37.i).toNat-0)+((r41.elems.drop (0+(ad .i64 r37.i 1).toNat)).take (r41.elems.length-(ad .i64 r37.i 1).toNat)).length)) (da [(di 0),(dS (bs [])),(dS (bs [])),(db false),(di 0),(dl false [])]))) ((ap (ap (r41.elems.take (0+((r37.i).toNat-0))) ((r41.elems.drop (0+(ad .i64 r37.i 1).toNat)).take (r41.elems.length-(ad .i64 r37.i 1).toNat))) (r41.elems.drop ((0+((r37.i).toNat-0))+((r41.elems.drop (0+(ad .i64 r37.i 1).toNat)).take (r41.elems.length-(ad .i64 r37.i 1).toNat)).length))).drop ((0+(((r37.i).toNat-0)+((r41.elems.drop (0+(ad .i64 r37.i 1).toNat)).take (r41.elems.length-(ad .i64 r37.i 1).toNat)).length))+(r41.elems.length-(((r37.i).toNat-0)+((r41.elems.drop (0+(ad .i64 r37.i 1).toNat)).take (r41.elems.length-(ad .i64 r37.i 1).toNat)).length))))).drop 0).take (((r37.i).toNat-0)+((r41.elems.drop (0+(ad .i64 r37.i 1).toNat)).take (r41.elems.length-(ad .i64 r37.i 1).toNat)).length))),(p0.at 1),(p0.at 2)]),(da [(di 0),((r39.at 1).at 1),(dS (bs [])),(da [(di 0),(dS (bs [])),(dS (bs [])),(db false),(di 0),(dl false [])]),(dl false [])]),(dl true [(r39.at 1)])])) none) none) none) none)) none) (cond (inb r37.i r41.elems.length) (some (D.tup [(da [(dl r41.nn (((r41.elems.set (0+(r37.i).toNat) (r39.at 0)).drop 0).take r41.elems.length)),(p0.at 1),(p0.at 2)]),(da [(di 0),(di (nI ((r39.at 0).at 2).s.size)),(dS (bs [])),(da [(di 0),(dS (bs [])),(dS (bs [])),(db false),(di 0),(dl false [])]),(dl false [])]),(dl true [(r39.at 1)])])) none))))) none))) (cond (((((((((p1.at 0).i.toNat-1)-1)-1)-1)-1)-1)-1)==0) (bd (F178.s FUEL (p0.at 2).i (p1.at 3).i) fun r42=>(cond (neI r42.i (p0.at 2).i) (some (D.tup [(D.agg (p0.parts.set 2 r42)),(da [(di 0),((D.agg (p0.parts.set 2 r42)).at 2),(dS (bs [])),(da [(di 0),(dS (bs [])),(dS (bs [])),(db false),(di 0),(dl false [])]),(dl false [])]),(dl true [(da [(di 7),(di 0),(dS (bs [])),r42,(di 0),(da (rp 32 (D.int .u8 0)))])])])) (some (D.tup [p0,(da [(di 0),(p0.at 2),(dS (bs [])),(da [(di 0),(dS (bs [])),(dS (bs [])),(db false),(di 0),(dl false [])]),(dl false [])]),(dl false [])])))) (cond ((((((((((p1.at 0).i.toNat-1)-1)-1)-1)-1)-1)-1)-1)==0) (bd (F179.s FUEL (p0.at 0) (p0.at 2).i) fun r43=>(goS (st126_3 M) M ⟨0,r43.elems.length,0,r43.elems.length,(nI r43.elems.length),0,p0,p1,false,[],0,0,0,0,(bs []),0,(bs []),(bs []),false,0,false,[],false,[],p0,p1,0,0,0,0,(bs []),0,(bs []),(bs []),false,0,false,[],false,[],r43.nn,r43.elems,false,[]⟩ fun x=>match x with | .e0 n44 n45 n46 n47 i48 i49 d50 d51 b52 l53 i54 i55 i56 i57 s58 i59 s60 s61 b62 i63 b64 l65 b66 l67 d68 d69 n70 n71 i72 i73 s74 i75 s76 s77 b78 i79 b80 l81 b82 l83 b84 l85 b86 l87=>(bd (F175.s FUEL (d68.at 0)) fun r88=>(goS (st78_2 M) M ⟨0,r88.elems.length,(nI r88.elems.length),0,d50,d51,b52,l53,i54,i55,i56,i57,s58,i59,s60,s61,b62,i63,b64,l65,b66,l67,d68,d69,n70,n71,i72,i73,s74,i75,s76,s77,b78,i79,b80,l81,b82,l83,b84,l85,b86,l87,r88.nn,r88.elems⟩ fun x=>match x with | .e0 n89 n90 i91 i92 d93 d94 b95 l96 i97 i98 i99 i100 s101 i102 s103 s104 b105 i106 b107 l108 b109 l110 d111 d112 n113 n114 i115 i116 s117 i118 s119 s120 b121 i122 b123 l124 b125 l126 b127 l128 b129 l130 b131 l132 r133=>(cond (eqI i92 (-1)) (some (D.tup [(da [(dl b131 ((l132.drop 0).take r88.elems.length)),(d111.at 1),(d111.at 2)]),(da [(di 0),(di (nI n45)),(dS (bs [])),(da [(di 0),(dS (bs [])),(dS (bs [])),(db false),(di 0),(dl false [])]),(dl false [])]),(dl b129 ((l130.drop n113).take n114))])) (goS (st180_5 M) M ⟨0,r88.elems.length,i92,(ad .i64 i92 1),d93,d94,b95,l96,i97,i98,i99,i100,s101,i102,s103,s104,b105,i106,b107,l108,b109,l110,d111,d112,n113,n114,i115,i116,s117,i118,s119,s120,b121,i122,b123,l124,b125,l126,b127,l128,b129,l130,b131,l132,(ix l132 (n89+i92.toNat))⟩ fun x=>match x with | .e0 n134 n135 i136 i137 d138 d139 b140 l141 i142 i143 i144 i145 s146 i147 s148 s149 b150 i151 b152 l153 b154 l155 d156 d157 n158 n159 i160 i161 s162 i163 s164 s165 b166 i167 b168 l169 b170 l171 b172 l173 b174 l175 b176 l177 d178=>(cond ((leI 0 i136)&&(leI i136 (nI n135))&&(leN (n134+n135) l177.length)) (cond (true&&(leI 0 i136)&&(leN (n134+i136.toNat) (ap (ap (l177.take (n134+i136.toNat)) (rp (n135-i136.toNat) (da [(di 0),(dS (bs [])),(dS (bs [])),(db false),(di 0),(dl false [])]))) (l177.drop ((n134+i136.toNat)+(n135-i136.toNat)))).length)) (some (D.tup [(da [(dl b176 (((ap (ap (l177.take (n134+i136.toNat)) (rp (n135-i136.toNat) (da [(di 0),(dS (bs [])),(dS (bs [])),(db false),(di 0),(dl false [])]))) (l177.drop ((n134+i136.toNat)+(n135-i136.toNat)))).drop (n134+0)).take (i136.toNat-0))),(d156.at 1),(d156.at 2)]),(da [(di 0),(di (nI n45)),(dS (bs [])),(da [(di 0),(dS (bs [])),(dS (bs [])),(db false),(di 0),(dl false [])]),(dl false [])]),(dl b174 ((l175.drop n158).take n159))])) none) none))) | .e1 n89 n90 i91 i92 d93 d94 b95 l96 i97 i98 i99 i100 s101 i102 s103 s104 b105 i106 b107 l108 b109 l110 d111 d112 n113 n114 i115 i116 s117 i118 s119 s120 b121 i122 b123 l124 b125 l126 b127 l128 b129 l130 b131 l132=>(some (D.tup [(da [(dl b131 ((l132.drop 0).take r88.elems.length)),(d111.at 1),(d111.at 2)]),(da [(di 0),(di (nI n45)),(dS (bs [])),(da [(di 0),(dS (bs [])),(dS (bs [])),(db false),(di 0),(dl false [])]),(dl false [])]),(dl b129 ((l130.drop n113).take n114))])))))) (cond (((((((((((p1.at 0).i.toNat-1)-1)-1)-1)-1)-1)-1)-1)-1)==0) (bd (F31.s FUEL p0 (p1.at 1).s) fun r180=>(cond (ltI r180.i 0) (bd (F77.s FUEL 3) fun r181=>(some (D.tup [p0,r181,(dl false [])]))) (cond (inb r180.i (p0.at 0).elems.length) (bd (F183.s FUEL (ix (p0.at 0).elems (r180.i).toNat) (p1.at 4).i (p1.at 5).i) fun r182=>(some (D.tup [p0,(da [(r182.at 1),(di 0),(r182.at 0),(da [(di 0),(dS (bs [])),(dS (bs [])),(db false),(di 0),(dl false [])]),(dl false [])]),(dl false [])]))) none))) (cond ((((((((((((p1.at 0).i.toNat-1)-1)-1)-1)-1)-1)-1)-1)-1)-1)==0) (bd (F31.s FUEL p0 (p1.at 1).s) fun r183=>(cond (ltI r183.i 0) (bd (F77.s FUEL 3) fun r184=>(some (D.tup [p0,r184,(dl false [])]))) (cond (inb r183.i (p0.at 0).elems.length) (bd (F184.s FUEL (ix (p0.at 0).elems (r183.i).toNat)) fun r185=>(some (D.tup [p0,(da [(di 0),(di 0),(dS (bs [])),r185,(dl false [])]),(dl false [])]))) none))) (cond (((((((((((((p1.at 0).i.toNat-1)-1)-1)-1)-1)-1)-1)-1)-1)-1)-1)==0) (goS (st129_3 M) M ⟨0,0,(p0.at 0),(nI (p0.at 0).elems.length),0,p0,p1,false,[],0,0,0,0,(bs []),0,(bs []),(bs []),false,0,false,[],false,[],p0,p1,false,[],0,0,(bs []),0,(bs []),(bs []),false,0,false,[],false,[],false,[]⟩ fun x=>match x with | .e0 n186 n187 d188 i189 i190 d191 d192 b193 l194 i195 i196 i197 i198 s199 i200 s201 s202 b203 i204 b205 l206 b207 l208 d209 d210 b211 l212 i213 i214 s215 i216 s217 s218 b219 i220 b221 l222 b223 l224 b225 l226=>(goS (st231_2 M) M ⟨n186,n187,(nI n187),20,0,20,d191,d192,b193,l194,i195,i196,i197,i198,s199,i200,s201,s202,b203,i204,b205,l206,b207,l208,d209,d210,b211,l212,i213,i214,s215,i216,s217,s218,b219,i220,b221,l222,b223,l224,b225,l226⟩ fun x=>match x with | .e0 n227 n228 i229 i230 i231 i232 d233 d234 b235 l236 i237 i238 i239 i240 s241 i242 s243 s244 b245 i246 b247 l248 b249 l250 d251 d252 b253 l254 i255 i256 s257 i258 s259 s260 b261 i262 b263 l264 b265 l266 b267 l268=>(goS (st255_1 M) M ⟨n227,n228,i231,i229,(ad .i64 i231 1),d233,d234,b235,l236,i237,i238,i239,i240,s241,i242,s243,s244,b245,i246,b247,l248,b249,l250,d251,d252,b253,l254,i255,i256,s257,i258,s259,s260,b261,i262,b263,l264,b265,l266,b267,l268⟩ fun x=>match x with | .e0 n269 n270 i271 i272 i273 d274 d275 b276 l277 i278 i279 i280 i281 s282 i283 s284 s285 b286 i287 b288 l289 b290 l291 d292 d293 b294 l295 i296 i297 s298 i299 s300 s301 b302 i303 b304 l305 b306 l307 b308 l309=>(goS (st231_7 M) M ⟨n227,n228,i229,i230,d274,d275,b276,l277,i278,i279,i280,i281,s282,i283,s284,s285,b286,i287,b288,l289,b290,l291,d292,d293,b294,l295,i296,i297,s298,i299,s300,s301,b302,i303,b304,l305,b306,l307,b308,l309⟩ fun x=>match x with | .e0 n353 n354 i355 i356 d357 d358 b359 l360 i361 i362 i363 i364 s365 i366 s367 s368 b369 i370 b371 l372 b373 l374 d375 d376 b377 l378 i379 i380 s381 i382 s383 s384 b385 i386 b387 l388 b389 l390 b391 l392=>(some (D.tup [d375,(da [(di 0),(di 0),(dS (bs [])),(da [(di 0),(dS (bs [])),(dS (bs [])),(db false),(di 0),(dl false [])]),(dl b391 ((l392.drop n186).take n187))]),(dl b377 l378)])))))) none)))))))))))) none)))
theorem run (M:Nat) (p0:D) (p1:D):callS (e M) (tblOf (t M)) 12 (.fn 30) [.d (.struct [22,3,3]) p0,.d (.struct [28,9,9,3,3,3]) p1] [] (fun v H=>finish ty [24,70,25] v H)=s M p0 p1:=by kernel_rfl
def c:Con:={ run:=fun ds=>match ds with | [p0,p1]=>s FUEL p0 p1 | _=>none }
theorem ok:ConOk (30,c):=mkC Tryz.f30 [(.struct [22,3,3]),(.struct [28,9,9,3,3,3])] [24,70,25] (by kernel_rfl) (by kernel_rfl) (by kernel_rfl) (by kernel_rfl) (allCons F31.ok (allCons F77.ok (allCons F164.ok (allCons F174.ok (allCons F175.ok (allCons F176.ok (allCons F178.ok (allCons F179.ok (allCons F182.ok (allCons F183.ok (allCons F184.ok (allCons F186.ok (allCons (void_ok 256) allNil))))))))))))) allNil (t_ok FUEL) fun a=>run FUEL a.1 a.2.1
end F30
namespace F26
def k0_:K:=(.struct [22,3,3])
def cons:List (Nat×Con):=[(30,F30.c)]
def exts:List (Nat×Ext):=[]
def h:List (Nat×Nat×Hint):=[(26,4,{ live:=[2,4,7,8,13,14,15],rows:=[(7,70),(8,32)] })]
noncomputable def e (M:Nat):Env:=env cons exts h M
structure S4 where
 (n1 n2 n3 n4:Nat) (d5:D) (i6 i7:Int) (d8:D) (b9:Bool) (l10:List D) (i11 i12:Int) (b13:Bool) (l14:List D) (b15:Bool) (l16:List D)
inductive X4 where
 | e0 (n1 n2 n3 n4:Nat) (d5:D) (i6 i7:Int) (d8:D) (b9:Bool) (l10:List D) (i11 i12:Int) (b13:Bool) (l14:List D) (b15:Bool) (l16:List D)
def st4 (M:Nat):S4→(S4→Option D)→(X4→Option D)→Option D
 | ⟨n1,n2,n3,n4,d5,i6,i7,d8,b9,l10,i11,i12,b13,l14,b15,l16⟩,rec,K=>(cond (ltI i7 i6) (cond (inb i7 d5.elems.length) (bd (F30.s FUEL d8 (ix d5.elems i7.toNat)) fun r17=>(cond (mx (n2+1)) (cond (mx (n4+(r17.at 2).elems.length)) (rec ⟨0,(n2+1),0,(n4+(r17.at 2).elems.length),d5,i6,(ad .i64 i7 1),(r17.at 0),b9,l10,i11,i12,(b13||true),(ap ((l14.drop n1).take n2) [(r17.at 1)]),(b15||(!(r17.at 2).elems.isEmpty)),(ap ((l16.drop n3).take n4) (r17.at 2).elems)⟩) none) none)) none) (K (.e0 n1 n2 n3 n4 d5 i6 i7 d8 b9 l10 i11 i12 b13 l14 b15 l16)))
def ex4 (k:Kont):X4→Option D
 | .e0 n1 n2 n3 n4 d5 i6 i7 d8 b9 l10 i11 i12 b13 l14 b15 l16=>k (.exit 0) ((us 2 ((.ptr 0 [] k0_)::(us 1 ((.ptr 1 [] k0_)::(us 2 ((.sref 2 n1 n2)::(.sref 3 n3 n4)::(us 4 ((vk (.slice 74) d5)::(vi i6)::(vi i7)::(vb (ltI i7 i6))::(us 20 [])))))))))) [(.var k0_ (vk k0_ d8)),(.var k0_ (vk k0_ (da [(dl b9 l10),(di i11),(di i12)]))),(.row 70 true b13 l14),(.row 32 true b15 l16)]
def lv4:S4→List Leaf
 | ⟨n1,n2,n3,n4,d5,i6,i7,d8,b9,l10,i11,i12,b13,l14,b15,l16⟩=>[.n n1,.n n2,.n n3,.n n4,.d d5,.i i6,.i i7,.d d8,.b b9,.l l10,.i i11,.i i12,.b b13,.l l14,.b b15,.l l16]
def of4:List Leaf→Option S4
 | [.n n1,.n n2,.n n3,.n n4,.d d5,.i i6,.i i7,.d d8,.b b9,.l l10,.i i11,.i i12,.b b13,.l l14,.b b15,.l l16]=>some ⟨n1,n2,n3,n4,d5,i6,i7,d8,b9,l10,i11,i12,b13,l14,b15,l16⟩
 | _=>none
def ps4:List PV:=((up 2 ((.ptr 0 [] k0_)::(up 1 ((.ptr 1 [] k0_)::(up 2 ((.sref 2)::(.sref 3)::(up 4 ((.d (.slice 74) .x)::(.d (.int .i64) (.int .i64))::(.d (.int .i64) (.int .i64))::(up 21 []))))))))))
def qs4:List PO:=[(.var k0_ (.d k0_ .x)),(.var k0_ (.d k0_ (.agg [.slice,(.int .i64),(.int .i64)]))),(.row 70 true),(.row 32 true)]
noncomputable def t (M:Nat):List Ent:=⟨26,11,0,4,sumS [2,4,7,8,13,14,15] ps4 qs4 [(7,2),(8,3)] of4 (st4 M) ex4 M⟩::[]
theorem t_ok (M:Nat):AllOk (e M) (tblOf (t M)):=AllOk.addS (n0:=4) (lv:=lv4) AllOk.nil (by kernel_rfl) rfl (by intro ls s h;unfold of4 at h;(repeat' split at h)<;>simp at h;subst h;rfl) (by intro s;kernel_rfl) (by intro s;kernel_rfl) (by intro s nx k;kernel_rfl)
def s (M:Nat) (p0:D) (p1:D):Option D:=
 (goS (st4 M) M ⟨0,0,0,0,p1,(nI p1.elems.length),0,p0,false,[],0,0,false,[],false,[]⟩ fun x=>match x with | .e0 n1 n2 n3 n4 d5 i6 i7 d8 b9 l10 i11 i12 b13 l14 b15 l16=>(some (D.tup [d8,(dl b13 ((l14.drop n1).take n2)),(dl b15 ((l16.drop n3).take n4))])))
theorem run (M:Nat) (p0:D) (p1:D):callS (e M) (tblOf (t M)) 12 (.fn 26) [.d (.struct [22,3,3]) p0,.d (.slice 74) p1] [] (fun v H=>finish ty [24,53,25] v H)=s M p0 p1:=by kernel_rfl
def c:Con:={ run:=fun ds=>match ds with | [p0,p1]=>s FUEL p0 p1 | _=>none }
theorem ok:ConOk (26,c):=mkC Tryz.f26 [(.struct [22,3,3]),(.slice 74)] [24,53,25] (by kernel_rfl) (by kernel_rfl) (by kernel_rfl) (by kernel_rfl) (allCons F30.ok allNil) allNil (t_ok FUEL) fun a=>run FUEL a.1 a.2.1
end F26
end Go.AM.SY
