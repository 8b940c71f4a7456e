/- Part 10 of the proof: the abstract machine, what the functions compute, and plain laws over that. -/
import Derived.Test.YtmbnifmpbafcjaaGreatDoorIp9
set_option linter.all false
set_option linter.unusedSimpArgs false
set_option linter.unusedVariables false
set_option linter.unusedSectionVars false
namespace Go.AM.SY
open Go Go.AM Go.Proofs Go.RowKit
namespace F77
def cons:List (Nat×Con):=[]
def exts:List (Nat×Ext):=[]
def h:List (Nat×Nat×Hint):=[]
noncomputable def e (M:Nat):Env:=env cons exts h M
def s (M:Nat) (p0:Int):Option D:=
 (some (da [(di p0),(di 0),(dS (bs [])),(da [(di 0),(dS (bs [])),(dS (bs [])),(db false),(di 0),(dl false [])]),(dl false [])]))
theorem run (M:Nat) (p0:Int):callS (e M) (tblOf []) 12 (.fn 77) [.d (.int .i64) (di p0)] [] (fun v H=>finish ty [70] v H)=s M p0:=by kernel_rfl
def c:Con:={ run:=fun ds=>match ds with | [p0]=>s FUEL p0.i | _=>none }
theorem ok:ConOk (77,c):=mkC Tryz.f77 [(.int .i64)] [70] (by kernel_rfl) (by kernel_rfl) (by kernel_rfl) (by kernel_rfl) allNil allNil AllOk.nil fun a=>run FUEL a.1
end F77
namespace F174
def cons:List (Nat×Con):=[(163,F163.c),(164,F164.c)]
def exts:List (Nat×Ext):=[]
def h:List (Nat×Nat×Hint):=[]
noncomputable def e (M:Nat):Env:=env cons exts h M
def s (M:Nat) (p0:Int) (p1:ByteArray):Option D:=
 (bd (F164.s FUEL p1) fun f=>(cond (!f.b) (some (D.tup [(da [(di 0),(dS (bs [])),(dS (bs [])),(db false),(di 0),(dl false [])]),(di 2)])) (bd (F163.s FUEL p0) fun g=>(cond (!g.b) (some (D.tup [(da [(di 0),(dS (bs [])),(dS (bs [])),(db false),(di 0),(dl false [])]),(di 1)])) (some (D.tup [(da [(di p0),(dS p1),(dS (bs [])),(db false),(di 0),(dl false [])]),(di 0)]))))))
theorem run (M:Nat) (p0:Int) (p1:ByteArray):callS (e M) (tblOf []) 12 (.fn 174) [.d (.int .i64) (di p0),.d .str (dS p1)] [] (fun v H=>finish ty [68,65] v H)=s M p0 p1:=by kernel_rfl
def c:Con:={ run:=fun ds=>match ds with | [p0,p1]=>s FUEL p0.i p1.s | _=>none }
theorem ok:ConOk (174,c):=mkC Tryz.f174 [(.int .i64),.str] [68,65] (by kernel_rfl) (by kernel_rfl) (by kernel_rfl) (by kernel_rfl) (allCons F163.ok (allCons F164.ok allNil)) allNil AllOk.nil fun a=>run FUEL a.1 a.2.1
end F174
namespace F175
def cons:List (Nat×Con):=[]
def exts:List (Nat×Ext):=[]
def h:List (Nat×Nat×Hint):=[]
noncomputable def e (M:Nat):Env:=env cons exts h M
def s (M:Nat) (p0:D):Option D:=
 (cond (!p0.nn) (some (.slice false [])) (cond (mx p0.elems.length) (cond ((decide (p0.elems.length=p0.elems.length))&&true) (some (.slice true p0.elems)) none) none))
theorem run (M:Nat) (p0:D):callS (e M) (tblOf []) 12 (.fn 175) [.d (.slice 68) p0] [] (fun v H=>finishFresh ty [22] v H)=s M p0:=by kernel_rfl
def c:Con:={ run:=fun ds=>match ds with | [p0]=>s FUEL p0 | _=>none,fresh:=true }
theorem ok:ConOk (175,c):=mkF Tryz.f175 [(.slice 68)] [22] (by kernel_rfl) (by kernel_rfl) (by kernel_rfl) allNil allNil AllOk.nil fun a=>run FUEL a.1
end F175
namespace F253
def cons:List (Nat×Con):=[]
def exts:List (Nat×Ext):=[]
def h:List (Nat×Nat×Hint):=[]
noncomputable def e (M:Nat):Env:=env cons exts h M
def s (M:Nat) (p0:D) (p1:ByteArray):Option D:=
 (cond (p0.at 3).b (some (D.tup [p0,(di 5)])) (cond (eqS p1 (bs [])) (some (D.tup [p0,(di 1)])) (cond (gtI (ad .i64 (nI (p0.at 2).s.size) (nI p1.size)) 600) (some (D.tup [p0,(di 10)])) (bd (cat (p0.at 2).s p1) fun f=>(some (D.tup [(D.agg (p0.parts.set 2 f)),(di 0)]))))))
theorem run (M:Nat) (p0:D) (p1:ByteArray):callS (e M) (tblOf []) 12 (.fn 253) [.d (.struct [3,9,9,4,3,66]) p0,.d .str (dS p1)] [] (fun v H=>finish ty [68,65] v H)=s M p0 p1:=by kernel_rfl
def c:Con:={ run:=fun ds=>match ds with | [p0,p1]=>s FUEL p0 p1.s | _=>none }
theorem ok:ConOk (253,c):=mkC Tryz.f253 [(.struct [3,9,9,4,3,66]),.str] [68,65] (by kernel_rfl) (by kernel_rfl) (by kernel_rfl) (by kernel_rfl) allNil allNil AllOk.nil fun a=>run FUEL a.1 a.2.1
end F253
namespace F248
def cons:List (Nat×Con):=[]
def exts:List (Nat×Ext):=[]
def h:List (Nat×Nat×Hint):=[(248,2,{ live:=[0,1,7,8] })]
noncomputable def e (M:Nat):Env:=env cons exts h M
structure S2 where
 (d1:D) (s2:ByteArray) (i3 i4:Int)
inductive X2 where
 | e0 (f:D) (g:ByteArray) (j m:Int)
 | e1 (f:D) (g:ByteArray) (j m:Int)
def st2 (M:Nat):S2→(S2→Option D)→(X2→Option D)→Option D
 | ⟨g,j,m,f⟩,rec,K=>(cond (ltI f m) (cond (inb f g.elems.length) (cond (eqS j (ix g.elems f.toNat).s) (K (.e0 g j m f)) (rec ⟨g,j,m,(ad .i64 f 1)⟩)) none) (K (.e1 g j m f)))
def ex2 (k:Kont):X2→Option D
 | .e0 g j m f=>k .ret ((vk (.slice 9) g)::(vS j)::(us 2 ((vi f)::(vi f)::(us 1 ((vi m)::(vi f)::(vb (ltI f m))::(vi f)::(vS j)::(vk (.slice 9) g)::(vi f)::(.cptr .str (ix g.elems f.toNat))::(vk .str (ix g.elems f.toNat))::(vb (eqS j (ix g.elems f.toNat).s))::(vi f)::(us 1 [])))))) []
 | .e1 j m f g=>k (.exit 0) ((vk (.slice 9) j)::(vS m)::(us 5 ((vi f)::(vi g)::(vb (ltI g f))::(us 9 [])))) []
def lv2:S2→List Leaf
 | ⟨f,g,j,m⟩=>[.d f,.s g,.i j,.i m]
def of2:List Leaf→Option S2
 | [.d f,.s g,.i j,.i m]=>some ⟨f,g,j,m⟩
 | _=>none
def ps2:List PV:=((.d (.slice 9) .x)::(.d .str .str)::(up 5 ((.d (.int .i64) (.int .i64))::(.d (.int .i64) (.int .i64))::(up 10 []))))
def qs2:List PO:=[]
noncomputable def t (M:Nat):List Ent:=⟨248,11,0,2,sumS [0,1,7,8] ps2 qs2 [] of2 (st2 M) ex2 M⟩::[]
theorem t_ok (M:Nat):AllOk (e M) (tblOf (t M)):=AllOk.addS (n0:=0) (lv:=lv2) AllOk.nil (by kernel_rfl) rfl (by intro ls s h;unfold of2 at h;(repeat' split at h)<;>simp at h;subst h;rfl) (by intro s;kernel_rfl) (by intro s;kernel_rfl) (by intro s nx k;kernel_rfl)
def s (M:Nat) (p0:D) (p1:ByteArray):Option D:=
 (goS (st2 M) M ⟨p0,p1,(nI p0.elems.length),0⟩ fun x=>match x with | .e0 g j m f=>(some (di f)) | .e1 g j m f=>(some (di (-1))))
theorem run (M:Nat) (p0:D) (p1:ByteArray):callS (e M) (tblOf (t M)) 12 (.fn 248) [.d (.slice 9) p0,.d .str (dS p1)] [] (fun v H=>finish ty [3] v H)=s M p0 p1:=by kernel_rfl
def c:Con:={ run:=fun ds=>match ds with | [p0,p1]=>s FUEL p0 p1.s | _=>none,plain:=true }
theorem ok:ConOk (248,c):=mkC Tryz.f248 [(.slice 9),.str] [3] (by kernel_rfl) (by kernel_rfl) (by kernel_rfl) (by kernel_rfl) allNil allNil (t_ok FUEL) fun a=>run FUEL a.1 a.2.1
end F248
namespace F243
def cons:List (Nat×Con):=[(248,F248.c)]
def exts:List (Nat×Ext):=[]
def h:List (Nat×Nat×Hint):=[]
noncomputable def e (M:Nat):Env:=env cons exts h M
def s (M:Nat) (p0:D) (p1:ByteArray):Option D:=
 (bd (F248.s FUEL p0 p1) fun f=>(some (db (geI f.i 0))))
theorem run (M:Nat) (p0:D) (p1:ByteArray):callS (e M) (tblOf []) 12 (.fn 243) [.d (.slice 9) p0,.d .str (dS p1)] [] (fun v H=>finish ty [4] v H)=s M p0 p1:=by kernel_rfl
def c:Con:={ run:=fun ds=>match ds with | [p0,p1]=>s FUEL p0 p1.s | _=>none,plain:=true }
theorem ok:ConOk (243,c):=mkC Tryz.f243 [(.slice 9),.str] [4] (by kernel_rfl) (by kernel_rfl) (by kernel_rfl) (by kernel_rfl) (allCons F248.ok allNil) allNil AllOk.nil fun a=>run FUEL a.1 a.2.1
end F243
namespace F245
end F245
namespace F247
def cons:List (Nat×Con):=[]
def exts:List (Nat×Ext):=[]
def h:List (Nat×Nat×Hint):=[]
noncomputable def e (M:Nat):Env:=env cons exts h M
def s (M:Nat) (p0:D):Option D:=
 (cond (!p0.nn) (some (.slice false [])) (cond (mx p0.elems.length) (cond ((decide (p0.elems.length=p0.elems.length))&&true) (some (.slice true p0.elems)) none) none))
theorem run (M:Nat) (p0:D):callS (e M) (tblOf []) 12 (.fn 247) [.d (.slice 9) p0] [] (fun v H=>finishFresh ty [66] v H)=s M p0:=by kernel_rfl
def c:Con:={ run:=fun ds=>match ds with | [p0]=>s FUEL p0 | _=>none,fresh:=true }
theorem ok:ConOk (247,c):=mkF Tryz.f247 [(.slice 9)] [66] (by kernel_rfl) (by kernel_rfl) (by kernel_rfl) allNil allNil AllOk.nil fun a=>run FUEL a.1
end F247
namespace F218
def k0_:K:=(.struct [3,9,9,4,3,66])
def cons:List (Nat×Con):=[(164,F164.c),(165,F165.c),(243,F243.c),(247,F247.c)]
def exts:List (Nat×Ext):=[(246,insertX 9)]
def h:List (Nat×Nat×Hint):=[(218,12,{ own:=true }),(244,2,{ live:=[0,1,7,8] })]
noncomputable def e (M:Nat):Env:=env cons exts h M
structure S244_2 where
 (d3:D) (s4:ByteArray) (i5 i6:Int) (d7:D) (i8:Int) (s9 s10:ByteArray) (b11:Bool) (i12:Int) (b13:Bool) (l14:List D)
inductive X244_2 where
 | e0 (f:D) (g:ByteArray) (j m:Int) (o:D) (p:Int) (q r:ByteArray) (u:Bool) (w:Int) (y:Bool) (z:List D) (A:D)
 | e1 (f:D) (g:ByteArray) (j m:Int) (o:D) (p:Int) (q r:ByteArray) (u:Bool) (w:Int) (y:Bool) (z:List D)
def st244_2 (M:Nat):S244_2→(S244_2→Option D)→(X244_2→Option D)→Option D
 | ⟨g,j,m,f,o,p,q,r,u,w,y,z⟩,rec,K=>(cond (ltI f m) (cond (inb f g.elems.length) (bd (F165.s FUEL (ix g.elems f.toNat).s j) fun A=>(cond (!A.b) (K (.e0 g j m f o p q r u w y z A)) (rec ⟨g,j,m,(ad .i64 f 1),o,p,q,r,u,w,y,z⟩))) none) (K (.e1 g j m f o p q r u w y z)))
def ex244_2 (k:Kont):X244_2→Option D
 | .e0 g j m f o p q r u w y z A=>k .ret ((vk (.slice 9) g)::(.func (.func 245) [(vS j)] [])::(us 2 ((vi f)::(vi f)::(us 1 ((vi m)::(vi f)::(vb (ltI f m))::(vi f)::(.func (.func 245) [(vS j)] [])::(vk (.slice 9) g)::(vi f)::(.cptr .str (ix g.elems f.toNat))::(vk .str (ix g.elems f.toNat))::(vb (!A.b))::(vi f)::(us 1 [])))))) [(.var k0_ (vk k0_ o)),(.var k0_ (vk k0_ (da [(di p),(dS q),(dS r),(db u),(di w),(dl y z)])))]
 | .e1 j m f g o p q r u w y z=>k (.exit 0) ((vk (.slice 9) j)::(.func (.func 245) [(vS m)] [])::(us 5 ((vi f)::(vi g)::(vb (ltI g f))::(us 9 [])))) [(.var k0_ (vk k0_ o)),(.var k0_ (vk k0_ (da [(di p),(dS q),(dS r),(db u),(di w),(dl y z)])))]
def lv244_2:S244_2→List Leaf
 | ⟨f,g,j,m,o,p,q,r,u,w,y,z⟩=>[.d f,.s g,.i j,.i m,.d o,.i p,.s q,.s r,.b u,.i w,.b y,.l z]
def of244_2:List Leaf→Option S244_2
 | [.d f,.s g,.i j,.i m,.d o,.i p,.s q,.s r,.b u,.i w,.b y,.l z]=>some ⟨f,g,j,m,o,p,q,r,u,w,y,z⟩
 | _=>none
def ps244_2:List PV:=((.d (.slice 9) .x)::(.func 245 [(.d .str .str)] [])::(up 5 ((.d (.int .i64) (.int .i64))::(.d (.int .i64) (.int .i64))::(up 10 []))))
def qs244_2:List PO:=[(.var k0_ (.d k0_ .x)),(.var k0_ (.d k0_ (.agg [(.int .i64),.str,.str,.bool,(.int .i64),.slice])))]
noncomputable def t (M:Nat):List Ent:=⟨244,10,2,2,sumS [0,1,7,8] ps244_2 qs244_2 [] of244_2 (st244_2 M) ex244_2 M⟩::[]
theorem t_ok (M:Nat):AllOk (e M) (tblOf (t M)):=AllOk.addS (n0:=2) (lv:=lv244_2) AllOk.nil (by kernel_rfl) rfl (by intro ls s h;unfold of244_2 at h;(repeat' split at h)<;>simp at h;subst h;rfl) (by intro s;kernel_rfl) (by intro s;kernel_rfl) (by intro s nx k;kernel_rfl)
def s (M:Nat) (p0:D) (p1:ByteArray):Option D:=
 (cond (!(p0.at 3).b) (some (D.tup [p0,(di 6)])) (bd (F164.s FUEL p1) fun p=>(cond (!p.b) (some (D.tup [p0,(di 2)])) (bd (F243.s FUEL (p0.at 5) p1) fun q=>(cond q.b (some (D.tup [p0,(di 4)])) (cond (geI (nI (p0.at 5).elems.length) 4) (some (D.tup [p0,(di 10)])) (goS (st244_2 M) M ⟨(p0.at 5),p1,(nI (p0.at 5).elems.length),0,p0,0,(bs []),(bs []),false,0,false,[]⟩ fun x=>match x with | .e0 r u w o f y z A B C E F G=>(cond (ltI o 0) (bd (F247.s FUEL (f.at 5)) fun g=>(cond (true&&true&&true&&(leI 0 (nI (f.at 5).elems.length))&&(leI (nI (f.at 5).elems.length) (nI g.elems.length))&&(mx (g.elems.length+1))) (some (D.tup [(da [(f.at 0),(f.at 1),(f.at 2),(f.at 3),(f.at 4),(dl true (((ap (ap (((g.elems.drop 0).take g.elems.length).take (f.at 5).elems.length) [(dS p1)]) (((g.elems.drop 0).take g.elems.length).drop (f.at 5).elems.length)).drop 0).take (g.elems.length+1)))]),(di 0)])) none)) (bd (F247.s FUEL (f.at 5)) fun j=>(cond (true&&true&&true&&(leI 0 o)&&(leI o (nI j.elems.length))&&(mx (j.elems.length+1))) (some (D.tup [(da [(f.at 0),(f.at 1),(f.at 2),(f.at 3),(f.at 4),(dl true (((ap (ap (((j.elems.drop 0).take j.elems.length).take o.toNat) [(dS p1)]) (((j.elems.drop 0).take j.elems.length).drop o.toNat)).drop 0).take (j.elems.length+1)))]),(di 0)])) none))) | .e1 r u w o f y z A B C E F=>(bd (F247.s FUEL (f.at 5)) fun m=>(cond (true&&true&&true&&(leI 0 (nI (f.at 5).elems.length))&&(leI (nI (f.at 5).elems.length) (nI m.elems.length))&&(mx (m.elems.length+1))) (some (D.tup [(da [(f.at 0),(f.at 1),(f.at 2),(f.at 3),(f.at 4),(dl true (((ap (ap (((m.elems.drop 0).take m.elems.length).take (f.at 5).elems.length) [(dS p1)]) (((m.elems.drop 0).take m.elems.length).drop (f.at 5).elems.length)).drop 0).take (m.elems.length+1)))]),(di 0)])) none)))))))))
theorem run (M:Nat) (p0:D) (p1:ByteArray):callS (e M) (tblOf (t M)) 12 (.fn 218) [.d (.struct [3,9,9,4,3,66]) p0,.d .str (dS p1)] [] (fun v H=>finish ty [68,65] v H)=s M p0 p1:=by kernel_rfl
def c:Con:={ run:=fun ds=>match ds with | [p0,p1]=>s FUEL p0 p1.s | _=>none }
theorem ok:ConOk (218,c):=mkC Tryz.f218 [(.struct [3,9,9,4,3,66]),.str] [68,65] (by kernel_rfl) (by kernel_rfl) (by kernel_rfl) (by kernel_rfl) (allCons F164.ok (allCons F165.ok (allCons F243.ok (allCons F247.ok allNil)))) (allCons insert_ok allNil) (t_ok FUEL) fun a=>run FUEL a.1 a.2.1
end F218
namespace F220
def cons:List (Nat×Con):=[(247,F247.c),(248,F248.c)]
def exts:List (Nat×Ext):=[]
def h:List (Nat×Nat×Hint):=[(249,5,{ inpl:=true })]
noncomputable def e (M:Nat):Env:=env cons exts h M
def s (M:Nat) (p0:D) (p1:ByteArray):Option D:=
 (bd (F248.s FUEL (p0.at 5) p1) fun f=>(cond (ltI f.i 0) (some (D.tup [p0,(di 3)])) (bd (F247.s FUEL (p0.at 5)) fun g=>(cond ((leI 0 f.i)&&(leI f.i (ad .i64 f.i 1))&&(leI (ad .i64 f.i 1) (nI g.elems.length))&&(leI (nI g.elems.length) (nI g.elems.length))&&(eqN (0+g.elems.length) g.elems.length)) (cond (eqI f.i (ad .i64 f.i 1)) (some (D.tup [(da [(p0.at 0),(p0.at 1),(p0.at 2),(p0.at 3),(p0.at 4),(dl g.nn ((g.elems.drop 0).take g.elems.length))]),(di 0)])) (cond (true&&(leI 0 f.i)&&(leN (0+(f.i).toNat) g.elems.length)) (cond ((leI 0 (ad .i64 f.i 1))&&(leI (ad .i64 f.i 1) (nI g.elems.length))&&(leN (0+g.elems.length) g.elems.length)) (cond (leN ((0+((f.i).toNat-0))+((g.elems.drop (0+(ad .i64 f.i 1).toNat)).take (g.elems.length-(ad .i64 f.i 1).toNat)).length) g.elems.length) (cond ((leI 0 (nI (((f.i).toNat-0)+((g.elems.drop (0+(ad .i64 f.i 1).toNat)).take (g.elems.length-(ad .i64 f.i 1).toNat)).length)))&&(leI (nI (((f.i).toNat-0)+((g.elems.drop (0+(ad .i64 f.i 1).toNat)).take (g.elems.length-(ad .i64 f.i 1).toNat)).length)) (nI g.elems.length))&&(leN (0+g.elems.length) (ap (ap (g.elems.take (0+((f.i).toNat-0))) ((g.elems.drop (0+(ad .i64 f.i 1).toNat)).take (g.elems.length-(ad .i64 f.i 1).toNat))) (g.elems.drop ((0+((f.i).toNat-0))+((g.elems.drop (0+(ad .i64 f.i 1).toNat)).take (g.elems.length-(ad .i64 f.i 1).toNat)).length))).length)) (some (D.tup [(da [(p0.at 0),(p0.at 1),(p0.at 2),(p0.at 3),(p0.at 4),(dl g.nn (((ap (ap ((ap (ap (g.elems.take (0+((f.i).toNat-0))) ((g.elems.drop (0+(ad .i64 f.i 1).toNat)).take (g.elems.length-(ad .i64 f.i 1).toNat))) (g.elems.drop ((0+((f.i).toNat-0))+((g.elems.drop (0+(ad .i64 f.i 1).toNat)).take (g.elems.length-(ad .i64 f.i 1).toNat)).length))).take (0+(((f.i).toNat-0)+((g.elems.drop (0+(ad .i64 f.i 1).toNat)).take (g.elems.length-(ad .i64 f.i 1).toNat)).length))) (rp (g.elems.length-(((f.i).toNat-0)+((g.elems.drop (0+(ad .i64 f.i 1).toNat)).take (g.elems.length-(ad .i64 f.i 1).toNat)).length)) (dS (bs [])))) ((ap (ap (g.elems.take (0+((f.i).toNat-0))) ((g.elems.drop (0+(ad .i64 f.i 1).toNat)).take (g.elems.length-(ad .i64 f.i 1).toNat))) (g.elems.drop ((0+((f.i).toNat-0))+((g.elems.drop (0+(ad .i64 f.i 1).toNat)).take (g.elems.length-(ad .i64 f.i 1).toNat)).length))).drop ((0+(((f.i).toNat-0)+((g.elems.drop (0+(ad .i64 f.i 1).toNat)).take (g.elems.length-(ad .i64 f.i 1).toNat)).length))+(g.elems.length-(((f.i).toNat-0)+((g.elems.drop (0+(ad .i64 f.i 1).toNat)).take (g.elems.length-(ad .i64 f.i 1).toNat)).length))))).drop 0).take (((f.i).toNat-0)+((g.elems.drop (0+(ad .i64 f.i 1).toNat)).take (g.elems.length-(ad .i64 f.i 1).toNat)).length)))]),(di 0)])) none) none) none) none)) none))))
theorem run (M:Nat) (p0:D) (p1:ByteArray):callS (e M) (tblOf []) 12 (.fn 220) [.d (.struct [3,9,9,4,3,66]) p0,.d .str (dS p1)] [] (fun v H=>finish ty [68,65] v H)=s M p0 p1:=by kernel_rfl
def c:Con:={ run:=fun ds=>match ds with | [p0,p1]=>s FUEL p0 p1.s | _=>none }
theorem ok:ConOk (220,c):=mkC Tryz.f220 [(.struct [3,9,9,4,3,66]),.str] [68,65] (by kernel_rfl) (by kernel_rfl) (by kernel_rfl) (by kernel_rfl) (allCons F247.ok (allCons F248.ok allNil)) allNil AllOk.nil fun a=>run FUEL a.1 a.2.1
end F220
namespace F242
def cons:List (Nat×Con):=[]
def exts:List (Nat×Ext):=[]
def h:List (Nat×Nat×Hint):=[]
noncomputable def e (M:Nat):Env:=env cons exts h M
def s (M:Nat) (p0:Int):Option D:=
 (cond (geI p0 0) (some (db (leI p0 1099511627776))) (some (db false)))
theorem run (M:Nat) (p0:Int):callS (e M) (tblOf []) 12 (.fn 242) [.d (.int .i64) (di p0)] [] (fun v H=>finish ty [4] v H)=s M p0:=by kernel_rfl
def c:Con:={ run:=fun ds=>match ds with | [p0]=>s FUEL p0.i | _=>none,plain:=true }
theorem ok:ConOk (242,c):=mkC Tryz.f242 [(.int .i64)] [4] (by kernel_rfl) (by kernel_rfl) (by kernel_rfl) (by kernel_rfl) allNil allNil AllOk.nil fun a=>run FUEL a.1
end F242
namespace F213
def cons:List (Nat×Con):=[(242,F242.c)]
def exts:List (Nat×Ext):=[]
def h:List (Nat×Nat×Hint):=[]
noncomputable def e (M:Nat):Env:=env cons exts h M
def s (M:Nat) (p0:D) (p1:Int):Option D:=
 (cond (p0.at 3).b (some (D.tup [p0,(di 5)])) (bd (F242.s FUEL p1) fun f=>(cond (!f.b) (some (D.tup [p0,(di 1)])) (some (D.tup [(D.agg ((D.agg (p0.parts.set 3 (db true))).parts.set 4 (di p1))),(di 0)])))))
theorem run (M:Nat) (p0:D) (p1:Int):callS (e M) (tblOf []) 12 (.fn 213) [.d (.struct [3,9,9,4,3,66]) p0,.d (.int .i64) (di p1)] [] (fun v H=>finish ty [68,65] v H)=s M p0 p1:=by kernel_rfl
def c:Con:={ run:=fun ds=>match ds with | [p0,p1]=>s FUEL p0 p1.i | _=>none }
theorem ok:ConOk (213,c):=mkC Tryz.f213 [(.struct [3,9,9,4,3,66]),(.int .i64)] [68,65] (by kernel_rfl) (by kernel_rfl) (by kernel_rfl) (by kernel_rfl) (allCons F242.ok allNil) allNil AllOk.nil fun a=>run FUEL a.1 a.2.1
end F213
namespace F216
def cons:List (Nat×Con):=[(242,F242.c)]
def exts:List (Nat×Ext):=[]
def h:List (Nat×Nat×Hint):=[]
noncomputable def e (M:Nat):Env:=env cons exts h M
def s (M:Nat) (p0:D) (p1:Int):Option D:=
 (cond (!(p0.at 3).b) (some (D.tup [p0,(di 6)])) (bd (F242.s FUEL p1) fun f=>(cond (!f.b) (some (D.tup [p0,(di 1)])) (cond (ltI p1 (p0.at 4).i) (some (D.tup [p0,(di 7)])) (some (D.tup [(D.agg (p0.parts.set 4 (di p1))),(di 0)]))))))
theorem run (M:Nat) (p0:D) (p1:Int):callS (e M) (tblOf []) 12 (.fn 216) [.d (.struct [3,9,9,4,3,66]) p0,.d (.int .i64) (di p1)] [] (fun v H=>finish ty [68,65] v H)=s M p0 p1:=by kernel_rfl
def c:Con:={ run:=fun ds=>match ds with | [p0,p1]=>s FUEL p0 p1.i | _=>none }
theorem ok:ConOk (216,c):=mkC Tryz.f216 [(.struct [3,9,9,4,3,66]),(.int .i64)] [68,65] (by kernel_rfl) (by kernel_rfl) (by kernel_rfl) (by kernel_rfl) (allCons F242.ok allNil) allNil AllOk.nil fun a=>run FUEL a.1 a.2.1
end F216
namespace F182
def cons:List (Nat×Con):=[]
def exts:List (Nat×Ext):=[]
def h:List (Nat×Nat×Hint):=[]
noncomputable def e (M:Nat):Env:=env cons exts h M
def s (M:Nat) (p0:D) (p1:Int):Option D:=
 (cond (!(p0.at 3).b) (some (di 6)) (cond (ltI p1 (p0.at 4).i) (some (di 8)) (cond (gtI (nI (p0.at 5).elems.length) 0) (some (di 9)) (some (di 0)))))
theorem run (M:Nat) (p0:D) (p1:Int):callS (e M) (tblOf []) 12 (.fn 182) [.d (.struct [3,9,9,4,3,66]) p0,.d (.int .i64) (di p1)] [] (fun v H=>finish ty [65] v H)=s M p0 p1:=by kernel_rfl
def c:Con:={ run:=fun ds=>match ds with | [p0,p1]=>s FUEL p0 p1.i | _=>none,plain:=true }
theorem ok:ConOk (182,c):=mkC Tryz.f182 [(.struct [3,9,9,4,3,66]),(.int .i64)] [65] (by kernel_rfl) (by kernel_rfl) (by kernel_rfl) (by kernel_rfl) allNil allNil AllOk.nil fun a=>run FUEL a.1 a.2.1
end F182
namespace F228
def cons:List (Nat×Con):=[]
def exts:List (Nat×Ext):=[]
def h:List (Nat×Nat×Hint):=[]
noncomputable def e (M:Nat):Env:=env cons exts h M
def s (M:Nat)  : Option D:=
 (some (dl true [(D.tup [(di 1),(D.iface 315 (D.fn 253))]),(D.tup [(di 4),(D.iface 315 (D.fn 218))]),(D.tup [(di 5),(D.iface 315 (D.fn 220))]),(D.tup [(di 2),(D.iface 317 (D.fn 213))]),(D.tup [(di 3),(D.iface 317 (D.fn 216))]),(D.tup [(di 6),(D.iface 314 (D.fn 182))])]))
theorem run (M:Nat)  : callS (e M) (tblOf []) 12 (.fn 228) [] [] (fun v H=>finishFresh ty [312] v H)=s M  := by kernel_rfl
def c:Con:={ run:=fun ds=>match ds with | []=>s FUEL  | _=>none,fresh:=true }
theorem ok:ConOk (228,c):=mkF Tryz.f228 [] [312] (by kernel_rfl) (by kernel_rfl) (by kernel_rfl) allNil allNil AllOk.nil fun _=>run FUEL
end F228
namespace F199
def cons:List (Nat×Con):=[]
def exts:List (Nat×Ext):=[]
def h:List (Nat×Nat×Hint):=[(199,2,{ live:=[0,3],out:=some [0,2] })]
noncomputable def e (M:Nat):Env:=env cons exts h M
structure S2 where
 (i1 i2:Int)
inductive X2 where
 | e0 (f:Int)
 | e1 (f:Int)
def st2 (M:Nat):S2→(S2→Option D)→(X2→Option D)→Option D
 | ⟨f,g⟩,rec,K=>(cond (leI (ml .i64 g g) f) (bd (if g=0 then none else some (.int .i64 (remI f g))) fun j=>(cond (eqI j.i 0) (K (.e0 f)) (rec ⟨f,(ad .i64 g 1)⟩))) (K (.e1 f)))
def ex2 (k:Kont):X2→Option D
 | .e0 f=>k .ret ((vi f)::(us 1 ((vb false)::(us 14 [])))) []
 | .e1 f=>k (.exit 0) ((vi f)::(us 16 [])) []
def lv2:S2→List Leaf
 | ⟨f,g⟩=>[.i f,.i g]
def of2:List Leaf→Option S2
 | [.i f,.i g]=>some ⟨f,g⟩
 | _=>none
def ps2:List PV:=((.d (.int .i64) (.int .i64))::(up 2 ((.d (.int .i64) (.int .i64))::(up 13 []))))
def qs2:List PO:=[]
noncomputable def t (M:Nat):List Ent:=⟨199,11,0,2,sumS [0,3] ps2 qs2 [] of2 (st2 M) ex2 M⟩::[]
theorem t_ok (M:Nat):AllOk (e M) (tblOf (t M)):=AllOk.addS (n0:=0) (lv:=lv2) AllOk.nil (by kernel_rfl) rfl (by intro ls s h;unfold of2 at h;(repeat' split at h)<;>simp at h;subst h;rfl) (by intro s;kernel_rfl) (by intro s;kernel_rfl) (by intro s nx k;kernel_rfl)
def s (M:Nat) (p0:Int):Option D:=
 (goS (st2 M) M ⟨p0,2⟩ fun x=>match x with | .e0 f=>(some (db false)) | .e1 f=>(some (db (gtI f 1))))
theorem run (M:Nat) (p0:Int):callS (e M) (tblOf (t M)) 12 (.fn 199) [.d (.int .i64) (di p0)] [] (fun v H=>finish ty [4] v H)=s M p0:=by kernel_rfl
def c:Con:={ run:=fun ds=>match ds with | [p0]=>s FUEL p0.i | _=>none,plain:=true }
theorem ok:ConOk (199,c):=mkC Tryz.f199 [(.int .i64)] [4] (by kernel_rfl) (by kernel_rfl) (by kernel_rfl) (by kernel_rfl) allNil allNil (t_ok FUEL) fun a=>run FUEL a.1
end F199
namespace F257
def cons:List (Nat×Con):=[]
def exts:List (Nat×Ext):=[]
def h:List (Nat×Nat×Hint):=[]
noncomputable def e (M:Nat):Env:=env cons exts h M
def s (M:Nat) (p0:Int) (p1:Int):Option D:=
 (some (D.tup [(D.int .u64 (ad .u64 (ad .u64 (ml .u64 (shrI .u64 p0 32) (shrI .u64 p1 32)) (shrI .u64 (ad .u64 (ml .u64 (shrI .u64 p0 32) (andI .u64 p1 4294967295)) (shrI .u64 (ml .u64 (andI .u64 p0 4294967295) (andI .u64 p1 4294967295)) 32)) 32)) (shrI .u64 (ad .u64 (andI .u64 (ad .u64 (ml .u64 (shrI .u64 p0 32) (andI .u64 p1 4294967295)) (shrI .u64 (ml .u64 (andI .u64 p0 4294967295) (andI .u64 p1 4294967295)) 32)) 4294967295) (ml .u64 (andI .u64 p0 4294967295) (shrI .u64 p1 32))) 32))),(D.int .u64 (ml .u64 p0 p1))]))
theorem run (M:Nat) (p0:Int) (p1:Int):callS (e M) (tblOf []) 12 (.fn 257) [.d (.int .u64) (D.int .u64 p0),.d (.int .u64) (D.int .u64 p1)] [] (fun v H=>finish ty [286,286] v H)=s M p0 p1:=by kernel_rfl
def c:Con:={ run:=fun ds=>match ds with | [p0,p1]=>s FUEL p0.i p1.i | _=>none,plain:=true }
theorem ok:ConOk (257,c):=mkC Tryz.f257 [(.int .u64),(.int .u64)] [286,286] (by kernel_rfl) (by kernel_rfl) (by kernel_rfl) (by kernel_rfl) allNil allNil AllOk.nil fun a=>run FUEL a.1 a.2.1
end F257
namespace F237
def cons:List (Nat×Con):=[(257,F257.c)]
def exts:List (Nat×Ext):=[]
def h:List (Nat×Nat×Hint):=[]
noncomputable def e (M:Nat):Env:=env cons exts h M
def s (M:Nat) (p0:Int) (p1:Int) (p2:Int):Option D:=
 (bd (F257.s FUEL p0 p0) fun j=>(cond (eqI p2 2) (cond (ltI (j.at 0).i p1) (some (db true)) (cond (eqI (j.at 0).i p1) (some (db (eqI (j.at 1).i 0))) (some (db false)))) (bd (F257.s FUEL (j.at 1).i p0) fun g=>(bd (F257.s FUEL (j.at 0).i p0) fun f=>(cond (Nat.ble 0 1) (cond (ltI (orI .u64 (shlI .u64 (ad .u64 (f.at 0).i ((((g.at 0).i.toNat+(f.at 1).i.toNat+0) / 18446744073709551616:Nat):Int)) 32) (shrI .u64 ((((g.at 0).i.toNat+(f.at 1).i.toNat+0)%18446744073709551616:Nat):Int) 32)) p1) (some (db true)) (cond (eqI (orI .u64 (shlI .u64 (ad .u64 (f.at 0).i ((((g.at 0).i.toNat+(f.at 1).i.toNat+0) / 18446744073709551616:Nat):Int)) 32) (shrI .u64 ((((g.at 0).i.toNat+(f.at 1).i.toNat+0)%18446744073709551616:Nat):Int) 32)) p1) (cond (eqI (cv .u32 ((((g.at 0).i.toNat+(f.at 1).i.toNat+0)%18446744073709551616:Nat):Int)) 0) (some (db (eqI (g.at 1).i 0))) (some (db false))) (some (db false)))) none)))))
theorem run (M:Nat) (p0:Int) (p1:Int) (p2:Int):callS (e M) (tblOf []) 12 (.fn 237) [.d (.int .u64) (D.int .u64 p0),.d (.int .u64) (D.int .u64 p1),.d (.int .i64) (di p2)] [] (fun v H=>finish ty [4] v H)=s M p0 p1 p2:=by kernel_rfl
def c:Con:={ run:=fun ds=>match ds with | [p0,p1,p2]=>s FUEL p0.i p1.i p2.i | _=>none,plain:=true }
theorem ok:ConOk (237,c):=mkC Tryz.f237 [(.int .u64),(.int .u64),(.int .i64)] [4] (by kernel_rfl) (by kernel_rfl) (by kernel_rfl) (by kernel_rfl) (allCons F257.ok allNil) allNil AllOk.nil fun a=>run FUEL a.1 a.2.1 a.2.2.1
end F237
namespace F200
def cons:List (Nat×Con):=[(237,F237.c)]
def exts:List (Nat×Ext):=[]
def h:List (Nat×Nat×Hint):=[(200,3,{ live:=[0,1,5,6],out:=some [5] })]
noncomputable def e (M:Nat):Env:=env cons exts h M
structure S3 where
 (i1 i2 i3 i4:Int)
inductive X3 where
 | e0 (f:Int)
def st3 (M:Nat):S3→(S3→Option D)→(X3→Option D)→Option D
 | ⟨j,m,g,f⟩,rec,K=>(cond (gtI f 0) (bd (F237.s FUEL (orI .u64 g f) j m) fun o=>(cond o.b (rec ⟨j,m,(orI .u64 g f),(shrI .u64 f 1)⟩) (rec ⟨j,m,g,(shrI .u64 f 1)⟩))) (K (.e0 g)))
def ex3 (k:Kont):X3→Option D
 | .e0 f=>k (.exit 0) ((us 5 ((vk (.int .u64) (D.int .u64 f))::(us 16 [])))) []
def lv3:S3→List Leaf
 | ⟨f,g,j,m⟩=>[.i f,.i g,.i j,.i m]
def of3:List Leaf→Option S3
 | [.i f,.i g,.i j,.i m]=>some ⟨f,g,j,m⟩
 | _=>none
def ps3:List PV:=((.d (.int .u64) (.int .u64))::(.d (.int .i64) (.int .i64))::(up 3 ((.d (.int .u64) (.int .u64))::(.d (.int .u64) (.int .u64))::(up 15 []))))
def qs3:List PO:=[]
noncomputable def t (M:Nat):List Ent:=⟨200,11,0,3,sumS [0,1,5,6] ps3 qs3 [] of3 (st3 M) ex3 M⟩::[]
theorem t_ok (M:Nat):AllOk (e M) (tblOf (t M)):=AllOk.addS (n0:=0) (lv:=lv3) AllOk.nil (by kernel_rfl) rfl (by intro ls s h;unfold of3 at h;(repeat' split at h)<;>simp at h;subst h;rfl) (by intro s;kernel_rfl) (by intro s;kernel_rfl) (by intro s nx k;kernel_rfl)
def s (M:Nat) (p0:Int) (p1:Int):Option D:=
 (goS (st3 M) M ⟨p0,p1,0,137438953472⟩ fun x=>match x with | .e0 f=>(some (D.int .u32 (cv .u32 f))))
theorem run (M:Nat) (p0:Int) (p1:Int):callS (e M) (tblOf (t M)) 12 (.fn 200) [.d (.int .u64) (D.int .u64 p0),.d (.int .i64) (di p1)] [] (fun v H=>finish ty [214] v H)=s M p0 p1:=by kernel_rfl
def c:Con:={ run:=fun ds=>match ds with | [p0,p1]=>s FUEL p0.i p1.i | _=>none,plain:=true }
theorem ok:ConOk (200,c):=mkC Tryz.f200 [(.int .u64),(.int .i64)] [214] (by kernel_rfl) (by kernel_rfl) (by kernel_rfl) (by kernel_rfl) (allCons F237.ok allNil) allNil (t_ok FUEL) fun a=>run FUEL a.1 a.2.1
end F200
namespace F149
def cons:List (Nat×Con):=[(199,F199.c),(200,F200.c)]
def exts:List (Nat×Ext):=[]
def h:List (Nat×Nat×Hint):=[(149,3,{ live:=[0,1,2,3] })]
noncomputable def e (M:Nat):Env:=env cons exts h M
structure S3 where
 (i15 i16:Int) (d17 d18:D)
inductive X3 where
 | e0 (f g:Int) (j m:D)
def st3 (M:Nat):S3→(S3→Option D)→(X3→Option D)→Option D
 | ⟨f,g,j,m⟩,rec,K=>(cond (ltI f 64) (bd (F199.s FUEL g) fun p=>(cond (!p.b) (rec ⟨f,(ad .i64 g 1),j,m⟩) (bd (F200.s FUEL (cv .u64 g) 3) fun o=>(cond (inb f 64) (cond (ltI f 8) (bd (F200.s FUEL (cv .u64 g) 2) fun q=>(cond (inb f 8) (rec ⟨(ad .i64 f 1),(ad .i64 g 1),(D.agg (j.parts.set f.toNat q)),(D.agg (m.parts.set f.toNat o))⟩) none)) (rec ⟨(ad .i64 f 1),(ad .i64 g 1),j,(D.agg (m.parts.set f.toNat o))⟩)) none)))) (K (.e0 f g j m)))
def ex3 (k:Kont):X3→Option D
 | .e0 f g j m=>k (.exit 0) ((.ptr 0 [] (.array 8 214))::(.ptr 1 [] (.array 64 214))::(vi f)::(vi g)::(vi f)::(vb (ltI f 64))::(us 21 [])) [(.var (.array 8 214) (vk (.array 8 214) j)),(.var (.array 64 214) (vk (.array 64 214) m))]
def lv3:S3→List Leaf
 | ⟨f,g,j,m⟩=>[.i f,.i g,.d j,.d m]
def of3:List Leaf→Option S3
 | [.i f,.i g,.d j,.d m]=>some ⟨f,g,j,m⟩
 | _=>none
def ps3:List PV:=((.ptr 0 [] (.array 8 214))::(.ptr 1 [] (.array 64 214))::(.d (.int .i64) (.int .i64))::(.d (.int .i64) (.int .i64))::(up 23 []))
def qs3:List PO:=[(.var (.array 8 214) (.d (.array 8 214) .x)),(.var (.array 64 214) (.d (.array 64 214) .x))]
noncomputable def t (M:Nat):List Ent:=⟨149,11,0,3,sumS [0,1,2,3] ps3 qs3 [] of3 (st3 M) ex3 M⟩::[]
theorem t_ok (M:Nat):AllOk (e M) (tblOf (t M)):=AllOk.addS (n0:=2) (lv:=lv3) AllOk.nil (by kernel_rfl) rfl (by intro ls s h;unfold of3 at h;(repeat' split at h)<;>simp at h;subst h;rfl) (by intro s;kernel_rfl) (by intro s;kernel_rfl) (by intro s nx k;kernel_rfl)
def s (M:Nat)  : Option D:=
 (goS (st3 M) M ⟨0,2,(da (rp 8 (D.int .u32 0))),(da (rp 64 (D.int .u32 0)))⟩ fun x=>match x with | .e0 j m f g=>(some (D.tup [f,g])))
theorem run (M:Nat)  : callS (e M) (tblOf (t M)) 12 (.fn 149) [] [] (fun v H=>finish ty [215,217] v H)=s M  := by kernel_rfl
def c:Con:={ run:=fun ds=>match ds with | []=>s FUEL  | _=>none,plain:=true }
theorem ok:ConOk (149,c):=mkC Tryz.f149 [] [215,217] (by kernel_rfl) (by kernel_rfl) (by kernel_rfl) (by kernel_rfl) (allCons F199.ok (allCons F200.ok allNil)) allNil (t_ok FUEL) fun _=>run FUEL
end F149
namespace F150
def cons:List (Nat×Con):=[]
def exts:List (Nat×Ext):=[]
def h:List (Nat×Nat×Hint):=[(150,2,{ live:=[0,3],rows:=[(3,5)] }),(150,6,{ live:=[3,4,5],rows:=[(3,5)] })]
noncomputable def e (M:Nat):Env:=env cons exts h M
structure S2 where
 (s1:ByteArray) (n2 n3:Nat) (b4:Bool) (l5:List D)
inductive X2 where
 | e0 (f:ByteArray) (g j:Nat) (m:Bool) (o:List D)
def st2 (M:Nat):S2→(S2→Option D)→(X2→Option D)→Option D
 | ⟨g,j,f,m,o⟩,rec,K=>(cond (neI (remI (nI f) 64) 56) (cond (mx (f+1)) (rec ⟨g,0,(f+1),(m||true),(ap ((o.drop j).take f) [(D.int .u8 0)])⟩) none) (K (.e0 g j f m o)))
def ex2 (k:Kont):X2→Option D
 | .e0 j g f m o=>k (.exit 0) ((vS j)::(us 2 ((.sref 1 g f)::(us 6 ((.sref 1 g f)::(vi (nI f))::(vi (remI (nI f) 64))::(vb (neI (remI (nI f) 64) 56))::(us 21 [])))))) [.dead,(.row 5 true m o)]
def lv2:S2→List Leaf
 | ⟨f,g,j,m,o⟩=>[.s f,.n g,.n j,.b m,.l o]
def of2:List Leaf→Option S2
 | [.s f,.n g,.n j,.b m,.l o]=>some ⟨f,g,j,m,o⟩
 | _=>none
def ps2:List PV:=((.d .str .str)::(up 2 ((.sref 1)::(up 31 []))))
def qs2:List PO:=[.dead,(.row 5 true)]
noncomputable def t1 (M:Nat):List Ent:=⟨150,11,0,2,sumS [0,3] ps2 qs2 [(3,1)] of2 (st2 M) ex2 M⟩::[]
theorem t1_ok (M:Nat):AllOk (e M) (tblOf (t1 M)):=AllOk.addS (n0:=2) (lv:=lv2) AllOk.nil (by kernel_rfl) rfl (by intro ls s h;unfold of2 at h;(repeat' split at h)<;>simp at h;subst h;rfl) (by intro s;kernel_rfl) (by intro s;kernel_rfl) (by intro s nx k;kernel_rfl)
structure S6 where
 (n6 n7:Nat) (i8 i9:Int) (b10:Bool) (l11:List D)
inductive X6 where
 | e0 (f g:Nat) (j m:Int) (o:Bool) (p:List D)
def st6 (M:Nat):S6→(S6→Option D)→(X6→Option D)→Option D
 | ⟨m,g,j,f,o,p⟩,rec,K=>(cond (geI f 0) (bd (if (ml .i64 8 f)<0 then none else some (.int .u64 (shrI .u64 j (ml .i64 8 f).toNat))) fun q=>(cond (mx (g+1)) (rec ⟨0,(g+1),j,(sb .i64 f 1),(o||true),(ap ((p.drop m).take g) [(D.int .u8 (cv .u8 q.i))])⟩) none)) (K (.e0 m g j f o p)))
def ex6 (k:Kont):X6→Option D
 | .e0 g j m f o p=>k (.exit 2) ((us 3 ((.sref 1 g j)::(vk (.int .u64) (D.int .u64 m))::(vi f)::(us 15 ((vi f)::(vb (geI f 0))::(us 12 [])))))) [.dead,(.row 5 true o p)]
def lv6:S6→List Leaf
 | ⟨f,g,j,m,o,p⟩=>[.n f,.n g,.i j,.i m,.b o,.l p]
def of6:List Leaf→Option S6
 | [.n f,.n g,.i j,.i m,.b o,.l p]=>some ⟨f,g,j,m,o,p⟩
 | _=>none
def ps6:List PV:=((up 3 ((.sref 1)::(.d (.int .u64) (.int .u64))::(.d (.int .i64) (.int .i64))::(up 29 []))))
def qs6:List PO:=[.dead,(.row 5 true)]
noncomputable def t (M:Nat):List Ent:=⟨150,11,0,6,sumS [3,4,5] ps6 qs6 [(3,1)] of6 (st6 M) ex6 M⟩::t1 M
theorem t_ok (M:Nat):AllOk (e M) (tblOf (t M)):=AllOk.addS (n0:=2) (lv:=lv6) (t1_ok M) (by kernel_rfl) rfl (by intro ls s h;unfold of6 at h;(repeat' split at h)<;>simp at h;subst h;rfl) (by intro s;kernel_rfl) (by intro s;kernel_rfl) (by intro s nx k;kernel_rfl)
def s (M:Nat) (p0:ByteArray):Option D:=
 (cond (mx p0.size) (cond (mx (p0.size+1)) (goS (st2 M) M ⟨p0,0,(p0.size+1),true,(ap (((bytesOf p0).drop 0).take p0.size) [(D.int .u8 128)])⟩ fun x=>match x with | .e0 f g j m o=>(goS (st6 M) M ⟨g,j,(shlI .u64 (cv .u64 (nI f.size)) 3),7,m,o⟩ fun x=>match x with | .e0 p q u w y r=>(some (dS (ofBytes ((r.drop p).take q)))))) none) none)
theorem run (M:Nat) (p0:ByteArray):callS (e M) (tblOf (t M)) 12 (.fn 150) [.d .str (dS p0)] [] (fun v H=>finish ty [9] v H)=s M p0:=by kernel_rfl
def c:Con:={ run:=fun ds=>match ds with | [p0]=>s FUEL p0.s | _=>none,plain:=true }
theorem ok:ConOk (150,c):=mkC Tryz.f150 [.str] [9] (by kernel_rfl) (by kernel_rfl) (by kernel_rfl) (by kernel_rfl) allNil allNil (t_ok FUEL) fun a=>run FUEL a.1
end F150
namespace F238
def cons:List (Nat×Con):=[]
def exts:List (Nat×Ext):=[]
def h:List (Nat×Nat×Hint):=[]
noncomputable def e (M:Nat):Env:=env cons exts h M
def s (M:Nat) (p0:Int) (p1:Int):Option D:=
 (bd (if (andI .u64 (cv .u64 p1) 31)<0 then none else some (.int .u32 (shlI .u32 p0 (andI .u64 (cv .u64 p1) 31).toNat))) fun f=>(bd (if (sb .u64 32 (andI .u64 (cv .u64 p1) 31))<0 then none else some (.int .u32 (shrI .u32 p0 (sb .u64 32 (andI .u64 (cv .u64 p1) 31)).toNat))) fun g=>(some (D.int .u32 (orI .u32 f.i g.i)))))
theorem run (M:Nat) (p0:Int) (p1:Int):callS (e M) (tblOf []) 12 (.fn 238) [.d (.int .u32) (D.int .u32 p0),.d (.int .i64) (di p1)] [] (fun v H=>finish ty [214] v H)=s M p0 p1:=by kernel_rfl
def c:Con:={ run:=fun ds=>match ds with | [p0,p1]=>s FUEL p0.i p1.i | _=>none,plain:=true }
theorem ok:ConOk (238,c):=mkC Tryz.f238 [(.int .u32),(.int .i64)] [214] (by kernel_rfl) (by kernel_rfl) (by kernel_rfl) (by kernel_rfl) allNil allNil AllOk.nil fun a=>run FUEL a.1 a.2.1
end F238
namespace F202
def cons:List (Nat×Con):=[(238,F238.c)]
def exts:List (Nat×Ext):=[]
def h:List (Nat×Nat×Hint):=[]
noncomputable def e (M:Nat):Env:=env cons exts h M
def s (M:Nat) (p0:Int) (p1:Int):Option D:=
 (bd (F238.s FUEL p0 (sb .i64 0 p1)) fun f=>(some f))
theorem run (M:Nat) (p0:Int) (p1:Int):callS (e M) (tblOf []) 12 (.fn 202) [.d (.int .u32) (D.int .u32 p0),.d (.int .i64) (di p1)] [] (fun v H=>finish ty [214] v H)=s M p0 p1:=by kernel_rfl
def c:Con:={ run:=fun ds=>match ds with | [p0,p1]=>s FUEL p0.i p1.i | _=>none,plain:=true }
theorem ok:ConOk (202,c):=mkC Tryz.f202 [(.int .u32),(.int .i64)] [214] (by kernel_rfl) (by kernel_rfl) (by kernel_rfl) (by kernel_rfl) (allCons F238.ok allNil) allNil AllOk.nil fun a=>run FUEL a.1 a.2.1
end F202
namespace F201
def cons:List (Nat×Con):=[(202,F202.c)]
def exts:List (Nat×Ext):=[]
def h:List (Nat×Nat×Hint):=[(201,3,{ live:=[0,2,3,7] })]
def q0_:PO:=(.var (.array 64 214) (.d (.array 64 214) .x))
noncomputable def e (M:Nat):Env:=env cons exts h M
structure S3 where
 (s1:ByteArray) (i2:Int) (d3 d4:D)
inductive X3 where
 | e0 (f:ByteArray) (g:Int) (j m:D)
def st3 (M:Nat):S3→(S3→Option D)→(X3→Option D)→Option D
 | ⟨g,f,m,j⟩,rec,K=>(cond (ltI f 64) (cond (ltI f 16) (cond (inb (ml .i64 4 f) g.size) (cond (inb (ad .i64 (ml .i64 4 f) 1) g.size) (cond (inb (ad .i64 (ml .i64 4 f) 2) g.size) (cond (inb (ad .i64 (ml .i64 4 f) 3) g.size) (cond (inb f 64) (rec ⟨g,(ad .i64 f 1),m,(D.agg (j.parts.set f.toNat (D.int .u32 (orI .u32 (orI .u32 (orI .u32 (shlI .u32 (cv .u32 (byteAt g (ml .i64 4 f).toNat)) 24) (shlI .u32 (cv .u32 (byteAt g (ad .i64 (ml .i64 4 f) 1).toNat)) 16)) (shlI .u32 (cv .u32 (byteAt g (ad .i64 (ml .i64 4 f) 2).toNat)) 8)) (cv .u32 (byteAt g (ad .i64 (ml .i64 4 f) 3).toNat))))))⟩) none) none) none) none) none) (cond (inb (sb .i64 f 15) 64) (cond (inb (sb .i64 f 2) 64) (cond (inb (sb .i64 f 16) 64) (bd (F202.s FUEL (j.at (sb .i64 f 15).toNat).i 7) fun o=>(bd (F202.s FUEL (j.at (sb .i64 f 15).toNat).i 18) fun p=>(cond (inb (sb .i64 f 7) 64) (bd (F202.s FUEL (j.at (sb .i64 f 2).toNat).i 17) fun q=>(bd (F202.s FUEL (j.at (sb .i64 f 2).toNat).i 19) fun r=>(cond (inb f 64) (rec ⟨g,(ad .i64 f 1),m,(D.agg (j.parts.set f.toNat (D.int .u32 (ad .u32 (ad .u32 (ad .u32 (j.at (sb .i64 f 16).toNat).i (xorI .u32 (xorI .u32 o.i p.i) (shrI .u32 (j.at (sb .i64 f 15).toNat).i 3))) (j.at (sb .i64 f 7).toNat).i) (xorI .u32 (xorI .u32 q.i r.i) (shrI .u32 (j.at (sb .i64 f 2).toNat).i 10))))))⟩) none))) none))) none) none) none)) (K (.e0 g f m j)))
def ex3 (k:Kont):X3→Option D
 | .e0 g f j m=>k (.exit 0) ((vS g)::(us 1 ((.ptr 0 [] (.array 64 214))::(.ptr 1 [] (.array 64 214))::(us 3 ((vi f)::(vb (ltI f 64))::(us 73 [])))))) [(.var (.array 64 214) (vk (.array 64 214) j)),(.var (.array 64 214) (vk (.array 64 214) m))]
def lv3:S3→List Leaf
 | ⟨f,g,j,m⟩=>[.s f,.i g,.d j,.d m]
def of3:List Leaf→Option S3
 | [.s f,.i g,.d j,.d m]=>some ⟨f,g,j,m⟩
 | _=>none
def ps3:List PV:=((.d .str .str)::(up 1 ((.ptr 0 [] (.array 64 214))::(.ptr 1 [] (.array 64 214))::(up 3 ((.d (.int .i64) (.int .i64))::(up 74 []))))))
def qs3:List PO:=[q0_,q0_]
noncomputable def t (M:Nat):List Ent:=⟨201,11,0,3,sumS [0,2,3,7] ps3 qs3 [] of3 (st3 M) ex3 M⟩::[]
theorem t_ok (M:Nat):AllOk (e M) (tblOf (t M)):=AllOk.addS (n0:=2) (lv:=lv3) AllOk.nil (by kernel_rfl) rfl (by intro ls s h;unfold of3 at h;(repeat' split at h)<;>simp at h;subst h;rfl) (by intro s;kernel_rfl) (by intro s;kernel_rfl) (by intro s nx k;kernel_rfl)
def s (M:Nat) (p0:ByteArray):Option D:=
 (goS (st3 M) M ⟨p0,0,(da (rp 64 (D.int .u32 0))),(da (rp 64 (D.int .u32 0)))⟩ fun x=>match x with | .e0 g j m f=>(some f))
theorem run (M:Nat) (p0:ByteArray):callS (e M) (tblOf (t M)) 12 (.fn 201) [.d .str (dS p0)] [] (fun v H=>finish ty [217] v H)=s M p0:=by kernel_rfl
def c:Con:={ run:=fun ds=>match ds with | [p0]=>s FUEL p0.s | _=>none,plain:=true }
theorem ok:ConOk (201,c):=mkC Tryz.f201 [.str] [217] (by kernel_rfl) (by kernel_rfl) (by kernel_rfl) (by kernel_rfl) (allCons F202.ok allNil) allNil (t_ok FUEL) fun a=>run FUEL a.1
end F201
namespace F151
def cons:List (Nat×Con):=[(201,F201.c),(202,F202.c)]
def exts:List (Nat×Ext):=[]
def h:List (Nat×Nat×Hint):=[(151,1,{ own:=true }),(151,3,{ live:=[3,4,6,7,17,18] }),(151,13,{ live:=[3,6,7,91] })]
def q0_:PO:=(.var (.array 8 214) (.d (.array 8 214) (.agg [(.int .u32),(.int .u32),(.int .u32),(.int .u32),(.int .u32),(.int .u32),(.int .u32),(.int .u32)])))
def q1_:PO:=(.var (.array 64 214) (.d (.array 64 214) .x))
def q2_:PO:=(.var (.array 8 214) (.d (.array 8 214) .x))
noncomputable def e (M:Nat):Env:=env cons exts h M
structure S3 where
 (d2:D) (i3:Int) (d4 d5:D) (i6 i7 i8 i9 i10 i11 i12 i13:Int) (b14:Bool) (l15:List D)
inductive X3 where
 | e0 (f:D) (g:Int) (j m:D) (o p q r u w y z:Int) (A:Bool) (B:List D)
def st3 (M:Nat):S3→(S3→Option D)→(X3→Option D)→Option D
 | ⟨j,g,r,m,u,w,y,z,A,B,C,E,F,f⟩,rec,K=>(cond (ltI g 64) (cond (inb g 64) (bd (F202.s FUEL (ix f 4).i 6) fun o=>(bd (F202.s FUEL (ix f 4).i 11) fun p=>(bd (F202.s FUEL (ix f 4).i 25) fun q=>(cond (inb g 64) (bd (F202.s FUEL (ix f 0).i 2) fun G=>(bd (F202.s FUEL (ix f 0).i 13) fun I=>(bd (F202.s FUEL (ix f 0).i 22) fun J=>(cond (true&&true&&true&&(Nat.beq f.length 8)) (cond (true&&true&&true&&(Nat.beq f.length 8)) (rec ⟨j,(ad .i64 g 1),r,m,u,w,y,z,A,B,C,E,F,(((ap (ap (f.take 1) (((f.drop 0).take 7).take (min ((f.drop 0).take 7).length 7))) (f.drop (1+(min ((f.drop 0).take 7).length 7)))).set 0 (D.int .u32 (ad .u32 (ad .u32 (ad .u32 (ad .u32 (ad .u32 (ix f 7).i (xorI .u32 (xorI .u32 o.i p.i) q.i)) (xorI .u32 (andI .u32 (ix f 4).i (ix f 5).i) (andI .u32 (notI .u32 (ix f 4).i) (ix f 6).i))) (m.at g.toNat).i) (j.at g.toNat).i) (ad .u32 (xorI .u32 (xorI .u32 G.i I.i) J.i) (xorI .u32 (xorI .u32 (andI .u32 (ix f 0).i (ix f 1).i) (andI .u32 (ix f 0).i (ix f 2).i)) (andI .u32 (ix f 1).i (ix f 2).i)))))).set 4 (D.int .u32 (ad .u32 (ix ((ap (ap (f.take 1) (((f.drop 0).take 7).take (min ((f.drop 0).take 7).length 7))) (f.drop (1+(min ((f.drop 0).take 7).length 7)))).set 0 (D.int .u32 (ad .u32 (ad .u32 (ad .u32 (ad .u32 (ad .u32 (ix f 7).i (xorI .u32 (xorI .u32 o.i p.i) q.i)) (xorI .u32 (andI .u32 (ix f 4).i (ix f 5).i) (andI .u32 (notI .u32 (ix f 4).i) (ix f 6).i))) (m.at g.toNat).i) (j.at g.toNat).i) (ad .u32 (xorI .u32 (xorI .u32 G.i I.i) J.i) (xorI .u32 (xorI .u32 (andI .u32 (ix f 0).i (ix f 1).i) (andI .u32 (ix f 0).i (ix f 2).i)) (andI .u32 (ix f 1).i (ix f 2).i)))))) 4).i (ad .u32 (ad .u32 (ad .u32 (ad .u32 (ix f 7).i (xorI .u32 (xorI .u32 o.i p.i) q.i)) (xorI .u32 (andI .u32 (ix f 4).i (ix f 5).i) (andI .u32 (notI .u32 (ix f 4).i) (ix f 6).i))) (m.at g.toNat).i) (j.at g.toNat).i))))⟩) none) none)))) none)))) none) (K (.e0 j g r m u w y z A B C E F f)))
def ex3 (k:Kont):X3→Option D
 | .e0 g f j m o p q r u w y z A B=>k (.exit 0) ((us 3 ((.ptr 0 [] (.array 8 214))::(.ptr 1 [] (.array 64 214))::(us 1 ((.ptr 2 [] (.array 8 214))::(.ptr 3 [] (.array 8 214))::(us 9 ((vk (.array 64 214) g)::(vi f)::(vb (ltI f 64))::(us 84 [])))))))) [(.var (.array 8 214) (vk (.array 8 214) j)),(.var (.array 64 214) (vk (.array 64 214) m)),(.var (.array 8 214) (vk (.array 8 214) (da [(D.int .u32 o),(D.int .u32 p),(D.int .u32 q),(D.int .u32 r),(D.int .u32 u),(D.int .u32 w),(D.int .u32 y),(D.int .u32 z)]))),(.row 214 true A B)]
def lv3:S3→List Leaf
 | ⟨f,g,j,m,o,p,q,r,u,w,y,z,A,B⟩=>[.d f,.i g,.d j,.d m,.i o,.i p,.i q,.i r,.i u,.i w,.i y,.i z,.b A,.l B]
def of3:List Leaf→Option S3
 | [.d f,.i g,.d j,.d m,.i o,.i p,.i q,.i r,.i u,.i w,.i y,.i z,.b A,.l B]=>some ⟨f,g,j,m,o,p,q,r,u,w,y,z,A,B⟩
 | _=>none
def ps3:List PV:=((up 3 ((.ptr 0 [] (.array 8 214))::(.ptr 1 [] (.array 64 214))::(up 1 ((.ptr 2 [] (.array 8 214))::(.ptr 3 [] (.array 8 214))::(up 9 ((.d (.array 64 214) .x)::(.d (.int .i64) (.int .i64))::(up 85 []))))))))
def qs3:List PO:=[q2_,q1_,q0_,(.row 214 true)]
noncomputable def t1 (M:Nat):List Ent:=⟨151,11,0,3,sumS [3,4,6,7,17,18] ps3 qs3 [] of3 (st3 M) ex3 M⟩::[]
theorem t1_ok (M:Nat):AllOk (e M) (tblOf (t1 M)):=AllOk.addS (n0:=4) (lv:=lv3) AllOk.nil (by kernel_rfl) rfl (by intro ls s h;unfold of3 at h;(repeat' split at h)<;>simp at h;subst h;rfl) (by intro s;kernel_rfl) (by intro s;kernel_rfl) (by intro s nx k;kernel_rfl)
structure S13 where
 (i22:Int) (d23 d24:D) (i25 i26 i27 i28 i29 i30 i31 i32:Int) (b33:Bool) (l34:List D)
inductive X13 where
 | e0 (f:Int) (g j:D) (m o p q r u w y:Int) (z:Bool) (A:List D)
def st13 (M:Nat):S13→(S13→Option D)→(X13→Option D)→Option D
 | ⟨f,g,m,o,p,q,r,u,w,y,z,A,j⟩,rec,K=>(cond (ltI f 8) (cond (inb f 8) (cond (inb f 8) (cond (inb f 8) (rec ⟨(ad .i64 f 1),(D.agg (g.parts.set f.toNat (D.int .u32 (ad .u32 (g.at f.toNat).i (ix j f.toNat).i)))),m,o,p,q,r,u,w,y,z,A,j⟩) none) none) none) (K (.e0 f g m o p q r u w y z A j)))
def ex13 (k:Kont):X13→Option D
 | .e0 f g j m o p q r u w y z A=>k (.exit 2) ((us 3 ((.ptr 0 [] (.array 8 214))::(us 2 ((.ptr 2 [] (.array 8 214))::(.ptr 3 [] (.array 8 214))::(us 83 ((vi f)::(vb (ltI f 8))::(us 11 [])))))))) [(.var (.array 8 214) (vk (.array 8 214) g)),(.var (.array 64 214) (vk (.array 64 214) j)),(.var (.array 8 214) (vk (.array 8 214) (da [(D.int .u32 m),(D.int .u32 o),(D.int .u32 p),(D.int .u32 q),(D.int .u32 r),(D.int .u32 u),(D.int .u32 w),(D.int .u32 y)]))),(.row 214 true z A)]
def lv13:S13→List Leaf
 | ⟨f,g,j,m,o,p,q,r,u,w,y,z,A⟩=>[.i f,.d g,.d j,.i m,.i o,.i p,.i q,.i r,.i u,.i w,.i y,.b z,.l A]
def of13:List Leaf→Option S13
 | [.i f,.d g,.d j,.i m,.i o,.i p,.i q,.i r,.i u,.i w,.i y,.b z,.l A]=>some ⟨f,g,j,m,o,p,q,r,u,w,y,z,A⟩
 | _=>none
def ps13:List PV:=((up 3 ((.ptr 0 [] (.array 8 214))::(up 2 ((.ptr 2 [] (.array 8 214))::(.ptr 3 [] (.array 8 214))::(up 83 ((.d (.int .i64) (.int .i64))::(up 12 []))))))))
def qs13:List PO:=[q2_,q1_,q0_,(.row 214 true)]
noncomputable def t (M:Nat):List Ent:=⟨151,11,0,13,sumS [3,6,7,91] ps13 qs13 [] of13 (st13 M) ex13 M⟩::t1 M
theorem t_ok (M:Nat):AllOk (e M) (tblOf (t M)):=AllOk.addS (n0:=4) (lv:=lv13) (t1_ok M) (by kernel_rfl) rfl (by intro ls s h;unfold of13 at h;(repeat' split at h)<;>simp at h;subst h;rfl) (by intro s;kernel_rfl) (by intro s;kernel_rfl) (by intro s nx k;kernel_rfl)
def s (M:Nat) (p0:D) (p1:D) (p2:ByteArray):Option D:=
 (cond (Nat.beq p0.parts.length 8) (bd (F201.s FUEL p2) fun f=>(goS (st3 M) M ⟨f,0,p0,p1,0,0,0,0,0,0,0,0,true,p0.parts⟩ fun x=>match x with | .e0 C E g j m o p q r u w y z A=>(goS (st13 M) M ⟨0,g,j,m,o,p,q,r,u,w,y,z,A⟩ fun x=>match x with | .e0 F B G I J L N O P Q R S T=>(some B)))) none)
theorem run (M:Nat) (p0:D) (p1:D) (p2:ByteArray):callS (e M) (tblOf (t M)) 12 (.fn 151) [.d (.array 8 214) p0,.d (.array 64 214) p1,.d .str (dS p2)] [] (fun v H=>finish ty [215] v H)=s M p0 p1 p2:=by kernel_rfl
def c:Con:={ run:=fun ds=>match ds with | [p0,p1,p2]=>s FUEL p0 p1 p2.s | _=>none,plain:=true }
theorem ok:ConOk (151,c):=mkC Tryz.f151 [(.array 8 214),(.array 64 214),.str] [215] (by kernel_rfl) (by kernel_rfl) (by kernel_rfl) (by kernel_rfl) (allCons F201.ok (allCons F202.ok allNil)) allNil (t_ok FUEL) fun a=>run FUEL a.1 a.2.1 a.2.2.1
end F151
namespace F93
def cons:List (Nat×Con):=[(149,F149.c),(150,F150.c),(151,F151.c)]
def exts:List (Nat×Ext):=[]
def h:List (Nat×Nat×Hint):=[(93,3,{ live:=[2,3,4,5] }),(93,8,{ live:=[2,3,6,24] })]
def q0_:PO:=(.var (.array 64 214) (.d (.array 64 214) .x))
def q1_:PO:=(.var (.array 8 214) (.d (.array 8 214) .x))
def q2_:PO:=(.var (.array 32 5) (.d (.array 32 5) .x))
noncomputable def e (M:Nat):Env:=env cons exts h M
structure S3 where
 (d3 d4 d5 d6:D)
inductive X3 where
 | e0 (f g j m:D)
def st3 (M:Nat):S3→(S3→Option D)→(X3→Option D)→Option D
 | ⟨f,j,m,g⟩,rec,K=>(cond (gtI (nI f.s.size) 0) (cond (true&&true&&(leI 64 (nI f.s.size))&&(leI (nI f.s.size) (nI f.s.size))) (bd (F151.s FUEL m g (f.s.extract 0 64)) fun o=>(cond (true&&(leI 64 (nI f.s.size))&&(leI (nI f.s.size) (nI f.s.size))&&(leI (nI f.s.size) (nI f.s.size))) (rec ⟨(dS (f.s.extract 64 f.s.size)),j,o,g⟩) none)) none) (K (.e0 f j m g)))
def ex3 (k:Kont):X3→Option D
 | .e0 f g j m=>k (.exit 0) ((us 2 ((.ptr 0 [] (.array 32 5))::(.ptr 1 [] (.array 8 214))::(.ptr 2 [] (.array 64 214))::(vk .str f)::(us 8 ((vk .str f)::(vi (nI f.s.size))::(vb (gtI (nI f.s.size) 0))::(us 24 [])))))) [(.var (.array 32 5) (vk (.array 32 5) g)),(.var (.array 8 214) (vk (.array 8 214) j)),(.var (.array 64 214) (vk (.array 64 214) m))]
def lv3:S3→List Leaf
 | ⟨f,g,j,m⟩=>[.d f,.d g,.d j,.d m]
def of3:List Leaf→Option S3
 | [.d f,.d g,.d j,.d m]=>some ⟨f,g,j,m⟩
 | _=>none
def ps3:List PV:=((up 2 ((.ptr 0 [] (.array 32 5))::(.ptr 1 [] (.array 8 214))::(.ptr 2 [] (.array 64 214))::(.d .str .x)::(up 35 []))))
def qs3:List PO:=[q2_,q1_,q0_]
noncomputable def t1 (M:Nat):List Ent:=⟨93,11,0,3,sumS [2,3,4,5] ps3 qs3 [] of3 (st3 M) ex3 M⟩::[]
theorem t1_ok (M:Nat):AllOk (e M) (tblOf (t1 M)):=AllOk.addS (n0:=3) (lv:=lv3) AllOk.nil (by kernel_rfl) rfl (by intro ls s h;unfold of3 at h;(repeat' split at h)<;>simp at h;subst h;rfl) (by intro s;kernel_rfl) (by intro s;kernel_rfl) (by intro s nx k;kernel_rfl)
structure S8 where
 (i8:Int) (d9 d10 d11 d12:D)
inductive X8 where
 | e0 (f:Int) (g j m o:D)
def st8 (M:Nat):S8→(S8→Option D)→(X8→Option D)→Option D
 | ⟨f,j,g,m,o⟩,rec,K=>(cond (ltI f 32) (cond (inb (quoI .i64 f 4) 8) (bd (if (sb .i64 24 (ml .i64 8 (remI f 4)))<0 then none else some (.int .u32 (shrI .u32 (g.at (quoI .i64 f 4).toNat).i (sb .i64 24 (ml .i64 8 (remI f 4))).toNat))) fun p=>(cond (inb f 32) (rec ⟨(ad .i64 f 1),j,g,m,(D.agg (o.parts.set f.toNat (D.int .u8 (cv .u8 p.i))))⟩) none)) none) (K (.e0 f j g m o)))
def ex8 (k:Kont):X8→Option D
 | .e0 f g j m o=>k (.exit 2) ((us 2 ((.ptr 0 [] (.array 32 5))::(.ptr 1 [] (.array 8 214))::(us 2 ((.ptr 3 [] (.array 32 5))::(us 17 ((vi f)::(vb (ltI f 32))::(us 15 [])))))))) [(.var (.array 32 5) (vk (.array 32 5) g)),(.var (.array 8 214) (vk (.array 8 214) j)),(.var (.array 64 214) (vk (.array 64 214) m)),(.var (.array 32 5) (vk (.array 32 5) o))]
def lv8:S8→List Leaf
 | ⟨f,g,j,m,o⟩=>[.i f,.d g,.d j,.d m,.d o]
def of8:List Leaf→Option S8
 | [.i f,.d g,.d j,.d m,.d o]=>some ⟨f,g,j,m,o⟩
 | _=>none
def ps8:List PV:=((up 2 ((.ptr 0 [] (.array 32 5))::(.ptr 1 [] (.array 8 214))::(up 2 ((.ptr 3 [] (.array 32 5))::(up 17 ((.d (.int .i64) (.int .i64))::(up 16 []))))))))
def qs8:List PO:=[q2_,q1_,q0_,q2_]
noncomputable def t (M:Nat):List Ent:=⟨93,11,0,8,sumS [2,3,6,24] ps8 qs8 [] of8 (st8 M) ex8 M⟩::t1 M
theorem t_ok (M:Nat):AllOk (e M) (tblOf (t M)):=AllOk.addS (n0:=4) (lv:=lv8) (t1_ok M) (by kernel_rfl) rfl (by intro ls s h;unfold of8 at h;(repeat' split at h)<;>simp at h;subst h;rfl) (by intro s;kernel_rfl) (by intro s;kernel_rfl) (by intro s nx k;kernel_rfl)
def s (M:Nat) (p0:ByteArray):Option D:=
 (bd (F149.s FUEL) fun f=>(bd (F150.s FUEL p0) fun g=>(goS (st3 M) M ⟨g,(da (rp 32 (D.int .u8 0))),(f.at 0),(f.at 1)⟩ fun x=>match x with | .e0 q j m o=>(goS (st8 M) M ⟨0,j,m,o,(da (rp 32 (D.int .u8 0)))⟩ fun x=>match x with | .e0 r u w y p=>(some p)))))
theorem run (M:Nat) (p0:ByteArray):callS (e M) (tblOf (t M)) 12 (.fn 93) [.d .str (dS p0)] [] (fun v H=>finish ty [30] v H)=s M p0:=by kernel_rfl
def c:Con:={ run:=fun ds=>match ds with | [p0]=>s FUEL p0.s | _=>none,plain:=true }
theorem ok:ConOk (93,c):=mkC Tryz.f93 [.str] [30] (by kernel_rfl) (by kernel_rfl) (by kernel_rfl) (by kernel_rfl) (allCons F149.ok (allCons F150.ok (allCons F151.ok allNil))) allNil (t_ok FUEL) fun a=>run FUEL a.1
end F93
namespace F229
def cons:List (Nat×Con):=[(93,F93.c)]
def exts:List (Nat×Ext):=[]
def h:List (Nat×Nat×Hint):=[]
noncomputable def e (M:Nat):Env:=env cons exts h M
def s (M:Nat) (p0:D) (p1:D):Option D:=
 (cond (eqI (p1.at 0).i 1) (some (da [(p1.at 0),(p0.at 0),(dS (bs [])),(di 0),(di (nI (p1.at 2).s.size)),(da (rp 32 (D.int .u8 0)))])) (cond (eqI (p1.at 0).i 2) (bd (F93.s FUEL (p0.at 2).s) fun f=>(some (da [(p1.at 0),(p0.at 0),(dS (bs [])),(p1.at 3),(di (nI (p0.at 2).s.size)),f]))) (cond (eqI (p1.at 0).i 3) (some (da [(p1.at 0),(p0.at 0),(dS (bs [])),(p1.at 3),(di 0),(da (rp 32 (D.int .u8 0)))])) (cond (eqI (p1.at 0).i 4) (cond (eqI (p1.at 0).i 4) (some (da [(p1.at 0),(p0.at 0),(p1.at 2),(di 0),(di 0),(da (rp 32 (D.int .u8 0)))])) (some (da [(p1.at 0),(p0.at 0),(dS (bs [])),(di 0),(di 0),(da (rp 32 (D.int .u8 0)))]))) (cond (eqI (p1.at 0).i 5) (some (da [(p1.at 0),(p0.at 0),(p1.at 2),(di 0),(di 0),(da (rp 32 (D.int .u8 0)))])) (some (da [(p1.at 0),(p0.at 0),(dS (bs [])),(di 0),(di 0),(da (rp 32 (D.int .u8 0)))])))))))
theorem run (M:Nat) (p0:D) (p1:D):callS (e M) (tblOf []) 12 (.fn 229) [.d (.struct [3,9,9,4,3,66]) p0,.d (.struct [28,9,9,3,3,3]) p1] [] (fun v H=>finish ty [32] v H)=s M p0 p1:=by kernel_rfl
def c:Con:={ run:=fun ds=>match ds with | [p0,p1]=>s FUEL p0 p1 | _=>none,plain:=true }
theorem ok:ConOk (229,c):=mkC Tryz.f229 [(.struct [3,9,9,4,3,66]),(.struct [28,9,9,3,3,3])] [32] (by kernel_rfl) (by kernel_rfl) (by kernel_rfl) (by kernel_rfl) (allCons F93.ok allNil) allNil AllOk.nil fun a=>run FUEL a.1 a.2.1
end F229
namespace F176
def cons:List (Nat×Con):=[(182,F182.c),(213,F213.c),(216,F216.c),(218,F218.c),(220,F220.c),(228,F228.c),(229,F229.c),(253,F253.c)]
def exts:List (Nat×Ext):=[]
def h:List (Nat×Nat×Hint):=[]
noncomputable def e (M:Nat):Env:=env cons exts h M
def s (M:Nat) (p0:D) (p1:D) (p2:Int):Option D:=
 (cond (eqI (p1.at 0).i 1) (cond (eqI (p1.at 0).i 0) (some (D.tup [p0,(da [(di 0),(di 0),(dS (bs [])),(di 0),(di 0),(da (rp 32 (D.int .u8 0)))]),(di 4)])) (cond (eqI (p1.at 0).i 6) none (bd (F253.s FUEL p0 (p1.at 2).s) fun f=>(cond (neI (f.at 1).i 0) (some (D.tup [p0,(da [(di 0),(di 0),(dS (bs [])),(di 0),(di 0),(da (rp 32 (D.int .u8 0)))]),(f.at 1)])) (bd (F229.s FUEL p0 p1) fun q=>(some (D.tup [(f.at 0),q,(di 0)]))))))) (cond (eqI (p1.at 0).i 4) (cond (eqI (p1.at 0).i 0) (some (D.tup [p0,(da [(di 0),(di 0),(dS (bs [])),(di 0),(di 0),(da (rp 32 (D.int .u8 0)))]),(di 4)])) (cond (eqI (p1.at 0).i 6) none (bd (F218.s FUEL p0 (p1.at 2).s) fun g=>(cond (neI (g.at 1).i 0) (some (D.tup [p0,(da [(di 0),(di 0),(dS (bs [])),(di 0),(di 0),(da (rp 32 (D.int .u8 0)))]),(g.at 1)])) (bd (F229.s FUEL p0 p1) fun r=>(some (D.tup [(g.at 0),r,(di 0)]))))))) (cond (eqI (p1.at 0).i 5) (cond (eqI (p1.at 0).i 0) (some (D.tup [p0,(da [(di 0),(di 0),(dS (bs [])),(di 0),(di 0),(da (rp 32 (D.int .u8 0)))]),(di 4)])) (cond (eqI (p1.at 0).i 6) none (bd (F220.s FUEL p0 (p1.at 2).s) fun j=>(cond (neI (j.at 1).i 0) (some (D.tup [p0,(da [(di 0),(di 0),(dS (bs [])),(di 0),(di 0),(da (rp 32 (D.int .u8 0)))]),(j.at 1)])) (bd (F229.s FUEL p0 p1) fun u=>(some (D.tup [(j.at 0),u,(di 0)]))))))) (cond (eqI (p1.at 0).i 2) (cond (eqI (p1.at 0).i 0) (some (D.tup [p0,(da [(di 0),(di 0),(dS (bs [])),(di 0),(di 0),(da (rp 32 (D.int .u8 0)))]),(di 4)])) (cond (eqI (p1.at 0).i 6) none (bd (F213.s FUEL p0 (p1.at 3).i) fun m=>(cond (neI (m.at 1).i 0) (some (D.tup [p0,(da [(di 0),(di 0),(dS (bs [])),(di 0),(di 0),(da (rp 32 (D.int .u8 0)))]),(m.at 1)])) (bd (F229.s FUEL p0 p1) fun w=>(some (D.tup [(m.at 0),w,(di 0)]))))))) (cond (eqI (p1.at 0).i 3) (cond (eqI (p1.at 0).i 0) (some (D.tup [p0,(da [(di 0),(di 0),(dS (bs [])),(di 0),(di 0),(da (rp 32 (D.int .u8 0)))]),(di 4)])) (cond (eqI (p1.at 0).i 6) none (bd (F216.s FUEL p0 (p1.at 3).i) fun o=>(cond (neI (o.at 1).i 0) (some (D.tup [p0,(da [(di 0),(di 0),(dS (bs [])),(di 0),(di 0),(da (rp 32 (D.int .u8 0)))]),(o.at 1)])) (bd (F229.s FUEL p0 p1) fun y=>(some (D.tup [(o.at 0),y,(di 0)]))))))) (cond (eqI (p1.at 0).i 6) (cond (eqI (p1.at 0).i 0) (some (D.tup [p0,(da [(di 0),(di 0),(dS (bs [])),(di 0),(di 0),(da (rp 32 (D.int .u8 0)))]),(di 4)])) (cond (eqI (p1.at 0).i 6) (bd (F182.s FUEL p0 p2) fun p=>(cond (neI p.i 0) (some (D.tup [p0,(da [(di 0),(di 0),(dS (bs [])),(di 0),(di 0),(da (rp 32 (D.int .u8 0)))]),p])) (bd (F229.s FUEL p0 p1) fun z=>(some (D.tup [(da [(di 0),(dS (bs [])),(dS (bs [])),(db false),(di 0),(dl false [])]),z,(di 0)]))))) none)) (cond (eqI (p1.at 0).i 0) (some (D.tup [p0,(da [(di 0),(di 0),(dS (bs [])),(di 0),(di 0),(da (rp 32 (D.int .u8 0)))]),(di 4)])) (some (D.tup [p0,(da [(di 0),(di 0),(dS (bs [])),(di 0),(di 0),(da (rp 32 (D.int .u8 0)))]),(di 1)])))))))))
theorem run (M:Nat) (p0:D) (p1:D) (p2:Int):callS (e M) (tblOf []) 12 (.fn 176) [.d (.struct [3,9,9,4,3,66]) p0,.d (.struct [28,9,9,3,3,3]) p1,.d (.int .i64) (di p2)] [] (fun v H=>finish ty [68,32,65] v H)=s M p0 p1 p2:=by kernel_rfl
def c:Con:={ run:=fun ds=>match ds with | [p0,p1,p2]=>s FUEL p0 p1 p2.i | _=>none }
theorem ok:ConOk (176,c):=mkC Tryz.f176 [(.struct [3,9,9,4,3,66]),(.struct [28,9,9,3,3,3]),(.int .i64)] [68,32,65] (by kernel_rfl) (by kernel_rfl) (by kernel_rfl) (by kernel_rfl) (allCons F182.ok (allCons F213.ok (allCons F216.ok (allCons F218.ok (allCons F220.ok (allCons F228.ok (allCons F229.ok (allCons F253.ok allNil)))))))) allNil AllOk.nil fun a=>run FUEL a.1 a.2.1 a.2.2.1
end F176
namespace F178
def cons:List (Nat×Con):=[]
def exts:List (Nat×Ext):=[]
def h:List (Nat×Nat×Hint):=[]
noncomputable def e (M:Nat):Env:=env cons exts h M
def s (M:Nat) (p0:Int) (p1:Int):Option D:=
 (some (di (maxi p0 (mini (maxi p1 0) 1099511627776))))
theorem run (M:Nat) (p0:Int) (p1:Int):callS (e M) (tblOf []) 12 (.fn 178) [.d (.int .i64) (di p0),.d (.int .i64) (di p1)] [] (fun v H=>finish ty [3] v H)=s M p0 p1:=by kernel_rfl
def c:Con:={ run:=fun ds=>match ds with | [p0,p1]=>s FUEL p0.i p1.i | _=>none,plain:=true }
theorem ok:ConOk (178,c):=mkC Tryz.f178 [(.int .i64),(.int .i64)] [3] (by kernel_rfl) (by kernel_rfl) (by kernel_rfl) (by kernel_rfl) allNil allNil AllOk.nil fun a=>run FUEL a.1 a.2.1
end F178
namespace F179
def cons:List (Nat×Con):=[(182,F182.c)]
def exts:List (Nat×Ext):=[]
def h:List (Nat×Nat×Hint):=[(179,4,{ live:=[5] }),(254,1,{ live:=[0,2,6,7,8],rows:=[(1048576,3)] })]
noncomputable def e (M:Nat):Env:=env cons exts h M
structure S254_1 where
 (d1:D) (i2 i3:Int) (n4 n5:Nat) (d6:D) (i7:Int) (b8:Bool) (l9:List D)
inductive X254_1 where
 | e0 (f:D) (g j:Int) (m o:Nat) (p:D) (q:Int) (r:Bool) (u:List D)
def st254_1 (M:Nat):S254_1→(S254_1→Option D)→(X254_1→Option D)→Option D
 | ⟨g,m,f,p,j,q,o,r,u⟩,rec,K=>(cond (ltI f m) (cond (inb f g.elems.length) (bd (F182.s FUEL (ix g.elems f.toNat) o) fun w=>(cond (eqI w.i 0) (cond (mx (j+1)) (rec ⟨g,m,(ad .i64 f 1),0,(j+1),q,o,(r||true),(ap ((u.drop p).take j) [((ix g.elems f.toNat).at 0)])⟩) none) (rec ⟨g,m,(ad .i64 f 1),p,j,q,o,r,u⟩))) none) (K (.e0 g m f p j q o r u)))
def ex254_1 (k:Kont):X254_1→Option D
 | .e0 j f g m o p q r u=>k (.exit 0) ((.yield 3)::(us 1 ((.ptr 2 [] (.int .i64))::(us 3 ((vk (.slice 68) j)::(vi f)::(vi g)::(vb (ltI g f))::(us 13 [])))))) [(.var (.slice 3) (.sref 4 m o)),(.var (.slice 68) (vk (.slice 68) p)),(.var (.int .i64) (vi q)),(.loop .ready 179 4 (.tup ((us 5 ((.ptr 0 [] (.slice 3))::(us 11 [])))))),(.row 3 true r u)]
def lv254_1:S254_1→List Leaf
 | ⟨f,g,j,m,o,p,q,r,u⟩=>[.d f,.i g,.i j,.n m,.n o,.d p,.i q,.b r,.l u]
def of254_1:List Leaf→Option S254_1
 | [.d f,.i g,.i j,.n m,.n o,.d p,.i q,.b r,.l u]=>some ⟨f,g,j,m,o,p,q,r,u⟩
 | _=>none
def ps254_1:List PV:=((.yield 3)::(up 1 ((.ptr 2 [] (.int .i64))::(up 3 ((.d (.slice 68) .x)::(.d (.int .i64) (.int .i64))::(.d (.int .i64) (.int .i64))::(up 14 []))))))
def qs254_1:List PO:=[(.var (.slice 3) (.sref 4)),(.var (.slice 68) (.d (.slice 68) .x)),(.var (.int .i64) (.d (.int .i64) (.int .i64))),(.loop false 179 4 (.tup ((up 5 ((.ptr 0 [] (.slice 3))::(up 11 [])))))),(.row 3 true)]
noncomputable def t (M:Nat):List Ent:=⟨254,10,4,1,sumS [0,2,6,7,8] ps254_1 qs254_1 [(1048576,4)] of254_1 (st254_1 M) ex254_1 M⟩::[]
theorem t_ok (M:Nat):AllOk (e M) (tblOf (t M)):=AllOk.addS (n0:=5) (lv:=lv254_1) AllOk.nil (by kernel_rfl) rfl (by intro ls s h;unfold of254_1 at h;(repeat' split at h)<;>simp at h;subst h;rfl) (by intro s;kernel_rfl) (by intro s;kernel_rfl) (by intro s nx k;kernel_rfl)
def s (M:Nat) (p0:D) (p1:Int):Option D:=
 (goS (st254_1 M) M ⟨p0,(nI p0.elems.length),0,0,0,p0,p1,false,[]⟩ fun x=>match x with | .e0 o p q g j r u m f=>(cond ((decide (j=f.length))&&(decide (g=0))) (some (.slice m f)) none))
theorem run (M:Nat) (p0:D) (p1:Int):callS (e M) (tblOf (t M)) 12 (.fn 179) [.d (.slice 68) p0,.d (.int .i64) (di p1)] [] (fun v H=>finishFresh ty [81] v H)=s M p0 p1:=by kernel_rfl
def c:Con:={ run:=fun ds=>match ds with | [p0,p1]=>s FUEL p0 p1.i | _=>none,fresh:=true }
theorem ok:ConOk (179,c):=mkF Tryz.f179 [(.slice 68),(.int .i64)] [81] (by kernel_rfl) (by kernel_rfl) (by kernel_rfl) (allCons F182.ok allNil) allNil (t_ok FUEL) fun a=>run FUEL a.1 a.2.1
end F179
namespace F183
def cons:List (Nat×Con):=[]
def exts:List (Nat×Ext):=[]
def h:List (Nat×Nat×Hint):=[]
noncomputable def e (M:Nat):Env:=env cons exts h M
def s (M:Nat) (p0:D) (p1:Int) (p2:Int):Option D:=
 (cond (ltI p1 0) (some (D.tup [(dS (bs [])),(di 1)])) (cond (ltI p2 p1) (some (D.tup [(dS (bs [])),(di 1)])) (cond (gtI p2 (nI (p0.at 2).s.size)) (some (D.tup [(dS (bs [])),(di 1)])) (cond ((leI 0 p1)&&(leI p1 p2)&&(leI p2 (nI (p0.at 2).s.size))&&(leI (nI (p0.at 2).s.size) (nI (p0.at 2).s.size))) (some (D.tup [(dS ((p0.at 2).s.extract p1.toNat p2.toNat)),(di 0)])) none))))
theorem run (M:Nat) (p0:D) (p1:Int) (p2:Int):callS (e M) (tblOf []) 12 (.fn 183) [.d (.struct [3,9,9,4,3,66]) p0,.d (.int .i64) (di p1),.d (.int .i64) (di p2)] [] (fun v H=>finish ty [9,65] v H)=s M p0 p1 p2:=by kernel_rfl
def c:Con:={ run:=fun ds=>match ds with | [p0,p1,p2]=>s FUEL p0 p1.i p2.i | _=>none,plain:=true }
theorem ok:ConOk (183,c):=mkC Tryz.f183 [(.struct [3,9,9,4,3,66]),(.int .i64),(.int .i64)] [9,65] (by kernel_rfl) (by kernel_rfl) (by kernel_rfl) (by kernel_rfl) allNil allNil AllOk.nil fun a=>run FUEL a.1 a.2.1 a.2.2.1
end F183
namespace F184
def cons:List (Nat×Con):=[]
def exts:List (Nat×Ext):=[]
def h:List (Nat×Nat×Hint):=[]
noncomputable def e (M:Nat):Env:=env cons exts h M
def s (M:Nat) (p0:D):Option D:=
 (some (D.agg (p0.parts.set 2 (dS (bs [])))))
theorem run (M:Nat) (p0:D):callS (e M) (tblOf []) 12 (.fn 184) [.d (.struct [3,9,9,4,3,66]) p0] [] (fun v H=>finish ty [68] v H)=s M p0:=by kernel_rfl
def c:Con:={ run:=fun ds=>match ds with | [p0]=>s FUEL p0 | _=>none }
theorem ok:ConOk (184,c):=mkC Tryz.f184 [(.struct [3,9,9,4,3,66])] [68] (by kernel_rfl) (by kernel_rfl) (by kernel_rfl) (by kernel_rfl) allNil allNil AllOk.nil fun a=>run FUEL a.1
end F184
namespace F186
def cons:List (Nat×Con):=[(165,F165.c)]
def exts:List (Nat×Ext):=[]
def h:List (Nat×Nat×Hint):=[]
noncomputable def e (M:Nat):Env:=env cons exts h M
def s (M:Nat) (p0:ByteArray) (p1:ByteArray):Option D:=
 (bd (F165.s FUEL p0 p1) fun f=>(cond f.b (some (di (-1))) (bd (F165.s FUEL p1 p0) fun g=>(cond g.b (some (di 1)) (some (di 0))))))
theorem run (M:Nat) (p0:ByteArray) (p1:ByteArray):callS (e M) (tblOf []) 12 (.fn 186) [.d .str (dS p0),.d .str (dS p1)] [] (fun v H=>finish ty [3] v H)=s M p0 p1:=by kernel_rfl
def c:Con:={ run:=fun ds=>match ds with | [p0,p1]=>s FUEL p0.s p1.s | _=>none,plain:=true }
theorem ok:ConOk (186,c):=mkC Tryz.f186 [.str,.str] [3] (by kernel_rfl) (by kernel_rfl) (by kernel_rfl) (by kernel_rfl) (allCons F165.ok allNil) allNil AllOk.nil fun a=>run FUEL a.1 a.2.1
end F186
namespace F30
def k0_:K:=(.struct [22,3,3])
def k1_:K:=(.struct [24,74,25])
def k2_:K:=(.struct [28,9,9,3,3,3])
def k3_:K:=(.struct [3,9,9,4,3,66])
def k4_:K:=(.struct [65,3,9,68,66])
def cons:List (Nat×Con):=[(31,F31.c),(77,F77.c),(164,F164.c),(174,F174.c),(175,F175.c),(176,F176.c),(178,F178.c),(179,F179.c),(182,F182.c),(183,F183.c),(184,F184.c),(186,F186.c),(256,voidC)]
def exts:List (Nat×Ext):=[]
def h:List (Nat×Nat×Hint):=[(78,2,{ live:=[0,1,7,8] }),(126,3,{ live:=[1,2,3,17,18,19],rows:=[(1060868,32)] }),(129,3,{ live:=[2,3,10,11,12],rows:=[(3,9)] }),(177,5,{ inpl:=true }),(180,5,{ live:=[0,1,5,6] }),(231,2,{ live:=[0,1,2,6,7,8] }),(231,7,{ live:=[0,1,2,6] }),(231,9,{ live:=[0,1,2,6,7,8] }),(255,1,{ live:=[0,1,2,3,8] }),(255,4,{ live:=[0,1,2,3,8,9] })]
def o0_:AObj:=(.var (.array 12 143) (.agg (.array 12 143) [(.func (.func 123) [(.ptr 4 [] k1_)] []),(.func (.func 124) [(.ptr 4 [] k1_)] []),(.func (.func 124) [(.ptr 4 [] k1_)] []),(.func (.func 124) [(.ptr 4 [] k1_)] []),(.func (.func 124) [(.ptr 4 [] k1_)] []),(.func (.func 124) [(.ptr 4 [] k1_)] []),(.func (.func 124) [(.ptr 4 [] k1_)] []),(.func (.func 125) [(.ptr 4 [] k1_)] []),(.func (.func 126) [(.ptr 4 [] k1_)] []),(.func (.func 127) [(.ptr 4 [] k1_)] []),(.func (.func 128) [(.ptr 4 [] k1_)] []),(.func (.func 129) [(.ptr 4 [] k1_)] [])]))
def o1_:AObj:=(.var (.ptr 142) (.ptr 4 [] k1_))
def q0_:PO:=(.var (.array 12 143) (.agg (.array 12 143) [(.func 123 [(.ptr 4 [] k1_)] []),(.func 124 [(.ptr 4 [] k1_)] []),(.func 124 [(.ptr 4 [] k1_)] []),(.func 124 [(.ptr 4 [] k1_)] []),(.func 124 [(.ptr 4 [] k1_)] []),(.func 124 [(.ptr 4 [] k1_)] []),(.func 124 [(.ptr 4 [] k1_)] []),(.func 125 [(.ptr 4 [] k1_)] []),(.func 126 [(.ptr 4 [] k1_)] []),(.func 127 [(.ptr 4 [] k1_)] []),(.func 128 [(.ptr 4 [] k1_)] []),(.func 129 [(.ptr 4 [] k1_)] [])]))
def q1_:PO:=(.var k4_ (.d k4_ (.agg [(.int .i64),(.int .i64),.str,(.agg [(.int .i64),.str,.str,.bool,(.int .i64),.slice]),.slice])))
def q2_:PO:=(.var k1_ (.agg k1_ [(.d k0_ .x),(.d k2_ .x),(.sref 10)]))
def q3_:PO:=(.var k0_ (.d k0_ (.agg [.slice,(.int .i64),(.int .i64)])))
def q4_:PO:=(.var k1_ (.d k1_ (.agg [.x,.x,.slice])))
def q5_:PO:=(.var k2_ (.d k2_ .x))
def q6_:PO:=(.var k0_ (.d k0_ .x))
def q7_:PO:=(.var (.ptr 142) (.ptr 4 [] k1_))
noncomputable def e (M:Nat):Env:=env cons exts h M
structure S126_3 where
 (n44 n45 n46 n47:Nat) (i48 i49:Int) (d50 d51:D) (b52:Bool) (l53:List D) (i54 i55 i56 i57:Int) (s58:ByteArray) (i59:Int) (s60 s61:ByteArray) (b62:Bool) (i63:Int) (b64:Bool) (l65:List D) (b66:Bool) (l67:List D) (d68 d69:D) (n70 n71:Nat) (i72 i73:Int) (s74:ByteArray) (i75:Int) (s76 s77:ByteArray) (b78:Bool) (i79:Int) (b80:Bool) (l81:List D) (b82:Bool) (l83:List D) (b84:Bool) (l85:List D) (b86:Bool) (l87:List D)
inductive X126_3 where
 | e0 (f g j m:Nat) (o p:Int) (q r:D) (u:Bool) (w:List D) (y z A B:Int) (C:ByteArray) (E:Int) (F G:ByteArray) (I:Bool) (J:Int) (L:Bool) (N:List D) (O:Bool) (P:List D) (Q R:D) (S T:Nat) (U V:Int) (W:ByteArray) (X:Int) (Y Z:ByteArray) (aa:Bool) (ab:Int) (ac:Bool) (ae:List D) (af:Bool) (ag:List D) (ah:Bool) (ai:List D) (aj:Bool) (ak:List D)
def st126_3 (M:Nat):S126_3→(S126_3→Option D)→(X126_3→Option D)→Option D
 | ⟨q,r,j,m,o,f,u,w,y,z,A,B,C,E,F,G,I,J,L,N,O,P,Q,R,S,T,U,g,V,W,X,Y,Z,aa,ab,ac,ae,af,ag,ah,ai,p,aj,ak⟩,rec,K=>(cond (ltI f o) (cond (inb f m) (cond (mx (g+1)) (rec ⟨q,r,j,m,o,(ad .i64 f 1),u,w,y,z,A,B,C,E,F,G,I,J,L,N,O,P,Q,R,S,T,0,(g+1),V,W,X,Y,Z,aa,ab,ac,ae,af,ag,ah,ai,p,(aj||true),(ap ((ak.drop U).take g) [(da [(di 6),(ix p (j+f.toNat)),(dS (bs [])),(di 0),(di 0),(da (rp 32 (D.int .u8 0)))])])⟩) none) none) (K (.e0 q r j m o f u w y z A B C E F G I J L N O P Q R S T U g V W X Y Z aa ab ac ae af ag ah ai p aj ak)))
def ex126_3 (k:Kont):X126_3→Option D
 | .e0 j m o p f g q r u w y z A B C E F G I J L N O P Q R S T U V W X Y Z aa ab ac ae af ag ah ai aj ak=>k (.exit 0) ((us 1 ((.ptr 7 [] (.ptr 142))::(.ptr 8 [] k4_)::(.sref 9 j m)::(us 13 ((.sref 9 o p)::(vi f)::(vi g)::(vb (ltI g f))::(us 29 [])))))) [(.var k0_ (vk k0_ q)),(.var k2_ (vk k2_ r)),(.var k0_ (vk k0_ (da [(dl u w),(di y),(di z)]))),(.var k4_ (vk k4_ (da [(di A),(di B),(dS C),(da [(di E),(dS F),(dS G),(db I),(di J),(dl L N)]),(dl O P)]))),(.var k1_ (.agg k1_ [(vk k0_ Q),(vk k2_ R),(.sref 10 S T)])),o0_,o0_,o1_,(.var k4_ (vk k4_ (da [(di U),(di V),(dS W),(da [(di X),(dS Y),(dS Z),(db aa),(di ab),(dl ac ae)]),(dl af ag)]))),(.row 3 true ah ai),(.row 32 true aj ak)]
def lv126_3:S126_3→List Leaf
 | ⟨f,g,j,m,o,p,q,r,u,w,y,z,A,B,C,E,F,G,I,J,L,N,O,P,Q,R,S,T,U,V,W,X,Y,Z,aa,ab,ac,ae,af,ag,ah,ai,aj,ak⟩=>[.n f,.n g,.n j,.n m,.i o,.i p,.d q,.d r,.b u,.l w,.i y,.i z,.i A,.i B,.s C,.i E,.s F,.s G,.b I,.i J,.b L,.l N,.b O,.l P,.d Q,.d R,.n S,.n T,.i U,.i V,.s W,.i X,.s Y,.s Z,.b aa,.i ab,.b ac,.l ae,.b af,.l ag,.b ah,.l ai,.b aj,.l ak]
def of126_3:List Leaf→Option S126_3
 | .n f::.n g::.n j::.n m::.i o::.i p::.d q::.d r::.b u::.l w::.i y::.i z::.i A::.i B::.s C::.i E::.s F::.s G::.b I::.i J::.b L::.l N::.b O::.l P::.d Q::.d R::.n S::.n T::rest2=>(match rest2 with
  | [.i U,.i V,.s W,.i X,.s Y,.s Z,.b aa,.i ab,.b ac,.l ae,.b af,.l ag,.b ah,.l ai,.b aj,.l ak]=>some ⟨f,g,j,m,o,p,q,r,u,w,y,z,A,B,C,E,F,G,I,J,L,N,O,P,Q,R,S,T,U,V,W,X,Y,Z,aa,ab,ac,ae,af,ag,ah,ai,aj,ak⟩
  | _=>none)
 | _=>none
def ps126_3:List PV:=((up 1 ((.ptr 7 [] (.ptr 142))::(.ptr 8 [] k4_)::(.sref 9)::(up 13 ((.sref 9)::(.d (.int .i64) (.int .i64))::(.d (.int .i64) (.int .i64))::(up 30 []))))))
def qs126_3:List PO:=[q6_,q5_,q3_,q1_,q2_,q0_,q0_,q7_,q1_,(.row 3 true),(.row 32 true)]
noncomputable def t1 (M:Nat):List Ent:=⟨126,10,7,3,sumS [1,2,3,17,18,19] ps126_3 qs126_3 [(1060868,10)] of126_3 (st126_3 M) ex126_3 M⟩::[]
theorem t1_ok (M:Nat):AllOk (e M) (tblOf (t1 M)):=AllOk.addS (n0:=11) (lv:=lv126_3) AllOk.nil (by kernel_rfl) rfl (by intro ls s h;unfold of126_3 at h;(repeat' split at h)<;>simp at h;subst h;rfl) (by intro s;kernel_rfl) (by intro s;kernel_rfl) (by intro s nx k;kernel_rfl)
structure S78_2 where
 (n89 n90:Nat) (i91 i92:Int) (d93 d94:D) (b95:Bool) (l96:List D) (i97 i98 i99 i100:Int) (s101:ByteArray) (i102:Int) (s103 s104:ByteArray) (b105:Bool) (i106:Int) (b107:Bool) (l108:List D) (b109:Bool) (l110:List D) (d111 d112:D) (n113 n114:Nat) (i115 i116:Int) (s117:ByteArray) (i118:Int) (s119 s120:ByteArray) (b121:Bool) (i122:Int) (b123:Bool) (l124:List D) (b125:Bool) (l126:List D) (b127:Bool) (l128:List D) (b129:Bool) (l130:List D) (b131:Bool) (l132:List D)
inductive X78_2 where
 | e0 (f g:Nat) (j m:Int) (o p:D) (q:Bool) (r:List D) (u w y z:Int) (A:ByteArray) (B:Int) (C E:ByteArray) (F:Bool) (G:Int) (I:Bool) (J:List D) (L:Bool) (N:List D) (O P:D) (Q R:Nat) (S T:Int) (U:ByteArray) (V:Int) (W X:ByteArray) (Y:Bool) (Z:Int) (aa:Bool) (ab:List D) (ac:Bool) (ae:List D) (af:Bool) (ag:List D) (ah:Bool) (ai:List D) (aj:Bool) (ak:List D) (al:D)
 | e1 (f g:Nat) (j m:Int) (o p:D) (q:Bool) (r:List D) (u w y z:Int) (A:ByteArray) (B:Int) (C E:ByteArray) (F:Bool) (G:Int) (I:Bool) (J:List D) (L:Bool) (N:List D) (O P:D) (Q R:Nat) (S T:Int) (U:ByteArray) (V:Int) (W X:ByteArray) (Y:Bool) (Z:Int) (aa:Bool) (ab:List D) (ac:Bool) (ae:List D) (af:Bool) (ag:List D) (ah:Bool) (ai:List D) (aj:Bool) (ak:List D)
def st78_2 (M:Nat):S78_2→(S78_2→Option D)→(X78_2→Option D)→Option D
 | ⟨g,j,m,f,q,r,u,w,y,z,A,B,C,E,F,G,I,J,L,N,O,P,o,Q,R,S,T,U,V,W,X,Y,Z,aa,ab,ac,ae,af,ag,ah,ai,aj,ak,p⟩,rec,K=>(cond (ltI f m) (cond (inb f j) (bd (F182.s FUEL (ix p (g+f.toNat)) (o.at 2).i) fun al=>(cond (eqI al.i 0) (K (.e0 g j m f q r u w y z A B C E F G I J L N O P o Q R S T U V W X Y Z aa ab ac ae af ag ah ai aj ak p al)) (rec ⟨g,j,m,(ad .i64 f 1),q,r,u,w,y,z,A,B,C,E,F,G,I,J,L,N,O,P,o,Q,R,S,T,U,V,W,X,Y,Z,aa,ab,ac,ae,af,ag,ah,ai,aj,ak,p⟩))) none) (K (.e1 g j m f q r u w y z A B C E F G I J L N O P o Q R S T U V W X Y Z aa ab ac ae af ag ah ai aj ak p)))
def ex78_2 (k:Kont):X78_2→Option D
 | .e0 g m o f p q r u w y z A B C E F G I J L N O P Q R S T U V W X Y Z aa ab ac ae af ag ah ai aj ak j al=>k .ret ((.sref 11 g m)::(.func (.func 181) [] [(.ptr 7 [] (.ptr 142))])::(us 2 ((vi f)::(vi f)::(us 1 ((vi o)::(vi f)::(vb (ltI f o))::(vi f)::(.func (.func 181) [] [(.ptr 7 [] (.ptr 142))])::(.sref 11 g m)::(vi f)::(.ptr 11 [(g+f.toNat)] k3_)::(vk k3_ (ix j (g+f.toNat)))::(vb (eqI al.i 0))::(vi f)::(us 1 [])))))) [(.var k0_ (vk k0_ p)),(.var k2_ (vk k2_ q)),(.var k0_ (vk k0_ (da [(dl r u),(di w),(di y)]))),(.var k4_ (vk k4_ (da [(di z),(di A),(dS B),(da [(di C),(dS E),(dS F),(db G),(di I),(dl J L)]),(dl N O)]))),(.var k1_ (.agg k1_ [(vk k0_ P),(vk k2_ Q),(.sref 10 R S)])),o0_,o0_,o1_,(.var k4_ (vk k4_ (da [(di T),(di U),(dS V),(da [(di W),(dS X),(dS Y),(db Z),(di aa),(dl ab ac)]),(dl ae af)]))),(.row 3 true ag ah),(.row 32 true ai aj),(.row 68 true ak j),(.var k3_ (vk k3_ (ix j (g+f.toNat))))]
 | .e1 j m f g o p q r u w y z A B C E F G I J L N O P Q R S T U V W X Y Z aa ab ac ae af ag ah ai aj ak=>k (.exit 0) ((.sref 11 j m)::(.func (.func 181) [] [(.ptr 7 [] (.ptr 142))])::(us 5 ((vi f)::(vi g)::(vb (ltI g f))::(us 9 [])))) [(.var k0_ (vk k0_ o)),(.var k2_ (vk k2_ p)),(.var k0_ (vk k0_ (da [(dl q r),(di u),(di w)]))),(.var k4_ (vk k4_ (da [(di y),(di z),(dS A),(da [(di B),(dS C),(dS E),(db F),(di G),(dl I J)]),(dl L N)]))),(.var k1_ (.agg k1_ [(vk k0_ O),(vk k2_ P),(.sref 10 Q R)])),o0_,o0_,o1_,(.var k4_ (vk k4_ (da [(di S),(di T),(dS U),(da [(di V),(dS W),(dS X),(db Y),(di Z),(dl aa ab)]),(dl ac ae)]))),(.row 3 true af ag),(.row 32 true ah ai),(.row 68 true aj ak)]
def lv78_2:S78_2→List Leaf
 | ⟨f,g,j,m,o,p,q,r,u,w,y,z,A,B,C,E,F,G,I,J,L,N,O,P,Q,R,S,T,U,V,W,X,Y,Z,aa,ab,ac,ae,af,ag,ah,ai,aj,ak⟩=>[.n f,.n g,.i j,.i m,.d o,.d p,.b q,.l r,.i u,.i w,.i y,.i z,.s A,.i B,.s C,.s E,.b F,.i G,.b I,.l J,.b L,.l N,.d O,.d P,.n Q,.n R,.i S,.i T,.s U,.i V,.s W,.s X,.b Y,.i Z,.b aa,.l ab,.b ac,.l ae,.b af,.l ag,.b ah,.l ai,.b aj,.l ak]
def of78_2:List Leaf→Option S78_2
 | .n f::.n g::.i j::.i m::.d o::.d p::.b q::.l r::.i u::.i w::.i y::.i z::.s A::.i B::.s C::.s E::.b F::.i G::.b I::.l J::.b L::.l N::.d O::.d P::.n Q::.n R::.i S::.i T::rest2=>(match rest2 with
  | [.s U,.i V,.s W,.s X,.b Y,.i Z,.b aa,.l ab,.b ac,.l ae,.b af,.l ag,.b ah,.l ai,.b aj,.l ak]=>some ⟨f,g,j,m,o,p,q,r,u,w,y,z,A,B,C,E,F,G,I,J,L,N,O,P,Q,R,S,T,U,V,W,X,Y,Z,aa,ab,ac,ae,af,ag,ah,ai,aj,ak⟩
  | _=>none)
 | _=>none
def ps78_2:List PV:=((.sref 11)::(.func 181 [] [(.ptr 7 [] (.ptr 142))])::(up 5 ((.d (.int .i64) (.int .i64))::(.d (.int .i64) (.int .i64))::(up 10 []))))
def qs78_2:List PO:=[q6_,q5_,q3_,q1_,q2_,q0_,q0_,q7_,q1_,(.row 3 true),(.row 32 true),(.row 68 true)]
noncomputable def t2 (M:Nat):List Ent:=⟨78,8,12,2,sumS [0,1,7,8] ps78_2 qs78_2 [] of78_2 (st78_2 M) ex78_2 M⟩::t1 M
theorem t2_ok (M:Nat):AllOk (e M) (tblOf (t2 M)):=AllOk.addS (n0:=12) (lv:=lv78_2) (t1_ok M) (by kernel_rfl) rfl (by intro ls s h;unfold of78_2 at h;(repeat' split at h)<;>simp at h;subst h;rfl) (by intro s;kernel_rfl) (by intro s;kernel_rfl) (by intro s nx k;kernel_rfl)
structure S180_5 where
 (n134 n135:Nat) (i136 i137:Int) (d138 d139:D) (b140:Bool) (l141:List D) (i142 i143 i144 i145:Int) (s146:ByteArray) (i147:Int) (s148 s149:ByteArray) (b150:Bool) (i151:Int) (b152:Bool) (l153:List D) (b154:Bool) (l155:List D) (d156 d157:D) (n158 n159:Nat) (i160 i161:Int) (s162:ByteArray) (i163:Int) (s164 s165:ByteArray) (b166:Bool) (i167:Int) (b168:Bool) (l169:List D) (b170:Bool) (l171:List D) (b172:Bool) (l173:List D) (b174:Bool) (l175:List D) (b176:Bool) (l177:List D) (d178:D)
inductive X180_5 where
 | e0 (f g:Nat) (j m:Int) (o p:D) (q:Bool) (r:List D) (u w y z:Int) (A:ByteArray) (B:Int) (C E:ByteArray) (F:Bool) (G:Int) (I:Bool) (J:List D) (L:Bool) (N:List D) (O P:D) (Q R:Nat) (S T:Int) (U:ByteArray) (V:Int) (W X:ByteArray) (Y:Bool) (Z:Int) (aa:Bool) (ab:List D) (ac:Bool) (ae:List D) (af:Bool) (ag:List D) (ah:Bool) (ai:List D) (aj:Bool) (ak:List D) (al:D)
def st180_5 (M:Nat):S180_5→(S180_5→Option D)→(X180_5→Option D)→Option D
 | ⟨g,j,m,f,q,r,u,w,y,z,A,B,C,E,F,G,I,J,L,N,O,P,p,Q,R,S,T,U,V,W,X,Y,Z,aa,ab,ac,ae,af,ag,ah,ai,aj,ak,o,al⟩,rec,K=>(cond (ltI f (nI j)) (cond (inb f j) (bd (F182.s FUEL (ix o (g+f.toNat)) (p.at 2).i) fun am=>(cond (!(eqI am.i 0)) (cond (inb m j) (rec ⟨g,j,(ad .i64 m 1),(ad .i64 f 1),q,r,u,w,y,z,A,B,C,E,F,G,I,J,L,N,O,P,p,Q,R,S,T,U,V,W,X,Y,Z,aa,ab,ac,ae,af,ag,ah,ai,aj,ak,(o.set (g+m.toNat) (ix o (g+f.toNat))),al⟩) none) (rec ⟨g,j,m,(ad .i64 f 1),q,r,u,w,y,z,A,B,C,E,F,G,I,J,L,N,O,P,p,Q,R,S,T,U,V,W,X,Y,Z,aa,ab,ac,ae,af,ag,ah,ai,aj,ak,o,al⟩))) none) (K (.e0 g j m f q r u w y z A B C E F G I J L N O P p Q R S T U V W X Y Z aa ab ac ae af ag ah ai aj ak o al)))
def ex180_5 (k:Kont):X180_5→Option D
 | .e0 j f m g o p q r u w y z A B C E F G I J L N O P Q R S T U V W X Y Z aa ab ac ae af ag ah ai aj ak al=>k (.exit 0) ((.sref 11 j f)::(.func (.func 181) [] [(.ptr 7 [] (.ptr 142))])::(us 3 ((vi m)::(vi g)::(us 9 ((vi g)::(.sref 11 j f)::(vi (nI f))::(vb (ltI g (nI f)))::(us 22 [])))))) [(.var k0_ (vk k0_ o)),(.var k2_ (vk k2_ p)),(.var k0_ (vk k0_ (da [(dl q r),(di u),(di w)]))),(.var k4_ (vk k4_ (da [(di y),(di z),(dS A),(da [(di B),(dS C),(dS E),(db F),(di G),(dl I J)]),(dl L N)]))),(.var k1_ (.agg k1_ [(vk k0_ O),(vk k2_ P),(.sref 10 Q R)])),o0_,o0_,o1_,(.var k4_ (vk k4_ (da [(di S),(di T),(dS U),(da [(di V),(dS W),(dS X),(db Y),(di Z),(dl aa ab)]),(dl ac ae)]))),(.row 3 true af ag),(.row 32 true ah ai),(.row 68 true aj ak),(.var k3_ (vk k3_ al))]
def lv180_5:S180_5→List Leaf
 | ⟨f,g,j,m,o,p,q,r,u,w,y,z,A,B,C,E,F,G,I,J,L,N,O,P,Q,R,S,T,U,V,W,X,Y,Z,aa,ab,ac,ae,af,ag,ah,ai,aj,ak,al⟩=>[.n f,.n g,.i j,.i m,.d o,.d p,.b q,.l r,.i u,.i w,.i y,.i z,.s A,.i B,.s C,.s E,.b F,.i G,.b I,.l J,.b L,.l N,.d O,.d P,.n Q,.n R,.i S,.i T,.s U,.i V,.s W,.s X,.b Y,.i Z,.b aa,.l ab,.b ac,.l ae,.b af,.l ag,.b ah,.l ai,.b aj,.l ak,.d al]
def of180_5:List Leaf→Option S180_5
 | .n f::.n g::.i j::.i m::.d o::.d p::.b q::.l r::.i u::.i w::.i y::.i z::.s A::.i B::.s C::.s E::.b F::.i G::.b I::.l J::.b L::.l N::.d O::.d P::.n Q::.n R::.i S::.i T::rest2=>(match rest2 with
  | [.s U,.i V,.s W,.s X,.b Y,.i Z,.b aa,.l ab,.b ac,.l ae,.b af,.l ag,.b ah,.l ai,.b aj,.l ak,.d al]=>some ⟨f,g,j,m,o,p,q,r,u,w,y,z,A,B,C,E,F,G,I,J,L,N,O,P,Q,R,S,T,U,V,W,X,Y,Z,aa,ab,ac,ae,af,ag,ah,ai,aj,ak,al⟩
  | _=>none)
 | _=>none
def ps180_5:List PV:=((.sref 11)::(.func 181 [] [(.ptr 7 [] (.ptr 142))])::(up 3 ((.d (.int .i64) (.int .i64))::(.d (.int .i64) (.int .i64))::(up 35 []))))
def qs180_5:List PO:=[q6_,q5_,q3_,q1_,q2_,q0_,q0_,q7_,q1_,(.row 3 true),(.row 32 true),(.row 68 true),(.var k3_ (.d k3_ .x))]
noncomputable def t3 (M:Nat):List Ent:=⟨180,9,12,5,sumS [0,1,5,6] ps180_5 qs180_5 [] of180_5 (st180_5 M) ex180_5 M⟩::t2 M
theorem t3_ok (M:Nat):AllOk (e M) (tblOf (t3 M)):=AllOk.addS (n0:=13) (lv:=lv180_5) (t2_ok M) (by kernel_rfl) rfl (by intro ls s h;unfold of180_5 at h;(repeat' split at h)<;>simp at h;subst h;rfl) (by intro s;kernel_rfl) (by intro s;kernel_rfl) (by intro s nx k;kernel_rfl)
structure S129_3 where
 (n186 n187:Nat) (d188:D) (i189 i190:Int) (d191 d192:D) (b193:Bool) (l194:List D) (i195 i196 i197 i198:Int) (s199:ByteArray) (i200:Int) (s201 s202:ByteArray) (b203:Bool) (i204:Int) (b205:Bool) (l206:List D) (b207:Bool) (l208:List D) (d209 d210:D) (b211:Bool) (l212:List D) (i213 i214:Int) (s215:ByteArray) (i216:Int) (s217 s218:ByteArray) (b219:Bool) (i220:Int) (b221:Bool) (l222:List D) (b223:Bool) (l224:List D) (b225:Bool) (l226:List D)
inductive X129_3 where
 | e0 (f g:Nat) (j:D) (m o:Int) (p q:D) (r:Bool) (u:List D) (w y z A:Int) (B:ByteArray) (C:Int) (E F:ByteArray) (G:Bool) (I:Int) (J:Bool) (L:List D) (N:Bool) (O:List D) (P Q:D) (R:Bool) (S:List D) (T U:Int) (V:ByteArray) (W:Int) (X Y:ByteArray) (Z:Bool) (aa:Int) (ab:Bool) (ac:List D) (ae:Bool) (af:List D) (ag:Bool) (ah:List D)
def st129_3 (M:Nat):S129_3→(S129_3→Option D)→(X129_3→Option D)→Option D
 | ⟨o,g,j,m,f,p,q,r,u,w,y,z,A,B,C,E,F,G,I,J,L,N,O,P,Q,R,S,T,U,V,W,X,Y,Z,aa,ab,ac,ae,af,ag,ah⟩,rec,K=>(cond (ltI f m) (cond (inb f j.elems.length) (cond (mx (g+1)) (rec ⟨0,(g+1),j,m,(ad .i64 f 1),p,q,r,u,w,y,z,A,B,C,E,F,G,I,J,L,N,O,P,Q,R,S,T,U,V,W,X,Y,Z,aa,ab,ac,ae,af,(ag||true),(ap ((ah.drop o).take g) [((ix j.elems f.toNat).at 1)])⟩) none) none) (K (.e0 o g j m f p q r u w y z A B C E F G I J L N O P Q R S T U V W X Y Z aa ab ac ae af ag ah)))
def ex129_3 (k:Kont):X129_3→Option D
 | .e0 j m o f g p q r u w y z A B C E F G I J L N O P Q R S T U V W X Y Z aa ab ac ae af ag ah=>k (.exit 0) ((us 2 ((.ptr 7 [] k4_)::(.sref 8 j m)::(us 6 ((vk (.slice 68) o)::(vi f)::(vi g)::(vb (ltI g f))::(us 12 [])))))) [(.var k0_ (vk k0_ p)),(.var k2_ (vk k2_ q)),(.var k0_ (vk k0_ (da [(dl r u),(di w),(di y)]))),(.var k4_ (vk k4_ (da [(di z),(di A),(dS B),(da [(di C),(dS E),(dS F),(db G),(di I),(dl J L)]),(dl N O)]))),(.var k1_ (vk k1_ (da [P,Q,(dl R S)]))),o0_,o0_,(.var k4_ (vk k4_ (da [(di T),(di U),(dS V),(da [(di W),(dS X),(dS Y),(db Z),(di aa),(dl ab ac)]),(dl ae af)]))),(.row 9 true ag ah)]
def lv129_3:S129_3→List Leaf
 | ⟨f,g,j,m,o,p,q,r,u,w,y,z,A,B,C,E,F,G,I,J,L,N,O,P,Q,R,S,T,U,V,W,X,Y,Z,aa,ab,ac,ae,af,ag,ah⟩=>[.n f,.n g,.d j,.i m,.i o,.d p,.d q,.b r,.l u,.i w,.i y,.i z,.i A,.s B,.i C,.s E,.s F,.b G,.i I,.b J,.l L,.b N,.l O,.d P,.d Q,.b R,.l S,.i T,.i U,.s V,.i W,.s X,.s Y,.b Z,.i aa,.b ab,.l ac,.b ae,.l af,.b ag,.l ah]
def of129_3:List Leaf→Option S129_3
 | .n f::.n g::.d j::.i m::.i o::.d p::.d q::.b r::.l u::.i w::.i y::.i z::.i A::.s B::.i C::.s E::.s F::.b G::.i I::.b J::.l L::.b N::.l O::.d P::.d Q::.b R::.l S::.i T::rest2=>(match rest2 with
  | [.i U,.s V,.i W,.s X,.s Y,.b Z,.i aa,.b ab,.l ac,.b ae,.l af,.b ag,.l ah]=>some ⟨f,g,j,m,o,p,q,r,u,w,y,z,A,B,C,E,F,G,I,J,L,N,O,P,Q,R,S,T,U,V,W,X,Y,Z,aa,ab,ac,ae,af,ag,ah⟩
  | _=>none)
 | _=>none
def ps129_3:List PV:=((up 2 ((.ptr 7 [] k4_)::(.sref 8)::(up 6 ((.d (.slice 68) .x)::(.d (.int .i64) (.int .i64))::(.d (.int .i64) (.int .i64))::(up 13 []))))))
def qs129_3:List PO:=[q6_,q5_,q3_,q1_,q4_,q0_,q0_,q1_,(.row 9 true)]
noncomputable def t4 (M:Nat):List Ent:=⟨129,10,7,3,sumS [2,3,10,11,12] ps129_3 qs129_3 [(3,8)] of129_3 (st129_3 M) ex129_3 M⟩::t3 M
theorem t4_ok (M:Nat):AllOk (e M) (tblOf (t4 M)):=AllOk.addS (n0:=9) (lv:=lv129_3) (t3_ok M) (by kernel_rfl) rfl (by intro ls s h;unfold of129_3 at h;(repeat' split at h)<;>simp at h;subst h;rfl) (by intro s;kernel_rfl) (by intro s;kernel_rfl) (by intro s nx k;kernel_rfl)
structure S255_4 where
 (n310 n311:Nat) (i312 i313 i314 i315:Int) (d316 d317:D) (b318:Bool) (l319:List D) (i320 i321 i322 i323:Int) (s324:ByteArray) (i325:Int) (s326 s327:ByteArray) (b328:Bool) (i329:Int) (b330:Bool) (l331:List D) (b332:Bool) (l333:List D) (d334 d335:D) (b336:Bool) (l337:List D) (i338 i339:Int) (s340:ByteArray) (i341:Int) (s342 s343:ByteArray) (b344:Bool) (i345:Int) (b346:Bool) (l347:List D) (b348:Bool) (l349:List D) (b350:Bool) (l351:List D)
inductive X255_4 where
 | e0 (f g:Nat) (j m o p:Int) (q r:D) (u:Bool) (w:List D) (y z A B:Int) (C:ByteArray) (E:Int) (F G:ByteArray) (I:Bool) (J:Int) (L:Bool) (N:List D) (O:Bool) (P:List D) (Q R:D) (S:Bool) (T:List D) (U V:Int) (W:ByteArray) (X:Int) (Y Z:ByteArray) (aa:Bool) (ab:Int) (ac:Bool) (ae:List D) (af:Bool) (ag:List D) (ah:Bool) (ai:List D) (aj:D)
 | e1 (f g:Nat) (j m o p:Int) (q r:D) (u:Bool) (w:List D) (y z A B:Int) (C:ByteArray) (E:Int) (F G:ByteArray) (I:Bool) (J:Int) (L:Bool) (N:List D) (O:Bool) (P:List D) (Q R:D) (S:Bool) (T:List D) (U V:Int) (W:ByteArray) (X:Int) (Y Z:ByteArray) (aa:Bool) (ab:Int) (ac:Bool) (ae:List D) (af:Bool) (ag:List D) (ah:Bool) (ai:List D)
def st255_4 (M:Nat):S255_4→(S255_4→Option D)→(X255_4→Option D)→Option D
 | ⟨g,j,o,p,q,f,r,u,w,y,z,A,B,C,E,F,G,I,J,L,N,O,P,Q,R,S,T,U,V,W,X,Y,Z,aa,ab,ac,ae,af,ag,ah,ai,m⟩,rec,K=>(cond (gtI f o) (cond (inb f j) (cond (inb (sb .i64 f 1) j) (bd (F186.s FUEL (ix m (g+f.toNat)).s (ix m (g+(sb .i64 f 1).toNat)).s) fun aj=>(cond (ltI aj.i 0) (cond (inb (sb .i64 f 1) j) (cond (inb f j) (cond (inb f j) (cond (inb (sb .i64 f 1) j) (rec ⟨g,j,o,p,q,(sb .i64 f 1),r,u,w,y,z,A,B,C,E,F,G,I,J,L,N,O,P,Q,R,S,T,U,V,W,X,Y,Z,aa,ab,ac,ae,af,ag,ah,ai,((m.set (g+f.toNat) (ix m (g+(sb .i64 f 1).toNat))).set (g+(sb .i64 f 1).toNat) (ix m (g+f.toNat)))⟩) none) none) none) none) (K (.e0 g j o p q f r u w y z A B C E F G I J L N O P Q R S T U V W X Y Z aa ab ac ae af ag ah ai m aj)))) none) none) (K (.e1 g j o p q f r u w y z A B C E F G I J L N O P Q R S T U V W X Y Z aa ab ac ae af ag ah ai m)))
def ex255_4 (k:Kont):X255_4→Option D
 | .e0 g j m q r f u w y z A B C E F G I J L N O P Q R S T U V W X Y Z aa ab ac ae af ag ah ai aj o p=>k (.exit 2) ((.sref 8 g j)::(vi m)::(vi q)::(vk .func (D.fn 186))::(us 4 ((vi r)::(vi f)::(us 8 ((vi f)::(vi m)::(vb (gtI f m))::(vb true)::(vk .func (D.fn 186))::(.sref 8 g j)::(vi f)::(.ptr 8 [(g+f.toNat)] .str)::(vk .str (ix o (g+f.toNat)))::(.sref 8 g j)::(vi f)::(vi (sb .i64 f 1))::(.ptr 8 [(g+(sb .i64 f 1).toNat)] .str)::(vk .str (ix o (g+(sb .i64 f 1).toNat)))::(vk (.int .i64) p)::(vb (ltI p.i 0))::(vb (ltI p.i 0))::(us 18 [])))))) [(.var k0_ (vk k0_ u)),(.var k2_ (vk k2_ w)),(.var k0_ (vk k0_ (da [(dl y z),(di A),(di B)]))),(.var k4_ (vk k4_ (da [(di C),(di E),(dS F),(da [(di G),(dS I),(dS J),(db L),(di N),(dl O P)]),(dl Q R)]))),(.var k1_ (vk k1_ (da [S,T,(dl U V)]))),o0_,o0_,(.var k4_ (vk k4_ (da [(di W),(di X),(dS Y),(da [(di Z),(dS aa),(dS ab),(db ac),(di ae),(dl af ag)]),(dl ah ai)]))),(.row 9 true aj o)]
 | .e1 j m f o p g q r u w y z A B C E F G I J L N O P Q R S T U V W X Y Z aa ab ac ae af ag ah ai=>k (.exit 2) ((.sref 8 j m)::(vi f)::(vi o)::(vk .func (D.fn 186))::(us 4 ((vi p)::(vi g)::(us 8 ((vi g)::(vi f)::(vb (gtI g f))::(vb false)::v0::v0::v0::v0::v0::v0::v0::v0::v0::v0::v0::v0::(vb false)::(us 18 [])))))) [(.var k0_ (vk k0_ q)),(.var k2_ (vk k2_ r)),(.var k0_ (vk k0_ (da [(dl u w),(di y),(di z)]))),(.var k4_ (vk k4_ (da [(di A),(di B),(dS C),(da [(di E),(dS F),(dS G),(db I),(di J),(dl L N)]),(dl O P)]))),(.var k1_ (vk k1_ (da [Q,R,(dl S T)]))),o0_,o0_,(.var k4_ (vk k4_ (da [(di U),(di V),(dS W),(da [(di X),(dS Y),(dS Z),(db aa),(di ab),(dl ac ae)]),(dl af ag)]))),(.row 9 true ah ai)]
def lv255_4:S255_4→List Leaf
 | ⟨f,g,j,m,o,p,q,r,u,w,y,z,A,B,C,E,F,G,I,J,L,N,O,P,Q,R,S,T,U,V,W,X,Y,Z,aa,ab,ac,ae,af,ag,ah,ai⟩=>[.n f,.n g,.i j,.i m,.i o,.i p,.d q,.d r,.b u,.l w,.i y,.i z,.i A,.i B,.s C,.i E,.s F,.s G,.b I,.i J,.b L,.l N,.b O,.l P,.d Q,.d R,.b S,.l T,.i U,.i V,.s W,.i X,.s Y,.s Z,.b aa,.i ab,.b ac,.l ae,.b af,.l ag,.b ah,.l ai]
def of255_4:List Leaf→Option S255_4
 | .n f::.n g::.i j::.i m::.i o::.i p::.d q::.d r::.b u::.l w::.i y::.i z::.i A::.i B::.s C::.i E::.s F::.s G::.b I::.i J::.b L::.l N::.b O::.l P::.d Q::.d R::.b S::.l T::rest2=>(match rest2 with
  | [.i U,.i V,.s W,.i X,.s Y,.s Z,.b aa,.i ab,.b ac,.l ae,.b af,.l ag,.b ah,.l ai]=>some ⟨f,g,j,m,o,p,q,r,u,w,y,z,A,B,C,E,F,G,I,J,L,N,O,P,Q,R,S,T,U,V,W,X,Y,Z,aa,ab,ac,ae,af,ag,ah,ai⟩
  | _=>none)
 | _=>none
def ps255_4:List PV:=((.sref 8)::(.d (.int .i64) (.int .i64))::(.d (.int .i64) (.int .i64))::(.d .func (.fn 186))::(up 4 ((.d (.int .i64) (.int .i64))::(.d (.int .i64) (.int .i64))::(up 43 []))))
def qs255_4:List PO:=[q6_,q5_,q3_,q1_,q4_,q0_,q0_,q1_,(.row 9 true)]
noncomputable def t5 (M:Nat):List Ent:=⟨255,7,9,4,sumS [0,1,2,3,8,9] ps255_4 qs255_4 [] of255_4 (st255_4 M) ex255_4 M⟩::t4 M
theorem t5_ok (M:Nat):AllOk (e M) (tblOf (t5 M)):=AllOk.addS (n0:=9) (lv:=lv255_4) (t4_ok M) (by kernel_rfl) rfl (by intro ls s h;unfold of255_4 at h;(repeat' split at h)<;>simp at h;subst h;rfl) (by intro s;kernel_rfl) (by intro s;kernel_rfl) (by intro s nx k;kernel_rfl)
structure S255_1 where
 (n269 n270:Nat) (i271 i272 i273:Int) (d274 d275:D) (b276:Bool) (l277:List D) (i278 i279 i280 i281:Int) (s282:ByteArray) (i283:Int) (s284 s285:ByteArray) (b286:Bool) (i287:Int) (b288:Bool) (l289:List D) (b290:Bool) (l291:List D) (d292 d293:D) (b294:Bool) (l295:List D) (i296 i297:Int) (s298:ByteArray) (i299:Int) (s300 s301:ByteArray) (b302:Bool) (i303:Int) (b304:Bool) (l305:List D) (b306:Bool) (l307:List D) (b308:Bool) (l309:List D)
inductive X255_1 where
 | e0 (f g:Nat) (j m o:Int) (p q:D) (r:Bool) (u:List D) (w y z A:Int) (B:ByteArray) (C:Int) (E F:ByteArray) (G:Bool) (I:Int) (J:Bool) (L:List D) (N:Bool) (O:List D) (P Q:D) (R:Bool) (S:List D) (T U:Int) (V:ByteArray) (W:Int) (X Y:ByteArray) (Z:Bool) (aa:Int) (ab:Bool) (ac:List D) (ae:Bool) (af:List D) (ag:Bool) (ah:List D)
def st255_1 (M:Nat):S255_1→(S255_1→Option D)→(X255_1→Option D)→Option D
 | ⟨ak,al,am,g,f,an,ao,aq,ar,au,av,aw,ax,ay,az,aA,aB,aC,aD,aE,aF,aG,aH,aI,aJ,aK,aL,aM,aN,aO,aP,aQ,aR,aS,aT,aU,aV,aW,aX,aY,aZ⟩,rec,K=>(cond (ltI f g) (goS (st255_4 M) M ⟨ak,al,am,g,f,f,an,ao,aq,ar,au,av,aw,ax,ay,az,aA,aB,aC,aD,aE,aF,aG,aH,aI,aJ,aK,aL,aM,aN,aO,aP,aQ,aR,aS,aT,aU,aV,aW,aX,aY,aZ⟩ fun x=>match x with | .e0 j m o p q a0 r u w y z A B C E F G I J L N O P Q R S T U V W X Y Z aa ab ac ae af ag ah ai aj a1=>(rec ⟨j,m,o,p,(ad .i64 q 1),r,u,w,y,z,A,B,C,E,F,G,I,J,L,N,O,P,Q,R,S,T,U,V,W,X,Y,Z,aa,ab,ac,ae,af,ag,ah,ai,aj⟩) | .e1 j m o p q a0 r u w y z A B C E F G I J L N O P Q R S T U V W X Y Z aa ab ac ae af ag ah ai aj=>(rec ⟨j,m,o,p,(ad .i64 q 1),r,u,w,y,z,A,B,C,E,F,G,I,J,L,N,O,P,Q,R,S,T,U,V,W,X,Y,Z,aa,ab,ac,ae,af,ag,ah,ai,aj⟩)) (K (.e0 ak al am g f an ao aq ar au av aw ax ay az aA aB aC aD aE aF aG aH aI aJ aK aL aM aN aO aP aQ aR aS aT aU aV aW aX aY aZ)))
def ex255_1 (k:Kont):X255_1→Option D
 | .e0 j m o f g p q r u w y z A B C E F G I J L N O P Q R S T U V W X Y Z aa ab ac ae af ag ah=>k (.exit 0) ((.sref 8 j m)::(vi o)::(vi f)::(vk .func (D.fn 186))::(us 4 ((vi g)::(us 3 ((vi g)::(vi f)::(vb (ltI g f))::(us 38 [])))))) [(.var k0_ (vk k0_ p)),(.var k2_ (vk k2_ q)),(.var k0_ (vk k0_ (da [(dl r u),(di w),(di y)]))),(.var k4_ (vk k4_ (da [(di z),(di A),(dS B),(da [(di C),(dS E),(dS F),(db G),(di I),(dl J L)]),(dl N O)]))),(.var k1_ (vk k1_ (da [P,Q,(dl R S)]))),o0_,o0_,(.var k4_ (vk k4_ (da [(di T),(di U),(dS V),(da [(di W),(dS X),(dS Y),(db Z),(di aa),(dl ab ac)]),(dl ae af)]))),(.row 9 true ag ah)]
def lv255_1:S255_1→List Leaf
 | ⟨f,g,j,m,o,p,q,r,u,w,y,z,A,B,C,E,F,G,I,J,L,N,O,P,Q,R,S,T,U,V,W,X,Y,Z,aa,ab,ac,ae,af,ag,ah⟩=>[.n f,.n g,.i j,.i m,.i o,.d p,.d q,.b r,.l u,.i w,.i y,.i z,.i A,.s B,.i C,.s E,.s F,.b G,.i I,.b J,.l L,.b N,.l O,.d P,.d Q,.b R,.l S,.i T,.i U,.s V,.i W,.s X,.s Y,.b Z,.i aa,.b ab,.l ac,.b ae,.l af,.b ag,.l ah]
def of255_1:List Leaf→Option S255_1
 | .n f::.n g::.i j::.i m::.i o::.d p::.d q::.b r::.l u::.i w::.i y::.i z::.i A::.s B::.i C::.s E::.s F::.b G::.i I::.b J::.l L::.b N::.l O::.d P::.d Q::.b R::.l S::.i T::rest2=>(match rest2 with
  | [.i U,.s V,.i W,.s X,.s Y,.b Z,.i aa,.b ab,.l ac,.b ae,.l af,.b ag,.l ah]=>some ⟨f,g,j,m,o,p,q,r,u,w,y,z,A,B,C,E,F,G,I,J,L,N,O,P,Q,R,S,T,U,V,W,X,Y,Z,aa,ab,ac,ae,af,ag,ah⟩
  | _=>none)
 | _=>none
def ps255_1:List PV:=((.sref 8)::(.d (.int .i64) (.int .i64))::(.d (.int .i64) (.int .i64))::(.d .func (.fn 186))::(up 4 ((.d (.int .i64) (.int .i64))::(up 44 []))))
def qs255_1:List PO:=[q6_,q5_,q3_,q1_,q4_,q0_,q0_,q1_,(.row 9 true)]
noncomputable def t6 (M:Nat):List Ent:=⟨255,7,9,1,sumS [0,1,2,3,8] ps255_1 qs255_1 [] of255_1 (st255_1 M) ex255_1 M⟩::t5 M
theorem t6_ok (M:Nat):AllOk (e M) (tblOf (t6 M)):=AllOk.addS (n0:=9) (lv:=lv255_1) (t5_ok M) (by kernel_rfl) rfl (by intro ls s h;unfold of255_1 at h;(repeat' split at h)<;>simp at h;subst h;rfl) (by intro s;kernel_rfl) (by intro s;kernel_rfl) (by intro s nx k;kernel_rfl)
structure S231_2 where
 (n227 n228:Nat) (i229 i230 i231 i232:Int) (d233 d234:D) (b235:Bool) (l236:List D) (i237 i238 i239 i240:Int) (s241:ByteArray) (i242:Int) (s243 s244:ByteArray) (b245:Bool) (i246:Int) (b247:Bool) (l248:List D) (b249:Bool) (l250:List D) (d251 d252:D) (b253:Bool) (l254:List D) (i255 i256:Int) (s257:ByteArray) (i258:Int) (s259 s260:ByteArray) (b261:Bool) (i262:Int) (b263:Bool) (l264:List D) (b265:Bool) (l266:List D) (b267:Bool) (l268:List D)
inductive X231_2 where
 | e0 (f g:Nat) (j m o p:Int) (q r:D) (u:Bool) (w:List D) (y z A B:Int) (C:ByteArray) (E:Int) (F G:ByteArray) (I:Bool) (J:Int) (L:Bool) (N:List D) (O:Bool) (P:List D) (Q R:D) (S:Bool) (T:List D) (U V:Int) (W:ByteArray) (X:Int) (Y Z:ByteArray) (aa:Bool) (ab:Int) (ac:Bool) (ae:List D) (af:Bool) (ag:List D) (ah:Bool) (ai:List D)
def st231_2 (M:Nat):S231_2→(S231_2→Option D)→(X231_2→Option D)→Option D
 | ⟨g,j,m,o,p,f,q,r,u,w,y,z,A,B,C,E,F,G,I,J,L,N,O,P,Q,R,S,T,U,V,W,X,Y,Z,aa,ab,ac,ae,af,ag,ah,ai⟩,rec,K=>(cond (leI f m) (goS (st255_1 M) M ⟨g,j,p,f,(ad .i64 p 1),q,r,u,w,y,z,A,B,C,E,F,G,I,J,L,N,O,P,Q,R,S,T,U,V,W,X,Y,Z,aa,ab,ac,ae,af,ag,ah,ai⟩ fun x=>match x with | .e0 aW aX aY aZ a0 aj ak al am an ao aq ar au av aw ax ay az aA aB aC aD aE aF aG aH aI aJ aK aL aM aN aO aP aQ aR aS aT aU aV=>(rec ⟨g,j,m,o,f,(ad .i64 f o),aj,ak,al,am,an,ao,aq,ar,au,av,aw,ax,ay,az,aA,aB,aC,aD,aE,aF,aG,aH,aI,aJ,aK,aL,aM,aN,aO,aP,aQ,aR,aS,aT,aU,aV⟩)) (K (.e0 g j m o p f q r u w y z A B C E F G I J L N O P Q R S T U V W X Y Z aa ab ac ae af ag ah ai)))
def ex231_2 (k:Kont):X231_2→Option D
 | .e0 j m f o p g q r u w y z A B C E F G I J L N O P Q R S T U V W X Y Z aa ab ac ae af ag ah ai=>k (.exit 0) ((.sref 8 j m)::(vi f)::(vk .func (D.fn 186))::(us 3 ((vi o)::(vi p)::(vi g)::(us 2 ((vi g)::(vi f)::(vb (leI g f))::(us 49 [])))))) [(.var k0_ (vk k0_ q)),(.var k2_ (vk k2_ r)),(.var k0_ (vk k0_ (da [(dl u w),(di y),(di z)]))),(.var k4_ (vk k4_ (da [(di A),(di B),(dS C),(da [(di E),(dS F),(dS G),(db I),(di J),(dl L N)]),(dl O P)]))),(.var k1_ (vk k1_ (da [Q,R,(dl S T)]))),o0_,o0_,(.var k4_ (vk k4_ (da [(di U),(di V),(dS W),(da [(di X),(dS Y),(dS Z),(db aa),(di ab),(dl ac ae)]),(dl af ag)]))),(.row 9 true ah ai)]
def lv231_2:S231_2→List Leaf
 | ⟨f,g,j,m,o,p,q,r,u,w,y,z,A,B,C,E,F,G,I,J,L,N,O,P,Q,R,S,T,U,V,W,X,Y,Z,aa,ab,ac,ae,af,ag,ah,ai⟩=>[.n f,.n g,.i j,.i m,.i o,.i p,.d q,.d r,.b u,.l w,.i y,.i z,.i A,.i B,.s C,.i E,.s F,.s G,.b I,.i J,.b L,.l N,.b O,.l P,.d Q,.d R,.b S,.l T,.i U,.i V,.s W,.i X,.s Y,.s Z,.b aa,.i ab,.b ac,.l ae,.b af,.l ag,.b ah,.l ai]
def of231_2:List Leaf→Option S231_2
 | .n f::.n g::.i j::.i m::.i o::.i p::.d q::.d r::.b u::.l w::.i y::.i z::.i A::.i B::.s C::.i E::.s F::.s G::.b I::.i J::.b L::.l N::.b O::.l P::.d Q::.d R::.b S::.l T::rest2=>(match rest2 with
  | [.i U,.i V,.s W,.i X,.s Y,.s Z,.b aa,.i ab,.b ac,.l ae,.b af,.l ag,.b ah,.l ai]=>some ⟨f,g,j,m,o,p,q,r,u,w,y,z,A,B,C,E,F,G,I,J,L,N,O,P,Q,R,S,T,U,V,W,X,Y,Z,aa,ab,ac,ae,af,ag,ah,ai⟩
  | _=>none)
 | _=>none
def ps231_2:List PV:=((.sref 8)::(.d (.int .i64) (.int .i64))::(.d .func (.fn 186))::(up 3 ((.d (.int .i64) (.int .i64))::(.d (.int .i64) (.int .i64))::(.d (.int .i64) (.int .i64))::(up 54 []))))
def qs231_2:List PO:=[q6_,q5_,q3_,q1_,q4_,q0_,q0_,q1_,(.row 9 true)]
noncomputable def t7 (M:Nat):List Ent:=⟨231,8,9,2,sumS [0,1,2,6,7,8] ps231_2 qs231_2 [] of231_2 (st231_2 M) ex231_2 M⟩::t6 M
theorem t7_ok (M:Nat):AllOk (e M) (tblOf (t7 M)):=AllOk.addS (n0:=9) (lv:=lv231_2) (t6_ok M) (by kernel_rfl) rfl (by intro ls s h;unfold of231_2 at h;(repeat' split at h)<;>simp at h;subst h;rfl) (by intro s;kernel_rfl) (by intro s;kernel_rfl) (by intro s nx k;kernel_rfl)
structure S231_9 where
 (n393 n394:Nat) (i395 i396 i397 i398:Int) (d399 d400:D) (b401:Bool) (l402:List D) (i403 i404 i405 i406:Int) (s407:ByteArray) (i408:Int) (s409 s410:ByteArray) (b411:Bool) (i412:Int) (b413:Bool) (l414:List D) (b415:Bool) (l416:List D) (d417 d418:D) (b419:Bool) (l420:List D) (i421 i422:Int) (s423:ByteArray) (i424:Int) (s425 s426:ByteArray) (b427:Bool) (i428:Int) (b429:Bool) (l430:List D) (b431:Bool) (l432:List D) (b433:Bool) (l434:List D)
inductive X231_9 where
 | e0 (f g:Nat) (j m o p:Int) (q r:D) (u:Bool) (w:List D) (y z A B:Int) (C:ByteArray) (E:Int) (F G:ByteArray) (I:Bool) (J:Int) (L:Bool) (N:List D) (O:Bool) (P:List D) (Q R:D) (S:Bool) (T:List D) (U V:Int) (W:ByteArray) (X:Int) (Y Z:ByteArray) (aa:Bool) (ab:Int) (ac:Bool) (ae:List D) (af:Bool) (ag:List D) (ah:Bool) (ai:List D)
def st231_9 (M:Nat):S231_9→(S231_9→Option D)→(X231_9→Option D)→Option D
 | ⟨j,m,f,o,p,g,q,r,u,w,y,z,A,B,C,E,F,G,I,J,L,N,O,P,Q,R,S,T,U,V,W,X,Y,Z,aa,ab,ac,ae,af,ag,ah,ai⟩,rec,K=>(cond (leI g f) none (K (.e0 j m f o p g q r u w y z A B C E F G I J L N O P Q R S T U V W X Y Z aa ab ac ae af ag ah ai)))
def ex231_9 (k:Kont):X231_9→Option D
 | .e0 j m f o p g q r u w y z A B C E F G I J L N O P Q R S T U V W X Y Z aa ab ac ae af ag ah ai=>k (.exit 4) ((.sref 8 j m)::(vi f)::(vk .func (D.fn 186))::(us 3 ((vi o)::(vi p)::(vi g)::(us 24 ((vi g)::(vi f)::(vb (leI g f))::(us 27 [])))))) [(.var k0_ (vk k0_ q)),(.var k2_ (vk k2_ r)),(.var k0_ (vk k0_ (da [(dl u w),(di y),(di z)]))),(.var k4_ (vk k4_ (da [(di A),(di B),(dS C),(da [(di E),(dS F),(dS G),(db I),(di J),(dl L N)]),(dl O P)]))),(.var k1_ (vk k1_ (da [Q,R,(dl S T)]))),o0_,o0_,(.var k4_ (vk k4_ (da [(di U),(di V),(dS W),(da [(di X),(dS Y),(dS Z),(db aa),(di ab),(dl ac ae)]),(dl af ag)]))),(.row 9 true ah ai)]
def lv231_9:S231_9→List Leaf
 | ⟨f,g,j,m,o,p,q,r,u,w,y,z,A,B,C,E,F,G,I,J,L,N,O,P,Q,R,S,T,U,V,W,X,Y,Z,aa,ab,ac,ae,af,ag,ah,ai⟩=>[.n f,.n g,.i j,.i m,.i o,.i p,.d q,.d r,.b u,.l w,.i y,.i z,.i A,.i B,.s C,.i E,.s F,.s G,.b I,.i J,.b L,.l N,.b O,.l P,.d Q,.d R,.b S,.l T,.i U,.i V,.s W,.i X,.s Y,.s Z,.b aa,.i ab,.b ac,.l ae,.b af,.l ag,.b ah,.l ai]
def of231_9:List Leaf→Option S231_9
 | .n f::.n g::.i j::.i m::.i o::.i p::.d q::.d r::.b u::.l w::.i y::.i z::.i A::.i B::.s C::.i E::.s F::.s G::.b I::.i J::.b L::.l N::.b O::.l P::.d Q::.d R::.b S::.l T::rest2=>(match rest2 with
  | [.i U,.i V,.s W,.i X,.s Y,.s Z,.b aa,.i ab,.b ac,.l ae,.b af,.l ag,.b ah,.l ai]=>some ⟨f,g,j,m,o,p,q,r,u,w,y,z,A,B,C,E,F,G,I,J,L,N,O,P,Q,R,S,T,U,V,W,X,Y,Z,aa,ab,ac,ae,af,ag,ah,ai⟩
  | _=>none)
 | _=>none
def ps231_9:List PV:=((.sref 8)::(.d (.int .i64) (.int .i64))::(.d .func (.fn 186))::(up 3 ((.d (.int .i64) (.int .i64))::(.d (.int .i64) (.int .i64))::(.d (.int .i64) (.int .i64))::(up 54 []))))
def qs231_9:List PO:=[q6_,q5_,q3_,q1_,q4_,q0_,q0_,q1_,(.row 9 true)]
noncomputable def t8 (M:Nat):List Ent:=⟨231,8,9,9,sumS [0,1,2,6,7,8] ps231_9 qs231_9 [] of231_9 (st231_9 M) ex231_9 M⟩::t7 M
theorem t8_ok (M:Nat):AllOk (e M) (tblOf (t8 M)):=AllOk.addS (n0:=9) (lv:=lv231_9) (t7_ok M) (by kernel_rfl) rfl (by intro ls s h;unfold of231_9 at h;(repeat' split at h)<;>simp at h;subst h;rfl) (by intro s;kernel_rfl) (by intro s;kernel_rfl) (by intro s nx k;kernel_rfl)
structure S231_7 where
 (n353 n354:Nat) (i355 i356:Int) (d357 d358:D) (b359:Bool) (l360:List D) (i361 i362 i363 i364:Int) (s365:ByteArray) (i366:Int) (s367 s368:ByteArray) (b369:Bool) (i370:Int) (b371:Bool) (l372:List D) (b373:Bool) (l374:List D) (d375 d376:D) (b377:Bool) (l378:List D) (i379 i380:Int) (s381:ByteArray) (i382:Int) (s383 s384:ByteArray) (b385:Bool) (i386:Int) (b387:Bool) (l388:List D) (b389:Bool) (l390:List D) (b391:Bool) (l392:List D)
inductive X231_7 where
 | e0 (f g:Nat) (j m:Int) (o p:D) (q:Bool) (r:List D) (u w y z:Int) (A:ByteArray) (B:Int) (C E:ByteArray) (F:Bool) (G:Int) (I:Bool) (J:List D) (L:Bool) (N:List D) (O P:D) (Q:Bool) (R:List D) (S T:Int) (U:ByteArray) (V:Int) (W X:ByteArray) (Y:Bool) (Z:Int) (aa:Bool) (ab:List D) (ac:Bool) (ae:List D) (af:Bool) (ag:List D)
def st231_7 (M:Nat):S231_7→(S231_7→Option D)→(X231_7→Option D)→Option D
 | ⟨j,m,g,f,o,p,q,r,u,w,y,z,A,B,C,E,F,G,I,J,L,N,O,P,Q,R,S,T,U,V,W,X,Y,Z,aa,ab,ac,ae,af,ag⟩,rec,K=>(cond (ltI f g) (goS (st231_9 M) M ⟨j,m,g,f,0,(ml .i64 2 f),o,p,q,r,u,w,y,z,A,B,C,E,F,G,I,J,L,N,O,P,Q,R,S,T,U,V,W,X,Y,Z,aa,ab,ac,ae,af,ag⟩ fun x=>match x with | .e0 aj ak ah ai al aZ am an ao aq ar au av aw ax ay az aA aB aC aD aE aF aG aH aI aJ aK aL aM aN aO aP aQ aR aS aT aU aV aW aX aY=>(cond (ltI (ad .i64 al ai) ah) none (rec ⟨aj,ak,ah,(ml .i64 ai 2),am,an,ao,aq,ar,au,av,aw,ax,ay,az,aA,aB,aC,aD,aE,aF,aG,aH,aI,aJ,aK,aL,aM,aN,aO,aP,aQ,aR,aS,aT,aU,aV,aW,aX,aY⟩))) (K (.e0 j m g f o p q r u w y z A B C E F G I J L N O P Q R S T U V W X Y Z aa ab ac ae af ag)))
def ex231_7 (k:Kont):X231_7→Option D
 | .e0 j m f g o p q r u w y z A B C E F G I J L N O P Q R S T U V W X Y Z aa ab ac ae af ag=>k (.exit 2) ((.sref 8 j m)::(vi f)::(vk .func (D.fn 186))::(us 3 ((vi g)::(us 21 ((vi g)::(vi f)::(vb (ltI g f))::(us 32 [])))))) [(.var k0_ (vk k0_ o)),(.var k2_ (vk k2_ p)),(.var k0_ (vk k0_ (da [(dl q r),(di u),(di w)]))),(.var k4_ (vk k4_ (da [(di y),(di z),(dS A),(da [(di B),(dS C),(dS E),(db F),(di G),(dl I J)]),(dl L N)]))),(.var k1_ (vk k1_ (da [O,P,(dl Q R)]))),o0_,o0_,(.var k4_ (vk k4_ (da [(di S),(di T),(dS U),(da [(di V),(dS W),(dS X),(db Y),(di Z),(dl aa ab)]),(dl ac ae)]))),(.row 9 true af ag)]
def lv231_7:S231_7→List Leaf
 | ⟨f,g,j,m,o,p,q,r,u,w,y,z,A,B,C,E,F,G,I,J,L,N,O,P,Q,R,S,T,U,V,W,X,Y,Z,aa,ab,ac,ae,af,ag⟩=>[.n f,.n g,.i j,.i m,.d o,.d p,.b q,.l r,.i u,.i w,.i y,.i z,.s A,.i B,.s C,.s E,.b F,.i G,.b I,.l J,.b L,.l N,.d O,.d P,.b Q,.l R,.i S,.i T,.s U,.i V,.s W,.s X,.b Y,.i Z,.b aa,.l ab,.b ac,.l ae,.b af,.l ag]
def of231_7:List Leaf→Option S231_7
 | .n f::.n g::.i j::.i m::.d o::.d p::.b q::.l r::.i u::.i w::.i y::.i z::.s A::.i B::.s C::.s E::.b F::.i G::.b I::.l J::.b L::.l N::.d O::.d P::.b Q::.l R::.i S::.i T::rest2=>(match rest2 with
  | [.s U,.i V,.s W,.s X,.b Y,.i Z,.b aa,.l ab,.b ac,.l ae,.b af,.l ag]=>some ⟨f,g,j,m,o,p,q,r,u,w,y,z,A,B,C,E,F,G,I,J,L,N,O,P,Q,R,S,T,U,V,W,X,Y,Z,aa,ab,ac,ae,af,ag⟩
  | _=>none)
 | _=>none
def ps231_7:List PV:=((.sref 8)::(.d (.int .i64) (.int .i64))::(.d .func (.fn 186))::(up 3 ((.d (.int .i64) (.int .i64))::(up 56 []))))
def qs231_7:List PO:=[q6_,q5_,q3_,q1_,q4_,q0_,q0_,q1_,(.row 9 true)]
noncomputable def t (M:Nat):List Ent:=⟨231,8,9,7,sumS [0,1,2,6] ps231_7 qs231_7 [] of231_7 (st231_7 M) ex231_7 M⟩::t8 M
theorem t_ok (M:Nat):AllOk (e M) (tblOf (t M)):=AllOk.addS (n0:=9) (lv:=lv231_7) (t8_ok M) (by kernel_rfl) rfl (by intro ls s h;unfold of231_7 at h;(repeat' split at h)<;>simp at h;subst h;rfl) (by intro s;kernel_rfl) (by intro s;kernel_rfl) (by intro s nx k;kernel_rfl)
def s (M:Nat) (p0:D) (p1:D):Option D:=
 (cond (ltI (p1.at 0).i 0) (bd (F77.s FUEL 1) fun r1=>(some (D.tup [p0,r1,(dl false [])]))) (cond (geI (p1.at 0).i 12) (bd (F77.s FUEL 1) fun r2=>(some (D.tup [p0,r2,(dl false [])]))) (cond (inb (p1.at 0).i 12) (cond ((p1.at 0).i.toNat==0) (bd (F164.s FUEL (p1.at 1).s) fun r3=>(cond (!r3.b) (bd (F77.s FUEL 2) fun r4=>(some (D.tup [p0,r4,(dl false [])]))) (bd (F31.s FUEL p0 (p1.at 1).s) fun r5=>(cond (geI r5.i 0) (bd (F77.s FUEL 4) fun r6=>(some (D.tup [p0,r6,(dl false [])]))) (cond (geI (nI (p0.at 0).elems.length) 12) (bd (F77.s FUEL 10) fun r7=>(some (D.tup [p0,r7,(dl false [])]))) (cond (geI (p0.at 1).i 1099511627776) (bd (F77.s FUEL 10) fun r8=>(some (D.tup [p0,r8,(dl false [])]))) (bd (F174.s FUEL (ad .i64 (p0.at 1).i 1) (p1.at 1).s) fun J=>(cond (neI (J.at 1).i 0) (bd (F77.s FUEL (J.at 1).i) fun a7=>(some (D.tup [p0,a7,(dl false [])]))) (bd (F175.s FUEL (p0.at 0)) fun Q=>(cond (mx (Q.elems.length+1)) (some (D.tup [(da [(dl (Q.nn||true) (((ap ((Q.elems.drop 0).take Q.elems.length) [(J.at 0)]).drop 0).take (Q.elems.length+1))),((J.at 0).at 0),(p0.at 2)]),(da [(di 0),((J.at 0).at 0),(dS (bs [])),(da [(di 0),(dS (bs [])),(dS (bs [])),(db false),(di 0),(dl false [])]),(dl false [])]),(dl true [(da [(di 0),((J.at 0).at 0),((J.at 0).at 1),(di 0),(di 0),(da (rp 32 (D.int .u8 0)))])])])) none)))))))))) (cond (((p1.at 0).i.toNat-1)==0) (bd (F31.s FUEL p0 (p1.at 1).s) fun f=>(cond (ltI f.i 0) (bd (F77.s FUEL 3) fun a8=>(some (D.tup [p0,a8,(dl false [])]))) (cond (inb f.i (p0.at 0).elems.length) (bd (F176.s FUEL (ix (p0.at 0).elems (f.i).toNat) p1 (p0.at 2).i) fun B=>(cond (neI (B.at 2).i 0) (bd (F77.s FUEL (B.at 2).i) fun a9=>(some (D.tup [p0,a9,(dl false [])]))) (bd (F175.s FUEL (p0.at 0)) fun q=>(cond (eqI (p1.at 0).i 6) (cond ((leI 0 f.i)&&(leI f.i (ad .i64 f.i 1))&&(leI (ad .i64 f.i 1) (nI q.elems.length))&&(leI (nI q.elems.length) (nI q.elems.length))&&(eqN (0+q.elems.length) q.elems.length)) (cond (eqI f.i (ad .i64 f.i 1)) (some (D.tup [(da [(dl q.nn ((q.elems.drop 0).take q.elems.length)),(p0.at 1),(p0.at 2)]),(da [(di 0),((B.at 1).at 1),(dS (bs [])),(da [(di 0),(dS (bs [])),(dS (bs [])),(db false),(di 0),(dl false [])]),(dl false [])]),(dl true [(B.at 1)])])) (cond (true&&(leI 0 f.i)&&(leN (0+(f.i).toNat) q.elems.length)) (cond ((leI 0 (ad .i64 f.i 1))&&(leI (ad .i64 f.i 1) (nI q.elems.length))&&(leN (0+q.elems.length) q.elems.length)) (cond (leN ((0+((f.i).toNat-0))+((q.elems.drop (0+(ad .i64 f.i 1).toNat)).take (q.elems.length-(ad .i64 f.i 1).toNat)).length) q.elems.length) (cond ((leI 0 (nI (((f.i).toNat-0)+((q.elems.drop (0+(ad .i64 f.i 1).toNat)).take (q.elems.length-(ad .i64 f.i 1).toNat)).length)))&&(leI (nI (((f.i).toNat-0)+((q.elems.drop (0+(ad .i64 f.i 1).toNat)).take (q.elems.length-(ad .i64 f.i 1).toNat)).length)) (nI q.elems.length))&&(leN (0+q.elems.length) (ap (ap (q.elems.take (0+((f.i).toNat-0))) ((q.elems.drop (0+(ad .i64 f.i 1).toNat)).take (q.elems.length-(ad .i64 f.i 1).toNat))) (q.elems.drop ((0+((f.i).toNat-0))+((q.elems.drop (0+(ad .i64 f.i 1).toNat)).take (q.elems.length-(ad .i64 f.i 1).toNat)).length))).length)) (some (D.tup [(da [(dl q.nn (((ap (ap ((ap (ap (q.elems.take (0+((f.i).toNat-0))) ((q.elems.drop (0+(ad .i64 f.i 1).toNat)).take (q.elems.length-(ad .i64 f.i 1).toNat))) (q.elems.drop ((0+((f.i).toNat-0))+((q.elems.drop (0+(ad .i64 f.i 1).toNat)).take (q.elems.length-(ad .i64 f.i 1).toNat)).length))).take (0+(((f.i).toNat-0)+((q.elems.drop (0+(ad .i64 f.i 1).toNat)).take (q.elems.length-(ad .i64 f.i 1).toNat)).length))) (rp (q.elems.length-(((f.i).toNat-0)+((q.elems.drop (0+(ad .i64 f.i 1).toNat)).take (q.elems.length-(ad .i64 f.i 1).toNat)).length)) (da [(di 0),(dS (bs [])),(dS (bs [])),(db false),(di 0),(dl false [])]))) ((ap (ap (q.elems.take (0+((f.i).toNat-0))) ((q.elems.drop (0+(ad .i64 f.i 1).toNat)).take (q.elems.length-(ad .i64 f.i 1).toNat))) (q.elems.drop ((0+((f.i).toNat-0))+((q.elems.drop (0+(ad .i64 f.i 1).toNat)).take (q.elems.length-(ad .i64 f.i 1).toNat)).length))).drop ((0+(((f.i).toNat-0)+((q.elems.drop (0+(ad .i64 f.i 1).toNat)).take (q.elems.length-(ad .i64 f.i 1).toNat)).length))+(q.elems.length-(((f.i).toNat-0)+((q.elems.drop (0+(ad .i64 f.i 1).toNat)).take (q.elems.length-(ad .i64 f.i 1).toNat)).length))))).drop 0).take (((f.i).toNat-0)+((q.elems.drop (0+(ad .i64 f.i 1).toNat)).take (q.elems.length-(ad .i64 f.i 1).toNat)).length))),(p0.at 1),(p0.at 2)]),(da [(di 0),((B.at 1).at 1),(dS (bs [])),(da [(di 0),(dS (bs [])),(dS (bs [])),(db false),(di 0),(dl false [])]),(dl false [])]),(dl true [(B.at 1)])])) none) none) none) none)) none) (cond (inb f.i q.elems.length) (some (D.tup [(da [(dl q.nn (((q.elems.set (0+(f.i).toNat) (B.at 0)).drop 0).take q.elems.length)),(p0.at 1),(p0.at 2)]),(da [(di 0),(di (nI ((B.at 0).at 2).s.size)),(dS (bs [])),(da [(di 0),(dS (bs [])),(dS (bs [])),(db false),(di 0),(dl false [])]),(dl false [])]),(dl true [(B.at 1)])])) none))))) none))) (cond ((((p1.at 0).i.toNat-1)-1)==0) (bd (F31.s FUEL p0 (p1.at 1).s) fun g=>(cond (ltI g.i 0) (bd (F77.s FUEL 3) fun ba=>(some (D.tup [p0,ba,(dl false [])]))) (cond (inb g.i (p0.at 0).elems.length) (bd (F176.s FUEL (ix (p0.at 0).elems (g.i).toNat) p1 (p0.at 2).i) fun C=>(cond (neI (C.at 2).i 0) (bd (F77.s FUEL (C.at 2).i) fun bb=>(some (D.tup [p0,bb,(dl false [])]))) (bd (F175.s FUEL (p0.at 0)) fun r=>(cond (eqI (p1.at 0).i 6) (cond ((leI 0 g.i)&&(leI g.i (ad .i64 g.i 1))&&(leI (ad .i64 g.i 1) (nI r.elems.length))&&(leI (nI r.elems.length) (nI r.elems.length))&&(eqN (0+r.elems.length) r.elems.length)) (cond (eqI g.i (ad .i64 g.i 1)) (some (D.tup [(da [(dl r.nn ((r.elems.drop 0).take r.elems.length)),(p0.at 1),(p0.at 2)]),(da [(di 0),((C.at 1).at 1),(dS (bs [])),(da [(di 0),(dS (bs [])),(dS (bs [])),(db false),(di 0),(dl false [])]),(dl false [])]),(dl true [(C.at 1)])])) (cond (true&&(leI 0 g.i)&&(leN (0+(g.i).toNat) r.elems.length)) (cond ((leI 0 (ad .i64 g.i 1))&&(leI (ad .i64 g.i 1) (nI r.elems.length))&&(leN (0+r.elems.length) r.elems.length)) (cond (leN ((0+((g.i).toNat-0))+((r.elems.drop (0+(ad .i64 g.i 1).toNat)).take (r.elems.length-(ad .i64 g.i 1).toNat)).length) r.elems.length) (cond ((leI 0 (nI (((g.i).toNat-0)+((r.elems.drop (0+(ad .i64 g.i 1).toNat)).take (r.elems.length-(ad .i64 g.i 1).toNat)).length)))&&(leI (nI (((g.i).toNat-0)+((r.elems.drop (0+(ad .i64 g.i 1).toNat)).take (r.elems.length-(ad .i64 g.i 1).toNat)).length)) (nI r.elems.length))&&(leN (0+r.elems.length) (ap (ap (r.elems.take (0+((g.i).toNat-0))) ((r.elems.drop (0+(ad .i64 g.i 1).toNat)).take (r.elems.length-(ad .i64 g.i 1).toNat))) (r.elems.drop ((0+((g.i).toNat-0))+((r.elems.drop (0+(ad .i64 g.i 1).toNat)).take (r.elems.length-(ad .i64 g.i 1).toNat)).length))).length)) (some (D.tup [(da [(dl r.nn (((ap (ap ((ap (ap (r.elems.take (0+((g.i).toNat-0))) ((r.elems.drop (0+(ad .i64 g.i 1).toNat)).take (r.elems.length-(ad .i64 g.i 1).toNat))) (r.elems.drop ((0+((g.i).toNat-0))+((r.elems.drop (0+(ad .i64 g.i 1).toNat)).take (r.elems.length-(ad .i64 g.i 1).toNat)).length))).take (0+(((g.i).toNat-0)+((r.elems.drop (0+(ad .i64 g.i 1).toNat)).take (r.elems.length-(ad .i64 g.i 1).toNat)).length))) (rp (r.elems.length-(((g.i).toNat-0)+((r.elems.drop (0+(ad .i64 g.i 1).toNat)).take (r.elems.length-(ad .i64 g.i 1).toNat)).length)) (da [(di 0),(dS (bs [])),(dS (bs [])),(db false),(di 0),(dl false [])]))) ((ap (ap (r.elems.take (0+((g.i).toNat-0))) ((r.elems.drop (0+(ad .i64 g.i 1).toNat)).take (r.elems.length-(ad .i64 g.i 1).toNat))) (r.elems.drop ((0+((g.i).toNat-0))+((r.elems.drop (0+(ad .i64 g.i 1).toNat)).take (r.elems.length-(ad .i64 g.i 1).toNat)).length))).drop ((0+(((g.i).toNat-0)+((r.elems.drop (0+(ad .i64 g.i 1).toNat)).take (r.elems.length-(ad .i64 g.i 1).toNat)).length))+(r.elems.length-(((g.i).toNat-0)+((r.elems.drop (0+(ad .i64 g.i 1).toNat)).take (r.elems.length-(ad .i64 g.i 1).toNat)).length))))).drop 0).take (((g.i).toNat-0)+((r.elems.drop (0+(ad .i64 g.i 1).toNat)).take (r.elems.length-(ad .i64 g.i 1).toNat)).length))),(p0.at 1),(p0.at 2)]),(da [(di 0),((C.at 1).at 1),(dS (bs [])),(da [(di 0),(dS (bs [])),(dS (bs [])),(db false),(di 0),(dl false [])]),(dl false [])]),(dl true [(C.at 1)])])) none) none) none) none)) none) (cond (inb g.i r.elems.length) (some (D.tup [(da [(dl r.nn (((r.elems.set (0+(g.i).toNat) (C.at 0)).drop 0).take r.elems.length)),(p0.at 1),(p0.at 2)]),(da [(di 0),(di (nI ((C.at 0).at 2).s.size)),(dS (bs [])),(da [(di 0),(dS (bs [])),(dS (bs [])),(db false),(di 0),(dl false [])]),(dl false [])]),(dl true [(C.at 1)])])) none))))) none))) (cond (((((p1.at 0).i.toNat-1)-1)-1)==0) (bd (F31.s FUEL p0 (p1.at 1).s) fun j=>(cond (ltI j.i 0) (bd (F77.s FUEL 3) fun bc=>(some (D.tup [p0,bc,(dl false [])]))) (cond (inb j.i (p0.at 0).elems.length) (bd (F176.s FUEL (ix (p0.at 0).elems (j.i).toNat) p1 (p0.at 2).i) fun E=>(cond (neI (E.at 2).i 0) (bd (F77.s FUEL (E.at 2).i) fun be=>(some (D.tup [p0,be,(dl false [])]))) (bd (F175.s FUEL (p0.at 0)) fun u=>(cond (eqI (p1.at 0).i 6) (cond ((leI 0 j.i)&&(leI j.i (ad .i64 j.i 1))&&(leI (ad .i64 j.i 1) (nI u.elems.length))&&(leI (nI u.elems.length) (nI u.elems.length))&&(eqN (0+u.elems.length) u.elems.length)) (cond (eqI j.i (ad .i64 j.i 1)) (some (D.tup [(da [(dl u.nn ((u.elems.drop 0).take u.elems.length)),(p0.at 1),(p0.at 2)]),(da [(di 0),((E.at 1).at 1),(dS (bs [])),(da [(di 0),(dS (bs [])),(dS (bs [])),(db false),(di 0),(dl false [])]),(dl false [])]),(dl true [(E.at 1)])])) (cond (true&&(leI 0 j.i)&&(leN (0+(j.i).toNat) u.elems.length)) (cond ((leI 0 (ad .i64 j.i 1))&&(leI (ad .i64 j.i 1) (nI u.elems.length))&&(leN (0+u.elems.length) u.elems.length)) (cond (leN ((0+((j.i).toNat-0))+((u.elems.drop (0+(ad .i64 j.i 1).toNat)).take (u.elems.length-(ad .i64 j.i 1).toNat)).length) u.elems.length) (cond ((leI 0 (nI (((j.i).toNat-0)+((u.elems.drop (0+(ad .i64 j.i 1).toNat)).take (u.elems.length-(ad .i64 j.i 1).toNat)).length)))&&(leI (nI (((j.i).toNat-0)+((u.elems.drop (0+(ad .i64 j.i 1).toNat)).take (u.elems.length-(ad .i64 j.i 1).toNat)).length)) (nI u.elems.length))&&(leN (0+u.elems.length) (ap (ap (u.elems.take (0+((j.i).toNat-0))) ((u.elems.drop (0+(ad .i64 j.i 1).toNat)).take (u.elems.length-(ad .i64 j.i 1).toNat))) (u.elems.drop ((0+((j.i).toNat-0))+((u.elems.drop (0+(ad .i64 j.i 1).toNat)).take (u.elems.length-(ad .i64 j.i 1).toNat)).length))).length)) (some (D.tup [(da [(dl u.nn (((ap (ap ((ap (ap (u.elems.take (0+((j.i).toNat-0))) ((u.elems.drop (0+(ad .i64 j.i 1).toNat)).take (u.elems.length-(ad .i64 j.i 1).toNat))) (u.elems.drop ((0+((j.i).toNat-0))+((u.elems.drop (0+(ad .i64 j.i 1).toNat)).take (u.elems.length-(ad .i64 j.i 1).toNat)).length))).take (0+(((j.i).toNat-0)+((u.elems.drop (0+(ad .i64 j.i 1).toNat)).take (u.elems.length-(ad .i64 j.i 1).toNat)).length))) (rp (u.elems.length-(((j.i).toNat-0)+((u.elems.drop (0+(ad .i64 j.i 1).toNat)).take (u.elems.length-(ad .i64 j.i 1).toNat)).length)) (da [(di 0),(dS (bs [])),(dS (bs [])),(db false),(di 0),(dl false [])]))) ((ap (ap (u.elems.take (0+((j.i).toNat-0))) ((u.elems.drop (0+(ad .i64 j.i 1).toNat)).take (u.elems.length-(ad .i64 j.i 1).toNat))) (u.elems.drop ((0+((j.i).toNat-0))+((u.elems.drop (0+(ad .i64 j.i 1).toNat)).take (u.elems.length-(ad .i64 j.i 1).toNat)).length))).drop ((0+(((j.i).toNat-0)+((u.elems.drop (0+(ad .i64 j.i 1).toNat)).take (u.elems.length-(ad .i64 j.i 1).toNat)).length))+(u.elems.length-(((j.i).toNat-0)+((u.elems.drop (0+(ad .i64 j.i 1).toNat)).take (u.elems.length-(ad .i64 j.i 1).toNat)).length))))).drop 0).take (((j.i).toNat-0)+((u.elems.drop (0+(ad .i64 j.i 1).toNat)).take (u.elems.length-(ad .i64 j.i 1).toNat)).length))),(p0.at 1),(p0.at 2)]),(da [(di 0),((E.at 1).at 1),(dS (bs [])),(da [(di 0),(dS (bs [])),(dS (bs [])),(db false),(di 0),(dl false [])]),(dl false [])]),(dl true [(E.at 1)])])) none) none) none) none)) none) (cond (inb j.i u.elems.length) (some (D.tup [(da [(dl u.nn (((u.elems.set (0+(j.i).toNat) (E.at 0)).drop 0).take u.elems.length)),(p0.at 1),(p0.at 2)]),(da [(di 0),(di (nI ((E.at 0).at 2).s.size)),(dS (bs [])),(da [(di 0),(dS (bs [])),(dS (bs [])),(db false),(di 0),(dl false [])]),(dl false [])]),(dl true [(E.at 1)])])) none))))) none))) (cond ((((((p1.at 0).i.toNat-1)-1)-1)-1)==0) (bd (F31.s FUEL p0 (p1.at 1).s) fun m=>(cond (ltI m.i 0) (bd (F77.s FUEL 3) fun bf=>(some (D.tup [p0,bf,(dl false [])]))) (cond (inb m.i (p0.at 0).elems.length) (bd (F176.s FUEL (ix (p0.at 0).elems (m.i).toNat) p1 (p0.at 2).i) fun F=>(cond (neI (F.at 2).i 0) (bd (F77.s FUEL (F.at 2).i) fun bg=>(some (D.tup [p0,bg,(dl false [])]))) (bd (F175.s FUEL (p0.at 0)) fun w=>(cond (eqI (p1.at 0).i 6) (cond ((leI 0 m.i)&&(leI m.i (ad .i64 m.i 1))&&(leI (ad .i64 m.i 1) (nI w.elems.length))&&(leI (nI w.elems.length) (nI w.elems.length))&&(eqN (0+w.elems.length) w.elems.length)) (cond (eqI m.i (ad .i64 m.i 1)) (some (D.tup [(da [(dl w.nn ((w.elems.drop 0).take w.elems.length)),(p0.at 1),(p0.at 2)]),(da [(di 0),((F.at 1).at 1),(dS (bs [])),(da [(di 0),(dS (bs [])),(dS (bs [])),(db false),(di 0),(dl false [])]),(dl false [])]),(dl true [(F.at 1)])])) (cond (true&&(leI 0 m.i)&&(leN (0+(m.i).toNat) w.elems.length)) (cond ((leI 0 (ad .i64 m.i 1))&&(leI (ad .i64 m.i 1) (nI w.elems.length))&&(leN (0+w.elems.length) w.elems.length)) (cond (leN ((0+((m.i).toNat-0))+((w.elems.drop (0+(ad .i64 m.i 1).toNat)).take (w.elems.length-(ad .i64 m.i 1).toNat)).length) w.elems.length) (cond ((leI 0 (nI (((m.i).toNat-0)+((w.elems.drop (0+(ad .i64 m.i 1).toNat)).take (w.elems.length-(ad .i64 m.i 1).toNat)).length)))&&(leI (nI (((m.i).toNat-0)+((w.elems.drop (0+(ad .i64 m.i 1).toNat)).take (w.elems.length-(ad .i64 m.i 1).toNat)).length)) (nI w.elems.length))&&(leN (0+w.elems.length) (ap (ap (w.elems.take (0+((m.i).toNat-0))) ((w.elems.drop (0+(ad .i64 m.i 1).toNat)).take (w.elems.length-(ad .i64 m.i 1).toNat))) (w.elems.drop ((0+((m.i).toNat-0))+((w.elems.drop (0+(ad .i64 m.i 1).toNat)).take (w.elems.length-(ad .i64 m.i 1).toNat)).length))).length)) (some (D.tup [(da [(dl w.nn (((ap (ap ((ap (ap (w.elems.take (0+((m.i).toNat-0))) ((w.elems.drop (0+(ad .i64 m.i 1).toNat)).take (w.elems.length-(ad .i64 m.i 1).toNat))) (w.elems.drop ((0+((m.i).toNat-0))+((w.elems.drop (0+(ad .i64 m.i 1).toNat)).take (w.elems.length-(ad .i64 m.i 1).toNat)).length))).take (0+(((m.i).toNat-0)+((w.elems.drop (0+(ad .i64 m.i 1).toNat)).take (w.elems.length-(ad .i64 m.i 1).toNat)).length))) (rp (w.elems.length-(((m.i).toNat-0)+((w.elems.drop (0+(ad .i64 m.i 1).toNat)).take (w.elems.length-(ad .i64 m.i 1).toNat)).length)) (da [(di 0),(dS (bs [])),(dS (bs [])),(db false),(di 0),(dl false [])]))) ((ap (ap (w.elems.take (0+((m.i).toNat-0))) ((w.elems.drop (0+(ad .i64 m.i 1).toNat)).take (w.elems.length-(ad .i64 m.i 1).toNat))) (w.elems.drop ((0+((m.i).toNat-0))+((w.elems.drop (0+(ad .i64 m.i 1).toNat)).take (w.elems.length-(ad .i64 m.i 1).toNat)).length))).drop ((0+(((m.i).toNat-0)+((w.elems.drop (0+(ad .i64 m.i 1).toNat)).take (w.elems.length-(ad .i64 m.i 1).toNat)).length))+(w.elems.length-(((m.i).toNat-0)+((w.elems.drop (0+(ad .i64 m.i 1).toNat)).take (w.elems.length-(ad .i64 m.i 1).toNat)).length))))).drop 0).take (((m.i).toNat-0)+((w.elems.drop (0+(ad .i64 m.i 1).toNat)).take (w.elems.length-(ad .i64 m.i 1).toNat)).length))),(p0.at 1),(p0.at 2)]),(da [(di 0),((F.at 1).at 1),(dS (bs [])),(da [(di 0),(dS (bs [])),(dS (bs [])),(db false),(di 0),(dl false [])]),(dl false [])]),(dl true [(F.at 1)])])) none) none) none) none)) none) (cond (inb m.i w.elems.length) (some (D.tup [(da [(dl w.nn (((w.elems.set (0+(m.i).toNat) (F.at 0)).drop 0).take w.elems.length)),(p0.at 1),(p0.at 2)]),(da [(di 0),(di (nI ((F.at 0).at 2).s.size)),(dS (bs [])),(da [(di 0),(dS (bs [])),(dS (bs [])),(db false),(di 0),(dl false [])]),(dl false [])]),(dl true [(F.at 1)])])) none))))) none))) (cond (((((((p1.at 0).i.toNat-1)-1)-1)-1)-1)==0) (bd (F31.s FUEL p0 (p1.at 1).s) fun o=>(cond (ltI o.i 0) (bd (F77.s FUEL 3) fun bh=>(some (D.tup [p0,bh,(dl false [])]))) (cond (inb o.i (p0.at 0).elems.length) (bd (F176.s FUEL (ix (p0.at 0).elems (o.i).toNat) p1 (p0.at 2).i) fun G=>(cond (neI (G.at 2).i 0) (bd (F77.s FUEL (G.at 2).i) fun bi=>(some (D.tup [p0,bi,(dl false [])]))) (bd (F175.s FUEL (p0.at 0)) fun y=>(cond (eqI (p1.at 0).i 6) (cond ((leI 0 o.i)&&(leI o.i (ad .i64 o.i 1))&&(leI (ad .i64 o.i 1) (nI y.elems.length))&&(leI (nI y.elems.length) (nI y.elems.length))&&(eqN (0+y.elems.length) y.elems.length)) (cond (eqI o.i (ad .i64 o.i 1)) (some (D.tup [(da [(dl y.nn ((y.elems.drop 0).take y.elems.length)),(p0.at 1),(p0.at 2)]),(da [(di 0),((G.at 1).at 1),(dS (bs [])),(da [(di 0),(dS (bs [])),(dS (bs [])),(db false),(di 0),(dl false [])]),(dl false [])]),(dl true [(G.at 1)])])) (cond (true&&(leI 0 o.i)&&(leN (0+(o.i).toNat) y.elems.length)) (cond ((leI 0 (ad .i64 o.i 1))&&(leI (ad .i64 o.i 1) (nI y.elems.length))&&(leN (0+y.elems.length) y.elems.length)) (cond (leN ((0+((o.i).toNat-0))+((y.elems.drop (0+(ad .i64 o.i 1).toNat)).take (y.elems.length-(ad .i64 o.i 1).toNat)).length) y.elems.length) (cond ((leI 0 (nI (((o.i).toNat-0)+((y.elems.drop (0+(ad .i64 o.i 1).toNat)).take (y.elems.length-(ad .i64 o.i 1).toNat)).length)))&&(leI (nI (((o.i).toNat-0)+((y.elems.drop (0+(ad .i64 o.i 1).toNat)).take (y.elems.length-(ad .i64 o.i 1).toNat)).length)) (nI y.elems.length))&&(leN (0+y.elems.length) (ap (ap (y.elems.take (0+((o.i).toNat-0))) ((y.elems.drop (0+(ad .i64 o.i 1).toNat)).take (y.elems.length-(ad .i64 o.i 1).toNat))) (y.elems.drop ((0+((o.i).toNat-0))+((y.elems.drop (0+(ad .i64 o.i 1).toNat)).take (y.elems.length-(ad .i64 o.i 1).toNat)).length))).length)) (some (D.tup [(da [(dl y.nn (((ap (ap ((ap (ap (y.elems.take (0+((o.i).toNat-0))) ((y.elems.drop (0+(ad .i64 o.i 1).toNat)).take (y.elems.length-(ad .i64 o.i 1).toNat))) (y.elems.drop ((0+((o.i).toNat-0))+((y.elems.drop (0+(ad .i64 o.i 1).toNat)).take (y.elems.length-(ad .i64 o.i 1).toNat)).length))).take (0+(((o.i).toNat-0)+((y.elems.drop (0+(ad .i64 o.i 1).toNat)).take (y.elems.length-(ad .i64 o.i 1).toNat)).length))) (rp (y.elems.length-(((o.i).toNat-0)+((y.elems.drop (0+(ad .i64 o.i 1).toNat)).take (y.elems.length-(ad .i64 o.i 1).toNat)).length)) (da [(di 0),(dS (bs [])),(dS (bs [])),(db false),(di 0),(dl false [])]))) ((ap (ap (y.elems.take (0+((o.i).toNat-0))) ((y.elems.drop (0+(ad .i64 o.i 1).toNat)).take (y.elems.length-(ad .i64 o.i 1).toNat))) (y.elems.drop ((0+((o.i).toNat-0))+((y.elems.drop (0+(ad .i64 o.i 1).toNat)).take (y.elems.length-(ad .i64 o.i 1).toNat)).length))).drop ((0+(((o.i).toNat-0)+((y.elems.drop (0+(ad .i64 o.i 1).toNat)).take (y.elems.length-(ad .i64 o.i 1).toNat)).length))+(y.elems.length-(((o.i).toNat-0)+((y.elems.drop (0+(ad .i64 o.i 1).toNat)).take (y.elems.length-(ad .i64 o.i 1).toNat)).length))))).drop 0).take (((o.i).toNat-0)+((y.elems.drop (0+(ad .i64 o.i 1).toNat)).take (y.elems.length-(ad .i64 o.i 1).toNat)).length))),(p0.at 1),(p0.at 2)]),(da [(di 0),((G.at 1).at 1),(dS (bs [])),(da [(di 0),(dS (bs [])),(dS (bs [])),(db false),(di 0),(dl false [])]),(dl false [])]),(dl true [(G.at 1)])])) none) none) none) none)) none) (cond (inb o.i y.elems.length) (some (D.tup [(da [(dl y.nn (((y.elems.set (0+(o.i).toNat) (G.at 0)).drop 0).take y.elems.length)),(p0.at 1),(p0.at 2)]),(da [(di 0),(di (nI ((G.at 0).at 2).s.size)),(dS (bs [])),(da [(di 0),(dS (bs [])),(dS (bs [])),(db false),(di 0),(dl false [])]),(dl false [])]),(dl true [(G.at 1)])])) none))))) none))) (cond ((((((((p1.at 0).i.toNat-1)-1)-1)-1)-1)-1)==0) (bd (F31.s FUEL p0 (p1.at 1).s) fun p=>(cond (ltI p.i 0) (bd (F77.s FUEL 3) fun bj=>(some (D.tup [p0,bj,(dl false [])]))) (cond (inb p.i (p0.at 0).elems.length) (bd (F176.s FUEL (ix (p0.at 0).elems (p.i).toNat) p1 (p0.at 2).i) fun I=>(cond (neI (I.at 2).i 0) (bd (F77.s FUEL (I.at 2).i) fun bk=>(some (D.tup [p0,bk,(dl false [])]))) (bd (F175.s FUEL (p0.at 0)) fun z=>(cond (eqI (p1.at 0).i 6) (cond ((leI 0 p.i)&&(leI p.i (ad .i64 p.i 1))&&(leI (ad .i64 p.i 1) (nI z.elems.length))&&(leI (nI z.elems.length) (nI z.elems.length))&&(eqN (0+z.elems.length) z.elems.length)) (cond (eqI p.i (ad .i64 p.i 1)) (some (D.tup [(da [(dl z.nn ((z.elems.drop 0).take z.elems.length)),(p0.at 1),(p0.at 2)]),(da [(di 0),((I.at 1).at 1),(dS (bs [])),(da [(di 0),(dS (bs [])),(dS (bs [])),(db false),(di 0),(dl false [])]),(dl false [])]),(dl true [(I.at 1)])])) (cond (true&&(leI 0 p.i)&&(leN (0+(p.i).toNat) z.elems.length)) (cond ((leI 0 (ad .i64 p.i 1))&&(leI (ad .i64 p.i 1) (nI z.elems.length))&&(leN (0+z.elems.length) z.elems.length)) (cond (leN ((0+((p.i).toNat-0))+((z.elems.drop (0+(ad .i64 p.i 1).toNat)).take (z.elems.length-(ad .i64 p.i 1).toNat)).length) z.elems.length) (cond ((leI 0 (nI (((p.i).toNat-0)+((z.elems.drop (0+(ad .i64 p.i 1).toNat)).take (z.elems.length-(ad .i64 p.i 1).toNat)).length)))&&(leI (nI (((p.i).toNat-0)+((z.elems.drop (0+(ad .i64 p.i 1).toNat)).take (z.elems.length-(ad .i64 p.i 1).toNat)).length)) (nI z.elems.length))&&(leN (0+z.elems.length) (ap (ap (z.elems.take (0+((p.i).toNat-0))) ((z.elems.drop (0+(ad .i64 p.i 1).toNat)).take (z.elems.length-(ad .i64 p.i 1).toNat))) (z.elems.drop ((0+((p.i).toNat-0))+((z.elems.drop (0+(ad .i64 p.i 1).toNat)).take (z.elems.length-(ad .i64 p.i 1).toNat)).length))).length)) (some (D.tup [(da [(dl z.nn (((ap (ap ((ap (ap (z.elems.take (0+((p.i).toNat-0))) ((z.elems.drop (0+(ad .i64 p.i 1).toNat)).take (z.elems.length-(ad .i64 p.i 1).toNat))) (z.elems.drop ((0+((p.i).toNat-0))+((z.elems.drop (0+(ad .i64 p.i 1).toNat)).take (z.elems.length-(ad .i64 p.i 1).toNat)).length))).take (0+(((p.i).toNat-0)+((z.elems.drop (0+(ad .i64 p.i 1).toNat)).take (z.elems.length-(ad .i64 p.i 1).toNat)).length))) (rp (z.elems.length-(((p.i).toNat-0)+((z.elems.drop (0+(ad .i64 p.i 1).toNat)).take (z.elems.length-(ad .i64 p.i 1).toNat)).length)) (da [(di 0),(dS (bs [])),(dS (bs [])),(db false),(di 0),(dl false [])]))) ((ap (ap (z.elems.take (0+((p.i).toNat-0))) ((z.elems.drop (0+(ad .i64 p.i 1).toNat)).take (z.elems.length-(ad .i64 p.i 1).toNat))) (z.elems.drop ((0+((p.i).toNat-0))+((z.elems.drop (0+(ad .i64 p.i 1).toNat)).take (z.elems.length-(ad .i64 p.i 1).toNat)).length))).drop ((0+(((p.i).toNat-0)+((z.elems.drop (0+(ad .i64 p.i 1).toNat)).take (z.elems.length-(ad .i64 p.i 1).toNat)).length))+(z.elems.length-(((p.i).toNat-0)+((z.elems.drop (0+(ad .i64 p.i 1).toNat)).take (z.elems.length-(ad .i64 p.i 1).toNat)).length))))).drop 0).take (((p.i).toNat-0)+((z.elems.drop (0+(ad .i64 p.i 1).toNat)).take (z.elems.length-(ad .i64 p.i 1).toNat)).length))),(p0.at 1),(p0.at 2)]),(da [(di 0),((I.at 1).at 1),(dS (bs [])),(da [(di 0),(dS (bs [])),(dS (bs [])),(db false),(di 0),(dl false [])]),(dl false [])]),(dl true [(I.at 1)])])) none) none) none) none)) none) (cond (inb p.i z.elems.length) (some (D.tup [(da [(dl z.nn (((z.elems.set (0+(p.i).toNat) (I.at 0)).drop 0).take z.elems.length)),(p0.at 1),(p0.at 2)]),(da [(di 0),(di (nI ((I.at 0).at 2).s.size)),(dS (bs [])),(da [(di 0),(dS (bs [])),(dS (bs [])),(db false),(di 0),(dl false [])]),(dl false [])]),(dl true [(I.at 1)])])) none))))) none))) (cond (((((((((p1.at 0).i.toNat-1)-1)-1)-1)-1)-1)-1)==0) (bd (F178.s FUEL (p0.at 2).i (p1.at 3).i) fun V=>(cond (neI V.i (p0.at 2).i) (some (D.tup [(D.agg (p0.parts.set 2 V)),(da [(di 0),((D.agg (p0.parts.set 2 V)).at 2),(dS (bs [])),(da [(di 0),(dS (bs [])),(dS (bs [])),(db false),(di 0),(dl false [])]),(dl false [])]),(dl true [(da [(di 7),(di 0),(dS (bs [])),V,(di 0),(da (rp 32 (D.int .u8 0)))])])])) (some (D.tup [p0,(da [(di 0),(p0.at 2),(dS (bs [])),(da [(di 0),(dS (bs [])),(dS (bs [])),(db false),(di 0),(dl false [])]),(dl false [])]),(dl false [])])))) (cond ((((((((((p1.at 0).i.toNat-1)-1)-1)-1)-1)-1)-1)-1)==0) (bd (F179.s FUEL (p0.at 0) (p0.at 2).i) fun R=>(goS (st126_3 M) M ⟨0,R.elems.length,0,R.elems.length,(nI R.elems.length),0,p0,p1,false,[],0,0,0,0,(bs []),0,(bs []),(bs []),false,0,false,[],false,[],p0,p1,0,0,0,0,(bs []),0,(bs []),(bs []),false,0,false,[],false,[],R.nn,R.elems,false,[]⟩ fun x=>match x with | .e0 d6 ab d7 d8 d9 ea bl bm bn bo bp bq br bt bu bv bw bx bz bA bB bC bD bE ag bF bG bH bI bJ bK bL bM bN bO bP bQ bR bS bT bU bV bW bX=>(bd (F175.s FUEL (ag.at 0)) fun L=>(goS (st78_2 M) M ⟨0,L.elems.length,(nI L.elems.length),0,bl,bm,bn,bo,bp,bq,br,bt,bu,bv,bw,bx,bz,bA,bB,bC,bD,bE,ag,bF,bG,bH,bI,bJ,bK,bL,bM,bN,bO,bP,bQ,bR,bS,bT,bU,bV,bW,bX,L.nn,L.elems⟩ fun x=>match x with | .e0 ah bY bZ S ai aj ak al am an ao aq ar au av aw ax ay az aA aB aC O aD W X aE aF aG aH aI aJ aK aL aM aN aO aP aQ aR Y Z aa T eb=>(cond (eqI S (-1)) (some (D.tup [(da [(dl aa ((T.drop 0).take L.elems.length)),(O.at 1),(O.at 2)]),(da [(di 0),(di (nI ab)),(dS (bs [])),(da [(di 0),(dS (bs [])),(dS (bs [])),(db false),(di 0),(dl false [])]),(dl false [])]),(dl Y ((Z.drop W).take X))])) (goS (st180_5 M) M ⟨0,L.elems.length,S,(ad .i64 S 1),ai,aj,ak,al,am,an,ao,aq,ar,au,av,aw,ax,ay,az,aA,aB,aC,O,aD,W,X,aE,aF,aG,aH,aI,aJ,aK,aL,aM,aN,aO,aP,aQ,aR,Y,Z,aa,T,(ix T (ah+S.toNat))⟩ fun x=>match x with | .e0 N P A ec ed ee ef eg eh ei ej ek el em en eo ep eq er es et eu aS ev b0 b1 ew ex ey ez eA eB eC eD eE eF eG eH eI eJ b2 b3 b4 U eK=>(cond ((leI 0 A)&&(leI A (nI P))&&(leN (N+P) U.length)) (cond (true&&(leI 0 A)&&(leN (N+A.toNat) (ap (ap (U.take (N+A.toNat)) (rp (P-A.toNat) (da [(di 0),(dS (bs [])),(dS (bs [])),(db false),(di 0),(dl false [])]))) (U.drop ((N+A.toNat)+(P-A.toNat)))).length)) (some (D.tup [(da [(dl b4 (((ap (ap (U.take (N+A.toNat)) (rp (P-A.toNat) (da [(di 0),(dS (bs [])),(dS (bs [])),(db false),(di 0),(dl false [])]))) (U.drop ((N+A.toNat)+(P-A.toNat)))).drop (N+0)).take (A.toNat-0))),(aS.at 1),(aS.at 2)]),(da [(di 0),(di (nI ab)),(dS (bs [])),(da [(di 0),(dS (bs [])),(dS (bs [])),(db false),(di 0),(dl false [])]),(dl false [])]),(dl b2 ((b3.drop b0).take b1))])) none) none))) | .e1 ah bY bZ S ai aj ak al am an ao aq ar au av aw ax ay az aA aB aC O aD W X aE aF aG aH aI aJ aK aL aM aN aO aP aQ aR Y Z aa T=>(some (D.tup [(da [(dl aa ((T.drop 0).take L.elems.length)),(O.at 1),(O.at 2)]),(da [(di 0),(di (nI ab)),(dS (bs [])),(da [(di 0),(dS (bs [])),(dS (bs [])),(db false),(di 0),(dl false [])]),(dl false [])]),(dl Y ((Z.drop W).take X))])))))) (cond (((((((((((p1.at 0).i.toNat-1)-1)-1)-1)-1)-1)-1)-1)-1)==0) (bd (F31.s FUEL p0 (p1.at 1).s) fun ac=>(cond (ltI ac.i 0) (bd (F77.s FUEL 3) fun b5=>(some (D.tup [p0,b5,(dl false [])]))) (cond (inb ac.i (p0.at 0).elems.length) (bd (F183.s FUEL (ix (p0.at 0).elems (ac.i).toNat) (p1.at 4).i (p1.at 5).i) fun aT=>(some (D.tup [p0,(da [(aT.at 1),(di 0),(aT.at 0),(da [(di 0),(dS (bs [])),(dS (bs [])),(db false),(di 0),(dl false [])]),(dl false [])]),(dl false [])]))) none))) (cond ((((((((((((p1.at 0).i.toNat-1)-1)-1)-1)-1)-1)-1)-1)-1)-1)==0) (bd (F31.s FUEL p0 (p1.at 1).s) fun ae=>(cond (ltI ae.i 0) (bd (F77.s FUEL 3) fun b6=>(some (D.tup [p0,b6,(dl false [])]))) (cond (inb ae.i (p0.at 0).elems.length) (bd (F184.s FUEL (ix (p0.at 0).elems (ae.i).toNat)) fun b7=>(some (D.tup [p0,(da [(di 0),(di 0),(dS (bs [])),b7,(dl false [])]),(dl false [])]))) none))) (cond (((((((((((((p1.at 0).i.toNat-1)-1)-1)-1)-1)-1)-1)-1)-1)-1)-1)==0) (goS (st129_3 M) M ⟨0,0,(p0.at 0),(nI (p0.at 0).elems.length),0,p0,p1,false,[],0,0,0,0,(bs []),0,(bs []),(bs []),false,0,false,[],false,[],p0,p1,false,[],0,0,(bs []),0,(bs []),(bs []),false,0,false,[],false,[],false,[]⟩ fun x=>match x with | .e0 aU af eL eM eN b8 b9 ca cb cc cd ce cf cg ch ci cj ck cl cm cn co cp cq cr cs ct cu cw cx cy cz cA cB cC cD cE cF cG cH cI=>(goS (st231_2 M) M ⟨aU,af,(nI af),20,0,20,b8,b9,ca,cb,cc,cd,ce,cf,cg,ch,ci,cj,ck,cl,cm,cn,co,cp,cq,cr,cs,ct,cu,cw,cx,cy,cz,cA,cB,cC,cD,cE,cF,cG,cH,cI⟩ fun x=>match x with | .e0 aV aW aX cJ aY eO cK cL cM cN cO cP cQ cR cS cT cU cV cW cX cY cZ c0 c1 c2 c3 c4 c5 c6 c7 c8 c9 dc dd de df dg dh dj dk dm dn=>(goS (st255_1 M) M ⟨aV,aW,aY,aX,(ad .i64 aY 1),cK,cL,cM,cN,cO,cP,cQ,cR,cS,cT,cU,cV,cW,cX,cY,cZ,c0,c1,c2,c3,c4,c5,c6,c7,c8,c9,dc,dd,de,df,dg,dh,dj,dk,dm,dn⟩ fun x=>match x with | .e0 eP eQ eR eS eT dp dq dr dt du dv dw dx dy dz dA dB dC dD dE dF dG dH dI dJ dK dL dM dN dO dP dQ dR dT dU dV dW dX dY dZ d0=>(goS (st231_7 M) M ⟨aV,aW,aX,cJ,dp,dq,dr,dt,du,dv,dw,dx,dy,dz,dA,dB,dC,dD,dE,dF,dG,dH,dI,dJ,dK,dL,dM,dN,dO,dP,dQ,dR,dT,dU,dV,dW,dX,dY,dZ,d0⟩ fun x=>match x with | .e0 eU eV eW eX eY eZ e2 e3 e4 e5 e6 e7 e8 e9 fa fb fc fd fe ff fg fh d1 fi d2 d3 fj fk fl fm fo fp fq fr fs ft fu fv d4 d5=>(some (D.tup [d1,(da [(di 0),(di 0),(dS (bs [])),(da [(di 0),(dS (bs [])),(dS (bs [])),(db false),(di 0),(dl false [])]),(dl d4 ((d5.drop aU).take af))]),(dl d2 d3)])))))) none)))))))))))) none)))
theorem run (M:Nat) (p0:D) (p1:D):callS (e M) (tblOf (t M)) 12 (.fn 30) [.d (.struct [22,3,3]) p0,.d (.struct [28,9,9,3,3,3]) p1] [] (fun v H=>finish ty [24,70,25] v H)=s M p0 p1:=by kernel_rfl
def c:Con:={ run:=fun ds=>match ds with | [p0,p1]=>s FUEL p0 p1 | _=>none }
theorem ok:ConOk (30,c):=mkC Tryz.f30 [(.struct [22,3,3]),(.struct [28,9,9,3,3,3])] [24,70,25] (by kernel_rfl) (by kernel_rfl) (by kernel_rfl) (by kernel_rfl) (allCons F31.ok (allCons F77.ok (allCons F164.ok (allCons F174.ok (allCons F175.ok (allCons F176.ok (allCons F178.ok (allCons F179.ok (allCons F182.ok (allCons F183.ok (allCons F184.ok (allCons F186.ok (allCons (void_ok 256) allNil))))))))))))) allNil (t_ok FUEL) fun a=>run FUEL a.1 a.2.1
end F30
namespace F26
def k0_:K:=(.struct [22,3,3])
def cons:List (Nat×Con):=[(30,F30.c)]
def exts:List (Nat×Ext):=[]
def h:List (Nat×Nat×Hint):=[(26,4,{ live:=[2,4,7,8,13,14,15],rows:=[(7,70),(8,32)] })]
noncomputable def e (M:Nat):Env:=env cons exts h M
structure S4 where
 (n1 n2 n3 n4:Nat) (d5:D) (i6 i7:Int) (d8:D) (b9:Bool) (l10:List D) (i11 i12:Int) (b13:Bool) (l14:List D) (b15:Bool) (l16:List D)
inductive X4 where
 | e0 (f g j m:Nat) (o:D) (p q:Int) (r:D) (u:Bool) (w:List D) (y z:Int) (A:Bool) (B:List D) (C:Bool) (E:List D)
def st4 (M:Nat):S4→(S4→Option D)→(X4→Option D)→Option D
 | ⟨q,j,r,m,o,p,g,u,w,y,z,A,B,C,E,F⟩,rec,K=>(cond (ltI g p) (cond (inb g o.elems.length) (bd (F30.s FUEL u (ix o.elems g.toNat)) fun f=>(cond (mx (j+1)) (cond (mx (m+(f.at 2).elems.length)) (rec ⟨0,(j+1),0,(m+(f.at 2).elems.length),o,p,(ad .i64 g 1),(f.at 0),w,y,z,A,(B||true),(ap ((C.drop q).take j) [(f.at 1)]),(E||(!(f.at 2).elems.isEmpty)),(ap ((F.drop r).take m) (f.at 2).elems)⟩) none) none)) none) (K (.e0 q j r m o p g u w y z A B C E F)))
def ex4 (k:Kont):X4→Option D
 | .e0 j m o p q f g r u w y z A B C E=>k (.exit 0) ((us 2 ((.ptr 0 [] k0_)::(us 1 ((.ptr 1 [] k0_)::(us 2 ((.sref 2 j m)::(.sref 3 o p)::(us 4 ((vk (.slice 74) q)::(vi f)::(vi g)::(vb (ltI g f))::(us 20 [])))))))))) [(.var k0_ (vk k0_ r)),(.var k0_ (vk k0_ (da [(dl u w),(di y),(di z)]))),(.row 70 true A B),(.row 32 true C E)]
def lv4:S4→List Leaf
 | ⟨f,g,j,m,o,p,q,r,u,w,y,z,A,B,C,E⟩=>[.n f,.n g,.n j,.n m,.d o,.i p,.i q,.d r,.b u,.l w,.i y,.i z,.b A,.l B,.b C,.l E]
def of4:List Leaf→Option S4
 | [.n f,.n g,.n j,.n m,.d o,.i p,.i q,.d r,.b u,.l w,.i y,.i z,.b A,.l B,.b C,.l E]=>some ⟨f,g,j,m,o,p,q,r,u,w,y,z,A,B,C,E⟩
 | _=>none
def ps4:List PV:=((up 2 ((.ptr 0 [] k0_)::(up 1 ((.ptr 1 [] k0_)::(up 2 ((.sref 2)::(.sref 3)::(up 4 ((.d (.slice 74) .x)::(.d (.int .i64) (.int .i64))::(.d (.int .i64) (.int .i64))::(up 21 []))))))))))
def qs4:List PO:=[(.var k0_ (.d k0_ .x)),(.var k0_ (.d k0_ (.agg [.slice,(.int .i64),(.int .i64)]))),(.row 70 true),(.row 32 true)]
noncomputable def t (M:Nat):List Ent:=⟨26,11,0,4,sumS [2,4,7,8,13,14,15] ps4 qs4 [(7,2),(8,3)] of4 (st4 M) ex4 M⟩::[]
theorem t_ok (M:Nat):AllOk (e M) (tblOf (t M)):=AllOk.addS (n0:=4) (lv:=lv4) AllOk.nil (by kernel_rfl) rfl (by intro ls s h;unfold of4 at h;(repeat' split at h)<;>simp at h;subst h;rfl) (by intro s;kernel_rfl) (by intro s;kernel_rfl) (by intro s nx k;kernel_rfl)
def s (M:Nat) (p0:D) (p1:D):Option D:=
 (goS (st4 M) M ⟨0,0,0,0,p1,(nI p1.elems.length),0,p0,false,[],0,0,false,[],false,[]⟩ fun x=>match x with | .e0 f g j m w y z o A B C E p q r u=>(some (D.tup [o,(dl p ((q.drop f).take g)),(dl r ((u.drop j).take m))])))
theorem run (M:Nat) (p0:D) (p1:D):callS (e M) (tblOf (t M)) 12 (.fn 26) [.d (.struct [22,3,3]) p0,.d (.slice 74) p1] [] (fun v H=>finish ty [24,53,25] v H)=s M p0 p1:=by kernel_rfl
def c:Con:={ run:=fun ds=>match ds with | [p0,p1]=>s FUEL p0 p1 | _=>none }
theorem ok:ConOk (26,c):=mkC Tryz.f26 [(.struct [22,3,3]),(.slice 74)] [24,53,25] (by kernel_rfl) (by kernel_rfl) (by kernel_rfl) (by kernel_rfl) (allCons F30.ok allNil) allNil (t_ok FUEL) fun a=>run FUEL a.1 a.2.1
end F26
end Go.AM.SY
