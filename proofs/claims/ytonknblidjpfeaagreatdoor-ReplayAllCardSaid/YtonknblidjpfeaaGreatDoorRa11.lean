/- Part 11 of the proof: the abstract machine, what the functions compute, and plain laws over that. -/
import Derived.Test.YtonknblidjpfeaaGreatDoorRa10
set_option linter.all false
set_option linter.unusedSimpArgs false
set_option linter.unusedVariables false
set_option linter.unusedSectionVars false
namespace Go.AM.SZ
open Go Go.AM Go.Proofs Go.RowKit
namespace F51
def cons:List (Nat×Con):=[(103,F103.c)]
def exts:List (Nat×Ext):=[]
def h:List (Nat×Nat×Hint):=[(51,5,{ live:=[3,4] })]
noncomputable def e (M:Nat):Env:=env cons exts h M
structure S5 where
 (n2 n3:Nat) (i4:Int) (b5:Bool) (l6:List D)
inductive X5 where
 | e0 (n2 n3:Nat) (i4:Int) (b5:Bool) (l6:List D)
 | e1 (n2 n3:Nat) (i4:Int) (b5:Bool) (l6:List D)
 | e2 (n2 n3:Nat) (i4:Int) (b5:Bool) (l6:List D)
 | e3 (n2 n3:Nat) (i4:Int) (b5:Bool) (l6:List D)
 | e4 (n2 n3:Nat) (i4:Int) (b5:Bool) (l6:List D)
 | e5 (n2 n3:Nat) (i4:Int) (b5:Bool) (l6:List D)
 | e6 (n2 n3:Nat) (i4:Int) (b5:Bool) (l6:List D)
 | e7 (n2 n3:Nat) (i4:Int) (b5:Bool) (l6:List D)
def st5 (M:Nat):S5→(S5→Option D)→(X5→Option D)→Option D
 | ⟨n2,n3,i4,b5,l6⟩,rec,K=>(cond (ltI i4 (nI n3)) (cond (inb i4 n3) (cond (ltI (ix l6 (n2+i4.toNat)).i 32) (K (.e0 n2 n3 i4 b5 l6)) (cond (eqI (ix l6 (n2+i4.toNat)).i 47) (K (.e1 n2 n3 i4 b5 l6)) (cond (geI (ix l6 (n2+i4.toNat)).i 127) (cond (leI (ix l6 (n2+i4.toNat)).i 159) (K (.e2 n2 n3 i4 b5 l6)) (cond (eqI (ix l6 (n2+i4.toNat)).i 65533) (K (.e3 n2 n3 i4 b5 l6)) (cond (geI (ix l6 (n2+i4.toNat)).i 1114112) (K (.e4 n2 n3 i4 b5 l6)) (rec ⟨n2,n3,(ad .i64 i4 1),b5,l6⟩)))) (cond (eqI (ix l6 (n2+i4.toNat)).i 65533) (K (.e5 n2 n3 i4 b5 l6)) (cond (geI (ix l6 (n2+i4.toNat)).i 1114112) (K (.e6 n2 n3 i4 b5 l6)) (rec ⟨n2,n3,(ad .i64 i4 1),b5,l6⟩)))))) none) (K (.e7 n2 n3 i4 b5 l6)))
def ex5 (k:Kont):X5→Option D
 | .e0 n2 n3 i4 b5 l6=>k .ret ((us 2 ((vb false)::(.sref 0 n2 n3)::(vi i4)::(vk (.int .i64) (ix l6 (n2+i4.toNat)))::(us 25 ((vi i4)::(.sref 0 n2 n3)::(vi (nI n3))::(vb (ltI i4 (nI n3)))::(us 2 ((.sref 0 n2 n3)::(vi i4)::(.ptr 0 [(n2+i4.toNat)] (.int .i64))::(vk (.int .i64) (ix l6 (n2+i4.toNat)))::(vk (.int .i64) (ix l6 (n2+i4.toNat)))::(vb (ltI (ix l6 (n2+i4.toNat)).i 32))::(vb true)::v0::v0::(vb true)::(vb true)::v0::v0::v0::v0::v0::v0::(vb true)::(vb true)::v0::v0::(vb true)::(vb true)::v0::v0::(vb true)::[]))))))) [(.row 3 true b5 l6)]
 | .e1 n2 n3 i4 b5 l6=>k .ret ((us 2 ((vb false)::(.sref 0 n2 n3)::(vi i4)::(vk (.int .i64) (ix l6 (n2+i4.toNat)))::(us 25 ((vi i4)::(.sref 0 n2 n3)::(vi (nI n3))::(vb (ltI i4 (nI n3)))::(us 2 ((.sref 0 n2 n3)::(vi i4)::(.ptr 0 [(n2+i4.toNat)] (.int .i64))::(vk (.int .i64) (ix l6 (n2+i4.toNat)))::(vk (.int .i64) (ix l6 (n2+i4.toNat)))::(vb (ltI (ix l6 (n2+i4.toNat)).i 32))::(vb false)::(vk (.int .i64) (ix l6 (n2+i4.toNat)))::(vb (eqI (ix l6 (n2+i4.toNat)).i 47))::(vb (eqI (ix l6 (n2+i4.toNat)).i 47))::(vb true)::v0::v0::v0::v0::v0::v0::(vb true)::(vb true)::v0::v0::(vb true)::(vb true)::v0::v0::(vb true)::[]))))))) [(.row 3 true b5 l6)]
 | .e2 n2 n3 i4 b5 l6=>k .ret ((us 2 ((vb false)::(.sref 0 n2 n3)::(vi i4)::(vk (.int .i64) (ix l6 (n2+i4.toNat)))::(us 25 ((vi i4)::(.sref 0 n2 n3)::(vi (nI n3))::(vb (ltI i4 (nI n3)))::(us 2 ((.sref 0 n2 n3)::(vi i4)::(.ptr 0 [(n2+i4.toNat)] (.int .i64))::(vk (.int .i64) (ix l6 (n2+i4.toNat)))::(vk (.int .i64) (ix l6 (n2+i4.toNat)))::(vb (ltI (ix l6 (n2+i4.toNat)).i 32))::(vb false)::(vk (.int .i64) (ix l6 (n2+i4.toNat)))::(vb (eqI (ix l6 (n2+i4.toNat)).i 47))::(vb (eqI (ix l6 (n2+i4.toNat)).i 47))::(vb false)::(vk (.int .i64) (ix l6 (n2+i4.toNat)))::(vb (geI (ix l6 (n2+i4.toNat)).i 127))::(vb true)::(vk (.int .i64) (ix l6 (n2+i4.toNat)))::(vb (leI (ix l6 (n2+i4.toNat)).i 159))::(vb (leI (ix l6 (n2+i4.toNat)).i 159))::(vb (leI (ix l6 (n2+i4.toNat)).i 159))::(vb true)::v0::v0::(vb true)::(vb true)::v0::v0::(vb true)::[]))))))) [(.row 3 true b5 l6)]
 | .e3 n2 n3 i4 b5 l6=>k .ret ((us 2 ((vb false)::(.sref 0 n2 n3)::(vi i4)::(vk (.int .i64) (ix l6 (n2+i4.toNat)))::(us 25 ((vi i4)::(.sref 0 n2 n3)::(vi (nI n3))::(vb (ltI i4 (nI n3)))::(us 2 ((.sref 0 n2 n3)::(vi i4)::(.ptr 0 [(n2+i4.toNat)] (.int .i64))::(vk (.int .i64) (ix l6 (n2+i4.toNat)))::(vk (.int .i64) (ix l6 (n2+i4.toNat)))::(vb (ltI (ix l6 (n2+i4.toNat)).i 32))::(vb false)::(vk (.int .i64) (ix l6 (n2+i4.toNat)))::(vb (eqI (ix l6 (n2+i4.toNat)).i 47))::(vb (eqI (ix l6 (n2+i4.toNat)).i 47))::(vb false)::(vk (.int .i64) (ix l6 (n2+i4.toNat)))::(vb (geI (ix l6 (n2+i4.toNat)).i 127))::(vb true)::(vk (.int .i64) (ix l6 (n2+i4.toNat)))::(vb (leI (ix l6 (n2+i4.toNat)).i 159))::(vb (leI (ix l6 (n2+i4.toNat)).i 159))::(vb (leI (ix l6 (n2+i4.toNat)).i 159))::(vb false)::(vk (.int .i64) (ix l6 (n2+i4.toNat)))::(vb (eqI (ix l6 (n2+i4.toNat)).i 65533))::(vb (eqI (ix l6 (n2+i4.toNat)).i 65533))::(vb true)::v0::v0::(vb true)::[]))))))) [(.row 3 true b5 l6)]
 | .e4 n2 n3 i4 b5 l6=>k .ret ((us 2 ((vb false)::(.sref 0 n2 n3)::(vi i4)::(vk (.int .i64) (ix l6 (n2+i4.toNat)))::(us 25 ((vi i4)::(.sref 0 n2 n3)::(vi (nI n3))::(vb (ltI i4 (nI n3)))::(us 2 ((.sref 0 n2 n3)::(vi i4)::(.ptr 0 [(n2+i4.toNat)] (.int .i64))::(vk (.int .i64) (ix l6 (n2+i4.toNat)))::(vk (.int .i64) (ix l6 (n2+i4.toNat)))::(vb (ltI (ix l6 (n2+i4.toNat)).i 32))::(vb false)::(vk (.int .i64) (ix l6 (n2+i4.toNat)))::(vb (eqI (ix l6 (n2+i4.toNat)).i 47))::(vb (eqI (ix l6 (n2+i4.toNat)).i 47))::(vb false)::(vk (.int .i64) (ix l6 (n2+i4.toNat)))::(vb (geI (ix l6 (n2+i4.toNat)).i 127))::(vb true)::(vk (.int .i64) (ix l6 (n2+i4.toNat)))::(vb (leI (ix l6 (n2+i4.toNat)).i 159))::(vb (leI (ix l6 (n2+i4.toNat)).i 159))::(vb (leI (ix l6 (n2+i4.toNat)).i 159))::(vb false)::(vk (.int .i64) (ix l6 (n2+i4.toNat)))::(vb (eqI (ix l6 (n2+i4.toNat)).i 65533))::(vb (eqI (ix l6 (n2+i4.toNat)).i 65533))::(vb false)::(vk (.int .i64) (ix l6 (n2+i4.toNat)))::(vb (geI (ix l6 (n2+i4.toNat)).i 1114112))::(vb (geI (ix l6 (n2+i4.toNat)).i 1114112))::[]))))))) [(.row 3 true b5 l6)]
 | .e5 n2 n3 i4 b5 l6=>k .ret ((us 2 ((vb false)::(.sref 0 n2 n3)::(vi i4)::(vk (.int .i64) (ix l6 (n2+i4.toNat)))::(us 25 ((vi i4)::(.sref 0 n2 n3)::(vi (nI n3))::(vb (ltI i4 (nI n3)))::(us 2 ((.sref 0 n2 n3)::(vi i4)::(.ptr 0 [(n2+i4.toNat)] (.int .i64))::(vk (.int .i64) (ix l6 (n2+i4.toNat)))::(vk (.int .i64) (ix l6 (n2+i4.toNat)))::(vb (ltI (ix l6 (n2+i4.toNat)).i 32))::(vb false)::(vk (.int .i64) (ix l6 (n2+i4.toNat)))::(vb (eqI (ix l6 (n2+i4.toNat)).i 47))::(vb (eqI (ix l6 (n2+i4.toNat)).i 47))::(vb false)::(vk (.int .i64) (ix l6 (n2+i4.toNat)))::(vb (geI (ix l6 (n2+i4.toNat)).i 127))::(vb false)::v0::v0::(vb false)::(vb false)::(vb false)::(vk (.int .i64) (ix l6 (n2+i4.toNat)))::(vb (eqI (ix l6 (n2+i4.toNat)).i 65533))::(vb (eqI (ix l6 (n2+i4.toNat)).i 65533))::(vb true)::v0::v0::(vb true)::[]))))))) [(.row 3 true b5 l6)]
 | .e6 n2 n3 i4 b5 l6=>k .ret ((us 2 ((vb false)::(.sref 0 n2 n3)::(vi i4)::(vk (.int .i64) (ix l6 (n2+i4.toNat)))::(us 25 ((vi i4)::(.sref 0 n2 n3)::(vi (nI n3))::(vb (ltI i4 (nI n3)))::(us 2 ((.sref 0 n2 n3)::(vi i4)::(.ptr 0 [(n2+i4.toNat)] (.int .i64))::(vk (.int .i64) (ix l6 (n2+i4.toNat)))::(vk (.int .i64) (ix l6 (n2+i4.toNat)))::(vb (ltI (ix l6 (n2+i4.toNat)).i 32))::(vb false)::(vk (.int .i64) (ix l6 (n2+i4.toNat)))::(vb (eqI (ix l6 (n2+i4.toNat)).i 47))::(vb (eqI (ix l6 (n2+i4.toNat)).i 47))::(vb false)::(vk (.int .i64) (ix l6 (n2+i4.toNat)))::(vb (geI (ix l6 (n2+i4.toNat)).i 127))::(vb false)::v0::v0::(vb false)::(vb false)::(vb false)::(vk (.int .i64) (ix l6 (n2+i4.toNat)))::(vb (eqI (ix l6 (n2+i4.toNat)).i 65533))::(vb (eqI (ix l6 (n2+i4.toNat)).i 65533))::(vb false)::(vk (.int .i64) (ix l6 (n2+i4.toNat)))::(vb (geI (ix l6 (n2+i4.toNat)).i 1114112))::(vb (geI (ix l6 (n2+i4.toNat)).i 1114112))::[]))))))) [(.row 3 true b5 l6)]
 | .e7 n2 n3 i4 b5 l6=>k (.exit 0) ((us 3 ((.sref 0 n2 n3)::(vi i4)::(us 26 ((vi i4)::(.sref 0 n2 n3)::(vi (nI n3))::(vb (ltI i4 (nI n3)))::(us 28 [])))))) [(.row 3 true b5 l6)]
def lv5:S5→List Leaf
 | ⟨n2,n3,i4,b5,l6⟩=>[.n n2,.n n3,.i i4,.b b5,.l l6]
def of5:List Leaf→Option S5
 | [.n n2,.n n3,.i i4,.b b5,.l l6]=>some ⟨n2,n3,i4,b5,l6⟩
 | _=>none
def ps5:List PV:=((up 3 ((.sref 0)::(.d (.int .i64) (.int .i64))::(up 58 []))))
def qs5:List PO:=[(.row 3 true)]
noncomputable def t (M:Nat):List Ent:=⟨51,11,0,5,sumS [3,4] ps5 qs5 [] of5 (st5 M) ex5 M⟩::[]
theorem t_ok (M:Nat):AllOk (e M) (tblOf (t M)):=AllOk.addS (n0:=1) (lv:=lv5) AllOk.nil (by kernel_rfl) rfl (by intro ls s h;unfold of5 at h;(repeat' split at h)<;>simp at h;subst h;rfl) (by intro s;kernel_rfl) (by intro s;kernel_rfl) (by intro s nx k;kernel_rfl)
def s (M:Nat) (p0:ByteArray):Option D:=
 (bd (F103.s FUEL p0) fun r1=>(cond (ltI (nI r1.elems.length) 1) (some (db false)) (cond (gtI (nI r1.elems.length) 24) (some (db false)) (cond (inb 0 r1.elems.length) (cond (eqI (ix r1.elems 0).i 32) (some (db false)) (cond (inb (sb .i64 (nI r1.elems.length) 1) r1.elems.length) (cond (eqI (ix r1.elems (0+(sb .i64 (nI r1.elems.length) 1).toNat)).i 32) (some (db false)) (goS (st5 M) M ⟨0,r1.elems.length,0,r1.nn,r1.elems⟩ fun x=>match x with | .e0 n2 n3 i4 b5 l6=>(some (db false)) | .e1 n2 n3 i4 b5 l6=>(some (db false)) | .e2 n2 n3 i4 b5 l6=>(some (db false)) | .e3 n2 n3 i4 b5 l6=>(some (db false)) | .e4 n2 n3 i4 b5 l6=>(some (db false)) | .e5 n2 n3 i4 b5 l6=>(some (db false)) | .e6 n2 n3 i4 b5 l6=>(some (db false)) | .e7 n2 n3 i4 b5 l6=>(some (db true)))) none)) none))))
theorem run (M:Nat) (p0:ByteArray):callS (e M) (tblOf (t M)) 12 (.fn 51) [.d .str (dS p0)] [] (fun v H=>finish ty [4] v H)=s M p0:=by kernel_rfl
def c:Con:={ run:=fun ds=>match ds with | [p0]=>s FUEL p0.s | _=>none,plain:=true }
theorem ok:ConOk (51,c):=mkC Tryz.f51 [.str] [4] (by kernel_rfl) (by kernel_rfl) (by kernel_rfl) (by kernel_rfl) (allCons F103.ok allNil) allNil (t_ok FUEL) fun a=>run FUEL a.1
end F51
namespace F52
def s (M:Nat) (p0:Int) (p1:ByteArray):Option D:=
 (bd (F51.s FUEL p1) fun r1=>(cond (!r1.b) (some (D.tup [(da [(di 0),(dS (bs [])),(dS (bs [])),(db false),(di 0),(dl false [])]),(di 2)])) (cond (ltI p0 1) (some (D.tup [(da [(di 0),(dS (bs [])),(dS (bs [])),(db false),(di 0),(dl false [])]),(di 1)])) (cond (gtI p0 1099511627776) (some (D.tup [(da [(di 0),(dS (bs [])),(dS (bs [])),(db false),(di 0),(dl false [])]),(di 1)])) (some (D.tup [(da [(di p0),(dS p1),(dS (bs [])),(db false),(di 0),(dl false [])]),(di 0)]))))))
def c:Con:={ run:=fun ds=>match ds with | [p0,p1]=>s FUEL p0.i p1.s | _=>none }
end F52
namespace F53
end F53
namespace F54
def cons:List (Nat×Con):=[]
def exts:List (Nat×Ext):=[]
def h:List (Nat×Nat×Hint):=[]
noncomputable def e (M:Nat):Env:=env cons exts h M
def s (M:Nat) (p0:D) (p1:Int):Option D:=
 (cond (!(p0.at 3).b) (some (di 6)) (cond (ltI p1 (p0.at 4).i) (some (di 8)) (cond (gtI (nI (p0.at 5).elems.length) 0) (some (di 9)) (some (di 0)))))
theorem run (M:Nat) (p0:D) (p1:Int):callS (e M) (tblOf []) 12 (.fn 54) [.d (.struct [3,9,9,4,3,37]) p0,.d (.int .i64) (di p1)] [] (fun v H=>finish ty [36] v H)=s M p0 p1:=by kernel_rfl
def c:Con:={ run:=fun ds=>match ds with | [p0,p1]=>s FUEL p0 p1.i | _=>none,plain:=true }
theorem ok:ConOk (54,c):=mkC Tryz.f54 [(.struct [3,9,9,4,3,37]),(.int .i64)] [36] (by kernel_rfl) (by kernel_rfl) (by kernel_rfl) (by kernel_rfl) allNil allNil AllOk.nil fun a=>run FUEL a.1 a.2.1
end F54
namespace F104
def cons:List (Nat×Con):=[(103,F103.c)]
def exts:List (Nat×Ext):=[]
def h:List (Nat×Nat×Hint):=[(104,4,{ live:=[5,6,7] })]
noncomputable def e (M:Nat):Env:=env cons exts h M
structure S4 where
 (n3 n4 n5 n6:Nat) (i7:Int) (b8:Bool) (l9:List D) (b10:Bool) (l11:List D)
inductive X4 where
 | e0 (n3 n4 n5 n6:Nat) (i7:Int) (b8:Bool) (l9:List D) (b10:Bool) (l11:List D)
 | e1 (n3 n4 n5 n6:Nat) (i7:Int) (b8:Bool) (l9:List D) (b10:Bool) (l11:List D)
 | e2 (n3 n4 n5 n6:Nat) (i7:Int) (b8:Bool) (l9:List D) (b10:Bool) (l11:List D)
def st4 (M:Nat):S4→(S4→Option D)→(X4→Option D)→Option D
 | ⟨n3,n4,n5,n6,i7,b8,l9,b10,l11⟩,rec,K=>(cond (ltI i7 (nI n4)) (cond (ltI i7 (nI n6)) (cond (inb i7 n4) (cond (inb i7 n6) (cond (neI (ix l9 (n3+i7.toNat)).i (ix l11 (n5+i7.toNat)).i) (cond (inb i7 n4) (cond (inb i7 n6) (K (.e0 n3 n4 n5 n6 i7 b8 l9 b10 l11)) none) none) (rec ⟨n3,n4,n5,n6,(ad .i64 i7 1),b8,l9,b10,l11⟩)) none) none) (K (.e1 n3 n4 n5 n6 i7 b8 l9 b10 l11))) (K (.e2 n3 n4 n5 n6 i7 b8 l9 b10 l11)))
def ex4 (k:Kont):X4→Option D
 | .e0 n3 n4 n5 n6 i7 b8 l9 b10 l11=>k .ret ((us 4 ((vb (ltI (ix l9 (n3+i7.toNat)).i (ix l11 (n5+i7.toNat)).i))::(.sref 0 n3 n4)::(.sref 1 n5 n6)::(vi i7)::(us 4 ((vi i7)::(.sref 0 n3 n4)::(vi (nI n4))::(vb (ltI i7 (nI n4)))::(vb true)::(vi i7)::(.sref 1 n5 n6)::(vi (nI n6))::(vb (ltI i7 (nI n6)))::(vb (ltI i7 (nI n6)))::(us 2 ((.sref 0 n3 n4)::(vi i7)::(.ptr 0 [(n3+i7.toNat)] (.int .i64))::(vk (.int .i64) (ix l9 (n3+i7.toNat)))::(.sref 1 n5 n6)::(vi i7)::(.ptr 1 [(n5+i7.toNat)] (.int .i64))::(vk (.int .i64) (ix l11 (n5+i7.toNat)))::(vb (neI (ix l9 (n3+i7.toNat)).i (ix l11 (n5+i7.toNat)).i))::(.sref 0 n3 n4)::(vi i7)::(.ptr 0 [(n3+i7.toNat)] (.int .i64))::(vk (.int .i64) (ix l9 (n3+i7.toNat)))::(.sref 1 n5 n6)::(vi i7)::(.ptr 1 [(n5+i7.toNat)] (.int .i64))::(vk (.int .i64) (ix l11 (n5+i7.toNat)))::(vb (ltI (ix l9 (n3+i7.toNat)).i (ix l11 (n5+i7.toNat)).i))::(us 5 [])))))))) [(.row 3 true b8 l9),(.row 3 true b10 l11)]
 | .e1 n3 n4 n5 n6 i7 b8 l9 b10 l11=>k (.exit 0) ((us 5 ((.sref 0 n3 n4)::(.sref 1 n5 n6)::(vi i7)::(us 4 ((vi i7)::(.sref 0 n3 n4)::(vi (nI n4))::(vb (ltI i7 (nI n4)))::(vb true)::(vi i7)::(.sref 1 n5 n6)::(vi (nI n6))::(vb (ltI i7 (nI n6)))::(vb (ltI i7 (nI n6)))::(us 25 [])))))) [(.row 3 true b8 l9),(.row 3 true b10 l11)]
 | .e2 n3 n4 n5 n6 i7 b8 l9 b10 l11=>k (.exit 0) ((us 5 ((.sref 0 n3 n4)::(.sref 1 n5 n6)::(vi i7)::(us 4 ((vi i7)::(.sref 0 n3 n4)::(vi (nI n4))::(vb (ltI i7 (nI n4)))::(vb false)::v0::v0::v0::v0::(vb false)::(us 25 [])))))) [(.row 3 true b8 l9),(.row 3 true b10 l11)]
def lv4:S4→List Leaf
 | ⟨n3,n4,n5,n6,i7,b8,l9,b10,l11⟩=>[.n n3,.n n4,.n n5,.n n6,.i i7,.b b8,.l l9,.b b10,.l l11]
def of4:List Leaf→Option S4
 | [.n n3,.n n4,.n n5,.n n6,.i i7,.b b8,.l l9,.b b10,.l l11]=>some ⟨n3,n4,n5,n6,i7,b8,l9,b10,l11⟩
 | _=>none
def ps4:List PV:=((up 5 ((.sref 0)::(.sref 1)::(.d (.int .i64) (.int .i64))::(up 39 []))))
def qs4:List PO:=[(.row 3 true),(.row 3 true)]
noncomputable def t (M:Nat):List Ent:=⟨104,11,0,4,sumS [5,6,7] ps4 qs4 [] of4 (st4 M) ex4 M⟩::[]
theorem t_ok (M:Nat):AllOk (e M) (tblOf (t M)):=AllOk.addS (n0:=2) (lv:=lv4) AllOk.nil (by kernel_rfl) rfl (by intro ls s h;unfold of4 at h;(repeat' split at h)<;>simp at h;subst h;rfl) (by intro s;kernel_rfl) (by intro s;kernel_rfl) (by intro s nx k;kernel_rfl)
def s (M:Nat) (p0:ByteArray) (p1:ByteArray):Option D:=
 (bd (F103.s FUEL p0) fun r1=>(bd (F103.s FUEL p1) fun r2=>(goS (st4 M) M ⟨0,r1.elems.length,0,r2.elems.length,0,r1.nn,r1.elems,r2.nn,r2.elems⟩ fun x=>match x with | .e0 n3 n4 n5 n6 i7 b8 l9 b10 l11=>(some (db (ltI (ix l9 (n3+i7.toNat)).i (ix l11 (n5+i7.toNat)).i))) | .e1 n3 n4 n5 n6 i7 b8 l9 b10 l11=>(some (db (ltI (nI n4) (nI n6)))) | .e2 n3 n4 n5 n6 i7 b8 l9 b10 l11=>(some (db (ltI (nI n4) (nI n6)))))))
theorem run (M:Nat) (p0:ByteArray) (p1:ByteArray):callS (e M) (tblOf (t M)) 12 (.fn 104) [.d .str (dS p0),.d .str (dS p1)] [] (fun v H=>finish ty [4] v H)=s M p0 p1:=by kernel_rfl
def c:Con:={ run:=fun ds=>match ds with | [p0,p1]=>s FUEL p0.s p1.s | _=>none,plain:=true }
theorem ok:ConOk (104,c):=mkC Tryz.f104 [.str,.str] [4] (by kernel_rfl) (by kernel_rfl) (by kernel_rfl) (by kernel_rfl) (allCons F103.ok allNil) allNil (t_ok FUEL) fun a=>run FUEL a.1 a.2.1
end F104
namespace F55
structure S6 where
 (n7 n8:Nat) (i9 i10:Int) (d11:D) (b12:Bool) (l13:List D)
def of6:List Leaf→Option S6
 | [.n n7,.n n8,.i i9,.i i10,.d d11,.b b12,.l l13]=>some ⟨n7,n8,i9,i10,d11,b12,l13⟩
 | _=>none
end F55
namespace F56
end F56
namespace F105
end F105
namespace F92
def cons:List (Nat×Con):=[]
def exts:List (Nat×Ext):=[]
def h:List (Nat×Nat×Hint):=[]
noncomputable def e (M:Nat):Env:=env cons exts h M
def s (M:Nat) (p0:D) (p1:Int):Option D:=
 (cond (p0.at 3).b (some (D.tup [p0,(di 5)])) (cond (ltI p1 0) (some (D.tup [p0,(di 1)])) (cond (gtI p1 1099511627776) (some (D.tup [p0,(di 1)])) (some (D.tup [(D.agg ((D.agg (p0.parts.set 3 (db true))).parts.set 4 (di p1))),(di 0)])))))
theorem run (M:Nat) (p0:D) (p1:Int):callS (e M) (tblOf []) 12 (.fn 92) [.d (.struct [3,9,9,4,3,37]) p0,.d (.int .i64) (di p1)] [] (fun v H=>finish ty [39,36] v H)=s M p0 p1:=by kernel_rfl
def c:Con:={ run:=fun ds=>match ds with | [p0,p1]=>s FUEL p0 p1.i | _=>none }
theorem ok:ConOk (92,c):=mkC Tryz.f92 [(.struct [3,9,9,4,3,37]),(.int .i64)] [39,36] (by kernel_rfl) (by kernel_rfl) (by kernel_rfl) (by kernel_rfl) allNil allNil AllOk.nil fun a=>run FUEL a.1 a.2.1
end F92
namespace F96
def cons:List (Nat×Con):=[]
def exts:List (Nat×Ext):=[]
def h:List (Nat×Nat×Hint):=[]
noncomputable def e (M:Nat):Env:=env cons exts h M
def s (M:Nat)  : Option D:=
 (some (da [(D.int .u32 1779033703),(D.int .u32 3144134277),(D.int .u32 1013904242),(D.int .u32 2773480762),(D.int .u32 1359893119),(D.int .u32 2600822924),(D.int .u32 528734635),(D.int .u32 1541459225)]))
theorem run (M:Nat)  : callS (e M) (tblOf []) 12 (.fn 96) [] [] (fun v H=>finish ty [140] v H)=s M  := by kernel_rfl
def c:Con:={ run:=fun ds=>match ds with | []=>s FUEL  | _=>none,plain:=true }
theorem ok:ConOk (96,c):=mkC Tryz.f96 [] [140] (by kernel_rfl) (by kernel_rfl) (by kernel_rfl) (by kernel_rfl) allNil allNil AllOk.nil fun _=>run FUEL
end F96
namespace F97
def cons:List (Nat×Con):=[]
def exts:List (Nat×Ext):=[]
def h:List (Nat×Nat×Hint):=[]
noncomputable def e (M:Nat):Env:=env cons exts h M
def s (M:Nat)  : Option D:=
 (some (da [(D.int .u32 1116352408),(D.int .u32 1899447441),(D.int .u32 3049323471),(D.int .u32 3921009573),(D.int .u32 961987163),(D.int .u32 1508970993),(D.int .u32 2453635748),(D.int .u32 2870763221),(D.int .u32 3624381080),(D.int .u32 310598401),(D.int .u32 607225278),(D.int .u32 1426881987),(D.int .u32 1925078388),(D.int .u32 2162078206),(D.int .u32 2614888103),(D.int .u32 3248222580),(D.int .u32 3835390401),(D.int .u32 4022224774),(D.int .u32 264347078),(D.int .u32 604807628),(D.int .u32 770255983),(D.int .u32 1249150122),(D.int .u32 1555081692),(D.int .u32 1996064986),(D.int .u32 2554220882),(D.int .u32 2821834349),(D.int .u32 2952996808),(D.int .u32 3210313671),(D.int .u32 3336571891),(D.int .u32 3584528711),(D.int .u32 113926993),(D.int .u32 338241895),(D.int .u32 666307205),(D.int .u32 773529912),(D.int .u32 1294757372),(D.int .u32 1396182291),(D.int .u32 1695183700),(D.int .u32 1986661051),(D.int .u32 2177026350),(D.int .u32 2456956037),(D.int .u32 2730485921),(D.int .u32 2820302411),(D.int .u32 3259730800),(D.int .u32 3345764771),(D.int .u32 3516065817),(D.int .u32 3600352804),(D.int .u32 4094571909),(D.int .u32 275423344),(D.int .u32 430227734),(D.int .u32 506948616),(D.int .u32 659060556),(D.int .u32 883997877),(D.int .u32 958139571),(D.int .u32 1322822218),(D.int .u32 1537002063),(D.int .u32 1747873779),(D.int .u32 1955562222),(D.int .u32 2024104815),(D.int .u32 2227730452),(D.int .u32 2361852424),(D.int .u32 2428436474),(D.int .u32 2756734187),(D.int .u32 3204031479),(D.int .u32 3329325298)]))
theorem run (M:Nat)  : callS (e M) (tblOf []) 12 (.fn 97) [] [] (fun v H=>finish ty [141] v H)=s M  := by kernel_rfl
def c:Con:={ run:=fun ds=>match ds with | []=>s FUEL  | _=>none,plain:=true }
theorem ok:ConOk (97,c):=mkC Tryz.f97 [] [141] (by kernel_rfl) (by kernel_rfl) (by kernel_rfl) (by kernel_rfl) allNil allNil AllOk.nil fun _=>run FUEL
end F97
namespace F98
def cons:List (Nat×Con):=[]
def exts:List (Nat×Ext):=[]
def h:List (Nat×Nat×Hint):=[(98,2,{ own:=true }),(98,3,{ live:=[0,3],rows:=[(3,5)] }),(98,4,{ own:=true }),(98,8,{ live:=[3,4,5,6],rows:=[(5,5)] }),(98,10,{ own:=true })]
noncomputable def e (M:Nat):Env:=env cons exts h M
structure S3 where
 (s1:ByteArray) (n2 n3:Nat) (b4:Bool) (l5:List D) (b6:Bool) (l7:List D)
inductive X3 where
 | e0 (s1:ByteArray) (n2 n3:Nat) (b4:Bool) (l5:List D) (b6:Bool) (l7:List D)
def st3 (M:Nat):S3→(S3→Option D)→(X3→Option D)→Option D
 | ⟨s1,n2,n3,b4,l5,b6,l7⟩,rec,K=>(cond (neI (remI (nI n3) 64) 56) (cond (mx (n3+1)) (rec ⟨s1,0,(n3+1),b4,l5,(b6||true),(ap ((l7.drop n2).take n3) [(D.int .u8 0)])⟩) none) (K (.e0 s1 n2 n3 b4 l5 b6 l7)))
def ex3 (k:Kont):X3→Option D
 | .e0 s1 n2 n3 b4 l5 b6 l7=>k (.exit 0) ((vS s1)::(us 2 ((.sref 2 n2 n3)::(us 8 ((.sref 2 n2 n3)::(vi (nI n3))::(vi (remI (nI n3) 64))::(vb (neI (remI (nI n3) 64) 56))::(us 23 [])))))) [.dead,(.row 5 true b4 l5),(.row 5 true b6 l7)]
def lv3:S3→List Leaf
 | ⟨s1,n2,n3,b4,l5,b6,l7⟩=>[.s s1,.n n2,.n n3,.b b4,.l l5,.b b6,.l l7]
def of3:List Leaf→Option S3
 | [.s s1,.n n2,.n n3,.b b4,.l l5,.b b6,.l l7]=>some ⟨s1,n2,n3,b4,l5,b6,l7⟩
 | _=>none
def ps3:List PV:=((.d .str .str)::(up 2 ((.sref 2)::(up 35 []))))
def qs3:List PO:=[.dead,(.row 5 true),(.row 5 true)]
noncomputable def t1 (M:Nat):List Ent:=⟨98,11,0,3,sumS [0,3] ps3 qs3 [(3,2)] of3 (st3 M) ex3 M⟩::[]
theorem t1_ok (M:Nat):AllOk (e M) (tblOf (t1 M)):=AllOk.addS (n0:=3) (lv:=lv3) AllOk.nil (by kernel_rfl) rfl (by intro ls s h;unfold of3 at h;(repeat' split at h)<;>simp at h;subst h;rfl) (by intro s;kernel_rfl) (by intro s;kernel_rfl) (by intro s nx k;kernel_rfl)
structure S8 where
 (n8 n9:Nat) (i10:Int) (n11 n12:Nat) (i13:Int) (b14:Bool) (l15:List D) (b16:Bool) (l17:List D) (b18:Bool) (l19:List D)
inductive X8 where
 | e0 (n8 n9:Nat) (i10:Int) (n11 n12:Nat) (i13:Int) (b14:Bool) (l15:List D) (b16:Bool) (l17:List D) (b18:Bool) (l19:List D)
def st8 (M:Nat):S8→(S8→Option D)→(X8→Option D)→Option D
 | ⟨n8,n9,i10,n11,n12,i13,b14,l15,b16,l17,b18,l19⟩,rec,K=>(cond (ltI i13 8) (cond (mx (1+((l19.drop n11).take n12).length)) (rec ⟨n8,n9,(quoI .u64 i10 256),0,(1+((l19.drop n11).take n12).length),(ad .i64 i13 1),b14,l15,b16,l17,true,(ap [(D.int .u8 (cv .u8 (remI i10 256)))] ((l19.drop n11).take n12))⟩) none) (K (.e0 n8 n9 i10 n11 n12 i13 b14 l15 b16 l17 b18 l19)))
def ex8 (k:Kont):X8→Option D
 | .e0 n8 n9 i10 n11 n12 i13 b14 l15 b16 l17 b18 l19=>k (.exit 2) ((us 3 ((.sref 2 n8 n9)::(vk (.int .u64) (D.int .u64 i10))::(.sref 3 n11 n12)::(vi i13)::(us 16 ((vi i13)::(vb (ltI i13 8))::(us 14 [])))))) [.dead,(.row 5 true b14 l15),(.row 5 true b16 l17),(.row 5 true b18 l19)]
def lv8:S8→List Leaf
 | ⟨n8,n9,i10,n11,n12,i13,b14,l15,b16,l17,b18,l19⟩=>[.n n8,.n n9,.i i10,.n n11,.n n12,.i i13,.b b14,.l l15,.b b16,.l l17,.b b18,.l l19]
def of8:List Leaf→Option S8
 | [.n n8,.n n9,.i i10,.n n11,.n n12,.i i13,.b b14,.l l15,.b b16,.l l17,.b b18,.l l19]=>some ⟨n8,n9,i10,n11,n12,i13,b14,l15,b16,l17,b18,l19⟩
 | _=>none
def ps8:List PV:=((up 3 ((.sref 2)::(.d (.int .u64) (.int .u64))::(.sref 3)::(.d (.int .i64) (.int .i64))::(up 32 []))))
def qs8:List PO:=[.dead,(.row 5 true),(.row 5 true),(.row 5 true)]
noncomputable def t (M:Nat):List Ent:=⟨98,11,0,8,sumS [3,4,5,6] ps8 qs8 [(5,3)] of8 (st8 M) ex8 M⟩::t1 M
theorem t_ok (M:Nat):AllOk (e M) (tblOf (t M)):=AllOk.addS (n0:=4) (lv:=lv8) (t1_ok M) (by kernel_rfl) rfl (by intro ls s h;unfold of8 at h;(repeat' split at h)<;>simp at h;subst h;rfl) (by intro s;kernel_rfl) (by intro s;kernel_rfl) (by intro s nx k;kernel_rfl)
def s (M:Nat) (p0:ByteArray):Option D:=
 (cond (mx p0.size) (cond (mx (p0.size+1)) (goS (st3 M) M ⟨p0,0,(p0.size+1),true,[(D.int .u8 128)],true,(ap (((bytesOf p0).drop 0).take p0.size) [(D.int .u8 128)])⟩ fun x=>match x with | .e0 s1 n2 n3 b4 l5 b6 l7=>(goS (st8 M) M ⟨n2,n3,(ml .u64 (cv .u64 (nI s1.size)) 8),0,0,0,b4,l5,b6,l7,false,[]⟩ fun x=>match x with | .e0 n8 n9 i10 n11 n12 i13 b14 l15 b16 l17 b18 l19=>(cond (mx (n9+((l19.drop n11).take n12).length)) (some (dS (ofBytes (((ap ((l17.drop n8).take n9) ((l19.drop n11).take n12)).drop 0).take (n9+((l19.drop n11).take n12).length))))) none))) none) none)
theorem run (M:Nat) (p0:ByteArray):callS (e M) (tblOf (t M)) 12 (.fn 98) [.d .str (dS p0)] [] (fun v H=>finish ty [9] v H)=s M p0:=by kernel_rfl
def c:Con:={ run:=fun ds=>match ds with | [p0]=>s FUEL p0.s | _=>none,plain:=true }
theorem ok:ConOk (98,c):=mkC Tryz.f98 [.str] [9] (by kernel_rfl) (by kernel_rfl) (by kernel_rfl) (by kernel_rfl) allNil allNil (t_ok FUEL) fun a=>run FUEL a.1
end F98
namespace F99
def cons:List (Nat×Con):=[]
def exts:List (Nat×Ext):=[]
def h:List (Nat×Nat×Hint):=[(99,2,{ live:=[0,1,5] })]
noncomputable def e (M:Nat):Env:=env cons exts h M
structure S2 where
 (i1 i2 i3:Int)
inductive X2 where
 | e0 (i1 i2 i3:Int)
def st2 (M:Nat):S2→(S2→Option D)→(X2→Option D)→Option D
 | ⟨i1,i2,i3⟩,rec,K=>(cond (ltI i3 i2) (cond (eqI (remI i1 2) 1) (rec ⟨(ad .u32 (quoI .u32 i1 2) 2147483648),i2,(ad .i64 i3 1)⟩) (rec ⟨(quoI .u32 i1 2),i2,(ad .i64 i3 1)⟩)) (K (.e0 i1 i2 i3)))
def ex2 (k:Kont):X2→Option D
 | .e0 i1 i2 i3=>k (.exit 0) ((vk (.int .u32) (D.int .u32 i1))::(vi i2)::(us 3 ((vi i3)::(us 1 ((vi i3)::(vi i2)::(vb (ltI i3 i2))::(us 11 [])))))) []
def lv2:S2→List Leaf
 | ⟨i1,i2,i3⟩=>[.i i1,.i i2,.i i3]
def of2:List Leaf→Option S2
 | [.i i1,.i i2,.i i3]=>some ⟨i1,i2,i3⟩
 | _=>none
def ps2:List PV:=((.d (.int .u32) (.int .u32))::(.d (.int .i64) (.int .i64))::(up 3 ((.d (.int .i64) (.int .i64))::(up 15 []))))
def qs2:List PO:=[]
noncomputable def t (M:Nat):List Ent:=⟨99,11,0,2,sumS [0,1,5] ps2 qs2 [] of2 (st2 M) ex2 M⟩::[]
theorem t_ok (M:Nat):AllOk (e M) (tblOf (t M)):=AllOk.addS (n0:=0) (lv:=lv2) AllOk.nil (by kernel_rfl) rfl (by intro ls s h;unfold of2 at h;(repeat' split at h)<;>simp at h;subst h;rfl) (by intro s;kernel_rfl) (by intro s;kernel_rfl) (by intro s nx k;kernel_rfl)
def s (M:Nat) (p0:Int) (p1:Int):Option D:=
 (goS (st2 M) M ⟨p0,p1,0⟩ fun x=>match x with | .e0 i1 i2 i3=>(some (D.int .u32 i1)))
theorem run (M:Nat) (p0:Int) (p1:Int):callS (e M) (tblOf (t M)) 12 (.fn 99) [.d (.int .u32) (D.int .u32 p0),.d (.int .i64) (di p1)] [] (fun v H=>finish ty [139] v H)=s M p0 p1:=by kernel_rfl
def c:Con:={ run:=fun ds=>match ds with | [p0,p1]=>s FUEL p0.i p1.i | _=>none,plain:=true }
theorem ok:ConOk (99,c):=mkC Tryz.f99 [(.int .u32),(.int .i64)] [139] (by kernel_rfl) (by kernel_rfl) (by kernel_rfl) (by kernel_rfl) allNil allNil (t_ok FUEL) fun a=>run FUEL a.1 a.2.1
end F99
namespace F100
def cons:List (Nat×Con):=[]
def exts:List (Nat×Ext):=[]
def h:List (Nat×Nat×Hint):=[(100,2,{ live:=[0,1,5] })]
noncomputable def e (M:Nat):Env:=env cons exts h M
structure S2 where
 (i1 i2 i3:Int)
inductive X2 where
 | e0 (i1 i2 i3:Int)
def st2 (M:Nat):S2→(S2→Option D)→(X2→Option D)→Option D
 | ⟨i1,i2,i3⟩,rec,K=>(cond (ltI i3 i2) (rec ⟨(quoI .u32 i1 2),i2,(ad .i64 i3 1)⟩) (K (.e0 i1 i2 i3)))
def ex2 (k:Kont):X2→Option D
 | .e0 i1 i2 i3=>k (.exit 0) ((vk (.int .u32) (D.int .u32 i1))::(vi i2)::(us 3 ((vi i3)::(vi i3)::(vi i2)::(vb (ltI i3 i2))::(us 5 [])))) []
def lv2:S2→List Leaf
 | ⟨i1,i2,i3⟩=>[.i i1,.i i2,.i i3]
def of2:List Leaf→Option S2
 | [.i i1,.i i2,.i i3]=>some ⟨i1,i2,i3⟩
 | _=>none
def ps2:List PV:=((.d (.int .u32) (.int .u32))::(.d (.int .i64) (.int .i64))::(up 3 ((.d (.int .i64) (.int .i64))::(up 8 []))))
def qs2:List PO:=[]
noncomputable def t (M:Nat):List Ent:=⟨100,11,0,2,sumS [0,1,5] ps2 qs2 [] of2 (st2 M) ex2 M⟩::[]
theorem t_ok (M:Nat):AllOk (e M) (tblOf (t M)):=AllOk.addS (n0:=0) (lv:=lv2) AllOk.nil (by kernel_rfl) rfl (by intro ls s h;unfold of2 at h;(repeat' split at h)<;>simp at h;subst h;rfl) (by intro s;kernel_rfl) (by intro s;kernel_rfl) (by intro s nx k;kernel_rfl)
def s (M:Nat) (p0:Int) (p1:Int):Option D:=
 (goS (st2 M) M ⟨p0,p1,0⟩ fun x=>match x with | .e0 i1 i2 i3=>(some (D.int .u32 i1)))
theorem run (M:Nat) (p0:Int) (p1:Int):callS (e M) (tblOf (t M)) 12 (.fn 100) [.d (.int .u32) (D.int .u32 p0),.d (.int .i64) (di p1)] [] (fun v H=>finish ty [139] v H)=s M p0 p1:=by kernel_rfl
def c:Con:={ run:=fun ds=>match ds with | [p0,p1]=>s FUEL p0.i p1.i | _=>none,plain:=true }
theorem ok:ConOk (100,c):=mkC Tryz.f100 [(.int .u32),(.int .i64)] [139] (by kernel_rfl) (by kernel_rfl) (by kernel_rfl) (by kernel_rfl) allNil allNil (t_ok FUEL) fun a=>run FUEL a.1 a.2.1
end F100
namespace F44
def cons:List (Nat×Con):=[(96,F96.c),(97,F97.c),(98,F98.c),(99,F99.c),(100,F100.c)]
def exts:List (Nat×Ext):=[]
def h:List (Nat×Nat×Hint):=[(44,5,{ live:=[2,3,4,5,6] }),(44,9,{ live:=[2,3,4,5,6,7,8] }),(44,13,{ live:=[2,3,4,5,6,7,8,9] }),(44,21,{ live:=[2,3,4,5,6,7,12,13] }),(44,30,{ live:=[2,3,4,5,6,12,19] }),(44,35,{ live:=[2,3,20,21] }),(44,39,{ live:=[2,3,20,21,22,23] })]
def q0_:PO:=(.var (.array 64 139) (.d (.array 64 139) .x))
def q1_:PO:=(.var (.array 8 139) (.d (.array 8 139) .x))
def q2_:PO:=(.var (.array 32 5) (.d (.array 32 5) .x))
noncomputable def e (M:Nat):Env:=env cons exts h M
structure S13 where
 (d16:D) (i17 i18 i19:Int) (d20 d21 d22 d23:D)
inductive X13 where
 | e0 (d16:D) (i17 i18 i19:Int) (d20 d21 d22 d23:D)
def st13 (M:Nat):S13→(S13→Option D)→(X13→Option D)→Option D
 | ⟨d16,i17,i18,i19,d20,d21,d22,d23⟩,rec,K=>(cond (ltI i19 4) (cond (inb i18 64) (cond (inb (ad .i64 (ad .i64 i17 (ml .i64 4 i18)) i19) d16.s.size) (cond (inb i18 64) (rec ⟨d16,i17,i18,(ad .i64 i19 1),d20,d21,d22,(D.agg (d23.parts.set i18.toNat (D.int .u32 (ad .u32 (ml .u32 (d23.at i18.toNat).i 256) (cv .u32 (byteAt d16.s (ad .i64 (ad .i64 i17 (ml .i64 4 i18)) i19).toNat))))))⟩) none) none) none) (K (.e0 d16 i17 i18 i19 d20 d21 d22 d23)))
def ex13 (k:Kont):X13→Option D
 | .e0 d16 i17 i18 i19 d20 d21 d22 d23=>k (.exit 4) ((us 2 ((.ptr 0 [] (.array 32 5))::(.ptr 1 [] (.array 8 139))::(.ptr 2 [] (.array 64 139))::(vk .str d16)::(vi i17)::(.ptr 3 [] (.array 64 139))::(vi i18)::(vi i19)::(us 30 ((vi i19)::(vb (ltI i19 4))::(us 174 [])))))) [(.var (.array 32 5) (vk (.array 32 5) d20)),(.var (.array 8 139) (vk (.array 8 139) d21)),(.var (.array 64 139) (vk (.array 64 139) d22)),(.var (.array 64 139) (vk (.array 64 139) d23))]
def lv13:S13→List Leaf
 | ⟨d16,i17,i18,i19,d20,d21,d22,d23⟩=>[.d d16,.i i17,.i i18,.i i19,.d d20,.d d21,.d d22,.d d23]
def of13:List Leaf→Option S13
 | [.d d16,.i i17,.i i18,.i i19,.d d20,.d d21,.d d22,.d d23]=>some ⟨d16,i17,i18,i19,d20,d21,d22,d23⟩
 | _=>none
def ps13:List PV:=((up 2 ((.ptr 0 [] (.array 32 5))::(.ptr 1 [] (.array 8 139))::(.ptr 2 [] (.array 64 139))::(.d .str .x)::(.d (.int .i64) (.int .i64))::(.ptr 3 [] (.array 64 139))::(.d (.int .i64) (.int .i64))::(.d (.int .i64) (.int .i64))::(up 206 []))))
def qs13:List PO:=[q2_,q1_,q0_,q0_]
noncomputable def t1 (M:Nat):List Ent:=⟨44,11,0,13,sumS [2,3,4,5,6,7,8,9] ps13 qs13 [] of13 (st13 M) ex13 M⟩::[]
theorem t1_ok (M:Nat):AllOk (e M) (tblOf (t1 M)):=AllOk.addS (n0:=4) (lv:=lv13) AllOk.nil (by kernel_rfl) rfl (by intro ls s h;unfold of13 at h;(repeat' split at h)<;>simp at h;subst h;rfl) (by intro s;kernel_rfl) (by intro s;kernel_rfl) (by intro s nx k;kernel_rfl)
structure S9 where
 (d9:D) (i10 i11:Int) (d12 d13 d14 d15:D)
inductive X9 where
 | e0 (d9:D) (i10 i11:Int) (d12 d13 d14 d15:D)
def st9 (M:Nat):S9→(S9→Option D)→(X9→Option D)→Option D
 | ⟨d9,i10,i11,d12,d13,d14,d15⟩,rec,K=>(cond (ltI i11 64) (cond (ltI i11 16) (goS (st13 M) M ⟨d9,i10,i11,0,d12,d13,d14,d15⟩ fun x=>match x with | .e0 d16 i17 i18 i19 d20 d21 d22 d23=>(rec ⟨d16,i17,(ad .i64 i18 1),d20,d21,d22,d23⟩)) (cond (inb (sb .i64 i11 15) 64) (cond (inb (sb .i64 i11 2) 64) (bd (F99.s FUEL (d15.at (sb .i64 i11 2).toNat).i 17) fun r24=>(bd (F99.s FUEL (d15.at (sb .i64 i11 2).toNat).i 19) fun r25=>(bd (F100.s FUEL (d15.at (sb .i64 i11 2).toNat).i 10) fun r26=>(cond (inb (sb .i64 i11 7) 64) (bd (F99.s FUEL (d15.at (sb .i64 i11 15).toNat).i 7) fun r27=>(bd (F99.s FUEL (d15.at (sb .i64 i11 15).toNat).i 18) fun r28=>(bd (F100.s FUEL (d15.at (sb .i64 i11 15).toNat).i 3) fun r29=>(cond (inb (sb .i64 i11 16) 64) (cond (inb i11 64) (rec ⟨d9,i10,(ad .i64 i11 1),d12,d13,d14,(D.agg (d15.parts.set i11.toNat (D.int .u32 (ad .u32 (ad .u32 (ad .u32 (xorI .u32 (xorI .u32 r24.i r25.i) r26.i) (d15.at (sb .i64 i11 7).toNat).i) (xorI .u32 (xorI .u32 r27.i r28.i) r29.i)) (d15.at (sb .i64 i11 16).toNat).i))))⟩) none) none)))) none)))) none) none)) (K (.e0 d9 i10 i11 d12 d13 d14 d15)))
def ex9 (k:Kont):X9→Option D
 | .e0 d9 i10 i11 d12 d13 d14 d15=>k (.exit 2) ((us 2 ((.ptr 0 [] (.array 32 5))::(.ptr 1 [] (.array 8 139))::(.ptr 2 [] (.array 64 139))::(vk .str d9)::(vi i10)::(.ptr 3 [] (.array 64 139))::(vi i11)::(us 25 ((vi i11)::(vb (ltI i11 64))::(us 180 [])))))) [(.var (.array 32 5) (vk (.array 32 5) d12)),(.var (.array 8 139) (vk (.array 8 139) d13)),(.var (.array 64 139) (vk (.array 64 139) d14)),(.var (.array 64 139) (vk (.array 64 139) d15))]
def lv9:S9→List Leaf
 | ⟨d9,i10,i11,d12,d13,d14,d15⟩=>[.d d9,.i i10,.i i11,.d d12,.d d13,.d d14,.d d15]
def of9:List Leaf→Option S9
 | [.d d9,.i i10,.i i11,.d d12,.d d13,.d d14,.d d15]=>some ⟨d9,i10,i11,d12,d13,d14,d15⟩
 | _=>none
def ps9:List PV:=((up 2 ((.ptr 0 [] (.array 32 5))::(.ptr 1 [] (.array 8 139))::(.ptr 2 [] (.array 64 139))::(.d .str .x)::(.d (.int .i64) (.int .i64))::(.ptr 3 [] (.array 64 139))::(.d (.int .i64) (.int .i64))::(up 207 []))))
def qs9:List PO:=[q2_,q1_,q0_,q0_]
noncomputable def t2 (M:Nat):List Ent:=⟨44,11,0,9,sumS [2,3,4,5,6,7,8] ps9 qs9 [] of9 (st9 M) ex9 M⟩::t1 M
theorem t2_ok (M:Nat):AllOk (e M) (tblOf (t2 M)):=AllOk.addS (n0:=4) (lv:=lv9) (t1_ok M) (by kernel_rfl) rfl (by intro ls s h;unfold of9 at h;(repeat' split at h)<;>simp at h;subst h;rfl) (by intro s;kernel_rfl) (by intro s;kernel_rfl) (by intro s nx k;kernel_rfl)
structure S21 where
 (d30:D) (i31 i32:Int) (d33 d34 d35 d36 d37:D)
inductive X21 where
 | e0 (d30:D) (i31 i32:Int) (d33 d34 d35 d36 d37:D)
def st21 (M:Nat):S21→(S21→Option D)→(X21→Option D)→Option D
 | ⟨d30,i31,i32,d33,d34,d35,d36,d37⟩,rec,K=>(cond (ltI i32 64) (bd (F99.s FUEL (d37.at 4).i 6) fun r38=>(bd (F99.s FUEL (d37.at 4).i 11) fun r39=>(bd (F99.s FUEL (d37.at 4).i 25) fun r40=>(cond (inb i32 64) (cond (inb i32 64) (bd (F99.s FUEL (d37.at 0).i 2) fun r41=>(bd (F99.s FUEL (d37.at 0).i 13) fun r42=>(bd (F99.s FUEL (d37.at 0).i 22) fun r43=>(rec ⟨d30,i31,(ad .i64 i32 1),d33,d34,d35,d36,(da [(D.int .u32 (ad .u32 (ad .u32 (ad .u32 (ad .u32 (ad .u32 (d37.at 7).i (xorI .u32 (xorI .u32 r38.i r39.i) r40.i)) (xorI .u32 (andI .u32 (d37.at 4).i (d37.at 5).i) (andI .u32 (sb .u32 4294967295 (d37.at 4).i) (d37.at 6).i))) (d35.at i32.toNat).i) (d36.at i32.toNat).i) (ad .u32 (xorI .u32 (xorI .u32 r41.i r42.i) r43.i) (xorI .u32 (xorI .u32 (andI .u32 (d37.at 0).i (d37.at 1).i) (andI .u32 (d37.at 0).i (d37.at 2).i)) (andI .u32 (d37.at 1).i (d37.at 2).i))))),(d37.at 0),(d37.at 1),(d37.at 2),(D.int .u32 (ad .u32 (d37.at 3).i (ad .u32 (ad .u32 (ad .u32 (ad .u32 (d37.at 7).i (xorI .u32 (xorI .u32 r38.i r39.i) r40.i)) (xorI .u32 (andI .u32 (d37.at 4).i (d37.at 5).i) (andI .u32 (sb .u32 4294967295 (d37.at 4).i) (d37.at 6).i))) (d35.at i32.toNat).i) (d36.at i32.toNat).i))),(d37.at 4),(d37.at 5),(d37.at 6)])⟩)))) none) none)))) (K (.e0 d30 i31 i32 d33 d34 d35 d36 d37)))
def ex21 (k:Kont):X21→Option D
 | .e0 d30 i31 i32 d33 d34 d35 d36 d37=>k (.exit 6) ((us 2 ((.ptr 0 [] (.array 32 5))::(.ptr 1 [] (.array 8 139))::(.ptr 2 [] (.array 64 139))::(vk .str d30)::(vi i31)::(.ptr 3 [] (.array 64 139))::(us 4 ((.ptr 4 [] (.array 8 139))::(vi i32)::(us 84 ((vi i32)::(vb (ltI i32 64))::(us 116 [])))))))) [(.var (.array 32 5) (vk (.array 32 5) d33)),(.var (.array 8 139) (vk (.array 8 139) d34)),(.var (.array 64 139) (vk (.array 64 139) d35)),(.var (.array 64 139) (vk (.array 64 139) d36)),(.var (.array 8 139) (vk (.array 8 139) d37))]
def lv21:S21→List Leaf
 | ⟨d30,i31,i32,d33,d34,d35,d36,d37⟩=>[.d d30,.i i31,.i i32,.d d33,.d d34,.d d35,.d d36,.d d37]
def of21:List Leaf→Option S21
 | [.d d30,.i i31,.i i32,.d d33,.d d34,.d d35,.d d36,.d d37]=>some ⟨d30,i31,i32,d33,d34,d35,d36,d37⟩
 | _=>none
def ps21:List PV:=((up 2 ((.ptr 0 [] (.array 32 5))::(.ptr 1 [] (.array 8 139))::(.ptr 2 [] (.array 64 139))::(.d .str .x)::(.d (.int .i64) (.int .i64))::(.ptr 3 [] (.array 64 139))::(up 4 ((.ptr 4 [] (.array 8 139))::(.d (.int .i64) (.int .i64))::(up 202 []))))))
def qs21:List PO:=[q2_,q1_,q0_,q0_,q1_]
noncomputable def t3 (M:Nat):List Ent:=⟨44,11,0,21,sumS [2,3,4,5,6,7,12,13] ps21 qs21 [] of21 (st21 M) ex21 M⟩::t2 M
theorem t3_ok (M:Nat):AllOk (e M) (tblOf (t3 M)):=AllOk.addS (n0:=5) (lv:=lv21) (t2_ok M) (by kernel_rfl) rfl (by intro ls s h;unfold of21 at h;(repeat' split at h)<;>simp at h;subst h;rfl) (by intro s;kernel_rfl) (by intro s;kernel_rfl) (by intro s nx k;kernel_rfl)
structure S30 where
 (d44:D) (i45 i46:Int) (d47 d48 d49 d50 d51:D)
inductive X30 where
 | e0 (d44:D) (i45 i46:Int) (d47 d48 d49 d50 d51:D)
def st30 (M:Nat):S30→(S30→Option D)→(X30→Option D)→Option D
 | ⟨d44,i45,i46,d47,d48,d49,d50,d51⟩,rec,K=>(cond (ltI i46 8) (cond (inb i46 8) (cond (inb i46 8) (cond (inb i46 8) (rec ⟨d44,i45,(ad .i64 i46 1),d47,(D.agg (d48.parts.set i46.toNat (D.int .u32 (ad .u32 (d48.at i46.toNat).i (d51.at i46.toNat).i)))),d49,d50,d51⟩) none) none) none) (K (.e0 d44 i45 i46 d47 d48 d49 d50 d51)))
def ex30 (k:Kont):X30→Option D
 | .e0 d44 i45 i46 d47 d48 d49 d50 d51=>k (.exit 8) ((us 2 ((.ptr 0 [] (.array 32 5))::(.ptr 1 [] (.array 8 139))::(.ptr 2 [] (.array 64 139))::(vk .str d44)::(vi i45)::(us 5 ((.ptr 4 [] (.array 8 139))::(us 6 ((vi i46)::(us 161 ((vi i46)::(vb (ltI i46 8))::(us 33 [])))))))))) [(.var (.array 32 5) (vk (.array 32 5) d47)),(.var (.array 8 139) (vk (.array 8 139) d48)),(.var (.array 64 139) (vk (.array 64 139) d49)),(.var (.array 64 139) (vk (.array 64 139) d50)),(.var (.array 8 139) (vk (.array 8 139) d51))]
def lv30:S30→List Leaf
 | ⟨d44,i45,i46,d47,d48,d49,d50,d51⟩=>[.d d44,.i i45,.i i46,.d d47,.d d48,.d d49,.d d50,.d d51]
def of30:List Leaf→Option S30
 | [.d d44,.i i45,.i i46,.d d47,.d d48,.d d49,.d d50,.d d51]=>some ⟨d44,i45,i46,d47,d48,d49,d50,d51⟩
 | _=>none
def ps30:List PV:=((up 2 ((.ptr 0 [] (.array 32 5))::(.ptr 1 [] (.array 8 139))::(.ptr 2 [] (.array 64 139))::(.d .str .x)::(.d (.int .i64) (.int .i64))::(up 5 ((.ptr 4 [] (.array 8 139))::(up 6 ((.d (.int .i64) (.int .i64))::(up 196 []))))))))
def qs30:List PO:=[q2_,q1_,q0_,q0_,q1_]
noncomputable def t4 (M:Nat):List Ent:=⟨44,11,0,30,sumS [2,3,4,5,6,12,19] ps30 qs30 [] of30 (st30 M) ex30 M⟩::t3 M
theorem t4_ok (M:Nat):AllOk (e M) (tblOf (t4 M)):=AllOk.addS (n0:=5) (lv:=lv30) (t3_ok M) (by kernel_rfl) rfl (by intro ls s h;unfold of30 at h;(repeat' split at h)<;>simp at h;subst h;rfl) (by intro s;kernel_rfl) (by intro s;kernel_rfl) (by intro s nx k;kernel_rfl)
structure S5 where
 (d4:D) (i5:Int) (d6 d7 d8:D)
inductive X5 where
 | e0 (d4:D) (i5:Int) (d6 d7 d8:D)
def st5 (M:Nat):S5→(S5→Option D)→(X5→Option D)→Option D
 | ⟨d4,i5,d6,d7,d8⟩,rec,K=>(cond (ltI i5 (nI d4.s.size)) (goS (st9 M) M ⟨d4,i5,0,d6,d7,d8,(da (rp 64 (D.int .u32 0)))⟩ fun x=>match x with | .e0 d9 i10 i11 d12 d13 d14 d15=>(goS (st21 M) M ⟨d9,i10,0,d12,d13,d14,d15,d13⟩ fun x=>match x with | .e0 d30 i31 i32 d33 d34 d35 d36 d37=>(goS (st30 M) M ⟨d30,i31,0,d33,d34,d35,d36,d37⟩ fun x=>match x with | .e0 d44 i45 i46 d47 d48 d49 d50 d51=>(rec ⟨d44,(ad .i64 i45 64),d47,d48,d49⟩)))) (K (.e0 d4 i5 d6 d7 d8)))
def ex5 (k:Kont):X5→Option D
 | .e0 d4 i5 d6 d7 d8=>k (.exit 0) ((us 2 ((.ptr 0 [] (.array 32 5))::(.ptr 1 [] (.array 8 139))::(.ptr 2 [] (.array 64 139))::(vk .str d4)::(vi i5)::(us 21 ((vi i5)::(vk .str d4)::(vi (nI d4.s.size))::(vb (ltI i5 (nI d4.s.size)))::(us 184 [])))))) [(.var (.array 32 5) (vk (.array 32 5) d6)),(.var (.array 8 139) (vk (.array 8 139) d7)),(.var (.array 64 139) (vk (.array 64 139) d8))]
def lv5:S5→List Leaf
 | ⟨d4,i5,d6,d7,d8⟩=>[.d d4,.i i5,.d d6,.d d7,.d d8]
def of5:List Leaf→Option S5
 | [.d d4,.i i5,.d d6,.d d7,.d d8]=>some ⟨d4,i5,d6,d7,d8⟩
 | _=>none
def ps5:List PV:=((up 2 ((.ptr 0 [] (.array 32 5))::(.ptr 1 [] (.array 8 139))::(.ptr 2 [] (.array 64 139))::(.d .str .x)::(.d (.int .i64) (.int .i64))::(up 209 []))))
def qs5:List PO:=[q2_,q1_,q0_]
noncomputable def t5 (M:Nat):List Ent:=⟨44,11,0,5,sumS [2,3,4,5,6] ps5 qs5 [] of5 (st5 M) ex5 M⟩::t4 M
theorem t5_ok (M:Nat):AllOk (e M) (tblOf (t5 M)):=AllOk.addS (n0:=3) (lv:=lv5) (t4_ok M) (by kernel_rfl) rfl (by intro ls s h;unfold of5 at h;(repeat' split at h)<;>simp at h;subst h;rfl) (by intro s;kernel_rfl) (by intro s;kernel_rfl) (by intro s nx k;kernel_rfl)
structure S39 where
 (i57:Int) (d58:D) (i59:Int) (d60 d61 d62 d63:D)
inductive X39 where
 | e0 (i57:Int) (d58:D) (i59:Int) (d60 d61 d62 d63:D)
def st39 (M:Nat):S39→(S39→Option D)→(X39→Option D)→Option D
 | ⟨i57,d58,i59,d60,d61,d62,d63⟩,rec,K=>(cond (ltI i59 3) (rec ⟨i57,(D.int .u32 (quoI .u32 d58.i 256)),(ad .i64 i59 1),d60,d61,d62,d63⟩) (K (.e0 i57 d58 i59 d60 d61 d62 d63)))
def ex39 (k:Kont):X39→Option D
 | .e0 i57 d58 i59 d60 d61 d62 d63=>k (.exit 12) ((us 2 ((.ptr 0 [] (.array 32 5))::(.ptr 1 [] (.array 8 139))::(us 16 ((.ptr 3 [] (.array 32 5))::(vi i57)::(vk (.int .u32) d58)::(vi i59)::(us 180 ((vi i59)::(vb (ltI i59 3))::(us 10 [])))))))) [(.var (.array 32 5) (vk (.array 32 5) d60)),(.var (.array 8 139) (vk (.array 8 139) d61)),(.var (.array 64 139) (vk (.array 64 139) d62)),(.var (.array 32 5) (vk (.array 32 5) d63))]
def lv39:S39→List Leaf
 | ⟨i57,d58,i59,d60,d61,d62,d63⟩=>[.i i57,.d d58,.i i59,.d d60,.d d61,.d d62,.d d63]
def of39:List Leaf→Option S39
 | [.i i57,.d d58,.i i59,.d d60,.d d61,.d d62,.d d63]=>some ⟨i57,d58,i59,d60,d61,d62,d63⟩
 | _=>none
def ps39:List PV:=((up 2 ((.ptr 0 [] (.array 32 5))::(.ptr 1 [] (.array 8 139))::(up 16 ((.ptr 3 [] (.array 32 5))::(.d (.int .i64) (.int .i64))::(.d (.int .u32) .x)::(.d (.int .i64) (.int .i64))::(up 192 []))))))
def qs39:List PO:=[q2_,q1_,q0_,q2_]
noncomputable def t6 (M:Nat):List Ent:=⟨44,11,0,39,sumS [2,3,20,21,22,23] ps39 qs39 [] of39 (st39 M) ex39 M⟩::t5 M
theorem t6_ok (M:Nat):AllOk (e M) (tblOf (t6 M)):=AllOk.addS (n0:=4) (lv:=lv39) (t5_ok M) (by kernel_rfl) rfl (by intro ls s h;unfold of39 at h;(repeat' split at h)<;>simp at h;subst h;rfl) (by intro s;kernel_rfl) (by intro s;kernel_rfl) (by intro s nx k;kernel_rfl)
structure S35 where
 (i52:Int) (d53 d54 d55 d56:D)
inductive X35 where
 | e0 (i52:Int) (d53 d54 d55 d56:D)
def st35 (M:Nat):S35→(S35→Option D)→(X35→Option D)→Option D
 | ⟨i52,d53,d54,d55,d56⟩,rec,K=>(cond (ltI i52 32) (cond (inb (quoI .i64 i52 4) 8) (goS (st39 M) M ⟨i52,(d54.at (quoI .i64 i52 4).toNat),(remI i52 4),d53,d54,d55,d56⟩ fun x=>match x with | .e0 i57 d58 i59 d60 d61 d62 d63=>(cond (inb i57 32) (rec ⟨(ad .i64 i57 1),d60,d61,d62,(D.agg (d63.parts.set i57.toNat (D.int .u8 (cv .u8 (remI d58.i 256)))))⟩) none)) none) (K (.e0 i52 d53 d54 d55 d56)))
def ex35 (k:Kont):X35→Option D
 | .e0 i52 d53 d54 d55 d56=>k (.exit 10) ((us 2 ((.ptr 0 [] (.array 32 5))::(.ptr 1 [] (.array 8 139))::(us 16 ((.ptr 3 [] (.array 32 5))::(vi i52)::(us 172 ((vi i52)::(vb (ltI i52 32))::(us 20 [])))))))) [(.var (.array 32 5) (vk (.array 32 5) d53)),(.var (.array 8 139) (vk (.array 8 139) d54)),(.var (.array 64 139) (vk (.array 64 139) d55)),(.var (.array 32 5) (vk (.array 32 5) d56))]
def lv35:S35→List Leaf
 | ⟨i52,d53,d54,d55,d56⟩=>[.i i52,.d d53,.d d54,.d d55,.d d56]
def of35:List Leaf→Option S35
 | [.i i52,.d d53,.d d54,.d d55,.d d56]=>some ⟨i52,d53,d54,d55,d56⟩
 | _=>none
def ps35:List PV:=((up 2 ((.ptr 0 [] (.array 32 5))::(.ptr 1 [] (.array 8 139))::(up 16 ((.ptr 3 [] (.array 32 5))::(.d (.int .i64) (.int .i64))::(up 194 []))))))
def qs35:List PO:=[q2_,q1_,q0_,q2_]
noncomputable def t (M:Nat):List Ent:=⟨44,11,0,35,sumS [2,3,20,21] ps35 qs35 [] of35 (st35 M) ex35 M⟩::t6 M
theorem t_ok (M:Nat):AllOk (e M) (tblOf (t M)):=AllOk.addS (n0:=4) (lv:=lv35) (t6_ok M) (by kernel_rfl) rfl (by intro ls s h;unfold of35 at h;(repeat' split at h)<;>simp at h;subst h;rfl) (by intro s;kernel_rfl) (by intro s;kernel_rfl) (by intro s nx k;kernel_rfl)
def s (M:Nat) (p0:ByteArray):Option D:=
 (bd (F96.s FUEL) fun r1=>(bd (F97.s FUEL) fun r2=>(bd (F98.s FUEL p0) fun r3=>(goS (st5 M) M ⟨r3,0,(da (rp 32 (D.int .u8 0))),r1,r2⟩ fun x=>match x with | .e0 d4 i5 d6 d7 d8=>(goS (st35 M) M ⟨0,d6,d7,d8,(da (rp 32 (D.int .u8 0)))⟩ fun x=>match x with | .e0 i52 d53 d54 d55 d56=>(some d56))))))
theorem run (M:Nat) (p0:ByteArray):callS (e M) (tblOf (t M)) 12 (.fn 44) [.d .str (dS p0)] [] (fun v H=>finish ty [56] v H)=s M p0:=by kernel_rfl
def c:Con:={ run:=fun ds=>match ds with | [p0]=>s FUEL p0.s | _=>none,plain:=true }
theorem ok:ConOk (44,c):=mkC Tryz.f44 [.str] [56] (by kernel_rfl) (by kernel_rfl) (by kernel_rfl) (by kernel_rfl) (allCons F96.ok (allCons F97.ok (allCons F98.ok (allCons F99.ok (allCons F100.ok allNil))))) allNil (t_ok FUEL) fun a=>run FUEL a.1
end F44
namespace F93
def cons:List (Nat×Con):=[]
def exts:List (Nat×Ext):=[]
def h:List (Nat×Nat×Hint):=[]
noncomputable def e (M:Nat):Env:=env cons exts h M
def s (M:Nat) (p0:D) (p1:Int):Option D:=
 (cond (!(p0.at 3).b) (some (D.tup [p0,(di 6)])) (cond (ltI p1 0) (some (D.tup [p0,(di 1)])) (cond (gtI p1 1099511627776) (some (D.tup [p0,(di 1)])) (cond (ltI p1 (p0.at 4).i) (some (D.tup [p0,(di 7)])) (some (D.tup [(D.agg (p0.parts.set 4 (di p1))),(di 0)]))))))
theorem run (M:Nat) (p0:D) (p1:Int):callS (e M) (tblOf []) 12 (.fn 93) [.d (.struct [3,9,9,4,3,37]) p0,.d (.int .i64) (di p1)] [] (fun v H=>finish ty [39,36] v H)=s M p0 p1:=by kernel_rfl
def c:Con:={ run:=fun ds=>match ds with | [p0,p1]=>s FUEL p0 p1.i | _=>none }
theorem ok:ConOk (93,c):=mkC Tryz.f93 [(.struct [3,9,9,4,3,37]),(.int .i64)] [39,36] (by kernel_rfl) (by kernel_rfl) (by kernel_rfl) (by kernel_rfl) allNil allNil AllOk.nil fun a=>run FUEL a.1 a.2.1
end F93
namespace F135
def cons:List (Nat×Con):=[]
def exts:List (Nat×Ext):=[]
def h:List (Nat×Nat×Hint):=[(135,2,{ live:=[0,1,5] })]
noncomputable def e (M:Nat):Env:=env cons exts h M
structure S2 where
 (d1:D) (s2:ByteArray) (i3:Int)
inductive X2 where
 | e0 (d1:D) (s2:ByteArray) (i3:Int)
 | e1 (d1:D) (s2:ByteArray) (i3:Int)
def st2 (M:Nat):S2→(S2→Option D)→(X2→Option D)→Option D
 | ⟨d1,s2,i3⟩,rec,K=>(cond (ltI i3 (nI d1.elems.length)) (cond (inb i3 d1.elems.length) (cond (eqS (ix d1.elems i3.toNat).s s2) (K (.e0 d1 s2 i3)) (rec ⟨d1,s2,(ad .i64 i3 1)⟩)) none) (K (.e1 d1 s2 i3)))
def ex2 (k:Kont):X2→Option D
 | .e0 d1 s2 i3=>k .ret ((vk (.slice 9) d1)::(vS s2)::(us 2 ((vi i3)::(vi i3)::(vi i3)::(vk (.slice 9) d1)::(vi (nI d1.elems.length))::(vb (ltI i3 (nI d1.elems.length)))::(us 2 ((vk (.slice 9) d1)::(vi i3)::(.cptr .str (ix d1.elems i3.toNat))::(vk .str (ix d1.elems i3.toNat))::(vS s2)::(vb (eqS (ix d1.elems i3.toNat).s s2))::(vi i3)::[]))))) []
 | .e1 d1 s2 i3=>k (.exit 0) ((vk (.slice 9) d1)::(vS s2)::(us 3 ((vi i3)::(vi i3)::(vk (.slice 9) d1)::(vi (nI d1.elems.length))::(vb (ltI i3 (nI d1.elems.length)))::(us 9 [])))) []
def lv2:S2→List Leaf
 | ⟨d1,s2,i3⟩=>[.d d1,.s s2,.i i3]
def of2:List Leaf→Option S2
 | [.d d1,.s s2,.i i3]=>some ⟨d1,s2,i3⟩
 | _=>none
def ps2:List PV:=((.d (.slice 9) .x)::(.d .str .str)::(up 3 ((.d (.int .i64) (.int .i64))::(up 13 []))))
def qs2:List PO:=[]
noncomputable def t (M:Nat):List Ent:=⟨135,11,0,2,sumS [0,1,5] ps2 qs2 [] of2 (st2 M) ex2 M⟩::[]
theorem t_ok (M:Nat):AllOk (e M) (tblOf (t M)):=AllOk.addS (n0:=0) (lv:=lv2) AllOk.nil (by kernel_rfl) rfl (by intro ls s h;unfold of2 at h;(repeat' split at h)<;>simp at h;subst h;rfl) (by intro s;kernel_rfl) (by intro s;kernel_rfl) (by intro s nx k;kernel_rfl)
def s (M:Nat) (p0:D) (p1:ByteArray):Option D:=
 (goS (st2 M) M ⟨p0,p1,0⟩ fun x=>match x with | .e0 d1 s2 i3=>(some (di i3)) | .e1 d1 s2 i3=>(some (di (-1))))
theorem run (M:Nat) (p0:D) (p1:ByteArray):callS (e M) (tblOf (t M)) 12 (.fn 135) [.d (.slice 9) p0,.d .str (dS p1)] [] (fun v H=>finish ty [3] v H)=s M p0 p1:=by kernel_rfl
def c:Con:={ run:=fun ds=>match ds with | [p0,p1]=>s FUEL p0 p1.s | _=>none,plain:=true }
theorem ok:ConOk (135,c):=mkC Tryz.f135 [(.slice 9),.str] [3] (by kernel_rfl) (by kernel_rfl) (by kernel_rfl) (by kernel_rfl) allNil allNil (t_ok FUEL) fun a=>run FUEL a.1 a.2.1
end F135
namespace F94
def k0_:K:=(.struct [3,9,9,4,3,37])
def cons:List (Nat×Con):=[(51,F51.c),(104,F104.c),(135,F135.c)]
def exts:List (Nat×Ext):=[]
def h:List (Nat×Nat×Hint):=[(94,11,{ live:=[1,2,4,7] })]
noncomputable def e (M:Nat):Env:=env cons exts h M
structure S11 where
 (s3:ByteArray) (i4:Int) (d5:D) (i6:Int) (s7 s8:ByteArray) (b9:Bool) (i10:Int) (b11:Bool) (l12:List D)
inductive X11 where
 | e0 (s3:ByteArray) (i4:Int) (d5:D) (i6:Int) (s7 s8:ByteArray) (b9:Bool) (i10:Int) (b11:Bool) (l12:List D) (r13:D)
 | e1 (s3:ByteArray) (i4:Int) (d5:D) (i6:Int) (s7 s8:ByteArray) (b9:Bool) (i10:Int) (b11:Bool) (l12:List D)
def st11 (M:Nat):S11→(S11→Option D)→(X11→Option D)→Option D
 | ⟨s3,i4,d5,i6,s7,s8,b9,i10,b11,l12⟩,rec,K=>(cond (ltI i4 (nI (d5.at 5).elems.length)) (cond (inb i4 (d5.at 5).elems.length) (bd (F104.s FUEL (ix (d5.at 5).elems i4.toNat).s s3) fun r13=>(cond (!r13.b) (K (.e0 s3 i4 d5 i6 s7 s8 b9 i10 b11 l12 r13)) (rec ⟨s3,(ad .i64 i4 1),d5,i6,s7,s8,b9,i10,b11,l12⟩))) none) (K (.e1 s3 i4 d5 i6 s7 s8 b9 i10 b11 l12)))
def ex11 (k:Kont):X11→Option D
 | .e0 s3 i4 d5 i6 s7 s8 b9 i10 b11 l12 r13=>k (.exit 0) ((us 1 ((vS s3)::(.ptr 0 [] k0_)::(us 1 ((.ptr 1 [] k0_)::(us 2 ((vi i4)::(us 21 ((vi i4)::(.ptr 0 [5] (.slice 9))::(vk (.slice 9) (d5.at 5))::(vi (nI (d5.at 5).elems.length))::(vb (ltI i4 (nI (d5.at 5).elems.length)))::(.ptr 0 [5] (.slice 9))::(vk (.slice 9) (d5.at 5))::(vi i4)::(.cptr .str (ix (d5.at 5).elems i4.toNat))::(vk .str (ix (d5.at 5).elems i4.toNat))::(vS s3)::(vk .bool r13)::(vb (!r13.b))::(us 21 [])))))))))) [(.var k0_ (vk k0_ d5)),(.var k0_ (vk k0_ (da [(di i6),(dS s7),(dS s8),(db b9),(di i10),(dl b11 l12)])))]
 | .e1 s3 i4 d5 i6 s7 s8 b9 i10 b11 l12=>k (.exit 0) ((us 1 ((vS s3)::(.ptr 0 [] k0_)::(us 1 ((.ptr 1 [] k0_)::(us 2 ((vi i4)::(us 21 ((vi i4)::(.ptr 0 [5] (.slice 9))::(vk (.slice 9) (d5.at 5))::(vi (nI (d5.at 5).elems.length))::(vb (ltI i4 (nI (d5.at 5).elems.length)))::(us 29 [])))))))))) [(.var k0_ (vk k0_ d5)),(.var k0_ (vk k0_ (da [(di i6),(dS s7),(dS s8),(db b9),(di i10),(dl b11 l12)])))]
def lv11:S11→List Leaf
 | ⟨s3,i4,d5,i6,s7,s8,b9,i10,b11,l12⟩=>[.s s3,.i i4,.d d5,.i i6,.s s7,.s s8,.b b9,.i i10,.b b11,.l l12]
def of11:List Leaf→Option S11
 | [.s s3,.i i4,.d d5,.i i6,.s s7,.s s8,.b b9,.i i10,.b b11,.l l12]=>some ⟨s3,i4,d5,i6,s7,s8,b9,i10,b11,l12⟩
 | _=>none
def ps11:List PV:=((up 1 ((.d .str .str)::(.ptr 0 [] k0_)::(up 1 ((.ptr 1 [] k0_)::(up 2 ((.d (.int .i64) (.int .i64))::(up 55 []))))))))
def qs11:List PO:=[(.var k0_ (.d k0_ .x)),(.var k0_ (.d k0_ (.agg [(.int .i64),.str,.str,.bool,(.int .i64),.slice])))]
noncomputable def t (M:Nat):List Ent:=⟨94,11,0,11,sumS [1,2,4,7] ps11 qs11 [] of11 (st11 M) ex11 M⟩::[]
theorem t_ok (M:Nat):AllOk (e M) (tblOf (t M)):=AllOk.addS (n0:=2) (lv:=lv11) AllOk.nil (by kernel_rfl) rfl (by intro ls s h;unfold of11 at h;(repeat' split at h)<;>simp at h;subst h;rfl) (by intro s;kernel_rfl) (by intro s;kernel_rfl) (by intro s nx k;kernel_rfl)
def s (M:Nat) (p0:D) (p1:ByteArray):Option D:=
 (bd (F51.s FUEL p1) fun r1=>(cond (!(p0.at 3).b) (some (D.tup [p0,(di 6)])) (cond (!r1.b) (some (D.tup [p0,(di 2)])) (bd (F135.s FUEL (p0.at 5) p1) fun r2=>(cond (geI r2.i 0) (some (D.tup [p0,(di 4)])) (cond (geI (nI (p0.at 5).elems.length) 4) (some (D.tup [p0,(di 10)])) (goS (st11 M) M ⟨p1,0,p0,0,(bs []),(bs []),false,0,false,[]⟩ fun x=>match x with | .e0 s3 i4 d5 i6 s7 s8 b9 i10 b11 l12 r13=>(cond (true&&(leI 0 i4)&&(leI i4 (nI (d5.at 5).elems.length))&&(leI (nI (d5.at 5).elems.length) (nI (d5.at 5).elems.length))) (cond (mx (((d5.at 5).elems.drop 0).take (i4.toNat-0)).length) (cond (mx ((((d5.at 5).elems.drop 0).take (i4.toNat-0)).length+1)) (cond ((leI 0 i4)&&(leI i4 (nI (d5.at 5).elems.length))&&(leI (nI (d5.at 5).elems.length) (nI (d5.at 5).elems.length))&&(leI (nI (d5.at 5).elems.length) (nI (d5.at 5).elems.length))) (cond (mx (((((d5.at 5).elems.drop 0).take (i4.toNat-0)).length+1)+(((d5.at 5).elems.drop i4.toNat).take ((d5.at 5).elems.length-i4.toNat)).length)) (some (D.tup [(da [(d5.at 0),(d5.at 1),(d5.at 2),(d5.at 3),(d5.at 4),(dl (((!(((d5.at 5).elems.drop 0).take (i4.toNat-0)).isEmpty)||true)||(!(((d5.at 5).elems.drop i4.toNat).take ((d5.at 5).elems.length-i4.toNat)).isEmpty)) (((ap (((ap (((((d5.at 5).elems.drop 0).take (i4.toNat-0)).drop 0).take (((d5.at 5).elems.drop 0).take (i4.toNat-0)).length) [(dS s3)]).drop 0).take ((((d5.at 5).elems.drop 0).take (i4.toNat-0)).length+1)) (((d5.at 5).elems.drop i4.toNat).take ((d5.at 5).elems.length-i4.toNat))).drop 0).take (((((d5.at 5).elems.drop 0).take (i4.toNat-0)).length+1)+(((d5.at 5).elems.drop i4.toNat).take ((d5.at 5).elems.length-i4.toNat)).length)))]),(di 0)])) none) none) none) none) none) | .e1 s3 i4 d5 i6 s7 s8 b9 i10 b11 l12=>(cond (true&&(leI 0 i4)&&(leI i4 (nI (d5.at 5).elems.length))&&(leI (nI (d5.at 5).elems.length) (nI (d5.at 5).elems.length))) (cond (mx (((d5.at 5).elems.drop 0).take (i4.toNat-0)).length) (cond (mx ((((d5.at 5).elems.drop 0).take (i4.toNat-0)).length+1)) (cond ((leI 0 i4)&&(leI i4 (nI (d5.at 5).elems.length))&&(leI (nI (d5.at 5).elems.length) (nI (d5.at 5).elems.length))&&(leI (nI (d5.at 5).elems.length) (nI (d5.at 5).elems.length))) (cond (mx (((((d5.at 5).elems.drop 0).take (i4.toNat-0)).length+1)+(((d5.at 5).elems.drop i4.toNat).take ((d5.at 5).elems.length-i4.toNat)).length)) (some (D.tup [(da [(d5.at 0),(d5.at 1),(d5.at 2),(d5.at 3),(d5.at 4),(dl (((!(((d5.at 5).elems.drop 0).take (i4.toNat-0)).isEmpty)||true)||(!(((d5.at 5).elems.drop i4.toNat).take ((d5.at 5).elems.length-i4.toNat)).isEmpty)) (((ap (((ap (((((d5.at 5).elems.drop 0).take (i4.toNat-0)).drop 0).take (((d5.at 5).elems.drop 0).take (i4.toNat-0)).length) [(dS s3)]).drop 0).take ((((d5.at 5).elems.drop 0).take (i4.toNat-0)).length+1)) (((d5.at 5).elems.drop i4.toNat).take ((d5.at 5).elems.length-i4.toNat))).drop 0).take (((((d5.at 5).elems.drop 0).take (i4.toNat-0)).length+1)+(((d5.at 5).elems.drop i4.toNat).take ((d5.at 5).elems.length-i4.toNat)).length)))]),(di 0)])) none) none) none) none) none))))))))
theorem run (M:Nat) (p0:D) (p1:ByteArray):callS (e M) (tblOf (t M)) 12 (.fn 94) [.d (.struct [3,9,9,4,3,37]) p0,.d .str (dS p1)] [] (fun v H=>finish ty [39,36] v H)=s M p0 p1:=by kernel_rfl
def c:Con:={ run:=fun ds=>match ds with | [p0,p1]=>s FUEL p0 p1.s | _=>none }
theorem ok:ConOk (94,c):=mkC Tryz.f94 [(.struct [3,9,9,4,3,37]),.str] [39,36] (by kernel_rfl) (by kernel_rfl) (by kernel_rfl) (by kernel_rfl) (allCons F51.ok (allCons F104.ok (allCons F135.ok allNil))) allNil (t_ok FUEL) fun a=>run FUEL a.1 a.2.1
end F94
namespace F95
def cons:List (Nat×Con):=[(135,F135.c)]
def exts:List (Nat×Ext):=[]
def h:List (Nat×Nat×Hint):=[]
noncomputable def e (M:Nat):Env:=env cons exts h M
def s (M:Nat) (p0:D) (p1:ByteArray):Option D:=
 (bd (F135.s FUEL (p0.at 5) p1) fun r1=>(cond (ltI r1.i 0) (some (D.tup [p0,(di 3)])) (cond (true&&(leI 0 r1.i)&&(leI r1.i (nI (p0.at 5).elems.length))&&(leI (nI (p0.at 5).elems.length) (nI (p0.at 5).elems.length))) (cond (mx (((p0.at 5).elems.drop 0).take ((r1.i).toNat-0)).length) (cond ((leI 0 (ad .i64 r1.i 1))&&(leI (ad .i64 r1.i 1) (nI (p0.at 5).elems.length))&&(leI (nI (p0.at 5).elems.length) (nI (p0.at 5).elems.length))&&(leI (nI (p0.at 5).elems.length) (nI (p0.at 5).elems.length))) (cond (mx ((((p0.at 5).elems.drop 0).take ((r1.i).toNat-0)).length+(((p0.at 5).elems.drop (ad .i64 r1.i 1).toNat).take ((p0.at 5).elems.length-(ad .i64 r1.i 1).toNat)).length)) (some (D.tup [(da [(p0.at 0),(p0.at 1),(p0.at 2),(p0.at 3),(p0.at 4),(dl ((!(((p0.at 5).elems.drop 0).take ((r1.i).toNat-0)).isEmpty)||(!(((p0.at 5).elems.drop (ad .i64 r1.i 1).toNat).take ((p0.at 5).elems.length-(ad .i64 r1.i 1).toNat)).isEmpty)) (((ap (((((p0.at 5).elems.drop 0).take ((r1.i).toNat-0)).drop 0).take (((p0.at 5).elems.drop 0).take ((r1.i).toNat-0)).length) (((p0.at 5).elems.drop (ad .i64 r1.i 1).toNat).take ((p0.at 5).elems.length-(ad .i64 r1.i 1).toNat))).drop 0).take ((((p0.at 5).elems.drop 0).take ((r1.i).toNat-0)).length+(((p0.at 5).elems.drop (ad .i64 r1.i 1).toNat).take ((p0.at 5).elems.length-(ad .i64 r1.i 1).toNat)).length)))]),(di 0)])) none) none) none) none)))
theorem run (M:Nat) (p0:D) (p1:ByteArray):callS (e M) (tblOf []) 12 (.fn 95) [.d (.struct [3,9,9,4,3,37]) p0,.d .str (dS p1)] [] (fun v H=>finish ty [39,36] v H)=s M p0 p1:=by kernel_rfl
def c:Con:={ run:=fun ds=>match ds with | [p0,p1]=>s FUEL p0 p1.s | _=>none }
theorem ok:ConOk (95,c):=mkC Tryz.f95 [(.struct [3,9,9,4,3,37]),.str] [39,36] (by kernel_rfl) (by kernel_rfl) (by kernel_rfl) (by kernel_rfl) (allCons F135.ok allNil) allNil AllOk.nil fun a=>run FUEL a.1 a.2.1
end F95
namespace F57
end F57
namespace F58
end F58
namespace F28
end F28
namespace F9
end F9
namespace F30
def cons:List (Nat×Con):=[]
def exts:List (Nat×Ext):=[]
def h:List (Nat×Nat×Hint):=[(30,4,{ live:=[0,1,5] })]
noncomputable def e (M:Nat):Env:=env cons exts h M
structure S4 where
 (d1 d2:D) (i3:Int)
inductive X4 where
 | e0 (d1 d2:D) (i3:Int)
 | e1 (d1 d2:D) (i3:Int)
def st4 (M:Nat):S4→(S4→Option D)→(X4→Option D)→Option D
 | ⟨d1,d2,i3⟩,rec,K=>(cond (ltI i3 (nI d1.elems.length)) (cond (inb i3 d1.elems.length) (cond (inb i3 d2.elems.length) (cond (!(eqS (ix d1.elems i3.toNat).s (ix d2.elems i3.toNat).s)) (K (.e0 d1 d2 i3)) (rec ⟨d1,d2,(ad .i64 i3 1)⟩)) none) none) (K (.e1 d1 d2 i3)))
def ex4 (k:Kont):X4→Option D
 | .e0 d1 d2 i3=>k .ret ((vk (.slice 9) d1)::(vk (.slice 9) d2)::(us 2 ((vb false)::(vi i3)::(us 5 ((vi i3)::(vk (.slice 9) d1)::(vi (nI d1.elems.length))::(vb (ltI i3 (nI d1.elems.length)))::(us 2 ((vk (.slice 9) d1)::(vi i3)::(.cptr .str (ix d1.elems i3.toNat))::(vk .str (ix d1.elems i3.toNat))::(vk (.slice 9) d2)::(vi i3)::(.cptr .str (ix d2.elems i3.toNat))::(vk .str (ix d2.elems i3.toNat))::(vb (!(eqS (ix d1.elems i3.toNat).s (ix d2.elems i3.toNat).s)))::[]))))))) []
 | .e1 d1 d2 i3=>k (.exit 0) ((vk (.slice 9) d1)::(vk (.slice 9) d2)::(us 3 ((vi i3)::(us 5 ((vi i3)::(vk (.slice 9) d1)::(vi (nI d1.elems.length))::(vb (ltI i3 (nI d1.elems.length)))::(us 11 [])))))) []
def lv4:S4→List Leaf
 | ⟨d1,d2,i3⟩=>[.d d1,.d d2,.i i3]
def of4:List Leaf→Option S4
 | [.d d1,.d d2,.i i3]=>some ⟨d1,d2,i3⟩
 | _=>none
def ps4:List PV:=((.d (.slice 9) .x)::(.d (.slice 9) .x)::(up 3 ((.d (.int .i64) (.int .i64))::(up 20 []))))
def qs4:List PO:=[]
noncomputable def t (M:Nat):List Ent:=⟨30,11,0,4,sumS [0,1,5] ps4 qs4 [] of4 (st4 M) ex4 M⟩::[]
theorem t_ok (M:Nat):AllOk (e M) (tblOf (t M)):=AllOk.addS (n0:=0) (lv:=lv4) AllOk.nil (by kernel_rfl) rfl (by intro ls s h;unfold of4 at h;(repeat' split at h)<;>simp at h;subst h;rfl) (by intro s;kernel_rfl) (by intro s;kernel_rfl) (by intro s nx k;kernel_rfl)
def s (M:Nat) (p0:D) (p1:D):Option D:=
 (cond (neI (nI p0.elems.length) (nI p1.elems.length)) (some (db false)) (goS (st4 M) M ⟨p0,p1,0⟩ fun x=>match x with | .e0 d1 d2 i3=>(some (db false)) | .e1 d1 d2 i3=>(some (db true))))
theorem run (M:Nat) (p0:D) (p1:D):callS (e M) (tblOf (t M)) 12 (.fn 30) [.d (.slice 9) p0,.d (.slice 9) p1] [] (fun v H=>finish ty [4] v H)=s M p0 p1:=by kernel_rfl
def c:Con:={ run:=fun ds=>match ds with | [p0,p1]=>s FUEL p0 p1 | _=>none,plain:=true }
theorem ok:ConOk (30,c):=mkC Tryz.f30 [(.slice 9),(.slice 9)] [4] (by kernel_rfl) (by kernel_rfl) (by kernel_rfl) (by kernel_rfl) allNil allNil (t_ok FUEL) fun a=>run FUEL a.1 a.2.1
end F30
namespace F29
def cons:List (Nat×Con):=[(30,F30.c)]
def exts:List (Nat×Ext):=[]
def h:List (Nat×Nat×Hint):=[]
noncomputable def e (M:Nat):Env:=env cons exts h M
def s (M:Nat) (p0:D) (p1:D):Option D:=
 (cond (eqI (p0.at 0).i (p1.at 0).i) (cond (eqS (p0.at 1).s (p1.at 1).s) (cond (eqS (p0.at 2).s (p1.at 2).s) (bd (match D.eqv ty eqDepth (p0.at 3) (p1.at 3) .bool with | some z=>some (.bool z) | none=>none) fun r1=>(cond r1.b (cond (eqI (p0.at 4).i (p1.at 4).i) (bd (F30.s FUEL (p0.at 5) (p1.at 5)) fun r2=>(some r2)) (some (db false))) (some (db false)))) (some (db false))) (some (db false))) (some (db false)))
theorem run (M:Nat) (p0:D) (p1:D):callS (e M) (tblOf []) 12 (.fn 29) [.d (.struct [3,9,9,4,3,37]) p0,.d (.struct [3,9,9,4,3,37]) p1] [] (fun v H=>finish ty [4] v H)=s M p0 p1:=by kernel_rfl
def c:Con:={ run:=fun ds=>match ds with | [p0,p1]=>s FUEL p0 p1 | _=>none,plain:=true }
theorem ok:ConOk (29,c):=mkC Tryz.f29 [(.struct [3,9,9,4,3,37]),(.struct [3,9,9,4,3,37])] [4] (by kernel_rfl) (by kernel_rfl) (by kernel_rfl) (by kernel_rfl) (allCons F30.ok allNil) allNil AllOk.nil fun a=>run FUEL a.1 a.2.1
end F29
namespace F10
end F10
namespace F12
def cons:List (Nat×Con):=[]
def exts:List (Nat×Ext):=[]
def h:List (Nat×Nat×Hint):=[]
noncomputable def e (M:Nat):Env:=env cons exts h M
def s (M:Nat) (p0:D):Option D:=
 (some (da [(p0.at 0),(p0.at 1),(p0.at 2)]))
theorem run (M:Nat) (p0:D):callS (e M) (tblOf []) 12 (.fn 12) [.d (.struct [25,3,3]) p0] [] (fun v H=>finish ty [32] v H)=s M p0:=by kernel_rfl
def c:Con:={ run:=fun ds=>match ds with | [p0]=>s FUEL p0 | _=>none }
theorem ok:ConOk (12,c):=mkC Tryz.f12 [(.struct [25,3,3])] [32] (by kernel_rfl) (by kernel_rfl) (by kernel_rfl) (by kernel_rfl) allNil allNil AllOk.nil fun a=>run FUEL a.1
end F12
namespace F11
end F11
namespace F13
end F13
namespace F3
end F3
end Go.AM.SZ
namespace Go.AM.SZ
open Go Go.AM Go.Proofs Go.RowKit
namespace F19
def cons:List (Nat×Con):=[]
def exts:List (Nat×Ext):=[]
def h:List (Nat×Nat×Hint):=[(19,2,{ live:=[0,3] })]
noncomputable def e (M:Nat):Env:=env cons exts h M
structure S2 where
 (d1:D) (i2:Int)
inductive X2 where
 | e0 (d1:D) (i2:Int)
 | e1 (d1:D) (i2:Int)
 | e2 (d1:D) (i2:Int)
def st2 (M:Nat):S2→(S2→Option D)→(X2→Option D)→Option D
 | ⟨d1,i2⟩,rec,K=>(cond (ltI i2 (nI d1.elems.length)) (cond (leI i2 20) (cond (inb i2 d1.elems.length) (cond (gtI (nI ((ix d1.elems i2.toNat).at 2).s.size) 100) (K (.e0 d1 i2)) (rec ⟨d1,(ad .i64 i2 1)⟩)) none) (K (.e1 d1 i2))) (K (.e2 d1 i2)))
def ex2 (k:Kont):X2→Option D
 | .e0 d1 i2=>k .ret ((vk (.slice 58) d1)::(us 1 ((vb false)::(vi i2)::(vi i2)::(vk (.slice 58) d1)::(vi (nI d1.elems.length))::(vb (ltI i2 (nI d1.elems.length)))::(vb true)::(vi i2)::(vb (leI i2 20))::(vb (leI i2 20))::(us 2 ((vk (.slice 58) d1)::(vi i2)::(.cptr (.struct [50,3,9,3,3,56]) (ix d1.elems i2.toNat))::(.cptr .str ((ix d1.elems i2.toNat).at 2))::(vk .str ((ix d1.elems i2.toNat).at 2))::(vi (nI ((ix d1.elems i2.toNat).at 2).s.size))::(vb (gtI (nI ((ix d1.elems i2.toNat).at 2).s.size) 100))::(us 3 [])))))) []
 | .e1 d1 i2=>k (.exit 0) ((vk (.slice 58) d1)::(us 2 ((vi i2)::(vi i2)::(vk (.slice 58) d1)::(vi (nI d1.elems.length))::(vb (ltI i2 (nI d1.elems.length)))::(vb true)::(vi i2)::(vb (leI i2 20))::(vb (leI i2 20))::(us 12 [])))) []
 | .e2 d1 i2=>k (.exit 0) ((vk (.slice 58) d1)::(us 2 ((vi i2)::(vi i2)::(vk (.slice 58) d1)::(vi (nI d1.elems.length))::(vb (ltI i2 (nI d1.elems.length)))::(vb false)::v0::v0::(vb false)::(us 12 [])))) []
def lv2:S2→List Leaf
 | ⟨d1,i2⟩=>[.d d1,.i i2]
def of2:List Leaf→Option S2
 | [.d d1,.i i2]=>some ⟨d1,i2⟩
 | _=>none
def ps2:List PV:=((.d (.slice 58) .x)::(up 2 ((.d (.int .i64) (.int .i64))::(up 20 []))))
def qs2:List PO:=[]
noncomputable def t (M:Nat):List Ent:=⟨19,11,0,2,sumS [0,3] ps2 qs2 [] of2 (st2 M) ex2 M⟩::[]
theorem t_ok (M:Nat):AllOk (e M) (tblOf (t M)):=AllOk.addS (n0:=0) (lv:=lv2) AllOk.nil (by kernel_rfl) rfl (by intro ls s h;unfold of2 at h;(repeat' split at h)<;>simp at h;subst h;rfl) (by intro s;kernel_rfl) (by intro s;kernel_rfl) (by intro s nx k;kernel_rfl)
def s (M:Nat) (p0:D):Option D:=
 (goS (st2 M) M ⟨p0,0⟩ fun x=>match x with | .e0 d1 i2=>(some (db false)) | .e1 d1 i2=>(some (db (leI (nI d1.elems.length) 20))) | .e2 d1 i2=>(some (db (leI (nI d1.elems.length) 20))))
theorem run (M:Nat) (p0:D):callS (e M) (tblOf (t M)) 12 (.fn 19) [.d (.slice 58) p0] [] (fun v H=>finish ty [4] v H)=s M p0:=by kernel_rfl
def c:Con:={ run:=fun ds=>match ds with | [p0]=>s FUEL p0 | _=>none,plain:=true }
theorem ok:ConOk (19,c):=mkC Tryz.f19 [(.slice 58)] [4] (by kernel_rfl) (by kernel_rfl) (by kernel_rfl) (by kernel_rfl) allNil allNil (t_ok FUEL) fun a=>run FUEL a.1
end F19
namespace F134
def cons:List (Nat×Con):=[]
def exts:List (Nat×Ext):=[]
def h:List (Nat×Nat×Hint):=[]
noncomputable def e (M:Nat):Env:=env cons exts h M
def s (M:Nat) (p0:Int):Option D:=
 (cond (eqI p0 0) (cond (eqI p0 0) (some (da [(db true),(db true),(db false),(db false),(db false)])) (cond (eqI p0 1) (some (da [(db true),(db false),(db false),(db true),(db false)])) (cond (eqI p0 2) (some (da [(db true),(db false),(db true),(db true),(db true)])) (cond (eqI p0 3) (some (da [(db true),(db false),(db true),(db false),(db false)])) (cond (eqI p0 6) (some (da [(db true),(db false),(db false),(db false),(db false)])) (cond (eqI p0 7) (some (da [(db false),(db false),(db true),(db false),(db false)])) (some (da (rp 5 (db false)))))))))) (cond (eqI p0 4) (cond (eqI p0 4) (some (da [(db true),(db true),(db false),(db false),(db false)])) (cond (eqI p0 1) (some (da [(db true),(db false),(db false),(db true),(db false)])) (cond (eqI p0 2) (some (da [(db true),(db false),(db true),(db true),(db true)])) (cond (eqI p0 3) (some (da [(db true),(db false),(db true),(db false),(db false)])) (cond (eqI p0 6) (some (da [(db true),(db false),(db false),(db false),(db false)])) (cond (eqI p0 7) (some (da [(db false),(db false),(db true),(db false),(db false)])) (some (da (rp 5 (db false)))))))))) (cond (eqI p0 5) (some (da [(db true),(db true),(db false),(db false),(db false)])) (cond (eqI p0 1) (some (da [(db true),(db false),(db false),(db true),(db false)])) (cond (eqI p0 2) (some (da [(db true),(db false),(db true),(db true),(db true)])) (cond (eqI p0 3) (some (da [(db true),(db false),(db true),(db false),(db false)])) (cond (eqI p0 6) (some (da [(db true),(db false),(db false),(db false),(db false)])) (cond (eqI p0 7) (some (da [(db false),(db false),(db true),(db false),(db false)])) (some (da (rp 5 (db false))))))))))))
theorem run (M:Nat) (p0:Int):callS (e M) (tblOf []) 12 (.fn 134) [.d (.int .i64) (di p0)] [] (fun v H=>finish ty [179] v H)=s M p0:=by kernel_rfl
def c:Con:={ run:=fun ds=>match ds with | [p0]=>s FUEL p0.i | _=>none,plain:=true }
theorem ok:ConOk (134,c):=mkC Tryz.f134 [(.int .i64)] [179] (by kernel_rfl) (by kernel_rfl) (by kernel_rfl) (by kernel_rfl) allNil allNil AllOk.nil fun a=>run FUEL a.1
end F134
namespace F90
def cons:List (Nat×Con):=[(51,F51.c),(134,F134.c)]
def exts:List (Nat×Ext):=[]
def h:List (Nat×Nat×Hint):=[]
noncomputable def e (M:Nat):Env:=env cons exts h M
def B (t g1 g2 e:Bool) (k:Bool→Option D):Option D:=
 cond t (cond g1 (cond g2 (k true) (cond (!t) (k e) (k false))) (cond (!t) (k e) (k false))) (cond (!t) (k e) (k false))
def C (t g e:Bool) (k:Bool→Option D):Option D:=
 cond t (cond g (k true) (cond (!t) (k e) (k false))) (cond (!t) (k e) (k false))
def E (a b c d:Bool) (x:D):Option D:=cond a (cond b (cond c (cond d (some x) (some (db false))) (some (db false))) (some (db false))) (some (db false))
def W4 (p0 r1:D) (a b c d:Bool):Option D:=(cond (r1.at 4).b (E a b c d (db true)) (bd (match D.eqv ty eqDepth (p0.at 5) (da (rp 32 (D.int .u8 0))) (.array 32 5) with | some z=>some (.bool z) | none=>none) fun r3=>E a b c d r3))
def W3 (p0 r1:D) (least:Int) (a b c:Bool):Option D:=B (r1.at 3).b (geI (p0.at 4).i least) (leI (p0.at 4).i 600) (eqI (p0.at 4).i 0) fun d=>W4 p0 r1 a b c d
def W2 (p0 r1:D) (least:Int) (a b:Bool):Option D:=B (r1.at 2).b (geI (p0.at 3).i 0) (leI (p0.at 3).i 1099511627776) (eqI (p0.at 3).i 0) fun c=>W3 p0 r1 least a b c
def W1 (p0 r1:D) (least:Int) (r2:D) (a:Bool):Option D:=C (r1.at 1).b r2.b (eqS (p0.at 2).s (bs [])) fun b=>W2 p0 r1 least a b
def W0 (p0 r1:D) (least:Int) (r2:D):Option D:=B (r1.at 0).b (geI (p0.at 1).i 1) (leI (p0.at 1).i 1099511627776) (eqI (p0.at 1).i 0) fun a=>W1 p0 r1 least r2 a
def s (M:Nat) (p0:D):Option D:=
 (cond (ltI (p0.at 0).i 0) (some (db false)) (cond (gtI (p0.at 0).i 7) (some (db false)) (bd (F134.s FUEL (p0.at 0).i) fun r1=>(cond (eqI (p0.at 0).i 1) (bd (F51.s FUEL (p0.at 2).s) fun r2=>W0 p0 r1 1 r2) (bd (F51.s FUEL (p0.at 2).s) fun r2=>W0 p0 r1 0 r2)))))
def k0:K:=.struct [50,3,9,3,3,56]
noncomputable def body:Code:=match Tryz.f90.body with | some c=>c | none=>.skip
def sL:Code→Code | .seq a _=>a | c=>c
def sR:Code→Code | .seq _ b=>b | c=>c
def cut:Nat→Code→Code | 0,c=>c | n+1,c=>cut n (sR c)
noncomputable def R (n:Nat):Code:=sL (cut n body)
noncomputable def Q (n:Nat):Code:=cut n body
abbrev P0:V:=.ptr 0 [] k0
abbrev P1:V:=.ptr 1 [] (.array 5 4)
abbrev vB (b:Bool):V:=.d .bool (.bool b)
abbrev vN (n:Int):V:=.d (.int .i64) (.int .i64 n)
def H (p0 r1:D):List AObj:=[.var k0 (.d k0 p0),.var (.array 5 4) (.d (.array 5 4) r1)]
noncomputable def kf (M:Nat):Kont:=fun x regs H'=>match x with | .exit _=>none | _=>match resVals (e M) regs H' [.tmp 2] with | some vs=>finish ty [4] (oneOf vs) H' | none=>none
section
variable {M:Nat} {inl:Inl D} {tbl:Nat→Option Sum} (f:Nat→V) (p0 r1:D)
theorem f13 (a b c d:Bool) (x:D):evT false (e M) inl 90 tbl (Q 11) (SL 131 f [(6,vB a),(7,vB b),(8,vB c),(9,vB d),(10,.d .bool x)]) (H p0 r1) (kf M)=E a b c d x:=by kernel_rfl
theorem l12 (G:AExit→Nat→List V→List AObj→Option D) (a b c d:Bool):evT false (e M) noInl 90 tbl (R 10) (SL 131 f [(1,P0),(3,P1),(6,vB a),(7,vB b),(8,vB c),(9,vB d)]) (H p0 r1) (fun x r h=>G x r.length ([6,7,8,9,10].map fun i=>r.getD i .undef) h) =
 (cond (r1.at 4).b (G .normal 131 [vB a,vB b,vB c,vB d,.d .bool (db true)] (H p0 r1)) (bd (match D.eqv ty eqDepth (p0.at 5) (da (rp 32 (D.int .u8 0))) (.array 32 5) with | some z=>some (.bool z) | none=>none) fun r3=>G .normal 131 [vB a,vB b,vB c,vB d,.d .bool r3] (H p0 r1))):=by kernel_rfl
theorem l11 (G:AExit→Nat→List V→List AObj→Option D) (n:Int) (a b c:Bool):evT false (e M) noInl 90 tbl (R 9) (SL 131 f [(1,P0),(3,P1),(4,vN n),(6,vB a),(7,vB b),(8,vB c)]) (H p0 r1) (fun x r h=>G x r.length ([1,3,6,7,8,9].map fun i=>r.getD i .undef) h) =
 B (r1.at 3).b (geI (p0.at 4).i n) (leI (p0.at 4).i 600) (eqI (p0.at 4).i 0) fun d=>G .normal 131 [P0,P1,vB a,vB b,vB c,vB d] (H p0 r1):=by kernel_rfl
theorem l10 (G:AExit→Nat→List V→List AObj→Option D) (n:Int) (a b:Bool):evT false (e M) noInl 90 tbl (R 8) (SL 131 f [(1,P0),(3,P1),(4,vN n),(6,vB a),(7,vB b)]) (H p0 r1) (fun x r h=>G x r.length ([1,3,4,6,7,8].map fun i=>r.getD i .undef) h) =
 B (r1.at 2).b (geI (p0.at 3).i 0) (leI (p0.at 3).i 1099511627776) (eqI (p0.at 3).i 0) fun c=>G .normal 131 [P0,P1,vN n,vB a,vB b,vB c] (H p0 r1):=by kernel_rfl
theorem l9 (G:AExit→Nat→List V→List AObj→Option D) (n:Int) (r2:D) (a:Bool):evT false (e M) noInl 90 tbl (R 7) (SL 131 f [(1,P0),(3,P1),(4,vN n),(5,.d .bool r2),(6,vB a)]) (H p0 r1) (fun x r h=>G x r.length ([1,3,4,6,7].map fun i=>r.getD i .undef) h) =
 C (r1.at 1).b r2.b (eqS (p0.at 2).s (bs [])) fun b=>G .normal 131 [P0,P1,vN n,vB a,vB b] (H p0 r1):=by kernel_rfl
theorem l8 (G:AExit→Nat→List V→List AObj→Option D) (n:Int) (r2:D):evT false (e M) noInl 90 tbl (R 6) (SL 131 f [(1,P0),(3,P1),(4,vN n),(5,.d .bool r2)]) (H p0 r1) (fun x r h=>G x r.length ([1,3,4,5,6].map fun i=>r.getD i .undef) h) =
 B (r1.at 0).b (geI (p0.at 1).i 1) (leI (p0.at 1).i 1099511627776) (eqI (p0.at 1).i 0) fun a=>G .normal 131 [P0,P1,vN n,.d .bool r2,vB a] (H p0 r1):=by kernel_rfl
noncomputable def top:Code:=.seq (.seq (.seq (.seq (.seq (R 0) (R 1)) (R 2)) (R 3)) (R 4)) (R 5)
theorem lt (G:AExit→Nat→List V→List AObj→Option D):evT false (e M) noInl 90 tbl top ([.d k0 p0]++List.replicate 130 .undef) [] (fun x r h=>G x r.length ([2,1,3,4,5].map fun i=>r.getD i .undef) h) =
 (cond (ltI (p0.at 0).i 0) (G .ret 131 [vB false,P0,.undef,.undef,.undef] [.var k0 (.d k0 p0)]) (cond (gtI (p0.at 0).i 7) (G .ret 131 [vB false,P0,.undef,.undef,.undef] [.var k0 (.d k0 p0)]) (bd (F134.s FUEL (p0.at 0).i) fun r1=>(cond (eqI (p0.at 0).i 1) (bd (F51.s FUEL (p0.at 2).s) fun r2=>G .normal 131 [vB false,P0,P1,vN 1,.d .bool r2] (H p0 r1)) (bd (F51.s FUEL (p0.at 2).s) fun r2=>G .normal 131 [vB false,P0,P1,vN 0,.d .bool r2] (H p0 r1)))))):=by kernel_rfl
theorem f12 (a b c d:Bool):Le (W4 p0 r1 a b c d) (evT false (e M) inl 90 tbl (Q 10) (SL 131 f [(1,P0),(3,P1),(6,vB a),(7,vB b),(8,vB c),(9,vB d)]) (H p0 r1) (kf M)):=by
 have hg:∀x,gate 131 (fun x:D=>[vB a,vB b,vB c,vB d,.d .bool x]) (fun _=>H p0 r1) (fun x=>E a b c d x) .normal 131 [vB a,vB b,vB c,vB d,.d .bool x] (H p0 r1)=E a b c d x:=fun x=>gate_eq (by intro x y h;simpa using h) x
 refine stage (A:=R 10) (C:=Q 11) (by kernel_rfl) ((l12 f p0 r1 (gate 131 (fun x:D=>[vB a,vB b,vB c,vB d,.d .bool x]) (fun _=>H p0 r1) (fun x=>E a b c d x)) a b c d).trans (by simp only[hg];rfl)) ?_
 intro x r h
 refine gate_le ?_
 rintro y rfl hn hL rfl
 simp only[List.map_cons,List.map_nil,List.cons.injEq,and_true] at hL
 obtain⟨h1,h2,h3,h4,h5⟩:=hL
 rw[SL_of hn (l:=[(6,vB a),(7,vB b),(8,vB c),(9,vB d),(10,.d .bool y)]) (allCons h1 (allCons h2 (allCons h3 (allCons h4 (allCons h5 (allNil))))))]
 intro z hz
 exact(f13 _ p0 r1 a b c d y).trans hz
theorem f11 (n:Int) (a b c:Bool):Le (W3 p0 r1 n a b c) (evT false (e M) inl 90 tbl (Q 9) (SL 131 f [(1,P0),(3,P1),(4,vN n),(6,vB a),(7,vB b),(8,vB c)]) (H p0 r1) (kf M)):=by
 have hg:∀x,gate 131 (fun x:Bool=>[P0,P1,vB a,vB b,vB c,vB x]) (fun _=>H p0 r1) (fun x=>W4 p0 r1 a b c x) .normal 131 [P0,P1,vB a,vB b,vB c,vB x] (H p0 r1)=W4 p0 r1 a b c x:=fun x=>gate_eq (by intro x y h;simpa using h) x
 refine stage (A:=R 9) (C:=Q 10) (by kernel_rfl) ((l11 f p0 r1 (gate 131 (fun x:Bool=>[P0,P1,vB a,vB b,vB c,vB x]) (fun _=>H p0 r1) (fun x=>W4 p0 r1 a b c x)) n a b c).trans (by simp only[hg];rfl)) ?_
 intro x r h
 refine gate_le ?_
 rintro y rfl hn hL rfl
 simp only[List.map_cons,List.map_nil,List.cons.injEq,and_true] at hL
 obtain⟨h1,h2,h3,h4,h5,h6⟩:=hL
 rw[SL_of hn (l:=[(1,P0),(3,P1),(6,vB a),(7,vB b),(8,vB c),(9,vB y)]) (allCons h1 (allCons h2 (allCons h3 (allCons h4 (allCons h5 (allCons h6 (allNil)))))))]
 exact f12 _ p0 r1 a b c y
theorem f10 (n:Int) (a b:Bool):Le (W2 p0 r1 n a b) (evT false (e M) inl 90 tbl (Q 8) (SL 131 f [(1,P0),(3,P1),(4,vN n),(6,vB a),(7,vB b)]) (H p0 r1) (kf M)):=by
 have hg:∀x,gate 131 (fun x:Bool=>[P0,P1,vN n,vB a,vB b,vB x]) (fun _=>H p0 r1) (fun x=>W3 p0 r1 n a b x) .normal 131 [P0,P1,vN n,vB a,vB b,vB x] (H p0 r1)=W3 p0 r1 n a b x:=fun x=>gate_eq (by intro x y h;simpa using h) x
 refine stage (A:=R 8) (C:=Q 9) (by kernel_rfl) ((l10 f p0 r1 (gate 131 (fun x:Bool=>[P0,P1,vN n,vB a,vB b,vB x]) (fun _=>H p0 r1) (fun x=>W3 p0 r1 n a b x)) n a b).trans (by simp only[hg];rfl)) ?_
 intro x r h
 refine gate_le ?_
 rintro y rfl hn hL rfl
 simp only[List.map_cons,List.map_nil,List.cons.injEq,and_true] at hL
 obtain⟨h1,h2,h3,h4,h5,h6⟩:=hL
 rw[SL_of hn (l:=[(1,P0),(3,P1),(4,vN n),(6,vB a),(7,vB b),(8,vB y)]) (allCons h1 (allCons h2 (allCons h3 (allCons h4 (allCons h5 (allCons h6 (allNil)))))))]
 exact f11 _ p0 r1 n a b y
theorem f9 (n:Int) (r2:D) (a:Bool):Le (W1 p0 r1 n r2 a) (evT false (e M) inl 90 tbl (Q 7) (SL 131 f [(1,P0),(3,P1),(4,vN n),(5,.d .bool r2),(6,vB a)]) (H p0 r1) (kf M)):=by
 have hg:∀x,gate 131 (fun x:Bool=>[P0,P1,vN n,vB a,vB x]) (fun _=>H p0 r1) (fun x=>W2 p0 r1 n a x) .normal 131 [P0,P1,vN n,vB a,vB x] (H p0 r1)=W2 p0 r1 n a x:=fun x=>gate_eq (by intro x y h;simpa using h) x
 refine stage (A:=R 7) (C:=Q 8) (by kernel_rfl) ((l9 f p0 r1 (gate 131 (fun x:Bool=>[P0,P1,vN n,vB a,vB x]) (fun _=>H p0 r1) (fun x=>W2 p0 r1 n a x)) n r2 a).trans (by simp only[hg];rfl)) ?_
 intro x r h
 refine gate_le ?_
 rintro y rfl hn hL rfl
 simp only[List.map_cons,List.map_nil,List.cons.injEq,and_true] at hL
 obtain⟨h1,h2,h3,h4,h5⟩:=hL
 rw[SL_of hn (l:=[(1,P0),(3,P1),(4,vN n),(6,vB a),(7,vB y)]) (allCons h1 (allCons h2 (allCons h3 (allCons h4 (allCons h5 (allNil))))))]
 exact f10 _ p0 r1 n a y
theorem f8 (n:Int) (r2:D):Le (W0 p0 r1 n r2) (evT false (e M) inl 90 tbl (Q 6) (SL 131 f [(1,P0),(3,P1),(4,vN n),(5,.d .bool r2)]) (H p0 r1) (kf M)):=by
 have hg:∀x,gate 131 (fun x:Bool=>[P0,P1,vN n,.d .bool r2,vB x]) (fun _=>H p0 r1) (fun x=>W1 p0 r1 n r2 x) .normal 131 [P0,P1,vN n,.d .bool r2,vB x] (H p0 r1)=W1 p0 r1 n r2 x:=fun x=>gate_eq (by intro x y h;simpa using h) x
 refine stage (A:=R 6) (C:=Q 7) (by kernel_rfl) ((l8 f p0 r1 (gate 131 (fun x:Bool=>[P0,P1,vN n,.d .bool r2,vB x]) (fun _=>H p0 r1) (fun x=>W1 p0 r1 n r2 x)) n r2).trans (by simp only[hg];rfl)) ?_
 intro x r h
 refine gate_le ?_
 rintro y rfl hn hL rfl
 simp only[List.map_cons,List.map_nil,List.cons.injEq,and_true] at hL
 obtain⟨h1,h2,h3,h4,h5⟩:=hL
 rw[SL_of hn (l:=[(1,P0),(3,P1),(4,vN n),(5,.d .bool r2),(6,vB y)]) (allCons h1 (allCons h2 (allCons h3 (allCons h4 (allCons h5 (allNil))))))]
 exact f9 _ p0 r1 n r2 y
noncomputable def gn (x:AExit) (m:Nat) (L:List V) (h:List AObj):Option D:=gate 131 (fun a:D×Int×D=>[vB false,P0,P1,vN a.2.1,.d .bool a.2.2]) (fun a=>H p0 a.1) (fun a=>W0 p0 a.1 a.2.1 a.2.2) x m L h
open Classical in
noncomputable def gt (x:AExit) (m:Nat) (L:List V) (h:List AObj):Option D:=match x with
 | .ret=>if L.head? = some (vB false) then some (db false) else none
 | x=>gn p0 x m L h
open Classical in
theorem all:Le (s M p0) (evT false (e M) inl 90 tbl body ([.d k0 p0]++List.replicate 130 .undef) [] (kf M)):=by
 have hb:body = .seq (R 0) (.seq (R 1) (.seq (R 2) (.seq (R 3) (.seq (R 4) (.seq (R 5) (Q 6)))))):=by kernel_rfl
 rw[hb,evT_assoc,evT_assoc,evT_assoc,evT_assoc,evT_assoc]
 have hg:∀r1 n r2,gt p0 .normal 131 [vB false,P0,P1,vN n,.d .bool r2] (H p0 r1)=W0 p0 r1 n r2:=by
  intro r1 n r2
  refine(gate_eq (n:=131) (T:=fun a:D×Int×D=>W0 p0 a.1 a.2.1 a.2.2) (Lv:=fun a:D×Int×D=>[vB false,P0,P1,vN a.2.1,.d .bool a.2.2]) (Hv:=fun a=>H p0 a.1) ?_ (r1,n,r2))
  rintro⟨x1,x2,x3⟩ ⟨y1,y2,y3⟩ h1 h2
  simp[H] at h1 h2 ⊢
  exact⟨h2,h1⟩
 have hr:gt p0 .ret 131 [vB false,P0,.undef,.undef,.undef] [.var k0 (.d k0 p0)]=some (db false):=by
  exact if_pos rfl
 refine stage (A:=top) (C:=Q 6) (by kernel_rfl) ((lt p0 (gt p0)).trans (by simp only[hg,hr];rfl)) ?_
 intro x r h
 cases x with
 | ret=>
  show Le (if (List.map (fun i=>r.getD i V.undef) [2,1,3,4,5]).head? = some (vB false) then some (db false) else none) (kf M .ret r h)
  by_cases hL:(List.map (fun i=>r.getD i V.undef) [2,1,3,4,5]).head? = some (vB false)
  ·rw[if_pos hL]
   simp only[List.map_cons,List.head?_cons,Option.some.injEq] at hL
   intro z hz
   rw[←hz]
   simp only[kf,resVals,hL,oneOf]
   rfl
  ·rw[if_neg hL];exact Le.none
 | exit id=>
  show Le (gn p0 (.exit id) _ _ _) _
  unfold gn
  exact gate_le (fun a h=>by simp at h)
 | normal=>
  show Le (gn p0 .normal _ _ _) _
  unfold gn
  refine gate_le ?_
  rintro⟨r1,n,r2⟩ _ hn hL rfl
  simp only[List.map_cons,List.map_nil,List.cons.injEq,and_true] at hL
  obtain⟨h1,h2,h3,h4,h5⟩:=hL
  rw[SL_of hn (l:=[(1,P0),(3,P1),(4,vN n),(5,.d .bool r2)]) (allCons h2 (allCons h3 (allCons h4 (allCons h5 (allNil)))))]
  exact f8 _ p0 r1 n r2
end
theorem call_eq (M:Nat) (p0:D):callS (e M) (tblOf []) 12 (.fn 90) [.d (.struct [50,3,9,3,3,56]) p0] [] (fun v H=>finish ty [4] v H)=evT false (e M) (callS (e M) (tblOf []) 11) 90 (tblOf [] 90 11 0) body ([.d k0 p0]++List.replicate 130 .undef) [] (kf M):=by kernel_rfl
def c:Con:={ run:=fun ds=>match ds with | [p0]=>s FUEL p0 | _=>none,plain:=true }
theorem ok:ConOk (90,c):=by
 intro fn' hfn
 obtain rfl:Tryz.f90=fn':=Option.some.inj ((by kernel_rfl:Tryz.prog.funcs[90]? = some Tryz.f90).symm.trans hfn)
 refine contract_flat (n:=20) hgl (fun _=>by kernel_rfl) (fun ds r hh hr=>?_)
 rw[show Tryz.f90.params.toList.map ty=[.struct [50,3,9,3,3,56]] by kernel_rfl] at hh
 obtain⟨p0,_,rfl,_,hh⟩:=hass_cons hh
 obtain rfl:=hass_nil hh
 exact⟨e FUEL,12,tblOf [],envOk (allCons F51.ok (allCons F134.ok allNil)) allNil,rfl,AllOk.nil,(call_eq FUEL p0).trans (all p0 r hr)⟩
end F90
namespace F91
def k0_:K:=(.struct [64,3,3])
def cons:List (Nat×Con):=[]
def exts:List (Nat×Ext):=[]
def h:List (Nat×Nat×Hint):=[(91,2,{ live:=[1,2,5],out:=some [4] })]
noncomputable def e (M:Nat):Env:=env cons exts h M
structure S2 where
 (i1 i2:Int) (d3:D)
inductive X2 where
 | e0 (i2:Int) (d3:D)
 | e1 (d3:D)
def st2 (M:Nat):S2→(S2→Option D)→(X2→Option D)→Option D
 | ⟨i1,i2,d3⟩,rec,K=>(cond (ltI i2 (nI (d3.at 0).elems.length)) (cond (inb i2 (d3.at 0).elems.length) (cond (eqI (((ix (d3.at 0).elems i2.toNat).at 0).at 0).i i1) (K (.e0 i2 d3)) (rec ⟨i1,(ad .i64 i2 1),d3⟩)) none) (K (.e1 d3)))
def ex2 (k:Kont):X2→Option D
 | .e0 i2 d3=>k .ret ((us 4 ((vi i2)::(us 18 [])))) [(.var k0_ (vk k0_ d3))]
 | .e1 d3=>k (.exit 0) ((us 23 [])) [(.var k0_ (vk k0_ d3))]
def lv2:S2→List Leaf
 | ⟨i1,i2,d3⟩=>[.i i1,.i i2,.d d3]
def of2:List Leaf→Option S2
 | [.i i1,.i i2,.d d3]=>some ⟨i1,i2,d3⟩
 | _=>none
def ps2:List PV:=((up 1 ((.d (.int .i64) (.int .i64))::(.ptr 0 [] k0_)::(up 2 ((.d (.int .i64) (.int .i64))::(up 17 []))))))
def qs2:List PO:=[(.var k0_ (.d k0_ .x))]
noncomputable def t (M:Nat):List Ent:=⟨91,11,0,2,sumS [1,2,5] ps2 qs2 [] of2 (st2 M) ex2 M⟩::[]
theorem t_ok (M:Nat):AllOk (e M) (tblOf (t M)):=AllOk.addS (n0:=1) (lv:=lv2) AllOk.nil (by kernel_rfl) rfl (by intro ls s h;unfold of2 at h;(repeat' split at h)<;>simp at h;subst h;rfl) (by intro s;kernel_rfl) (by intro s;kernel_rfl) (by intro s nx k;kernel_rfl)
def s (M:Nat) (p0:D) (p1:Int):Option D:=
 (goS (st2 M) M ⟨p1,0,p0⟩ fun x=>match x with | .e0 i2 d3=>(some (di i2)) | .e1 d3=>(some (di (-1))))
theorem run (M:Nat) (p0:D) (p1:Int):callS (e M) (tblOf (t M)) 12 (.fn 91) [.d (.struct [64,3,3]) p0,.d (.int .i64) (di p1)] [] (fun v H=>finish ty [3] v H)=s M p0 p1:=by kernel_rfl
def c:Con:={ run:=fun ds=>match ds with | [p0,p1]=>s FUEL p0 p1.i | _=>none,plain:=true }
theorem ok:ConOk (91,c):=mkC Tryz.f91 [(.struct [64,3,3]),(.int .i64)] [3] (by kernel_rfl) (by kernel_rfl) (by kernel_rfl) (by kernel_rfl) allNil allNil (t_ok FUEL) fun a=>run FUEL a.1 a.2.1
end F91
namespace F43
def k0_:K:=(.struct [50,3,9,3,3,56])
def k1_:K:=(.struct [64,3,3])
def cons:List (Nat×Con):=[(54,F54.c),(90,F90.c),(91,F91.c),(92,F92.c),(93,F93.c),(94,F94.c),(95,F95.c)]
def exts:List (Nat×Ext):=[]
def h:List (Nat×Nat×Hint):=[(43,18,{ live:=[2,3,4,7,8,10,11],out:=some [2,3,4,7,8,10] })]
noncomputable def e (M:Nat):Env:=env cons exts h M
structure S18 where
 (n3 n4:Nat) (b5:Bool) (i6:Int) (n7 n8:Nat) (d9 d10 d11:D) (b12:Bool) (l13:List D) (i14 i15:Int) (b16:Bool) (l17:List D) (d18:D)
inductive X18 where
 | e0 (n3 n4:Nat) (b5:Bool) (n7 n8:Nat) (d9 d10 d11:D) (b12:Bool) (l13:List D) (i14 i15:Int) (b16:Bool) (l17:List D) (d18:D)
def st18 (M:Nat):S18→(S18→Option D)→(X18→Option D)→Option D
 | ⟨n3,n4,b5,i6,n7,n8,d9,d10,d11,b12,l13,i14,i15,b16,l17,d18⟩,rec,K=>(cond (ltI i6 (nI n4)) (cond b5 (rec ⟨n3,n4,true,(ad .i64 i6 1),n7,n8,d9,d10,d11,b12,l13,i14,i15,b16,l17,d18⟩) (cond (inb i6 n4) (rec ⟨n3,n4,(eqS (((ix l17 (n3+i6.toNat)).at 0).at 1).s (d11.at 2).s),(ad .i64 i6 1),n7,n8,d9,d10,d11,b12,l13,i14,i15,b16,l17,d18⟩) none)) (K (.e0 n3 n4 b5 n7 n8 d9 d10 d11 b12 l13 i14 i15 b16 l17 d18)))
def ex18 (k:Kont):X18→Option D
 | .e0 n3 n4 b5 n7 n8 d9 d10 d11 b12 l13 i14 i15 b16 l17 d18=>k (.exit 1) ((us 2 ((.ptr 0 [] k1_)::(.ptr 1 [] k0_)::(.ptr 2 [] k1_)::(us 2 ((.sref 3 n3 n4)::(.ptr 4 [] k1_)::(us 1 ((vb b5)::(us 189 [])))))))) [(.var k1_ (.agg k1_ [(.sref 3 n7 n8),(vk (.int .i64) d9),(vk (.int .i64) d10)])),(.var k0_ (vk k0_ d11)),(.var k1_ (vk k1_ (da [(dl b12 l13),(di i14),(di i15)]))),(.row 109 true b16 l17),(.var k1_ (vk k1_ d18))]
def lv18:S18→List Leaf
 | ⟨n3,n4,b5,i6,n7,n8,d9,d10,d11,b12,l13,i14,i15,b16,l17,d18⟩=>[.n n3,.n n4,.b b5,.i i6,.n n7,.n n8,.d d9,.d d10,.d d11,.b b12,.l l13,.i i14,.i i15,.b b16,.l l17,.d d18]
def of18:List Leaf→Option S18
 | [.n n3,.n n4,.b b5,.i i6,.n n7,.n n8,.d d9,.d d10,.d d11,.b b12,.l l13,.i i14,.i i15,.b b16,.l l17,.d d18]=>some ⟨n3,n4,b5,i6,n7,n8,d9,d10,d11,b12,l13,i14,i15,b16,l17,d18⟩
 | _=>none
def ps18:List PV:=((up 2 ((.ptr 0 [] k1_)::(.ptr 1 [] k0_)::(.ptr 2 [] k1_)::(up 2 ((.sref 3)::(.ptr 4 [] k1_)::(up 1 ((.d .bool .bool)::(.d (.int .i64) (.int .i64))::(up 188 []))))))))
def qs18:List PO:=[(.var k1_ (.agg k1_ [(.sref 3),(.d (.int .i64) .x),(.d (.int .i64) .x)])),(.var k0_ (.d k0_ .x)),(.var k1_ (.d k1_ (.agg [.slice,(.int .i64),(.int .i64)]))),(.row 109 true),(.var k1_ (.d k1_ .x))]
noncomputable def t (M:Nat):List Ent:=⟨43,11,0,18,sumS [2,3,4,7,8,10,11] ps18 qs18 [] of18 (st18 M) ex18 M⟩::[]
theorem t_ok (M:Nat):AllOk (e M) (tblOf (t M)):=AllOk.addS (n0:=5) (lv:=lv18) AllOk.nil (by kernel_rfl) rfl (by intro ls s h;unfold of18 at h;(repeat' split at h)<;>simp at h;subst h;rfl) (by intro s;kernel_rfl) (by intro s;kernel_rfl) (by intro s nx k;kernel_rfl)
def s (M:Nat) (p0:D) (p1:D):Option D:=
 (bd (F90.s FUEL p1) fun r1=>(cond (!r1.b) (some (D.tup [p0,(di 13)])) (cond (mx (p0.at 0).elems.length) (bd (F91.s FUEL (da [(dl (!(p0.at 0).elems.isEmpty) (((p0.at 0).elems.drop 0).take (p0.at 0).elems.length)),(p0.at 1),(p0.at 2)]) (p1.at 1).i) fun r2=>(cond (eqI (p1.at 0).i 7) (cond (leI (p1.at 3).i (p0.at 2).i) (some (D.tup [p0,(di 13)])) (some (D.tup [(da [(dl (!(p0.at 0).elems.isEmpty) (((p0.at 0).elems.drop 0).take (p0.at 0).elems.length)),(p0.at 1),(p1.at 3)]),(di 0)]))) (cond (eqI (p1.at 0).i 0) (goS (st18 M) M ⟨0,(p0.at 0).elems.length,false,0,0,(p0.at 0).elems.length,(p0.at 1),(p0.at 2),p1,false,[],0,0,(!(p0.at 0).elems.isEmpty),(p0.at 0).elems,p0⟩ fun x=>match x with | .e0 n3 n4 b5 n7 n8 d9 d10 d11 b12 l13 i14 i15 b16 l17 d18=>(cond (neI (sb .i64 (d11.at 1).i 1) d9.i) (some (D.tup [d18,(di 13)])) (cond b5 (some (D.tup [d18,(di 13)])) (cond (geI (nI n4) 12) (some (D.tup [d18,(di 13)])) (cond (mx (n4+1)) (some (D.tup [(da [(dl (b16||true) (((ap ((l17.drop n3).take n4) [(da [(da [(d11.at 1),(d11.at 2),(dS (bs [])),(db false),(di 0),(dl false [])]),(di 0),(da (rp 32 (D.int .u8 0)))])]).drop 0).take (n4+1))),(d11.at 1),d10]),(di 0)])) none))))) (cond (ltI r2.i 0) (some (D.tup [p0,(di 13)])) (cond (inb r2.i (p0.at 0).elems.length) (cond (eqI (p1.at 0).i 1) (cond (((ix (p0.at 0).elems (0+(r2.i).toNat)).at 0).at 3).b (some (D.tup [p0,(di 13)])) (cond (gtI ((ix (p0.at 0).elems (0+(r2.i).toNat)).at 1).i (sb .i64 600 (p1.at 4).i)) (some (D.tup [p0,(di 13)])) (cond (eqI (p1.at 0).i 6) (cond (true&&(leI 0 r2.i)&&(leN (0+(r2.i).toNat) (p0.at 0).elems.length)) (cond (mx (((p0.at 0).elems.drop 0).take ((r2.i).toNat-0)).length) (cond ((leI 0 (ad .i64 r2.i 1))&&(leI (ad .i64 r2.i 1) (nI (p0.at 0).elems.length))&&(leN (0+(p0.at 0).elems.length) (p0.at 0).elems.length)) (cond (mx ((((p0.at 0).elems.drop 0).take ((r2.i).toNat-0)).length+(((p0.at 0).elems.drop (0+(ad .i64 r2.i 1).toNat)).take ((p0.at 0).elems.length-(ad .i64 r2.i 1).toNat)).length)) (some (D.tup [(da [(dl ((!(((p0.at 0).elems.drop 0).take ((r2.i).toNat-0)).isEmpty)||(!(((p0.at 0).elems.drop (0+(ad .i64 r2.i 1).toNat)).take ((p0.at 0).elems.length-(ad .i64 r2.i 1).toNat)).isEmpty)) (((ap (((((p0.at 0).elems.drop 0).take ((r2.i).toNat-0)).drop 0).take (((p0.at 0).elems.drop 0).take ((r2.i).toNat-0)).length) (((p0.at 0).elems.drop (0+(ad .i64 r2.i 1).toNat)).take ((p0.at 0).elems.length-(ad .i64 r2.i 1).toNat))).drop 0).take ((((p0.at 0).elems.drop 0).take ((r2.i).toNat-0)).length+(((p0.at 0).elems.drop (0+(ad .i64 r2.i 1).toNat)).take ((p0.at 0).elems.length-(ad .i64 r2.i 1).toNat)).length))),(p0.at 1),(p0.at 2)]),(di 0)])) none) none) none) none) (cond (inb r2.i (p0.at 0).elems.length) (some (D.tup [(da [(dl (!(p0.at 0).elems.isEmpty) ((((p0.at 0).elems.set (0+(r2.i).toNat) (D.agg ((D.agg ((ix (p0.at 0).elems (0+(r2.i).toNat)).parts.set 1 (di (ad .i64 ((ix (p0.at 0).elems (0+(r2.i).toNat)).at 1).i (p1.at 4).i)))).parts.set 0 ((ix (p0.at 0).elems (0+(r2.i).toNat)).at 0)))).drop 0).take (p0.at 0).elems.length)),(p0.at 1),(p0.at 2)]),(di 0)])) none)))) (cond (eqI (p1.at 0).i 2) (bd (F92.s FUEL ((ix (p0.at 0).elems (0+(r2.i).toNat)).at 0) (p1.at 3).i) fun r19=>(cond (neI ((ix (p0.at 0).elems (0+(r2.i).toNat)).at 1).i (p1.at 4).i) (some (D.tup [p0,(di 13)])) (cond (neI (r19.at 1).i 0) (some (D.tup [p0,(di 13)])) (cond (eqI (p1.at 0).i 6) (cond (true&&(leI 0 r2.i)&&(leN (0+(r2.i).toNat) (p0.at 0).elems.length)) (cond (mx (((p0.at 0).elems.drop 0).take ((r2.i).toNat-0)).length) (cond ((leI 0 (ad .i64 r2.i 1))&&(leI (ad .i64 r2.i 1) (nI (p0.at 0).elems.length))&&(leN (0+(p0.at 0).elems.length) (p0.at 0).elems.length)) (cond (mx ((((p0.at 0).elems.drop 0).take ((r2.i).toNat-0)).length+(((p0.at 0).elems.drop (0+(ad .i64 r2.i 1).toNat)).take ((p0.at 0).elems.length-(ad .i64 r2.i 1).toNat)).length)) (some (D.tup [(da [(dl ((!(((p0.at 0).elems.drop 0).take ((r2.i).toNat-0)).isEmpty)||(!(((p0.at 0).elems.drop (0+(ad .i64 r2.i 1).toNat)).take ((p0.at 0).elems.length-(ad .i64 r2.i 1).toNat)).isEmpty)) (((ap (((((p0.at 0).elems.drop 0).take ((r2.i).toNat-0)).drop 0).take (((p0.at 0).elems.drop 0).take ((r2.i).toNat-0)).length) (((p0.at 0).elems.drop (0+(ad .i64 r2.i 1).toNat)).take ((p0.at 0).elems.length-(ad .i64 r2.i 1).toNat))).drop 0).take ((((p0.at 0).elems.drop 0).take ((r2.i).toNat-0)).length+(((p0.at 0).elems.drop (0+(ad .i64 r2.i 1).toNat)).take ((p0.at 0).elems.length-(ad .i64 r2.i 1).toNat)).length))),(p0.at 1),(p0.at 2)]),(di 0)])) none) none) none) none) (cond (inb r2.i (p0.at 0).elems.length) (some (D.tup [(da [(dl (!(p0.at 0).elems.isEmpty) ((((p0.at 0).elems.set (0+(r2.i).toNat) (D.agg ((D.agg ((ix (p0.at 0).elems (0+(r2.i).toNat)).parts.set 2 (p1.at 5))).parts.set 0 (r19.at 0)))).drop 0).take (p0.at 0).elems.length)),(p0.at 1),(p0.at 2)]),(di 0)])) none))))) (cond (eqI (p1.at 0).i 3) (bd (F93.s FUEL ((ix (p0.at 0).elems (0+(r2.i).toNat)).at 0) (p1.at 3).i) fun r20=>(cond (neI (r20.at 1).i 0) (some (D.tup [p0,(di 13)])) (cond (eqI (p1.at 0).i 6) (cond (true&&(leI 0 r2.i)&&(leN (0+(r2.i).toNat) (p0.at 0).elems.length)) (cond (mx (((p0.at 0).elems.drop 0).take ((r2.i).toNat-0)).length) (cond ((leI 0 (ad .i64 r2.i 1))&&(leI (ad .i64 r2.i 1) (nI (p0.at 0).elems.length))&&(leN (0+(p0.at 0).elems.length) (p0.at 0).elems.length)) (cond (mx ((((p0.at 0).elems.drop 0).take ((r2.i).toNat-0)).length+(((p0.at 0).elems.drop (0+(ad .i64 r2.i 1).toNat)).take ((p0.at 0).elems.length-(ad .i64 r2.i 1).toNat)).length)) (some (D.tup [(da [(dl ((!(((p0.at 0).elems.drop 0).take ((r2.i).toNat-0)).isEmpty)||(!(((p0.at 0).elems.drop (0+(ad .i64 r2.i 1).toNat)).take ((p0.at 0).elems.length-(ad .i64 r2.i 1).toNat)).isEmpty)) (((ap (((((p0.at 0).elems.drop 0).take ((r2.i).toNat-0)).drop 0).take (((p0.at 0).elems.drop 0).take ((r2.i).toNat-0)).length) (((p0.at 0).elems.drop (0+(ad .i64 r2.i 1).toNat)).take ((p0.at 0).elems.length-(ad .i64 r2.i 1).toNat))).drop 0).take ((((p0.at 0).elems.drop 0).take ((r2.i).toNat-0)).length+(((p0.at 0).elems.drop (0+(ad .i64 r2.i 1).toNat)).take ((p0.at 0).elems.length-(ad .i64 r2.i 1).toNat)).length))),(p0.at 1),(p0.at 2)]),(di 0)])) none) none) none) none) (cond (inb r2.i (p0.at 0).elems.length) (some (D.tup [(da [(dl (!(p0.at 0).elems.isEmpty) ((((p0.at 0).elems.set (0+(r2.i).toNat) (D.agg ((ix (p0.at 0).elems (0+(r2.i).toNat)).parts.set 0 (r20.at 0)))).drop 0).take (p0.at 0).elems.length)),(p0.at 1),(p0.at 2)]),(di 0)])) none)))) (cond (eqI (p1.at 0).i 4) (bd (F94.s FUEL ((ix (p0.at 0).elems (0+(r2.i).toNat)).at 0) (p1.at 2).s) fun r21=>(cond (neI (r21.at 1).i 0) (some (D.tup [p0,(di 13)])) (cond (eqI (p1.at 0).i 6) (cond (true&&(leI 0 r2.i)&&(leN (0+(r2.i).toNat) (p0.at 0).elems.length)) (cond (mx (((p0.at 0).elems.drop 0).take ((r2.i).toNat-0)).length) (cond ((leI 0 (ad .i64 r2.i 1))&&(leI (ad .i64 r2.i 1) (nI (p0.at 0).elems.length))&&(leN (0+(p0.at 0).elems.length) (p0.at 0).elems.length)) (cond (mx ((((p0.at 0).elems.drop 0).take ((r2.i).toNat-0)).length+(((p0.at 0).elems.drop (0+(ad .i64 r2.i 1).toNat)).take ((p0.at 0).elems.length-(ad .i64 r2.i 1).toNat)).length)) (some (D.tup [(da [(dl ((!(((p0.at 0).elems.drop 0).take ((r2.i).toNat-0)).isEmpty)||(!(((p0.at 0).elems.drop (0+(ad .i64 r2.i 1).toNat)).take ((p0.at 0).elems.length-(ad .i64 r2.i 1).toNat)).isEmpty)) (((ap (((((p0.at 0).elems.drop 0).take ((r2.i).toNat-0)).drop 0).take (((p0.at 0).elems.drop 0).take ((r2.i).toNat-0)).length) (((p0.at 0).elems.drop (0+(ad .i64 r2.i 1).toNat)).take ((p0.at 0).elems.length-(ad .i64 r2.i 1).toNat))).drop 0).take ((((p0.at 0).elems.drop 0).take ((r2.i).toNat-0)).length+(((p0.at 0).elems.drop (0+(ad .i64 r2.i 1).toNat)).take ((p0.at 0).elems.length-(ad .i64 r2.i 1).toNat)).length))),(p0.at 1),(p0.at 2)]),(di 0)])) none) none) none) none) (cond (inb r2.i (p0.at 0).elems.length) (some (D.tup [(da [(dl (!(p0.at 0).elems.isEmpty) ((((p0.at 0).elems.set (0+(r2.i).toNat) (D.agg ((ix (p0.at 0).elems (0+(r2.i).toNat)).parts.set 0 (r21.at 0)))).drop 0).take (p0.at 0).elems.length)),(p0.at 1),(p0.at 2)]),(di 0)])) none)))) (cond (eqI (p1.at 0).i 5) (bd (F95.s FUEL ((ix (p0.at 0).elems (0+(r2.i).toNat)).at 0) (p1.at 2).s) fun r22=>(cond (neI (r22.at 1).i 0) (some (D.tup [p0,(di 13)])) (cond (eqI (p1.at 0).i 6) (cond (true&&(leI 0 r2.i)&&(leN (0+(r2.i).toNat) (p0.at 0).elems.length)) (cond (mx (((p0.at 0).elems.drop 0).take ((r2.i).toNat-0)).length) (cond ((leI 0 (ad .i64 r2.i 1))&&(leI (ad .i64 r2.i 1) (nI (p0.at 0).elems.length))&&(leN (0+(p0.at 0).elems.length) (p0.at 0).elems.length)) (cond (mx ((((p0.at 0).elems.drop 0).take ((r2.i).toNat-0)).length+(((p0.at 0).elems.drop (0+(ad .i64 r2.i 1).toNat)).take ((p0.at 0).elems.length-(ad .i64 r2.i 1).toNat)).length)) (some (D.tup [(da [(dl ((!(((p0.at 0).elems.drop 0).take ((r2.i).toNat-0)).isEmpty)||(!(((p0.at 0).elems.drop (0+(ad .i64 r2.i 1).toNat)).take ((p0.at 0).elems.length-(ad .i64 r2.i 1).toNat)).isEmpty)) (((ap (((((p0.at 0).elems.drop 0).take ((r2.i).toNat-0)).drop 0).take (((p0.at 0).elems.drop 0).take ((r2.i).toNat-0)).length) (((p0.at 0).elems.drop (0+(ad .i64 r2.i 1).toNat)).take ((p0.at 0).elems.length-(ad .i64 r2.i 1).toNat))).drop 0).take ((((p0.at 0).elems.drop 0).take ((r2.i).toNat-0)).length+(((p0.at 0).elems.drop (0+(ad .i64 r2.i 1).toNat)).take ((p0.at 0).elems.length-(ad .i64 r2.i 1).toNat)).length))),(p0.at 1),(p0.at 2)]),(di 0)])) none) none) none) none) (cond (inb r2.i (p0.at 0).elems.length) (some (D.tup [(da [(dl (!(p0.at 0).elems.isEmpty) ((((p0.at 0).elems.set (0+(r2.i).toNat) (D.agg ((ix (p0.at 0).elems (0+(r2.i).toNat)).parts.set 0 (r22.at 0)))).drop 0).take (p0.at 0).elems.length)),(p0.at 1),(p0.at 2)]),(di 0)])) none)))) (cond (eqI (p1.at 0).i 6) (bd (F54.s FUEL ((ix (p0.at 0).elems (0+(r2.i).toNat)).at 0) (p0.at 2).i) fun r23=>(cond (neI r23.i 0) (some (D.tup [p0,(di 13)])) (cond (eqI (p1.at 0).i 6) (cond (true&&(leI 0 r2.i)&&(leN (0+(r2.i).toNat) (p0.at 0).elems.length)) (cond (mx (((p0.at 0).elems.drop 0).take ((r2.i).toNat-0)).length) (cond ((leI 0 (ad .i64 r2.i 1))&&(leI (ad .i64 r2.i 1) (nI (p0.at 0).elems.length))&&(leN (0+(p0.at 0).elems.length) (p0.at 0).elems.length)) (cond (mx ((((p0.at 0).elems.drop 0).take ((r2.i).toNat-0)).length+(((p0.at 0).elems.drop (0+(ad .i64 r2.i 1).toNat)).take ((p0.at 0).elems.length-(ad .i64 r2.i 1).toNat)).length)) (some (D.tup [(da [(dl ((!(((p0.at 0).elems.drop 0).take ((r2.i).toNat-0)).isEmpty)||(!(((p0.at 0).elems.drop (0+(ad .i64 r2.i 1).toNat)).take ((p0.at 0).elems.length-(ad .i64 r2.i 1).toNat)).isEmpty)) (((ap (((((p0.at 0).elems.drop 0).take ((r2.i).toNat-0)).drop 0).take (((p0.at 0).elems.drop 0).take ((r2.i).toNat-0)).length) (((p0.at 0).elems.drop (0+(ad .i64 r2.i 1).toNat)).take ((p0.at 0).elems.length-(ad .i64 r2.i 1).toNat))).drop 0).take ((((p0.at 0).elems.drop 0).take ((r2.i).toNat-0)).length+(((p0.at 0).elems.drop (0+(ad .i64 r2.i 1).toNat)).take ((p0.at 0).elems.length-(ad .i64 r2.i 1).toNat)).length))),(p0.at 1),(p0.at 2)]),(di 0)])) none) none) none) none) (cond (inb r2.i (p0.at 0).elems.length) (some (D.tup [(da [(dl (!(p0.at 0).elems.isEmpty) ((((p0.at 0).elems.set (0+(r2.i).toNat) (D.agg ((ix (p0.at 0).elems (0+(r2.i).toNat)).parts.set 0 ((ix (p0.at 0).elems (0+(r2.i).toNat)).at 0)))).drop 0).take (p0.at 0).elems.length)),(p0.at 1),(p0.at 2)]),(di 0)])) none)))) (cond (eqI (p1.at 0).i 6) (cond (true&&(leI 0 r2.i)&&(leN (0+(r2.i).toNat) (p0.at 0).elems.length)) (cond (mx (((p0.at 0).elems.drop 0).take ((r2.i).toNat-0)).length) (cond ((leI 0 (ad .i64 r2.i 1))&&(leI (ad .i64 r2.i 1) (nI (p0.at 0).elems.length))&&(leN (0+(p0.at 0).elems.length) (p0.at 0).elems.length)) (cond (mx ((((p0.at 0).elems.drop 0).take ((r2.i).toNat-0)).length+(((p0.at 0).elems.drop (0+(ad .i64 r2.i 1).toNat)).take ((p0.at 0).elems.length-(ad .i64 r2.i 1).toNat)).length)) (some (D.tup [(da [(dl ((!(((p0.at 0).elems.drop 0).take ((r2.i).toNat-0)).isEmpty)||(!(((p0.at 0).elems.drop (0+(ad .i64 r2.i 1).toNat)).take ((p0.at 0).elems.length-(ad .i64 r2.i 1).toNat)).isEmpty)) (((ap (((((p0.at 0).elems.drop 0).take ((r2.i).toNat-0)).drop 0).take (((p0.at 0).elems.drop 0).take ((r2.i).toNat-0)).length) (((p0.at 0).elems.drop (0+(ad .i64 r2.i 1).toNat)).take ((p0.at 0).elems.length-(ad .i64 r2.i 1).toNat))).drop 0).take ((((p0.at 0).elems.drop 0).take ((r2.i).toNat-0)).length+(((p0.at 0).elems.drop (0+(ad .i64 r2.i 1).toNat)).take ((p0.at 0).elems.length-(ad .i64 r2.i 1).toNat)).length))),(p0.at 1),(p0.at 2)]),(di 0)])) none) none) none) none) (cond (inb r2.i (p0.at 0).elems.length) (some (D.tup [(da [(dl (!(p0.at 0).elems.isEmpty) ((((p0.at 0).elems.set (0+(r2.i).toNat) (D.agg ((ix (p0.at 0).elems (0+(r2.i).toNat)).parts.set 0 ((ix (p0.at 0).elems (0+(r2.i).toNat)).at 0)))).drop 0).take (p0.at 0).elems.length)),(p0.at 1),(p0.at 2)]),(di 0)])) none)))))))) none))))) none)))
theorem run (M:Nat) (p0:D) (p1:D):callS (e M) (tblOf (t M)) 12 (.fn 43) [.d (.struct [64,3,3]) p0,.d (.struct [50,3,9,3,3,56]) p1] [] (fun v H=>finish ty [66,36] v H)=s M p0 p1:=by kernel_rfl
def c:Con:={ run:=fun ds=>match ds with | [p0,p1]=>s FUEL p0 p1 | _=>none }
theorem ok:ConOk (43,c):=mkC Tryz.f43 [(.struct [64,3,3]),(.struct [50,3,9,3,3,56])] [66,36] (by kernel_rfl) (by kernel_rfl) (by kernel_rfl) (by kernel_rfl) (allCons F54.ok (allCons F90.ok (allCons F91.ok (allCons F92.ok (allCons F93.ok (allCons F94.ok (allCons F95.ok allNil))))))) allNil (t_ok FUEL) fun a=>run FUEL a.1 a.2.1
end F43
namespace F21
def k0_:K:=(.struct [64,3,3])
def cons:List (Nat×Con):=[(43,F43.c)]
def exts:List (Nat×Ext):=[]
def h:List (Nat×Nat×Hint):=[(21,3,{ live:=[0,2,5,6],out:=some [2,3,4,5] })]
noncomputable def e (M:Nat):Env:=env cons exts h M
structure S3 where
 (d12:D) (i13:Int) (b14:Bool) (l15:List D) (i16 i17:Int) (d18:D)
inductive X3 where
 | e0 (i13:Int) (d18 r19:D)
 | e1 (b14:Bool) (l15:List D) (i16 i17:Int) (d18:D)
def st3 (M:Nat):S3→(S3→Option D)→(X3→Option D)→Option D
 | ⟨d12,i13,b14,l15,i16,i17,d18⟩,rec,K=>(cond (ltI i13 (nI d12.elems.length)) (cond (inb i13 d12.elems.length) (bd (F43.s FUEL d18 (ix d12.elems i13.toNat)) fun r19=>(cond (neI (r19.at 1).i 0) (K (.e0 i13 d18 r19)) (rec ⟨d12,(ad .i64 i13 1),b14,l15,i16,i17,(r19.at 0)⟩))) none) (K (.e1 b14 l15 i16 i17 d18)))
def ex3 (k:Kont):X3→Option D
 | .e0 i13 d18 r19=>k .ret ((us 2 ((.ptr 0 [] k0_)::(vi 13)::(vi i13)::(.ptr 1 [] k0_)::(us 25 [])))) [(.var k0_ (vk k0_ d18)),(.var k0_ (vk k0_ d18)),(.var k0_ (vk k0_ (r19.at 0)))]
 | .e1 b14 l15 i16 i17 d18=>k (.exit 0) ((us 2 ((.ptr 0 [] k0_)::(us 2 ((.ptr 1 [] k0_)::(us 25 [])))))) [(.var k0_ (vk k0_ (da [(dl b14 l15),(di i16),(di i17)]))),(.var k0_ (vk k0_ d18))]
def lv3:S3→List Leaf
 | ⟨d12,i13,b14,l15,i16,i17,d18⟩=>[.d d12,.i i13,.b b14,.l l15,.i i16,.i i17,.d d18]
def of3:List Leaf→Option S3
 | [.d d12,.i i13,.b b14,.l l15,.i i16,.i i17,.d d18]=>some ⟨d12,i13,b14,l15,i16,i17,d18⟩
 | _=>none
def ps3:List PV:=((.d (.slice 58) .x)::(up 1 ((.ptr 0 [] k0_)::(up 2 ((.ptr 1 [] k0_)::(.d (.int .i64) (.int .i64))::(up 24 []))))))
def qs3:List PO:=[(.var k0_ (.d k0_ (.agg [.slice,(.int .i64),(.int .i64)]))),(.var k0_ (.d k0_ .x))]
noncomputable def t (M:Nat):List Ent:=⟨21,11,0,3,sumS [0,2,5,6] ps3 qs3 [] of3 (st3 M) ex3 M⟩::[]
theorem t_ok (M:Nat):AllOk (e M) (tblOf (t M)):=AllOk.addS (n0:=2) (lv:=lv3) AllOk.nil (by kernel_rfl) rfl (by intro ls s h;unfold of3 at h;(repeat' split at h)<;>simp at h;subst h;rfl) (by intro s;kernel_rfl) (by intro s;kernel_rfl) (by intro s nx k;kernel_rfl)
def s (M:Nat) (p0:D):Option D:=
 (goS (st3 M) M ⟨p0,0,false,[],0,0,(da [(dl false []),(di 0),(di 0)])⟩ fun x=>match x with | .e0 i13 d18 r19=>(some (D.tup [d18,(di 13),(di i13)])) | .e1 b14 l15 i16 i17 d18=>(some (D.tup [d18,(di 0),(di 0)])))
theorem run (M:Nat) (p0:D):callS (e M) (tblOf (t M)) 12 (.fn 21) [.d (.slice 58) p0] [] (fun v H=>finish ty [66,36,3] v H)=s M p0:=by kernel_rfl
def c:Con:={ run:=fun ds=>match ds with | [p0]=>s FUEL p0 | _=>none }
theorem ok:ConOk (21,c):=mkC Tryz.f21 [(.slice 58)] [66,36,3] (by kernel_rfl) (by kernel_rfl) (by kernel_rfl) (by kernel_rfl) (allCons F43.ok allNil) allNil (t_ok FUEL) fun a=>run FUEL a.1
end F21
namespace F23
def k0_:K:=(.struct [45,3,3])
def k1_:K:=(.struct [64,3,3])
def cons:List (Nat×Con):=[]
def exts:List (Nat×Ext):=[]
def h:List (Nat×Nat×Hint):=[(23,3,{ live:=[1,2,3,4],rows:=[(1052674,109)],out:=some [2,3] })]
noncomputable def e (M:Nat):Env:=env cons exts h M
structure S3 where
 (i1:Int) (d2:D) (b3:Bool) (l4:List D) (i5 i6:Int) (n7 n8:Nat) (d9 d10:D) (b11:Bool) (l12:List D)
inductive X3 where
 | e0 (d2:D) (b3:Bool) (l4:List D) (i5 i6:Int) (n7 n8:Nat) (d9 d10:D) (b11:Bool) (l12:List D)
def st3 (M:Nat):S3→(S3→Option D)→(X3→Option D)→Option D
 | ⟨i1,d2,b3,l4,i5,i6,n7,n8,d9,d10,b11,l12⟩,rec,K=>(cond (ltI i1 (nI (d2.at 0).elems.length)) (cond (inb i1 (d2.at 0).elems.length) (cond (mx (n8+1)) (rec ⟨(ad .i64 i1 1),d2,b3,l4,i5,i6,0,(n8+1),d9,d10,(b11||true),(ap ((l12.drop n7).take n8) [(da [((ix (d2.at 0).elems i1.toNat).at 0),((ix (d2.at 0).elems i1.toNat).at 1),((ix (d2.at 0).elems i1.toNat).at 2)])])⟩) none) none) (K (.e0 d2 b3 l4 i5 i6 n7 n8 d9 d10 b11 l12)))
def ex3 (k:Kont):X3→Option D
 | .e0 d2 b3 l4 i5 i6 n7 n8 d9 d10 b11 l12=>k (.exit 0) ((us 2 ((.ptr 1 [] k1_)::(.ptr 2 [] k1_)::(us 32 [])))) [(.var k0_ (vk k0_ d2)),(.var k1_ (vk k1_ (da [(dl b3 l4),(di i5),(di i6)]))),(.var k1_ (.agg k1_ [(.sref 3 n7 n8),(vk (.int .i64) d9),(vk (.int .i64) d10)])),(.row 109 true b11 l12)]
def lv3:S3→List Leaf
 | ⟨i1,d2,b3,l4,i5,i6,n7,n8,d9,d10,b11,l12⟩=>[.i i1,.d d2,.b b3,.l l4,.i i5,.i i6,.n n7,.n n8,.d d9,.d d10,.b b11,.l l12]
def of3:List Leaf→Option S3
 | [.i i1,.d d2,.b b3,.l l4,.i i5,.i i6,.n n7,.n n8,.d d9,.d d10,.b b11,.l l12]=>some ⟨i1,d2,b3,l4,i5,i6,n7,n8,d9,d10,b11,l12⟩
 | _=>none
def ps3:List PV:=((up 1 ((.ptr 0 [] k0_)::(.ptr 1 [] k1_)::(.ptr 2 [] k1_)::(.d (.int .i64) (.int .i64))::(up 31 []))))
def qs3:List PO:=[(.var k0_ (.d k0_ .x)),(.var k1_ (.d k1_ (.agg [.slice,(.int .i64),(.int .i64)]))),(.var k1_ (.agg k1_ [(.sref 3),(.d (.int .i64) .x),(.d (.int .i64) .x)])),(.row 109 true)]
noncomputable def t (M:Nat):List Ent:=⟨23,11,0,3,sumS [1,2,3,4] ps3 qs3 [(1052674,3)] of3 (st3 M) ex3 M⟩::[]
theorem t_ok (M:Nat):AllOk (e M) (tblOf (t M)):=AllOk.addS (n0:=4) (lv:=lv3) AllOk.nil (by kernel_rfl) rfl (by intro ls s h;unfold of3 at h;(repeat' split at h)<;>simp at h;subst h;rfl) (by intro s;kernel_rfl) (by intro s;kernel_rfl) (by intro s nx k;kernel_rfl)
def s (M:Nat) (p0:D):Option D:=
 (goS (st3 M) M ⟨0,p0,false,[],0,0,0,0,(p0.at 1),(p0.at 2),false,[]⟩ fun x=>match x with | .e0 d2 b3 l4 i5 i6 n7 n8 d9 d10 b11 l12=>(some (da [(dl b11 ((l12.drop n7).take n8)),d9,d10])))
theorem run (M:Nat) (p0:D):callS (e M) (tblOf (t M)) 12 (.fn 23) [.d (.struct [45,3,3]) p0] [] (fun v H=>finish ty [66] v H)=s M p0:=by kernel_rfl
def c:Con:={ run:=fun ds=>match ds with | [p0]=>s FUEL p0 | _=>none }
theorem ok:ConOk (23,c):=mkC Tryz.f23 [(.struct [45,3,3])] [66] (by kernel_rfl) (by kernel_rfl) (by kernel_rfl) (by kernel_rfl) allNil allNil (t_ok FUEL) fun a=>run FUEL a.1
end F23
namespace F22
def k1_:K:=(.struct [64,3,3])
def cons:List (Nat×Con):=[(29,F29.c)]
def exts:List (Nat×Ext):=[]
def h:List (Nat×Nat×Hint):=[(22,4,{ live:=[2,3,5],out:=some [4] })]
def q0_:PO:=(.var k1_ (.d k1_ .x))
noncomputable def e (M:Nat):Env:=env cons exts h M
structure S4 where
 (i1:Int) (d2 d3:D)
inductive X4 where
 | e0 (i1:Int) (d2 d3:D)
 | e1 (d2 d3:D)
def st4 (M:Nat):S4→(S4→Option D)→(X4→Option D)→Option D
 | ⟨i1,d2,d3⟩,rec,K=>(cond (ltI i1 (nI (d2.at 0).elems.length)) (cond (inb i1 (d2.at 0).elems.length) (cond (inb i1 (d3.at 0).elems.length) (bd (F29.s FUEL ((ix (d2.at 0).elems i1.toNat).at 0) ((ix (d3.at 0).elems i1.toNat).at 0)) fun r4=>(cond (!r4.b) (K (.e0 i1 d2 d3)) (cond (neI ((ix (d2.at 0).elems i1.toNat).at 1).i ((ix (d3.at 0).elems i1.toNat).at 1).i) (K (.e0 i1 d2 d3)) (bd (match D.eqv ty eqDepth ((ix (d2.at 0).elems i1.toNat).at 2) ((ix (d3.at 0).elems i1.toNat).at 2) (.array 32 5) with | some z=>some (.bool (!z)) | none=>none) fun r5=>(cond r5.b (K (.e0 i1 d2 d3)) (rec ⟨(ad .i64 i1 1),d2,d3⟩)))))) none) none) (K (.e1 d2 d3)))
def ex4 (k:Kont):X4→Option D
 | .e0 i1 d2 d3=>k .ret ((us 4 ((vb false)::(us 61 [])))) [(.var k1_ (vk k1_ d2)),(.var k1_ (vk k1_ d3)),(.var (.struct [39,3,56]) (vk (.struct [39,3,56]) (ix (d2.at 0).elems i1.toNat))),(.var (.struct [39,3,56]) (vk (.struct [39,3,56]) (ix (d3.at 0).elems i1.toNat)))]
 | .e1 d2 d3=>k (.exit 0) ((us 66 [])) [(.var k1_ (vk k1_ d2)),(.var k1_ (vk k1_ d3))]
def lv4:S4→List Leaf
 | ⟨i1,d2,d3⟩=>[.i i1,.d d2,.d d3]
def of4:List Leaf→Option S4
 | [.i i1,.d d2,.d d3]=>some ⟨i1,d2,d3⟩
 | _=>none
def ps4:List PV:=((up 2 ((.ptr 0 [] k1_)::(.ptr 1 [] k1_)::(up 1 ((.d (.int .i64) (.int .i64))::(up 60 []))))))
def qs4:List PO:=[q0_,q0_]
noncomputable def t (M:Nat):List Ent:=⟨22,11,0,4,sumS [2,3,5] ps4 qs4 [] of4 (st4 M) ex4 M⟩::[]
theorem t_ok (M:Nat):AllOk (e M) (tblOf (t M)):=AllOk.addS (n0:=2) (lv:=lv4) AllOk.nil (by kernel_rfl) rfl (by intro ls s h;unfold of4 at h;(repeat' split at h)<;>simp at h;subst h;rfl) (by intro s;kernel_rfl) (by intro s;kernel_rfl) (by intro s nx k;kernel_rfl)
def s (M:Nat) (p0:D) (p1:D):Option D:=
 (cond (neI (nI (p0.at 0).elems.length) (nI (p1.at 0).elems.length)) (some (db false)) (cond (neI (p0.at 1).i (p1.at 1).i) (some (db false)) (cond (neI (p0.at 2).i (p1.at 2).i) (some (db false)) (goS (st4 M) M ⟨0,p0,p1⟩ fun x=>match x with | .e0 i1 d2 d3=>(some (db false)) | .e1 d2 d3=>(some (db true))))))
theorem run (M:Nat) (p0:D) (p1:D):callS (e M) (tblOf (t M)) 12 (.fn 22) [.d (.struct [64,3,3]) p0,.d (.struct [64,3,3]) p1] [] (fun v H=>finish ty [4] v H)=s M p0 p1:=by kernel_rfl
def c:Con:={ run:=fun ds=>match ds with | [p0,p1]=>s FUEL p0 p1 | _=>none,plain:=true }
theorem ok:ConOk (22,c):=mkC Tryz.f22 [(.struct [64,3,3]),(.struct [64,3,3])] [4] (by kernel_rfl) (by kernel_rfl) (by kernel_rfl) (by kernel_rfl) (allCons F29.ok allNil) allNil (t_ok FUEL) fun a=>run FUEL a.1 a.2.1
end F22
namespace F24
def k0_:K:=(.struct [25,3,3])
def k1_:K:=(.struct [64,3,3])
def cons:List (Nat×Con):=[(44,F44.c)]
def exts:List (Nat×Ext):=[]
def h:List (Nat×Nat×Hint):=[(24,3,{ live:=[1,2,3,4],rows:=[(1052674,109)],out:=some [2,3] })]
noncomputable def e (M:Nat):Env:=env cons exts h M
structure S3 where
 (i1:Int) (d2:D) (b3:Bool) (l4:List D) (i5 i6:Int) (n7 n8:Nat) (d9 d10:D) (b11:Bool) (l12:List D)
inductive X3 where
 | e0 (d2:D) (b3:Bool) (l4:List D) (i5 i6:Int) (n7 n8:Nat) (d9 d10:D) (b11:Bool) (l12:List D)
def st3 (M:Nat):S3→(S3→Option D)→(X3→Option D)→Option D
 | ⟨i1,d2,b3,l4,i5,i6,n7,n8,d9,d10,b11,l12⟩,rec,K=>(cond (ltI i1 (nI (d2.at 0).elems.length)) (cond (inb i1 (d2.at 0).elems.length) (cond ((ix (d2.at 0).elems i1.toNat).at 3).b (bd (F44.s FUEL ((ix (d2.at 0).elems i1.toNat).at 2).s) fun r13=>(cond (mx (n8+1)) (rec ⟨(ad .i64 i1 1),d2,b3,l4,i5,i6,0,(n8+1),d9,d10,(b11||true),(ap ((l12.drop n7).take n8) [(da [(D.agg ((ix (d2.at 0).elems i1.toNat).parts.set 2 (dS (bs [])))),(di (nI ((ix (d2.at 0).elems i1.toNat).at 2).s.size)),r13])])⟩) none)) (cond (mx (n8+1)) (rec ⟨(ad .i64 i1 1),d2,b3,l4,i5,i6,0,(n8+1),d9,d10,(b11||true),(ap ((l12.drop n7).take n8) [(da [(D.agg ((ix (d2.at 0).elems i1.toNat).parts.set 2 (dS (bs [])))),(di (nI ((ix (d2.at 0).elems i1.toNat).at 2).s.size)),(da (rp 32 (D.int .u8 0)))])])⟩) none)) none) (K (.e0 d2 b3 l4 i5 i6 n7 n8 d9 d10 b11 l12)))
def ex3 (k:Kont):X3→Option D
 | .e0 d2 b3 l4 i5 i6 n7 n8 d9 d10 b11 l12=>k (.exit 0) ((us 2 ((.ptr 1 [] k1_)::(.ptr 2 [] k1_)::(us 40 [])))) [(.var k0_ (vk k0_ d2)),(.var k1_ (vk k1_ (da [(dl b3 l4),(di i5),(di i6)]))),(.var k1_ (.agg k1_ [(.sref 3 n7 n8),(vk (.int .i64) d9),(vk (.int .i64) d10)])),(.row 109 true b11 l12)]
def lv3:S3→List Leaf
 | ⟨i1,d2,b3,l4,i5,i6,n7,n8,d9,d10,b11,l12⟩=>[.i i1,.d d2,.b b3,.l l4,.i i5,.i i6,.n n7,.n n8,.d d9,.d d10,.b b11,.l l12]
def of3:List Leaf→Option S3
 | [.i i1,.d d2,.b b3,.l l4,.i i5,.i i6,.n n7,.n n8,.d d9,.d d10,.b b11,.l l12]=>some ⟨i1,d2,b3,l4,i5,i6,n7,n8,d9,d10,b11,l12⟩
 | _=>none
def ps3:List PV:=((up 1 ((.ptr 0 [] k0_)::(.ptr 1 [] k1_)::(.ptr 2 [] k1_)::(.d (.int .i64) (.int .i64))::(up 39 []))))
def qs3:List PO:=[(.var k0_ (.d k0_ .x)),(.var k1_ (.d k1_ (.agg [.slice,(.int .i64),(.int .i64)]))),(.var k1_ (.agg k1_ [(.sref 3),(.d (.int .i64) .x),(.d (.int .i64) .x)])),(.row 109 true)]
noncomputable def t (M:Nat):List Ent:=⟨24,11,0,3,sumS [1,2,3,4] ps3 qs3 [(1052674,3)] of3 (st3 M) ex3 M⟩::[]
theorem t_ok (M:Nat):AllOk (e M) (tblOf (t M)):=AllOk.addS (n0:=4) (lv:=lv3) AllOk.nil (by kernel_rfl) rfl (by intro ls s h;unfold of3 at h;(repeat' split at h)<;>simp at h;subst h;rfl) (by intro s;kernel_rfl) (by intro s;kernel_rfl) (by intro s nx k;kernel_rfl)
def s (M:Nat) (p0:D):Option D:=
 (goS (st3 M) M ⟨0,p0,false,[],0,0,0,0,(p0.at 1),(p0.at 2),false,[]⟩ fun x=>match x with | .e0 d2 b3 l4 i5 i6 n7 n8 d9 d10 b11 l12=>(some (da [(dl b11 ((l12.drop n7).take n8)),d9,d10])))
theorem run (M:Nat) (p0:D):callS (e M) (tblOf (t M)) 12 (.fn 24) [.d (.struct [25,3,3]) p0] [] (fun v H=>finish ty [66] v H)=s M p0:=by kernel_rfl
def c:Con:={ run:=fun ds=>match ds with | [p0]=>s FUEL p0 | _=>none }
theorem ok:ConOk (24,c):=mkC Tryz.f24 [(.struct [25,3,3])] [66] (by kernel_rfl) (by kernel_rfl) (by kernel_rfl) (by kernel_rfl) (allCons F44.ok allNil) allNil (t_ok FUEL) fun a=>run FUEL a.1
end F24
namespace F5
def cons:List (Nat×Con):=[(7,F7.c),(8,F8.c),(12,F12.c),(14,F14.c),(18,F18.c),(19,F19.c),(20,F20.c),(21,F21.c),(22,F22.c),(23,F23.c),(24,F24.c)]
def exts:List (Nat×Ext):=[]
def h:List (Nat×Nat×Hint):=[]
noncomputable def e (M:Nat):Env:=env cons exts h M
def s (M:Nat) (p0:D) (p1:D):Option D:=
 (bd (F14.s FUEL) fun r1=>(cond (!r1.b) (some (db false)) (bd (F19.s FUEL p0) fun r2=>(cond r2.b (bd (F7.s FUEL p1) fun r3=>(cond (!r3.b) (some r1) (bd (F20.s FUEL p0) fun r4=>(bd (F21.s FUEL p0) fun r5=>(bd (F8.s FUEL (da [(dl false []),(di 0),(di 0)]) p1) fun r6=>(bdB r1 fun g7=>(cond g7 (bd (F23.s FUEL (r4.at 0)) fun r8=>(bd (F22.s FUEL r8 (r5.at 0)) fun r9=>(bdB r9 fun g10=>(cond g10 (cond (eqI (r4.at 1).i (r5.at 1).i) (cond (eqI (r4.at 2).i (r5.at 2).i) (bd (F18.s FUEL (r6.at 0)) fun r11=>(bd (F23.s FUEL r11) fun r12=>(bd (F12.s FUEL (r6.at 0)) fun r13=>(bd (F24.s FUEL r13) fun r14=>(bd (F22.s FUEL r12 r14) fun r15=>(some r15)))))) (some (db false))) (some (db false))) (some (db false)))))) (some (db false))))))))) (some r1)))))
theorem run (M:Nat) (p0:D) (p1:D):callS (e M) (tblOf []) 12 (.fn 5) [.d (.slice 58) p0,.d (.slice 52) p1] [] (fun v H=>finish ty [4] v H)=s M p0 p1:=by kernel_rfl
def c:Con:={ run:=fun ds=>match ds with | [p0,p1]=>s FUEL p0 p1 | _=>none,plain:=true }
theorem fun_at:Tryz.prog.funcs[5]? = some Tryz.f5:=by kernel_rfl
theorem params:Tryz.f5.params.toList.map ty=[(.slice 58),(.slice 52)]:=by kernel_rfl
theorem ok:ConOk (5,c):=mkC Tryz.f5 [(.slice 58),(.slice 52)] [4] (by kernel_rfl) (by kernel_rfl) (by kernel_rfl) (by kernel_rfl) (allCons F7.ok (allCons F8.ok (allCons F12.ok (allCons F14.ok (allCons F18.ok (allCons F19.ok (allCons F20.ok (allCons F21.ok (allCons F22.ok (allCons F23.ok (allCons F24.ok allNil))))))))))) allNil AllOk.nil fun a=>run FUEL a.1 a.2.1
end F5
end Go.AM.SZ
