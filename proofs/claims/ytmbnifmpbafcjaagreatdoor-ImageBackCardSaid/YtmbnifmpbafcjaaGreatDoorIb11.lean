/- Part 11 of the proof: the abstract machine, what the functions compute, and plain laws over that. -/
import Derived.Test.YtmbnifmpbafcjaaGreatDoorIb10
import Derived.ProofKit
import Derived.LaidMore
import Derived.OpenShut
import Derived.Stop.Joined
import Derived.PinnedBridge
import Derived.Lib.LaidU8
import Derived.SevenTiedAt
import Derived.SizedLaws
import Derived.Lib.RuneCountTail
import Derived.Lib.MapLaws
set_option linter.all false
set_option linter.unusedSimpArgs false
set_option linter.unusedVariables false
set_option linter.unusedSectionVars false
namespace Go.AM.SY
open Go Go.AM Go.Proofs Go.RowKit
namespace F73
def cons:List (Nat×Con):=[]
def exts:List (Nat×Ext):=[]
def h:List (Nat×Nat×Hint):=[(74,2,{ live:=[0,1,7,8],out:=some [4] })]
noncomputable def e (M:Nat):Env:=env cons exts h M
structure S74_2 where
 (d1:D) (i2 i3 i4:Int)
inductive X74_2 where
 | e0 (d1:D) (i3 i4:Int)
 | e1 (i4:Int)
def st74_2 (M:Nat):S74_2→(S74_2→Option D)→(X74_2→Option D)→Option D
 | ⟨d1,i2,i3,i4⟩,rec,K=>(cond (ltI i3 i2) (cond (inb i3 d1.elems.length) (cond (eqI ((ix d1.elems i3.toNat).at 0).i i4) (K (.e0 d1 i3 i4)) (rec ⟨d1,i2,(ad .i64 i3 1),i4⟩)) none) (K (.e1 i4)))
def ex74_2 (k:Kont):X74_2→Option D
 | .e0 d1 i3 i4=>k .ret ((us 4 ((vi i3)::(us 14 [])))) [(.var (.int .i64) (vi i4)),(.var (.struct [3,3,9]) (vk (.struct [3,3,9]) (ix d1.elems i3.toNat)))]
 | .e1 i4=>k (.exit 0) ((us 19 [])) [(.var (.int .i64) (vi i4))]
def lv74_2:S74_2→List Leaf
 | ⟨d1,i2,i3,i4⟩=>[.d d1,.i i2,.i i3,.i i4]
def of74_2:List Leaf→Option S74_2
 | [.d d1,.i i2,.i i3,.i i4]=>some ⟨d1,i2,i3,i4⟩
 | _=>none
def ps74_2:List PV:=((.d (.slice 49) .x)::(.func 75 [] [(.ptr 0 [] (.int .i64))])::(up 5 ((.d (.int .i64) (.int .i64))::(.d (.int .i64) (.int .i64))::(up 10 []))))
def qs74_2:List PO:=[(.var (.int .i64) (.d (.int .i64) (.int .i64)))]
noncomputable def t (M:Nat):List Ent:=⟨74,10,1,2,sumS [0,1,7,8] ps74_2 qs74_2 [] of74_2 (st74_2 M) ex74_2 M⟩::[]
theorem t_ok (M:Nat):AllOk (e M) (tblOf (t M)):=AllOk.addS (n0:=1) (lv:=lv74_2) AllOk.nil (by kernel_rfl) rfl (by intro ls s h;unfold of74_2 at h;(repeat' split at h)<;>simp at h;subst h;rfl) (by intro s;kernel_rfl) (by intro s;kernel_rfl) (by intro s nx k;kernel_rfl)
def s (M:Nat) (p0:D) (p1:Int):Option D:=
 (goS (st74_2 M) M ⟨p0,(nI p0.elems.length),0,p1⟩ fun x=>match x with | .e0 d1 i3 i4=>(some (di i3)) | .e1 i4=>(some (di (-1))))
theorem run (M:Nat) (p0:D) (p1:Int):callS (e M) (tblOf (t M)) 12 (.fn 73) [.d (.slice 49) p0,.d (.int .i64) (di p1)] [] (fun v H=>finish ty [3] v H)=s M p0 p1:=by kernel_rfl
def c:Con:={ run:=fun ds=>match ds with | [p0,p1]=>s FUEL p0 p1.i | _=>none,plain:=true }
theorem ok:ConOk (73,c):=mkC Tryz.f73 [(.slice 49),(.int .i64)] [3] (by kernel_rfl) (by kernel_rfl) (by kernel_rfl) (by kernel_rfl) allNil allNil (t_ok FUEL) fun a=>run FUEL a.1 a.2.1
end F73
namespace F27
def cons:List (Nat×Con):=[(73,F73.c)]
def exts:List (Nat×Ext):=[]
def h:List (Nat×Nat×Hint):=[(27,4,{ live:=[0,1,5,6,12,13,14],rows:=[(6,59)],out:=some [0,1,5,6] }),(27,10,{ live:=[0,5,6,32,33,34],rows:=[(6,59)],out:=some [6] })]
noncomputable def e (M:Nat):Env:=env cons exts h M
structure S4 where
 (d1 d2:D) (n3 n4:Nat) (d5:D) (i6 i7:Int) (b8:Bool) (l9:List D)
inductive X4 where
 | e0 (d1 d2:D) (n3 n4:Nat) (b8:Bool) (l9:List D)
def st4 (M:Nat):S4→(S4→Option D)→(X4→Option D)→Option D
 | ⟨d1,d2,n3,n4,d5,i6,i7,b8,l9⟩,rec,K=>(cond (ltI i7 i6) (cond (inb i7 d5.elems.length) (bd (F73.s FUEL d2 ((ix d5.elems i7.toNat).at 0).i) fun r10=>(cond (ltI r10.i 0) (cond (mx (n4+1)) (rec ⟨d1,d2,0,(n4+1),d5,i6,(ad .i64 i7 1),(b8||true),(ap ((l9.drop n3).take n4) [(da [(da [((ix d5.elems i7.toNat).at 0),(di 0),(dS (bs []))]),(db true)])])⟩) none) (rec ⟨d1,d2,n3,n4,d5,i6,(ad .i64 i7 1),b8,l9⟩))) none) (K (.e0 d1 d2 n3 n4 b8 l9)))
def ex4 (k:Kont):X4→Option D
 | .e0 d1 d2 n3 n4 b8 l9=>k (.exit 0) ((vk (.slice 49) d1)::(vk (.slice 49) d2)::(us 3 ((vk .func (D.fn 73))::(.sref 0 n3 n4)::(us 53 [])))) [(.row 59 true b8 l9)]
def lv4:S4→List Leaf
 | ⟨d1,d2,n3,n4,d5,i6,i7,b8,l9⟩=>[.d d1,.d d2,.n n3,.n n4,.d d5,.i i6,.i i7,.b b8,.l l9]
def of4:List Leaf→Option S4
 | [.d d1,.d d2,.n n3,.n n4,.d d5,.i i6,.i i7,.b b8,.l l9]=>some ⟨d1,d2,n3,n4,d5,i6,i7,b8,l9⟩
 | _=>none
def ps4:List PV:=((.d (.slice 49) .x)::(.d (.slice 49) .x)::(up 3 ((.d .func (.fn 73))::(.sref 0)::(up 5 ((.d (.slice 49) .x)::(.d (.int .i64) (.int .i64))::(.d (.int .i64) (.int .i64))::(up 45 []))))))
def qs4:List PO:=[(.row 59 true)]
noncomputable def t1 (M:Nat):List Ent:=⟨27,11,0,4,sumS [0,1,5,6,12,13,14] ps4 qs4 [(6,0)] of4 (st4 M) ex4 M⟩::[]
theorem t1_ok (M:Nat):AllOk (e M) (tblOf (t1 M)):=AllOk.addS (n0:=1) (lv:=lv4) AllOk.nil (by kernel_rfl) rfl (by intro ls s h;unfold of4 at h;(repeat' split at h)<;>simp at h;subst h;rfl) (by intro s;kernel_rfl) (by intro s;kernel_rfl) (by intro s nx k;kernel_rfl)
structure S10 where
 (d11:D) (n12 n13:Nat) (d14:D) (i15 i16:Int) (b17:Bool) (l18:List D)
inductive X10 where
 | e0 (n12 n13:Nat) (b17:Bool) (l18:List D)
def st10 (M:Nat):S10→(S10→Option D)→(X10→Option D)→Option D
 | ⟨d11,n12,n13,d14,i15,i16,b17,l18⟩,rec,K=>(cond (ltI i16 i15) (cond (inb i16 d14.elems.length) (bd (F73.s FUEL d11 ((ix d14.elems i16.toNat).at 0).i) fun r19=>(cond (ltI r19.i 0) (cond (mx (n13+1)) (rec ⟨d11,0,(n13+1),d14,i15,(ad .i64 i16 1),(b17||true),(ap ((l18.drop n12).take n13) [(da [(ix d14.elems i16.toNat),(db false)])])⟩) none) (cond (inb r19.i d11.elems.length) (bd (match D.eqv ty eqDepth (ix d11.elems (r19.i).toNat) (ix d14.elems i16.toNat) (.struct [3,3,9]) with | some z=>some (.bool (!z)) | none=>none) fun r20=>(cond r20.b (cond (mx (n13+1)) (rec ⟨d11,0,(n13+1),d14,i15,(ad .i64 i16 1),(b17||true),(ap ((l18.drop n12).take n13) [(da [(ix d14.elems i16.toNat),(db false)])])⟩) none) (rec ⟨d11,n12,n13,d14,i15,(ad .i64 i16 1),b17,l18⟩))) none))) none) (K (.e0 n12 n13 b17 l18)))
def ex10 (k:Kont):X10→Option D
 | .e0 n12 n13 b17 l18=>k (.exit 2) ((us 6 ((.sref 0 n12 n13)::(us 53 [])))) [(.row 59 true b17 l18)]
def lv10:S10→List Leaf
 | ⟨d11,n12,n13,d14,i15,i16,b17,l18⟩=>[.d d11,.n n12,.n n13,.d d14,.i i15,.i i16,.b b17,.l l18]
def of10:List Leaf→Option S10
 | [.d d11,.n n12,.n n13,.d d14,.i i15,.i i16,.b b17,.l l18]=>some ⟨d11,n12,n13,d14,i15,i16,b17,l18⟩
 | _=>none
def ps10:List PV:=((.d (.slice 49) .x)::(up 4 ((.d .func (.fn 73))::(.sref 0)::(up 25 ((.d (.slice 49) .x)::(.d (.int .i64) (.int .i64))::(.d (.int .i64) (.int .i64))::(up 25 []))))))
def qs10:List PO:=[(.row 59 true)]
noncomputable def t (M:Nat):List Ent:=⟨27,11,0,10,sumS [0,5,6,32,33,34] ps10 qs10 [(6,0)] of10 (st10 M) ex10 M⟩::t1 M
theorem t_ok (M:Nat):AllOk (e M) (tblOf (t M)):=AllOk.addS (n0:=1) (lv:=lv10) (t1_ok M) (by kernel_rfl) rfl (by intro ls s h;unfold of10 at h;(repeat' split at h)<;>simp at h;subst h;rfl) (by intro s;kernel_rfl) (by intro s;kernel_rfl) (by intro s nx k;kernel_rfl)
def s (M:Nat) (p0:D) (p1:D):Option D:=
 (goS (st4 M) M ⟨p0,p1,0,0,p0,(nI p0.elems.length),0,false,[]⟩ fun x=>match x with | .e0 d1 d2 n3 n4 b8 l9=>(goS (st10 M) M ⟨d1,n3,n4,d2,(nI d2.elems.length),0,b8,l9⟩ fun x=>match x with | .e0 n12 n13 b17 l18=>(cond ((decide (n13=l18.length))&&(decide (n12=0))) (some (.slice b17 l18)) none)))
theorem run (M:Nat) (p0:D) (p1:D):callS (e M) (tblOf (t M)) 12 (.fn 27) [.d (.slice 49) p0,.d (.slice 49) p1] [] (fun v H=>finishFresh ty [56] v H)=s M p0 p1:=by kernel_rfl
def c:Con:={ run:=fun ds=>match ds with | [p0,p1]=>s FUEL p0 p1 | _=>none,fresh:=true }
theorem ok:ConOk (27,c):=mkF Tryz.f27 [(.slice 49),(.slice 49)] [56] (by kernel_rfl) (by kernel_rfl) (by kernel_rfl) (allCons F73.ok allNil) allNil (t_ok FUEL) fun a=>run FUEL a.1 a.2.1
end F27
namespace F50
def k0_:K:=(.struct [22,3,3])
def k1_:K:=(.struct [3,9,9,4,3,66])
def cons:List (Nat×Con):=[]
def exts:List (Nat×Ext):=[]
def h:List (Nat×Nat×Hint):=[(50,3,{ live:=[3,5,9,10,11],rows:=[(5,3)],out:=some [5] }),(78,2,{ live:=[0,1,7,8],out:=some [4] })]
def q0_:PO:=(.var k0_ (.d k0_ .x))
noncomputable def e (M:Nat):Env:=env cons exts h M
structure S78_2 where
 (d10:D) (i11 i12:Int) (d13 d14:D) (b15:Bool) (l16:List D) (d17:D)
inductive X78_2 where
 | e0 (d10:D) (i12:Int) (d13 d14:D) (b15:Bool) (l16:List D) (d17:D)
 | e1 (d13 d14:D) (b15:Bool) (l16:List D) (d17:D)
def st78_2 (M:Nat):S78_2→(S78_2→Option D)→(X78_2→Option D)→Option D
 | ⟨d10,i11,i12,d13,d14,b15,l16,d17⟩,rec,K=>(cond (ltI i12 i11) (cond (inb i12 d10.elems.length) (cond (eqI ((ix d10.elems i12.toNat).at 0).i (d17.at 0).i) (K (.e0 d10 i12 d13 d14 b15 l16 d17)) (rec ⟨d10,i11,(ad .i64 i12 1),d13,d14,b15,l16,d17⟩)) none) (K (.e1 d13 d14 b15 l16 d17)))
def ex78_2 (k:Kont):X78_2→Option D
 | .e0 d10 i12 d13 d14 b15 l16 d17=>k .ret ((us 4 ((vi i12)::(us 14 [])))) [(.var k0_ (vk k0_ d13)),(.var k0_ (vk k0_ d14)),(.row 3 true b15 l16),(.var k1_ (vk k1_ d17)),(.var k1_ (vk k1_ (ix d10.elems i12.toNat)))]
 | .e1 d13 d14 b15 l16 d17=>k (.exit 0) ((us 19 [])) [(.var k0_ (vk k0_ d13)),(.var k0_ (vk k0_ d14)),(.row 3 true b15 l16),(.var k1_ (vk k1_ d17))]
def lv78_2:S78_2→List Leaf
 | ⟨d10,i11,i12,d13,d14,b15,l16,d17⟩=>[.d d10,.i i11,.i i12,.d d13,.d d14,.b b15,.l l16,.d d17]
def of78_2:List Leaf→Option S78_2
 | [.d d10,.i i11,.i i12,.d d13,.d d14,.b b15,.l l16,.d d17]=>some ⟨d10,i11,i12,d13,d14,b15,l16,d17⟩
 | _=>none
def ps78_2:List PV:=((.d (.slice 68) .x)::(.func 104 [] [(.ptr 3 [] k1_)])::(up 5 ((.d (.int .i64) (.int .i64))::(.d (.int .i64) (.int .i64))::(up 10 []))))
def qs78_2:List PO:=[q0_,q0_,(.row 3 true),(.var k1_ (.d k1_ .x))]
noncomputable def t1 (M:Nat):List Ent:=⟨78,9,4,2,sumS [0,1,7,8] ps78_2 qs78_2 [] of78_2 (st78_2 M) ex78_2 M⟩::[]
theorem t1_ok (M:Nat):AllOk (e M) (tblOf (t1 M)):=AllOk.addS (n0:=4) (lv:=lv78_2) AllOk.nil (by kernel_rfl) rfl (by intro ls s h;unfold of78_2 at h;(repeat' split at h)<;>simp at h;subst h;rfl) (by intro s;kernel_rfl) (by intro s;kernel_rfl) (by intro s nx k;kernel_rfl)
structure S3 where
 (n1 n2:Nat) (d3:D) (i4 i5:Int) (d6 d7:D) (b8:Bool) (l9:List D)
inductive X3 where
 | e0 (n1 n2:Nat) (d6 d7:D) (b8:Bool) (l9:List D)
def st3 (M:Nat):S3→(S3→Option D)→(X3→Option D)→Option D
 | ⟨n1,n2,d3,i4,i5,d6,d7,b8,l9⟩,rec,K=>(cond (ltI i5 i4) (cond (inb i5 d3.elems.length) (goS (st78_2 M) M ⟨(d7.at 0),(nI (d7.at 0).elems.length),0,d6,d7,b8,l9,(ix d3.elems i5.toNat)⟩ fun x=>match x with | .e0 d10 i12 d13 d14 b15 l16 d17=>(cond (!(geI i12 0)) (cond (mx (n2+1)) (rec ⟨0,(n2+1),d3,i4,(ad .i64 i5 1),d13,d14,(b15||true),(ap ((l16.drop n1).take n2) [(d17.at 0)])⟩) none) (rec ⟨n1,n2,d3,i4,(ad .i64 i5 1),d13,d14,b15,l16⟩)) | .e1 d13 d14 b15 l16 d17=>(cond (mx (n2+1)) (rec ⟨0,(n2+1),d3,i4,(ad .i64 i5 1),d13,d14,(b15||true),(ap ((l16.drop n1).take n2) [(d17.at 0)])⟩) none)) none) (K (.e0 n1 n2 d6 d7 b8 l9)))
def ex3 (k:Kont):X3→Option D
 | .e0 n1 n2 d6 d7 b8 l9=>k (.exit 0) ((us 5 ((.sref 2 n1 n2)::(us 21 [])))) [(.var k0_ (vk k0_ d6)),(.var k0_ (vk k0_ d7)),(.row 3 true b8 l9)]
def lv3:S3→List Leaf
 | ⟨n1,n2,d3,i4,i5,d6,d7,b8,l9⟩=>[.n n1,.n n2,.d d3,.i i4,.i i5,.d d6,.d d7,.b b8,.l l9]
def of3:List Leaf→Option S3
 | [.n n1,.n n2,.d d3,.i i4,.i i5,.d d6,.d d7,.b b8,.l l9]=>some ⟨n1,n2,d3,i4,i5,d6,d7,b8,l9⟩
 | _=>none
def ps3:List PV:=((up 3 ((.ptr 1 [] k0_)::(up 1 ((.sref 2)::(up 3 ((.d (.slice 68) .x)::(.d (.int .i64) (.int .i64))::(.d (.int .i64) (.int .i64))::(up 15 []))))))))
def qs3:List PO:=[q0_,q0_,(.row 3 true)]
noncomputable def t (M:Nat):List Ent:=⟨50,11,0,3,sumS [3,5,9,10,11] ps3 qs3 [(5,2)] of3 (st3 M) ex3 M⟩::t1 M
theorem t_ok (M:Nat):AllOk (e M) (tblOf (t M)):=AllOk.addS (n0:=3) (lv:=lv3) (t1_ok M) (by kernel_rfl) rfl (by intro ls s h;unfold of3 at h;(repeat' split at h)<;>simp at h;subst h;rfl) (by intro s;kernel_rfl) (by intro s;kernel_rfl) (by intro s nx k;kernel_rfl)
def s (M:Nat) (p0:D) (p1:D):Option D:=
 (goS (st3 M) M ⟨0,0,(p0.at 0),(nI (p0.at 0).elems.length),0,p0,p1,false,[]⟩ fun x=>match x with | .e0 n1 n2 d6 d7 b8 l9=>(cond ((decide (n2=l9.length))&&(decide (n1=0))) (some (.slice b8 l9)) none))
theorem run (M:Nat) (p0:D) (p1:D):callS (e M) (tblOf (t M)) 12 (.fn 50) [.d (.struct [22,3,3]) p0,.d (.struct [22,3,3]) p1] [] (fun v H=>finishFresh ty [81] v H)=s M p0 p1:=by kernel_rfl
def c:Con:={ run:=fun ds=>match ds with | [p0,p1]=>s FUEL p0 p1 | _=>none,fresh:=true }
theorem ok:ConOk (50,c):=mkF Tryz.f50 [(.struct [22,3,3]),(.struct [22,3,3])] [81] (by kernel_rfl) (by kernel_rfl) (by kernel_rfl) allNil allNil (t_ok FUEL) fun a=>run FUEL a.1 a.2.1
end F50
namespace F122
def cons:List (Nat×Con):=[]
def exts:List (Nat×Ext):=[]
def h:List (Nat×Nat×Hint):=[(122,4,{ live:=[0,1,12,13] })]
noncomputable def e (M:Nat):Env:=env cons exts h M
structure S4 where
 (d1 d2:D) (i3 i4:Int)
inductive X4 where
 | e0 (d1 d2:D) (i3 i4:Int)
 | e1 (d1 d2:D) (i3 i4:Int)
def st4 (M:Nat):S4→(S4→Option D)→(X4→Option D)→Option D
 | ⟨d1,d2,i3,i4⟩,rec,K=>(cond (ltI i4 i3) (cond (inb i4 d1.elems.length) (cond (inb i4 d2.elems.length) (cond (!(eqS (ix d1.elems i4.toNat).s (ix d2.elems i4.toNat).s)) (K (.e0 d1 d2 i3 i4)) (rec ⟨d1,d2,i3,(ad .i64 i4 1)⟩)) none) none) (K (.e1 d1 d2 i3 i4)))
def ex4 (k:Kont):X4→Option D
 | .e0 d1 d2 i3 i4=>k .ret ((vk (.slice 9) d1)::(vk (.slice 9) d2)::(us 2 ((vb false)::(vi i4)::(us 6 ((vi i3)::(vi i4)::(vb (ltI i4 i3))::(vi i4)::(vk (.slice 9) d1)::(vi i4)::(.cptr .str (ix d1.elems i4.toNat))::(vk .str (ix d1.elems i4.toNat))::(vk (.slice 9) d2)::(vi i4)::(.cptr .str (ix d2.elems i4.toNat))::(vk .str (ix d2.elems i4.toNat))::(vb (!(eqS (ix d1.elems i4.toNat).s (ix d2.elems i4.toNat).s)))::(us 1 [])))))) []
 | .e1 d1 d2 i3 i4=>k (.exit 0) ((vk (.slice 9) d1)::(vk (.slice 9) d2)::(us 10 ((vi i3)::(vi i4)::(vb (ltI i4 i3))::(us 11 [])))) []
def lv4:S4→List Leaf
 | ⟨d1,d2,i3,i4⟩=>[.d d1,.d d2,.i i3,.i i4]
def of4:List Leaf→Option S4
 | [.d d1,.d d2,.i i3,.i i4]=>some ⟨d1,d2,i3,i4⟩
 | _=>none
def ps4:List PV:=((.d (.slice 9) .x)::(.d (.slice 9) .x)::(up 10 ((.d (.int .i64) (.int .i64))::(.d (.int .i64) (.int .i64))::(up 12 []))))
def qs4:List PO:=[]
noncomputable def t (M:Nat):List Ent:=⟨122,11,0,4,sumS [0,1,12,13] ps4 qs4 [] of4 (st4 M) ex4 M⟩::[]
theorem t_ok (M:Nat):AllOk (e M) (tblOf (t M)):=AllOk.addS (n0:=0) (lv:=lv4) AllOk.nil (by kernel_rfl) rfl (by intro ls s h;unfold of4 at h;(repeat' split at h)<;>simp at h;subst h;rfl) (by intro s;kernel_rfl) (by intro s;kernel_rfl) (by intro s nx k;kernel_rfl)
def s (M:Nat) (p0:D) (p1:D):Option D:=
 (cond (neI (nI p0.elems.length) (nI p1.elems.length)) (some (db false)) (goS (st4 M) M ⟨p0,p1,(nI p0.elems.length),0⟩ fun x=>match x with | .e0 d1 d2 i3 i4=>(some (db false)) | .e1 d1 d2 i3 i4=>(some (db true))))
theorem run (M:Nat) (p0:D) (p1:D):callS (e M) (tblOf (t M)) 12 (.fn 122) [.d (.slice 9) p0,.d (.slice 9) p1] [] (fun v H=>finish ty [4] v H)=s M p0 p1:=by kernel_rfl
def c:Con:={ run:=fun ds=>match ds with | [p0,p1]=>s FUEL p0 p1 | _=>none,plain:=true }
theorem ok:ConOk (122,c):=mkC Tryz.f122 [(.slice 9),(.slice 9)] [4] (by kernel_rfl) (by kernel_rfl) (by kernel_rfl) (by kernel_rfl) allNil allNil (t_ok FUEL) fun a=>run FUEL a.1 a.2.1
end F122
namespace F72
def cons:List (Nat×Con):=[(122,F122.c)]
def exts:List (Nat×Ext):=[]
def h:List (Nat×Nat×Hint):=[]
noncomputable def e (M:Nat):Env:=env cons exts h M
def s (M:Nat) (p0:D) (p1:D):Option D:=
 (cond (eqI (p0.at 0).i (p1.at 0).i) (cond (eqS (p0.at 1).s (p1.at 1).s) (cond (eqS (p0.at 2).s (p1.at 2).s) (bd (match D.eqv ty eqDepth (p0.at 3) (p1.at 3) .bool with | some z=>some (.bool z) | none=>none) fun r1=>(cond r1.b (cond (eqI (p0.at 4).i (p1.at 4).i) (bd (F122.s FUEL (p0.at 5) (p1.at 5)) fun r2=>(some r2)) (some (db false))) (some (db false)))) (some (db false))) (some (db false))) (some (db false)))
theorem run (M:Nat) (p0:D) (p1:D):callS (e M) (tblOf []) 12 (.fn 72) [.d (.struct [3,9,9,4,3,66]) p0,.d (.struct [3,9,9,4,3,66]) p1] [] (fun v H=>finish ty [4] v H)=s M p0 p1:=by kernel_rfl
def c:Con:={ run:=fun ds=>match ds with | [p0,p1]=>s FUEL p0 p1 | _=>none,plain:=true }
theorem ok:ConOk (72,c):=mkC Tryz.f72 [(.struct [3,9,9,4,3,66]),(.struct [3,9,9,4,3,66])] [4] (by kernel_rfl) (by kernel_rfl) (by kernel_rfl) (by kernel_rfl) (allCons F122.ok allNil) allNil AllOk.nil fun a=>run FUEL a.1 a.2.1
end F72
namespace F23
def k0_:K:=(.struct [22,3,3])
def k1_:K:=(.struct [3,9,9,4,3,66])
def cons:List (Nat×Con):=[(72,F72.c)]
def exts:List (Nat×Ext):=[]
def h:List (Nat×Nat×Hint):=[(71,4,{ live:=[1,2,15,16,17] })]
def q0_:PO:=(.var k0_ (.d k0_ .x))
noncomputable def e (M:Nat):Env:=env cons exts h M
structure S71_4 where
 (d1 d2:D) (i3 i4:Int) (d5 d6:D)
inductive X71_4 where
 | e0 (d1 d2:D) (i3 i4:Int) (d5 d6 r7:D)
 | e1 (d1 d2:D) (i3 i4:Int) (d5 d6:D)
def st71_4 (M:Nat):S71_4→(S71_4→Option D)→(X71_4→Option D)→Option D
 | ⟨d1,d2,i3,i4,d5,d6⟩,rec,K=>(cond (ltI i4 i3) (cond (inb i4 d2.elems.length) (cond (inb i4 d1.elems.length) (bd (F72.s FUEL (ix d2.elems i4.toNat) (ix d1.elems i4.toNat)) fun r7=>(cond (!r7.b) (K (.e0 d1 d2 i3 i4 d5 d6 r7)) (rec ⟨d1,d2,i3,(ad .i64 i4 1),d5,d6⟩))) none) none) (K (.e1 d1 d2 i3 i4 d5 d6)))
def ex71_4 (k:Kont):X71_4→Option D
 | .e0 d1 d2 i3 i4 d5 d6 r7=>k .ret ((us 1 ((vk (.slice 68) d1)::(vk .func (D.fn 72))::(us 3 ((vb false)::(vi i4)::(.ptr 2 [] k1_)::(.ptr 3 [] k1_)::(us 5 ((vk (.slice 68) d2)::(vi i3)::(vi i4)::(vb (ltI i4 i3))::(vi i4)::(.cptr k1_ (ix d2.elems i4.toNat))::(vk k1_ (ix d2.elems i4.toNat))::(vk (.slice 68) d1)::(vi i4)::(.cptr k1_ (ix d1.elems i4.toNat))::(vk k1_ (ix d1.elems i4.toNat))::(vk .func (D.fn 72))::(vk k1_ (ix d2.elems i4.toNat))::(vk k1_ (ix d1.elems i4.toNat))::(vk .bool r7)::(vb (!r7.b))::(us 1 [])))))))) [(.var k0_ (vk k0_ d5)),(.var k0_ (vk k0_ d6)),(.var k1_ (vk k1_ (ix d2.elems i4.toNat))),(.var k1_ (vk k1_ (ix d1.elems i4.toNat)))]
 | .e1 d1 d2 i3 i4 d5 d6=>k (.exit 0) ((us 1 ((vk (.slice 68) d1)::(vk .func (D.fn 72))::(us 12 ((vk (.slice 68) d2)::(vi i3)::(vi i4)::(vb (ltI i4 i3))::(us 13 [])))))) [(.var k0_ (vk k0_ d5)),(.var k0_ (vk k0_ d6))]
def lv71_4:S71_4→List Leaf
 | ⟨d1,d2,i3,i4,d5,d6⟩=>[.d d1,.d d2,.i i3,.i i4,.d d5,.d d6]
def of71_4:List Leaf→Option S71_4
 | [.d d1,.d d2,.i i3,.i i4,.d d5,.d d6]=>some ⟨d1,d2,i3,i4,d5,d6⟩
 | _=>none
def ps71_4:List PV:=((up 1 ((.d (.slice 68) .x)::(.d .func (.fn 72))::(up 12 ((.d (.slice 68) .x)::(.d (.int .i64) (.int .i64))::(.d (.int .i64) (.int .i64))::(up 14 []))))))
def qs71_4:List PO:=[q0_,q0_]
noncomputable def t (M:Nat):List Ent:=⟨71,10,2,4,sumS [1,2,15,16,17] ps71_4 qs71_4 [] of71_4 (st71_4 M) ex71_4 M⟩::[]
theorem t_ok (M:Nat):AllOk (e M) (tblOf (t M)):=AllOk.addS (n0:=2) (lv:=lv71_4) AllOk.nil (by kernel_rfl) rfl (by intro ls s h;unfold of71_4 at h;(repeat' split at h)<;>simp at h;subst h;rfl) (by intro s;kernel_rfl) (by intro s;kernel_rfl) (by intro s nx k;kernel_rfl)
def s (M:Nat) (p0:D) (p1:D):Option D:=
 (cond (eqI (p0.at 1).i (p1.at 1).i) (cond (eqI (p0.at 2).i (p1.at 2).i) (cond (neI (nI (p0.at 0).elems.length) (nI (p1.at 0).elems.length)) (some (db false)) (goS (st71_4 M) M ⟨(p1.at 0),(p0.at 0),(nI (p0.at 0).elems.length),0,p0,p1⟩ fun x=>match x with | .e0 d1 d2 i3 i4 d5 d6 r7=>(some (db false)) | .e1 d1 d2 i3 i4 d5 d6=>(some (db true)))) (some (db false))) (some (db false)))
theorem run (M:Nat) (p0:D) (p1:D):callS (e M) (tblOf (t M)) 12 (.fn 23) [.d (.struct [22,3,3]) p0,.d (.struct [22,3,3]) p1] [] (fun v H=>finish ty [4] v H)=s M p0 p1:=by kernel_rfl
def c:Con:={ run:=fun ds=>match ds with | [p0,p1]=>s FUEL p0 p1 | _=>none,plain:=true }
theorem ok:ConOk (23,c):=mkC Tryz.f23 [(.struct [22,3,3]),(.struct [22,3,3])] [4] (by kernel_rfl) (by kernel_rfl) (by kernel_rfl) (by kernel_rfl) (allCons F72.ok allNil) allNil (t_ok FUEL) fun a=>run FUEL a.1 a.2.1
end F23
namespace F24
def k0_:K:=(.struct [28,3,9,3,3,30])
def cons:List (Nat×Con):=[]
def exts:List (Nat×Ext):=[]
def h:List (Nat×Nat×Hint):=[(24,4,{ live:=[0,1,5] })]
noncomputable def e (M:Nat):Env:=env cons exts h M
structure S4 where
 (d1 d2:D) (i3:Int)
inductive X4 where
 | e0 (d1 d2:D) (i3:Int) (r4:D)
 | e1 (d1 d2:D) (i3:Int)
def st4 (M:Nat):S4→(S4→Option D)→(X4→Option D)→Option D
 | ⟨d1,d2,i3⟩,rec,K=>(cond (ltI i3 (nI d1.elems.length)) (cond (inb i3 d1.elems.length) (cond (inb i3 d2.elems.length) (bd (match D.eqv ty eqDepth (ix d1.elems i3.toNat) (ix d2.elems i3.toNat) (.struct [28,3,9,3,3,30]) with | some z=>some (.bool (!z)) | none=>none) fun r4=>(cond r4.b (K (.e0 d1 d2 i3 r4)) (rec ⟨d1,d2,(ad .i64 i3 1)⟩))) none) none) (K (.e1 d1 d2 i3)))
def ex4 (k:Kont):X4→Option D
 | .e0 d1 d2 i3 r4=>k .ret ((vk (.slice 32) d1)::(vk (.slice 32) d2)::(us 2 ((vb false)::(vi i3)::(us 5 ((vi i3)::(vk (.slice 32) d1)::(vi (nI d1.elems.length))::(vb (ltI i3 (nI d1.elems.length)))::(us 2 ((vk (.slice 32) d1)::(vi i3)::(.cptr k0_ (ix d1.elems i3.toNat))::(vk k0_ (ix d1.elems i3.toNat))::(vk (.slice 32) d2)::(vi i3)::(.cptr k0_ (ix d2.elems i3.toNat))::(vk k0_ (ix d2.elems i3.toNat))::(vk .bool r4)::[]))))))) []
 | .e1 d1 d2 i3=>k (.exit 0) ((vk (.slice 32) d1)::(vk (.slice 32) d2)::(us 3 ((vi i3)::(us 5 ((vi i3)::(vk (.slice 32) d1)::(vi (nI d1.elems.length))::(vb (ltI i3 (nI d1.elems.length)))::(us 11 [])))))) []
def lv4:S4→List Leaf
 | ⟨d1,d2,i3⟩=>[.d d1,.d d2,.i i3]
def of4:List Leaf→Option S4
 | [.d d1,.d d2,.i i3]=>some ⟨d1,d2,i3⟩
 | _=>none
def ps4:List PV:=((.d (.slice 32) .x)::(.d (.slice 32) .x)::(up 3 ((.d (.int .i64) (.int .i64))::(up 20 []))))
def qs4:List PO:=[]
noncomputable def t (M:Nat):List Ent:=⟨24,11,0,4,sumS [0,1,5] ps4 qs4 [] of4 (st4 M) ex4 M⟩::[]
theorem t_ok (M:Nat):AllOk (e M) (tblOf (t M)):=AllOk.addS (n0:=0) (lv:=lv4) AllOk.nil (by kernel_rfl) rfl (by intro ls s h;unfold of4 at h;(repeat' split at h)<;>simp at h;subst h;rfl) (by intro s;kernel_rfl) (by intro s;kernel_rfl) (by intro s nx k;kernel_rfl)
def s (M:Nat) (p0:D) (p1:D):Option D:=
 (cond (neI (nI p0.elems.length) (nI p1.elems.length)) (some (db false)) (goS (st4 M) M ⟨p0,p1,0⟩ fun x=>match x with | .e0 d1 d2 i3 r4=>(some (db false)) | .e1 d1 d2 i3=>(some (db true))))
theorem run (M:Nat) (p0:D) (p1:D):callS (e M) (tblOf (t M)) 12 (.fn 24) [.d (.slice 32) p0,.d (.slice 32) p1] [] (fun v H=>finish ty [4] v H)=s M p0 p1:=by kernel_rfl
def c:Con:={ run:=fun ds=>match ds with | [p0,p1]=>s FUEL p0 p1 | _=>none,plain:=true }
theorem ok:ConOk (24,c):=mkC Tryz.f24 [(.slice 32),(.slice 32)] [4] (by kernel_rfl) (by kernel_rfl) (by kernel_rfl) (by kernel_rfl) allNil allNil (t_ok FUEL) fun a=>run FUEL a.1 a.2.1
end F24
namespace F15
def cons:List (Nat×Con):=[(17,F17.c),(22,F22.c),(23,F23.c),(24,F24.c),(26,F26.c),(27,F27.c),(50,F50.c)]
def exts:List (Nat×Ext):=[]
def h:List (Nat×Nat×Hint):=[]
noncomputable def e (M:Nat):Env:=env cons exts h M
def s (M:Nat)  : Option D:=
 (bd (F17.s FUEL (da [(dl false []),(di 0),(di 0)]) (dl false []) 32) fun r1=>(bd (F26.s FUEL (da [(dl false []),(di 0),(di 0)]) (dl true [(da [(di 0),(dS (bs [97])),(dS (bs [])),(di 0),(di 0),(di 0)]),(da [(di 1),(dS (bs [97])),(dS (bs [104,101,108,108,111,44,32,119,111,114,108,100])),(di 0),(di 0),(di 0)])])) fun r2=>(bd (F17.s FUEL (r2.at 0) (r2.at 2) 8) fun r3=>(bd (F22.s FUEL (r3.at 0) 8) fun r4=>(bd (F27.s FUEL (r1.at 0) (r3.at 0)) fun r5=>(cond (!(r1.at 1).b) (some (db false)) (cond (!(r3.at 1).b) (some (db false)) (cond (!(r4.at 2).b) (some (db false)) (cond (neI (nI (r1.at 0).elems.length) 1) (some (db false)) (cond (ltI (nI (r3.at 0).elems.length) 4) (some (db false)) (cond (ltI (nI r5.elems.length) 4) (some (db false)) (cond (inb (sb .i64 (nI (r3.at 0).elems.length) 1) (r3.at 0).elems.length) (bd (F50.s FUEL (r2.at 0) (da [(dl false []),(di 0),(di 0)])) fun r6=>(cond (inb 0 (r1.at 0).elems.length) (bd (match D.eqv ty eqDepth (ix (r1.at 0).elems 0) (da [(di 0),(di 0),(dS (ofBytes [(D.int .u8 0),(D.int .u8 0),(D.int .u8 0),(D.int .u8 0)]))]) (.struct [3,3,9]) with | some z=>some (.bool z) | none=>none) fun r7=>(bdB r7 fun g8=>(cond g8 (bd (F23.s FUEL (r2.at 0) (r4.at 0)) fun r9=>(bdB r9 fun g10=>(cond g10 (bd (F24.s FUEL (r2.at 2) (r4.at 1)) fun r11=>(bdB r11 fun g12=>(cond g12 (bd (match D.eqv ty eqDepth (ix (r3.at 0).elems (sb .i64 (nI (r3.at 0).elems.length) 1).toNat) (da [(di 4097),(di 1),(dS (bs [111,114,108,100]))]) (.struct [3,3,9]) with | some z=>some (.bool z) | none=>none) fun r13=>(bdB r13 fun g14=>(cond g14 (cond (eqI (nI r6.elems.length) 1) (cond (inb 0 r6.elems.length) (cond (eqI (ix r6.elems 0).i 1) (cond (inb 0 r5.elems.length) (some (db (!((ix r5.elems 0).at 1).b))) none) (some (db false))) none) (some (db false))) (some (db false))))) (some (db false))))) (some (db false))))) (some (db false))))) none)) none))))))))))))
theorem run (M:Nat)  : callS (e M) (tblOf []) 12 (.fn 15) [] [] (fun v H=>finish ty [4] v H)=s M  := by kernel_rfl
def c:Con:={ run:=fun ds=>match ds with | []=>s FUEL  | _=>none,plain:=true }
theorem ok:ConOk (15,c):=mkC Tryz.f15 [] [4] (by kernel_rfl) (by kernel_rfl) (by kernel_rfl) (by kernel_rfl) (allCons F17.ok (allCons F22.ok (allCons F23.ok (allCons F24.ok (allCons F26.ok (allCons F27.ok (allCons F50.ok allNil))))))) allNil AllOk.nil fun _=>run FUEL
end F15
namespace F25
structure S2 where
 (d1:D) (i2:Int)
inductive X2 where
 | e0 (d1:D) (i2:Int)
 | e1 (d1:D) (i2:Int)
 | e2 (d1:D) (i2:Int)
 | e3 (d1:D) (i2:Int)
def st2 (M:Nat):S2→(S2→Option D)→(X2→Option D)→Option D
 | ⟨d1,i2⟩,rec,K=>(cond (ltI i2 (nI d1.elems.length)) (cond (leI i2 30) (cond (inb i2 d1.elems.length) (cond (gtI (nI ((ix d1.elems i2.toNat).at 2).s.size) 700) (K (.e0 d1 i2)) (cond (inb i2 d1.elems.length) (cond (gtI (nI ((ix d1.elems i2.toNat).at 1).s.size) 200) (K (.e1 d1 i2)) (rec ⟨d1,(ad .i64 i2 1)⟩)) none)) none) (K (.e2 d1 i2))) (K (.e3 d1 i2)))
def ex2 (k:Kont):X2→Option D
 | .e0 d1 i2=>k .ret ((vk (.slice 74) d1)::(us 1 ((vb false)::(vi i2)::(vi i2)::(vk (.slice 74) d1)::(vi (nI d1.elems.length))::(vb (ltI i2 (nI d1.elems.length)))::(vb true)::(vi i2)::(vb (leI i2 30))::(vb (leI i2 30))::(us 2 ((vk (.slice 74) d1)::(vi i2)::(.cptr (.struct [28,9,9,3,3,3]) (ix d1.elems i2.toNat))::(.cptr .str ((ix d1.elems i2.toNat).at 2))::(vk .str ((ix d1.elems i2.toNat).at 2))::(vi (nI ((ix d1.elems i2.toNat).at 2).s.size))::(vb (gtI (nI ((ix d1.elems i2.toNat).at 2).s.size) 700))::(vb true)::v0::v0::v0::v0::v0::v0::v0::(vb true)::(us 3 [])))))) []
 | .e1 d1 i2=>k .ret ((vk (.slice 74) d1)::(us 1 ((vb false)::(vi i2)::(vi i2)::(vk (.slice 74) d1)::(vi (nI d1.elems.length))::(vb (ltI i2 (nI d1.elems.length)))::(vb true)::(vi i2)::(vb (leI i2 30))::(vb (leI i2 30))::(us 2 ((vk (.slice 74) d1)::(vi i2)::(.cptr (.struct [28,9,9,3,3,3]) (ix d1.elems i2.toNat))::(.cptr .str ((ix d1.elems i2.toNat).at 2))::(vk .str ((ix d1.elems i2.toNat).at 2))::(vi (nI ((ix d1.elems i2.toNat).at 2).s.size))::(vb (gtI (nI ((ix d1.elems i2.toNat).at 2).s.size) 700))::(vb false)::(vk (.slice 74) d1)::(vi i2)::(.cptr (.struct [28,9,9,3,3,3]) (ix d1.elems i2.toNat))::(.cptr .str ((ix d1.elems i2.toNat).at 1))::(vk .str ((ix d1.elems i2.toNat).at 1))::(vi (nI ((ix d1.elems i2.toNat).at 1).s.size))::(vb (gtI (nI ((ix d1.elems i2.toNat).at 1).s.size) 200))::(vb (gtI (nI ((ix d1.elems i2.toNat).at 1).s.size) 200))::(us 3 [])))))) []
 | .e2 d1 i2=>k (.exit 0) ((vk (.slice 74) d1)::(us 2 ((vi i2)::(vi i2)::(vk (.slice 74) d1)::(vi (nI d1.elems.length))::(vb (ltI i2 (nI d1.elems.length)))::(vb true)::(vi i2)::(vb (leI i2 30))::(vb (leI i2 30))::(us 21 [])))) []
 | .e3 d1 i2=>k (.exit 0) ((vk (.slice 74) d1)::(us 2 ((vi i2)::(vi i2)::(vk (.slice 74) d1)::(vi (nI d1.elems.length))::(vb (ltI i2 (nI d1.elems.length)))::(vb false)::v0::v0::(vb false)::(us 21 [])))) []
def s (M:Nat) (p0:D):Option D:=
 (goS (st2 M) M ⟨p0,0⟩ fun x=>match x with | .e0 d1 i2=>(some (db false)) | .e1 d1 i2=>(some (db false)) | .e2 d1 i2=>(some (db (leI (nI d1.elems.length) 30))) | .e3 d1 i2=>(some (db (leI (nI d1.elems.length) 30))))
def c:Con:={ run:=fun ds=>match ds with | [p0]=>s FUEL p0 | _=>none,plain:=true }
end F25
namespace F6
end F6
namespace F7
end F7
namespace F21
def cons:List (Nat×Con):=[]
def exts:List (Nat×Ext):=[]
def h:List (Nat×Nat×Hint):=[(21,3,{ live:=[0,3,4],rows:=[(3,62)],out:=some [3] })]
noncomputable def e (M:Nat):Env:=env cons exts h M
structure S3 where
 (d1:D) (n2 n3:Nat) (i4:Int) (b5:Bool) (l6:List D)
inductive X3 where
 | e0 (n2 n3:Nat) (b5:Bool) (l6:List D)
def st3 (M:Nat):S3→(S3→Option D)→(X3→Option D)→Option D
 | ⟨d1,n2,n3,i4,b5,l6⟩,rec,K=>(cond (ltI i4 (nI d1.elems.length)) (cond (inb i4 d1.elems.length) (cond (inb i4 d1.elems.length) (cond (inb i4 d1.elems.length) (cond (mx (n3+1)) (rec ⟨d1,0,(n3+1),(ad .i64 i4 1),(b5||true),(ap ((l6.drop n2).take n3) [(da [((ix d1.elems i4.toNat).at 0),((ix d1.elems i4.toNat).at 1),((ix d1.elems i4.toNat).at 2)])])⟩) none) none) none) none) (K (.e0 n2 n3 b5 l6)))
def ex3 (k:Kont):X3→Option D
 | .e0 n2 n3 b5 l6=>k (.exit 0) ((us 3 ((.sref 0 n2 n3)::(us 27 [])))) [(.row 62 true b5 l6)]
def lv3:S3→List Leaf
 | ⟨d1,n2,n3,i4,b5,l6⟩=>[.d d1,.n n2,.n n3,.i i4,.b b5,.l l6]
def of3:List Leaf→Option S3
 | [.d d1,.n n2,.n n3,.i i4,.b b5,.l l6]=>some ⟨d1,n2,n3,i4,b5,l6⟩
 | _=>none
def ps3:List PV:=((.d (.slice 49) .x)::(up 2 ((.sref 0)::(.d (.int .i64) (.int .i64))::(up 26 []))))
def qs3:List PO:=[(.row 62 true)]
noncomputable def t (M:Nat):List Ent:=⟨21,11,0,3,sumS [0,3,4] ps3 qs3 [(3,0)] of3 (st3 M) ex3 M⟩::[]
theorem t_ok (M:Nat):AllOk (e M) (tblOf (t M)):=AllOk.addS (n0:=1) (lv:=lv3) AllOk.nil (by kernel_rfl) rfl (by intro ls s h;unfold of3 at h;(repeat' split at h)<;>simp at h;subst h;rfl) (by intro s;kernel_rfl) (by intro s;kernel_rfl) (by intro s nx k;kernel_rfl)
def s (M:Nat) (p0:D):Option D:=
 (goS (st3 M) M ⟨p0,0,0,0,false,[]⟩ fun x=>match x with | .e0 n2 n3 b5 l6=>(cond ((decide (n3=l6.length))&&(decide (n2=0))) (some (.slice b5 l6)) none))
theorem run (M:Nat) (p0:D):callS (e M) (tblOf (t M)) 12 (.fn 21) [.d (.slice 49) p0] [] (fun v H=>finishFresh ty [36] v H)=s M p0:=by kernel_rfl
def c:Con:={ run:=fun ds=>match ds with | [p0]=>s FUEL p0 | _=>none,fresh:=true }
theorem ok:ConOk (21,c):=mkF Tryz.f21 [(.slice 49)] [36] (by kernel_rfl) (by kernel_rfl) (by kernel_rfl) allNil allNil (t_ok FUEL) fun a=>run FUEL a.1
end F21
namespace F28
end F28
namespace F29
end F29
namespace F20
def cons:List (Nat×Con):=[]
def exts:List (Nat×Ext):=[]
def h:List (Nat×Nat×Hint):=[(20,4,{ live:=[0,1,5],out:=some [4] })]
noncomputable def e (M:Nat):Env:=env cons exts h M
structure S4 where
 (d1 d2:D) (i3:Int)
inductive X4 where
 | e0
 | e1
def st4 (M:Nat):S4→(S4→Option D)→(X4→Option D)→Option D
 | ⟨d1,d2,i3⟩,rec,K=>(cond (ltI i3 (nI d1.elems.length)) (cond (inb i3 d1.elems.length) (cond (inb i3 d2.elems.length) (bd (match D.eqv ty eqDepth (ix d1.elems i3.toNat) (ix d2.elems i3.toNat) (.struct [3,3,9]) with | some z=>some (.bool (!z)) | none=>none) fun r4=>(cond r4.b (K .e0) (rec ⟨d1,d2,(ad .i64 i3 1)⟩))) none) none) (K .e1))
def ex4 (k:Kont):X4→Option D
 | .e0  => k .ret ((us 4 ((vb false)::(us 21 [])))) []
 | .e1  => k (.exit 0) ((us 26 [])) []
def lv4:S4→List Leaf
 | ⟨d1,d2,i3⟩=>[.d d1,.d d2,.i i3]
def of4:List Leaf→Option S4
 | [.d d1,.d d2,.i i3]=>some ⟨d1,d2,i3⟩
 | _=>none
def ps4:List PV:=((.d (.slice 62) .x)::(.d (.slice 62) .x)::(up 3 ((.d (.int .i64) (.int .i64))::(up 20 []))))
def qs4:List PO:=[]
noncomputable def t (M:Nat):List Ent:=⟨20,11,0,4,sumS [0,1,5] ps4 qs4 [] of4 (st4 M) ex4 M⟩::[]
theorem t_ok (M:Nat):AllOk (e M) (tblOf (t M)):=AllOk.addS (n0:=0) (lv:=lv4) AllOk.nil (by kernel_rfl) rfl (by intro ls s h;unfold of4 at h;(repeat' split at h)<;>simp at h;subst h;rfl) (by intro s;kernel_rfl) (by intro s;kernel_rfl) (by intro s nx k;kernel_rfl)
def s (M:Nat) (p0:D) (p1:D):Option D:=
 (cond (neI (nI p0.elems.length) (nI p1.elems.length)) (some (db false)) (goS (st4 M) M ⟨p0,p1,0⟩ fun x=>match x with | .e0  => (some (db false)) | .e1  => (some (db true))))
theorem run (M:Nat) (p0:D) (p1:D):callS (e M) (tblOf (t M)) 12 (.fn 20) [.d (.slice 62) p0,.d (.slice 62) p1] [] (fun v H=>finish ty [4] v H)=s M p0 p1:=by kernel_rfl
def c:Con:={ run:=fun ds=>match ds with | [p0,p1]=>s FUEL p0 p1 | _=>none,plain:=true }
theorem ok:ConOk (20,c):=mkC Tryz.f20 [(.slice 62),(.slice 62)] [4] (by kernel_rfl) (by kernel_rfl) (by kernel_rfl) (by kernel_rfl) allNil allNil (t_ok FUEL) fun a=>run FUEL a.1 a.2.1
end F20
namespace F5
end F5
end Go.AM.SY
namespace Go.AM.SY
open Go Go.AM Go.Proofs Go.RowKit
namespace F51
def k0_:K:=(.struct [3,9,9,4,3,66])
def cons:List (Nat×Con):=[]
def exts:List (Nat×Ext):=[]
def h:List (Nat×Nat×Hint):=[(51,2,{ live:=[1,3],out:=some [1,2] })]
noncomputable def e (M:Nat):Env:=env cons exts h M
structure S2 where
 (i1:Int) (d2:D)
inductive X2 where
 | e0 (d2:D)
 | e1 (d2:D)
def st2 (M:Nat):S2→(S2→Option D)→(X2→Option D)→Option D
 | ⟨i1,d2⟩,rec,K=>(cond (ltI i1 (nI (d2.at 5).elems.length)) (cond (leI i1 200) (cond (inb i1 (d2.at 5).elems.length) (cond (gtI (nI (ix (d2.at 5).elems i1.toNat).s.size) 200) (K (.e0 d2)) (rec ⟨(ad .i64 i1 1),d2⟩)) none) (K (.e1 d2))) (K (.e1 d2)))
def ex2 (k:Kont):X2→Option D
 | .e0 d2=>k .ret ((us 1 ((.ptr 0 [] k0_)::(vb false)::(us 35 [])))) [(.var k0_ (vk k0_ d2))]
 | .e1 d2=>k (.exit 0) ((us 1 ((.ptr 0 [] k0_)::(us 36 [])))) [(.var k0_ (vk k0_ d2))]
def lv2:S2→List Leaf
 | ⟨i1,d2⟩=>[.i i1,.d d2]
def of2:List Leaf→Option S2
 | [.i i1,.d d2]=>some ⟨i1,d2⟩
 | _=>none
def ps2:List PV:=((up 1 ((.ptr 0 [] k0_)::(up 1 ((.d (.int .i64) (.int .i64))::(up 34 []))))))
def qs2:List PO:=[(.var k0_ (.d k0_ .x))]
noncomputable def t (M:Nat):List Ent:=⟨51,11,0,2,sumS [1,3] ps2 qs2 [] of2 (st2 M) ex2 M⟩::[]
theorem t_ok (M:Nat):AllOk (e M) (tblOf (t M)):=AllOk.addS (n0:=1) (lv:=lv2) AllOk.nil (by kernel_rfl) rfl (by intro ls s h;unfold of2 at h;(repeat' split at h)<;>simp at h;subst h;rfl) (by intro s;kernel_rfl) (by intro s;kernel_rfl) (by intro s nx k;kernel_rfl)
def s (M:Nat) (p0:D):Option D:=
 (goS (st2 M) M ⟨0,p0⟩ fun x=>match x with | .e0 d2=>(some (db false)) | .e1 d2=>(cond (leI (nI (d2.at 5).elems.length) 200) (cond (leI (nI (d2.at 2).s.size) 2000) (some (db (leI (nI (d2.at 1).s.size) 200))) (some (db false))) (some (db false))))
theorem run (M:Nat) (p0:D):callS (e M) (tblOf (t M)) 12 (.fn 51) [.d (.struct [3,9,9,4,3,66]) p0] [] (fun v H=>finish ty [4] v H)=s M p0:=by kernel_rfl
def c:Con:={ run:=fun ds=>match ds with | [p0]=>s FUEL p0 | _=>none,plain:=true }
theorem ok:ConOk (51,c):=mkC Tryz.f51 [(.struct [3,9,9,4,3,66])] [4] (by kernel_rfl) (by kernel_rfl) (by kernel_rfl) (by kernel_rfl) allNil allNil (t_ok FUEL) fun a=>run FUEL a.1
end F51
namespace F16
def k0_:K:=(.struct [22,3,3])
def cons:List (Nat×Con):=[(51,F51.c)]
def exts:List (Nat×Ext):=[]
def h:List (Nat×Nat×Hint):=[(16,2,{ live:=[1,3],out:=some [1,2] })]
noncomputable def e (M:Nat):Env:=env cons exts h M
structure S2 where
 (i1:Int) (d2:D)
inductive X2 where
 | e0 (d2:D)
 | e1 (d2:D)
def st2 (M:Nat):S2→(S2→Option D)→(X2→Option D)→Option D
 | ⟨i1,d2⟩,rec,K=>(cond (ltI i1 (nI (d2.at 0).elems.length)) (cond (leI i1 20) (cond (inb i1 (d2.at 0).elems.length) (bd (F51.s FUEL (ix (d2.at 0).elems i1.toNat)) fun r3=>(cond (!r3.b) (K (.e0 d2)) (rec ⟨(ad .i64 i1 1),d2⟩))) none) (K (.e1 d2))) (K (.e1 d2)))
def ex2 (k:Kont):X2→Option D
 | .e0 d2=>k .ret ((us 1 ((.ptr 0 [] k0_)::(vb false)::(us 25 [])))) [(.var k0_ (vk k0_ d2))]
 | .e1 d2=>k (.exit 0) ((us 1 ((.ptr 0 [] k0_)::(us 26 [])))) [(.var k0_ (vk k0_ d2))]
def lv2:S2→List Leaf
 | ⟨i1,d2⟩=>[.i i1,.d d2]
def of2:List Leaf→Option S2
 | [.i i1,.d d2]=>some ⟨i1,d2⟩
 | _=>none
def ps2:List PV:=((up 1 ((.ptr 0 [] k0_)::(up 1 ((.d (.int .i64) (.int .i64))::(up 24 []))))))
def qs2:List PO:=[(.var k0_ (.d k0_ .x))]
noncomputable def t (M:Nat):List Ent:=⟨16,11,0,2,sumS [1,3] ps2 qs2 [] of2 (st2 M) ex2 M⟩::[]
theorem t_ok (M:Nat):AllOk (e M) (tblOf (t M)):=AllOk.addS (n0:=1) (lv:=lv2) AllOk.nil (by kernel_rfl) rfl (by intro ls s h;unfold of2 at h;(repeat' split at h)<;>simp at h;subst h;rfl) (by intro s;kernel_rfl) (by intro s;kernel_rfl) (by intro s nx k;kernel_rfl)
def s (M:Nat) (p0:D):Option D:=
 (goS (st2 M) M ⟨0,p0⟩ fun x=>match x with | .e0 d2=>(some (db false)) | .e1 d2=>(some (db (leI (nI (d2.at 0).elems.length) 20))))
theorem run (M:Nat) (p0:D):callS (e M) (tblOf (t M)) 12 (.fn 16) [.d (.struct [22,3,3]) p0] [] (fun v H=>finish ty [4] v H)=s M p0:=by kernel_rfl
def c:Con:={ run:=fun ds=>match ds with | [p0]=>s FUEL p0 | _=>none,plain:=true }
theorem ok:ConOk (16,c):=mkC Tryz.f16 [(.struct [22,3,3])] [4] (by kernel_rfl) (by kernel_rfl) (by kernel_rfl) (by kernel_rfl) (allCons F51.ok allNil) allNil (t_ok FUEL) fun a=>run FUEL a.1
end F16
namespace F4
def k0_:K:=(.struct [22,3,3])
def cons:List (Nat×Con):=[(15,F15.c),(16,F16.c),(17,F17.c),(20,F20.c),(21,F21.c),(22,F22.c),(23,F23.c),(24,F24.c)]
def exts:List (Nat×Ext):=[]
def h:List (Nat×Nat×Hint):=[(4,12,{ live:=[2,3,9,16],out:=some [2,3,8,9] })]
def q0_:PO:=(.var k0_ (.d k0_ .x))
noncomputable def e (M:Nat):Env:=env cons exts h M
structure S12 where
 (i7:Int) (d8 d9:D) (i10:Int) (d11 d12:D)
inductive X12 where
 | e0 (i7:Int) (d8 d9 d11 d12:D)
 | e1 (i7:Int) (d8 d9 d11 d12:D)
def st12 (M:Nat):S12→(S12→Option D)→(X12→Option D)→Option D
 | ⟨i7,d8,d9,i10,d11,d12⟩,rec,K=>(cond (ltI i10 (nI d8.elems.length)) (cond (inb i10 d8.elems.length) (cond (gtI (nI ((ix d8.elems i10.toNat).at 2).s.size) 300) (K (.e0 i7 d8 d9 d11 d12)) (rec ⟨i7,d8,d9,(ad .i64 i10 1),d11,d12⟩)) none) (K (.e1 i7 d8 d9 d11 d12)))
def ex12 (k:Kont):X12→Option D
 | .e0 i7 d8 d9 d11 d12=>k .ret ((us 2 ((vi i7)::(vk (.slice 49) d8)::(us 4 ((vk .bool d9)::(vk .bool d9)::(us 122 [])))))) [(.var k0_ (vk k0_ d11)),(.var k0_ (vk k0_ d12))]
 | .e1 i7 d8 d9 d11 d12=>k (.exit 0) ((us 2 ((vi i7)::(vk (.slice 49) d8)::(us 5 ((vk .bool d9)::(us 122 [])))))) [(.var k0_ (vk k0_ d11)),(.var k0_ (vk k0_ d12))]
def lv12:S12→List Leaf
 | ⟨i7,d8,d9,i10,d11,d12⟩=>[.i i7,.d d8,.d d9,.i i10,.d d11,.d d12]
def of12:List Leaf→Option S12
 | [.i i7,.d d8,.d d9,.i i10,.d d11,.d d12]=>some ⟨i7,d8,d9,i10,d11,d12⟩
 | _=>none
def ps12:List PV:=((up 2 ((.d (.int .i64) (.int .i64))::(.d (.slice 49) .x)::(up 5 ((.d .bool .x)::(up 6 ((.d (.int .i64) (.int .i64))::(up 115 []))))))))
def qs12:List PO:=[q0_,q0_]
noncomputable def t (M:Nat):List Ent:=⟨4,11,0,12,sumS [2,3,9,16] ps12 qs12 [] of12 (st12 M) ex12 M⟩::[]
theorem t_ok (M:Nat):AllOk (e M) (tblOf (t M)):=AllOk.addS (n0:=2) (lv:=lv12) AllOk.nil (by kernel_rfl) rfl (by intro ls s h;unfold of12 at h;(repeat' split at h)<;>simp at h;subst h;rfl) (by intro s;kernel_rfl) (by intro s;kernel_rfl) (by intro s nx k;kernel_rfl)
def s (M:Nat) (p0:D) (p1:D) (p2:Int) (p3:D):Option D:=
 (bd (F15.s FUEL) fun r1=>(cond (!r1.b) (some (db false)) (bd (F16.s FUEL p0) fun r2=>(cond (!r2.b) (some r1) (cond (gtI (nI p1.elems.length) 60) (some r1) (cond (gtI (nI p3.elems.length) 60) (some r1) (bd (F17.s FUEL p0 p1 p2) fun r3=>(bd (F22.s FUEL (r3.at 0) p2) fun r4=>(cond (r3.at 1).b (cond (!(r4.at 2).b) (some (db false)) (bd (F23.s FUEL p0 (r4.at 0)) fun r5=>(cond (!r5.b) (some (db false)) (bd (F24.s FUEL p1 (r4.at 1)) fun r6=>(cond (!r6.b) (some (db false)) (cond (!(r3.at 1).b) (cond (gtI (nI (r3.at 0).elems.length) 0) (some (db false)) (goS (st12 M) M ⟨p2,p3,r1,0,p0,(r4.at 0)⟩ fun x=>match x with | .e0 i7 d8 d9 d11 d12=>(some d9) | .e1 i7 d8 d9 d11 d12=>(bd (F22.s FUEL d8 i7) fun r13=>(cond (!(r13.at 2).b) (cond d9.b (bd (F23.s FUEL (r13.at 0) (da [(dl false []),(di 0),(di 0)])) fun r14=>(cond r14.b (some (db (eqI (nI (r13.at 1).elems.length) 0))) (some (db false)))) (some (db false))) (bd (F17.s FUEL (r13.at 0) (r13.at 1) i7) fun r15=>(cond d9.b (cond (r15.at 1).b (bd (F21.s FUEL (r15.at 0)) fun r16=>(bd (F21.s FUEL d8) fun r17=>(bd (F20.s FUEL (dl r16.nn ((r16.elems.drop 0).take r16.elems.length)) (dl r17.nn ((r17.elems.drop 0).take r17.elems.length))) fun r18=>(some r18)))) (some (db false))) (some (db false)))))))) (goS (st12 M) M ⟨p2,p3,r1,0,p0,(r4.at 0)⟩ fun x=>match x with | .e0 i7 d8 d9 d11 d12=>(some d9) | .e1 i7 d8 d9 d11 d12=>(bd (F22.s FUEL d8 i7) fun r19=>(cond (!(r19.at 2).b) (cond d9.b (bd (F23.s FUEL (r19.at 0) (da [(dl false []),(di 0),(di 0)])) fun r20=>(cond r20.b (some (db (eqI (nI (r19.at 1).elems.length) 0))) (some (db false)))) (some (db false))) (bd (F17.s FUEL (r19.at 0) (r19.at 1) i7) fun r21=>(cond d9.b (cond (r21.at 1).b (bd (F21.s FUEL (r21.at 0)) fun r22=>(bd (F21.s FUEL d8) fun r23=>(bd (F20.s FUEL (dl r22.nn ((r22.elems.drop 0).take r22.elems.length)) (dl r23.nn ((r23.elems.drop 0).take r23.elems.length))) fun r24=>(some r24)))) (some (db false))) (some (db false))))))))))))) (cond (!(r3.at 1).b) (cond (gtI (nI (r3.at 0).elems.length) 0) (some (db false)) (goS (st12 M) M ⟨p2,p3,r1,0,p0,(r4.at 0)⟩ fun x=>match x with | .e0 i7 d8 d9 d11 d12=>(some d9) | .e1 i7 d8 d9 d11 d12=>(bd (F22.s FUEL d8 i7) fun r25=>(cond (!(r25.at 2).b) (cond d9.b (bd (F23.s FUEL (r25.at 0) (da [(dl false []),(di 0),(di 0)])) fun r26=>(cond r26.b (some (db (eqI (nI (r25.at 1).elems.length) 0))) (some (db false)))) (some (db false))) (bd (F17.s FUEL (r25.at 0) (r25.at 1) i7) fun r27=>(cond d9.b (cond (r27.at 1).b (bd (F21.s FUEL (r27.at 0)) fun r28=>(bd (F21.s FUEL d8) fun r29=>(bd (F20.s FUEL (dl r28.nn ((r28.elems.drop 0).take r28.elems.length)) (dl r29.nn ((r29.elems.drop 0).take r29.elems.length))) fun r30=>(some r30)))) (some (db false))) (some (db false)))))))) (goS (st12 M) M ⟨p2,p3,r1,0,p0,(r4.at 0)⟩ fun x=>match x with | .e0 i7 d8 d9 d11 d12=>(some d9) | .e1 i7 d8 d9 d11 d12=>(bd (F22.s FUEL d8 i7) fun r31=>(cond (!(r31.at 2).b) (cond d9.b (bd (F23.s FUEL (r31.at 0) (da [(dl false []),(di 0),(di 0)])) fun r32=>(cond r32.b (some (db (eqI (nI (r31.at 1).elems.length) 0))) (some (db false)))) (some (db false))) (bd (F17.s FUEL (r31.at 0) (r31.at 1) i7) fun r33=>(cond d9.b (cond (r33.at 1).b (bd (F21.s FUEL (r33.at 0)) fun r34=>(bd (F21.s FUEL d8) fun r35=>(bd (F20.s FUEL (dl r34.nn ((r34.elems.drop 0).take r34.elems.length)) (dl r35.nn ((r35.elems.drop 0).take r35.elems.length))) fun r36=>(some r36)))) (some (db false))) (some (db false)))))))))))))))))
theorem run (M:Nat) (p0:D) (p1:D) (p2:Int) (p3:D):callS (e M) (tblOf (t M)) 12 (.fn 4) [.d (.struct [22,3,3]) p0,.d (.slice 32) p1,.d (.int .i64) (di p2),.d (.slice 49) p3] [] (fun v H=>finish ty [4] v H)=s M p0 p1 p2 p3:=by kernel_rfl
def c:Con:={ run:=fun ds=>match ds with | [p0,p1,p2,p3]=>s FUEL p0 p1 p2.i p3 | _=>none,plain:=true }
theorem fun_at:Tryz.prog.funcs[4]? = some Tryz.f4:=by kernel_rfl
theorem params:Tryz.f4.params.toList.map ty=[(.struct [22,3,3]),(.slice 32),(.int .i64),(.slice 49)]:=by kernel_rfl
theorem ok:ConOk (4,c):=mkC Tryz.f4 [(.struct [22,3,3]),(.slice 32),(.int .i64),(.slice 49)] [4] (by kernel_rfl) (by kernel_rfl) (by kernel_rfl) (by kernel_rfl) (allCons F15.ok (allCons F16.ok (allCons F17.ok (allCons F20.ok (allCons F21.ok (allCons F22.ok (allCons F23.ok (allCons F24.ok allNil)))))))) allNil (t_ok FUEL) fun a=>run FUEL a.1 a.2.1 a.2.2.1 a.2.2.2.1
end F4
end Go.AM.SY
namespace Go.AM
open Go Go.RowKit Go.ChangeShapes Go.WideShapes Go.ChangeAt Go.WideElems
mutual
def D.wf:D→Prop
 | .int k n=>k.min≤n∧n≤k.max
 | .str s=>s.size≤9223372036854775807
 | .agg ds=>D.wfs ds
 | .slice _ ds=>ds.length≤9223372036854775807∧D.wfs ds
 | .iface _ x=>D.wf x
 | .tup ds=>D.wfs ds
 | _=>True
def D.wfs:List D→Prop
 | []=>True
 | d::ds=>D.wf d∧D.wfs ds
end
def K.dat (ty:Nat→K):Nat→K→Bool
 | _,.bool=>true
 | _,.int _=>true
 | _,.str=>true
 | n+1,.struct fs=>!fs.isEmpty&&fs.all fun f=>K.dat ty n (ty f)
 | n+1,.array m e=>decide (0<m)&&K.dat ty n (ty e)
 | n+1,.slice e=>K.dat ty n (ty e)
 | _,_=>false
section
variable {P:Program} {ty:Nat→K} {H:Type} {enc:TypeId×Value→H} {w:World} {sp:Nat→Bool} {held:Bool}
theorem wfs_of:∀{ds:List D},(∀d∈ds,D.wf d)→D.wfs ds
 | [],_=>by simp[D.wfs]
 | d::ds,h=>by simp only[D.wfs];exact⟨h d (by simp),wfs_of fun x hx=>h x (by simp[hx])⟩
theorem wfs_mem:∀{ds:List D},D.wfs ds→∀d∈ds,D.wf d
 | [],_,_,h=>by simp at h
 | a::ds,h,d,hd=>by
  simp only[D.wfs] at h
  rcases List.mem_cons.1 hd with rfl | hd
  ·exact h.1
  ·exact wfs_mem h.2 d hd
theorem reps_of {M:Mem}:∀(n:Nat) (κ:Nat→K) (part:Nat→List Value),(∀i,i<n→∃x v,v.cells.toList=part i∧Rep ty M x (κ i) v∧D.wf x) →
  ∃ds,Reps ty M ds ((List.range n).map κ) ((List.range n).map part).flatten∧D.wfs ds∧ds.length=n
 | 0,κ,part,h=>⟨[],by simp[Reps],by simp[D.wfs],rfl⟩
 | n+1,κ,part,h=>by
  obtain⟨ds,h1,h2,h3⟩:=reps_of n κ part (fun i hi=>h i (by omega))
  obtain⟨x,v,e,hr,hw⟩:=h n (by omega)
  refine⟨ds++[x],?_,?_,by simp[h3]⟩
  ·rw[List.range_succ,List.map_append,List.map_append,List.flatten_append]
   refine h1.append ?_
   simp only[List.map_cons,List.map_nil,List.flatten_cons,List.flatten_nil,List.append_nil,←e]
   exact Reps.one hr
  ·refine wfs_of fun d hd=>?_
   rcases List.mem_append.1 hd with hd | hd
   ·exact wfs_mem h2 d hd
   ·simp at hd;subst hd;exact hw
theorem chop (n k:Nat) (cs:List Value) (h:cs.length=n*k):((List.range n).map fun i=>(cs.drop (i*k)).take k).flatten=cs:=by
 induction n generalizing cs with
 | zero=>simp at h;simp[h]
 | succ n ih=>
  rw[List.range_succ_eq_map]
  simp only[List.map_cons,List.map_map,List.flatten_cons]
  have h2:(List.map ((fun i=>(cs.drop (i*k)).take k)∘Nat.succ) (List.range n))=(List.range n).map fun i=>((cs.drop k).drop (i*k)).take k:=by
   apply List.map_congr_left
   intro i _
   simp only[Function.comp,List.drop_drop]
   congr 2
   rw[Nat.succ_mul];omega
  rw[h2,ih (cs.drop k) (by rw[List.length_drop,h,Nat.succ_mul];omega)]
  simp
theorem chopF {fields:Array Field} {P:Program} (cs:List Value) (ho:∀(j:Nat) (f:Field),fields[j]? = some f→f.offset=kOff P.cellsOf (.struct (fields.toList.map (·.type))) j)
  (hl:cs.length=((fields.toList.map (·.type)).map P.cellsOf).sum) :
  ((List.range fields.size).map fun i=>match fields[i]? with | some f=>(cs.drop f.offset).take (P.cellsOf f.type) | none=>[]).flatten=cs:=by
 have key:∀n,n≤fields.size→((List.range n).map fun i=>match fields[i]? with | some f=>(cs.drop f.offset).take (P.cellsOf f.type) | none=>[]).flatten=cs.take ((((fields.toList.map (·.type)).take n).map P.cellsOf).sum):=by
  intro n
  induction n with
  | zero=>intro _;simp
  | succ n ih=>
   intro hn
   rw[List.range_succ,List.map_append,List.flatten_append,ih (by omega)]
   have hf:fields[n]? = some fields[n]:=by simp[show n<fields.size by omega]
   simp only[List.map_cons,List.map_nil,List.flatten_cons,List.flatten_nil,List.append_nil,hf]
   have h1:=ho n _ hf
   simp only[kOff] at h1
   have h2:(fields.toList.map (·.type)).take (n+1)=(fields.toList.map (·.type)).take n++[fields[n].type]:=by
    rw[List.take_succ_eq_append_getElem (by simp;omega)]
    simp
   rw[h2,List.map_append,List.sum_append,h1,List.take_add]
   simp
 rw[key _ (Nat.le_refl _),List.take_of_length_le]
 rw[hl,List.take_of_length_le (by simp)]
 exact Nat.le_refl _
theorem spot_none {a:Addr} {v:Value} (h:w.cell? a=some v):a.spot=none:=by
 unfold World.cell? at h
 split at h
 ·split at h
  ·simp at h
  ·rename_i hs;simpa using hs
 ·simp at h
theorem mapM_get {α:Type}:∀{l:List Nat} {g:Nat→Option α} {ys:List α},l.mapM g=some ys→∀(i:Nat) (y:α),ys[i]? = some y→∃n,l[i]? = some n∧g n=some y
 | [],g,ys,h,i,y,hy=>by simp at h;subst h;simp at hy
 | a::l,g,ys,h,i,y,hy=>by
  simp only[List.mapM_cons,Option.bind_eq_bind,Option.bind_eq_some_iff,Option.pure_def,Option.some.injEq] at h
  obtain⟨b,hb,rest,hr,rfl⟩:=h
  cases i with
  | zero=>simp at hy;subst hy;exact⟨a,rfl,hb⟩
  | succ i=>simpa using mapM_get hr i y (by simpa using hy)
theorem mapM_len {α:Type}:∀{l:List Nat} {g:Nat→Option α} {ys:List α},l.mapM g=some ys→ys.length=l.length
 | [],g,ys,h=>by simp at h;subst h;rfl
 | a::l,g,ys,h=>by
  simp only[List.mapM_cons,Option.bind_eq_bind,Option.bind_eq_some_iff,Option.pure_def,Option.some.injEq] at h
  obtain⟨b,hb,rest,hr,rfl⟩:=h
  simp[mapM_len hr]
theorem dat_ne {n t:Nat} (h:K.dat ty n (ty t)=true):ty t≠.bad:=by intro hb;rw[hb] at h;cases n<;>simp[K.dat] at h
theorem dat_pos (T:TyOk P ty):∀(n t:Nat),K.dat ty n (ty t)=true→0<P.cellsOf t
 | n,t,h=>by
  rw[T.szOk t (dat_ne h)]
  cases hk:ty t with
  | struct fs=>
   rw[hk] at h
   cases n with
   | zero=>simp[K.dat] at h
   | succ n=>
    simp only[K.dat,Bool.and_eq_true,List.all_eq_true] at h
    cases fs with
    | nil=>simp at h
    | cons f fs=>
     have:=dat_pos T n f (h.2 f (by simp))
     simp only[ksz,List.map_cons,List.sum_cons]
     omega
  | array m e=>
   rw[hk] at h
   cases n with
   | zero=>simp[K.dat] at h
   | succ n=>
    simp only[K.dat,Bool.and_eq_true,decide_eq_true_eq] at h
    have:=dat_pos T n e h.2
    simp only[ksz]
    exact Nat.mul_pos h.1 this
  | _=>simp[ksz]
theorem trod_rep (T:TyOk P ty):∀(fuel t:Nat) (cs:List Value) (x:DataW H×List MemPlace) (n:Nat),DataW.trod enc P w 0 sp held fuel t cs=some x→K.dat ty n (ty t)=true →
  ∃y v,v.cells.toList=cs∧Rep ty (memOf w []) y (ty t) v∧D.wf y
 | 0,t,cs,x,n,h,_=>by simp[DataW.trod] at h
 | fuel+1,t,cs,x,n,h,hd=>by
  have hne:ty t≠.bad:=by intro hb;rw[hb] at hd;cases n<;>simp[K.dat] at hd
  obtain⟨i,hi⟩:=T t hne
  have hdesc:=hi.desc
  cases hk:ty t with
  | bool=>
   rw[hk] at hdesc
   simp only[descOk] at hdesc
   obtain⟨b,rfl,rfl⟩:=DataW.trod_bool hdesc h
   exact⟨.bool b,.bool b,by simp[Value.cells],by simp[Rep],by simp[D.wf]⟩
  | int k=>
   rw[hk] at hdesc
   simp only[descOk] at hdesc
   obtain⟨m,rfl,rfl,hw⟩:=DataW.trod_int hdesc h
   refine⟨.int k m,.int k m,by simp[Value.cells],by simp[Rep],?_⟩
   simpa[Lit.wf,D.wf] using hw
  | str=>
   rw[hk] at hdesc
   simp only[descOk] at hdesc
   obtain⟨s,rfl,rfl,hs⟩:=DataW.trod_string hdesc h
   exact⟨.str s,.string s,by simp[Value.cells],by simp[Rep],by simpa[D.wf,Go.maxLen] using hs⟩
  | struct fs=>
   rw[hk] at hdesc
   simp only[descOk] at hdesc
   obtain⟨fields,h1,h2,h3⟩:=hdesc
   obtain⟨xs,m,hm,rfl,hl,hxs,hE⟩:=DataW.trod_struct h1 h
   obtain rfl:m=fuel:=by omega
   cases n with
   | zero=>rw[hk] at hd;simp[K.dat] at hd
   | succ n=>
   rw[hk] at hd
   simp only[K.dat,Bool.and_eq_true,List.all_eq_true] at hd
   have hsz:P.cellsOf t=(fs.map P.cellsOf).sum:=by rw[T.szOk t hne,hk];rfl
   obtain⟨ds,r1,r2,r3⟩:=reps_of (ty:=ty) (M:=memOf w []) fields.size (fun i=>match fields[i]? with | some f=>ty f.type | none=>.bad) (fun i=>match fields[i]? with | some f=>(cs.drop f.offset).take (P.cellsOf f.type) | none=>[]) (fun i hi=>by
    have hf:fields[i]? = some fields[i]:=by simp[hi]
    simp only[hf]
    have he:=hE i _ hf
    have hx:xs[i]? = some xs[i]:=by simp[show i<xs.length by omega]
    rw[hx] at he
    refine trod_rep T m _ _ _ n he (hd.2 _ ?_)
    rw[←h2]
    exact List.mem_map.2 ⟨fields[i],by simp,rfl⟩)
   rw[chopF cs (fun j f hj=>by have:=(h3 j f hj).1;rw[h2];exact this) (by rw[hl,hsz,h2])] at r1
   refine⟨.agg ds,.agg cs.toArray,by simp[Value.cells],?_,by simpa[D.wf] using r2⟩
   simp only[Rep,K.isAgg]
   refine⟨trivial,cs.toArray,rfl,?_⟩
   have hks:(List.range fields.size).map (fun i=>match fields[i]? with | some f=>ty f.type | none=>.bad)=(K.struct fs).kids ty:=by
    simp only[K.kids,←h2,List.map_map]
    apply List.ext_getElem
    ·simp
    ·intro i h1 h2
     simp at h1
     simp[h1]
   rw[hks] at r1
   simpa using r1
  | array m e=>
   rw[hk] at hdesc
   simp only[descOk] at hdesc
   obtain⟨xs,m',hm,rfl,hl,hxs,hE⟩:=DataW.trod_array hdesc.1 h
   obtain rfl:m'=fuel:=by omega
   cases n with
   | zero=>rw[hk] at hd;simp[K.dat] at hd
   | succ n=>
   rw[hk] at hd
   simp only[K.dat,Bool.and_eq_true] at hd
   have hsz:P.cellsOf t=m*P.cellsOf e:=by rw[T.szOk t hne,hk];rfl
   obtain⟨ds,r1,r2,r3⟩:=reps_of (ty:=ty) (M:=memOf w []) m (fun _=>ty e) (fun i=>(cs.drop (i*P.cellsOf e)).take (P.cellsOf e)) (fun i hi=>by
    have he:=hE i hi
    have hx:xs[i]? = some xs[i]:=by simp[show i<xs.length by omega]
    rw[hx] at he
    exact trod_rep T m' _ _ _ n he hd.2)
   rw[chop m _ cs (by rw[hl,hsz])] at r1
   refine⟨.agg ds,.agg cs.toArray,by simp[Value.cells],?_,by simpa[D.wf] using r2⟩
   simp only[Rep,K.isAgg]
   refine⟨trivial,cs.toArray,rfl,?_⟩
   simp only[K.kids]
   have hrep:(List.range m).map (fun _=>ty e)=List.replicate m (ty e):=by
    apply List.ext_getElem<;>simp
   rw[hrep] at r1
   simpa using r1
  | slice e=>
   rw[hk] at hdesc
   simp only[descOk] at hdesc
   cases n with
   | zero=>rw[hk] at hd;simp[K.dat] at hd
   | succ n=>
   rw[hk] at hd
   simp only[K.dat] at hd
   rcases DataW.trod_slice hdesc.1 h with ⟨rfl,rfl⟩ | ⟨a,len,cap,elems,rest,m',hm,rfl,rfl,_,hlc,hcm,hel,hE,_,_⟩
   ·exact⟨.slice false [],.slice none 0 0,by simp[Value.cells],by simp only[Rep];exact⟨e,none,0,rfl,rfl,Nat.zero_le _,rfl,fun _=>rfl,.inl trivial⟩,by simp[D.wf,D.wfs]⟩
   ·obtain rfl:m'=fuel:=by omega
    have hcell:∀i,i<len→∃c1,w.cells? 0 (a.add (i*P.cellsOf e)) (P.cellsOf e)=some c1∧∃y v,v.cells.toList=c1∧Rep ty (memOf w []) y (ty e) v∧D.wf y:=by
     intro i hi
     have he:=hE i hi
     have hx:elems[i]? = some elems[i]:=by simp[show i<elems.length by omega]
     rw[hx] at he
     simp only[Option.bind_eq_some_iff] at he
     obtain⟨c1,hc1,he⟩:=he
     exact⟨c1,hc1,trod_rep T m' _ _ _ n he hd⟩
    obtain⟨ds,r1,r2,r3⟩:=reps_of (ty:=ty) (M:=memOf w []) len (fun _=>ty e) (fun i=>(w.cells? 0 (a.add (i*P.cellsOf e)) (P.cellsOf e)).getD []) (fun i hi=>by
     obtain⟨c1,h1,y,v,h2,h3,h4⟩:=hcell i hi
     exact⟨y,v,by rw[h1];exact h2,h3,h4⟩)
    have hrep:(List.range len).map (fun _=>ty e)=List.replicate ds.length (ty e):=by
     rw[r3];apply List.ext_getElem<;>simp
    rw[hrep] at r1
    refine⟨.slice true ds,.slice (some a) len cap,by simp[Value.cells],?_,by simp only[D.wf];exact⟨by rw[r3];simp[Go.maxLen] at hcm;omega,r2⟩⟩
    simp only[Rep,r3]
    refine⟨e,some a,cap,rfl,rfl,hlc,rfl,by simp,?_⟩
    by_cases hl0:len=0
    ·exact .inl (List.eq_nil_of_length_eq_zero (by omega))
    ·right
     have hcsz:0<P.cellsOf e∨P.cellsOf e=0:=by omega
     refine⟨a,_,rfl,?_,by rw[r3] at r1;exact r1⟩
     have hlen:∀i,i<len→((w.cells? 0 (a.add (i*P.cellsOf e)) (P.cellsOf e)).getD []).length=P.cellsOf e:=by
      intro i hi
      obtain⟨c1,h1,_⟩:=hcell i hi
      rw[h1]
      simp only[World.cells?,Nat.zero_le,if_true] at h1
      simpa using mapM_len h1
     have hcells:∀i,i<len→∀j (v:Value),((w.cells? 0 (a.add (i*P.cellsOf e)) (P.cellsOf e)).getD [])[j]? = some v→w.cell? ((a.add (i*P.cellsOf e)).add j)=some v:=by
      intro i hi j v hv
      obtain⟨c1,h1,_⟩:=hcell i hi
      rw[h1] at hv
      simp only[World.cells?,Nat.zero_le,if_true] at h1
      obtain⟨k,hk1,hk2⟩:=mapM_get h1 j v hv
      have:k=j:=by
       have:=List.getElem?_eq_some_iff.1 hk1
       obtain⟨_,h⟩:=this
       simpa using h.symm
      rw[←this];exact hk2
     have hflat:∀(m:Nat) (g:Nat→List Value),(∀i,i<m→(g i).length=P.cellsOf e)→∀(j:Nat) (v:Value),(((List.range m).map g).flatten)[j]? = some v→∃i r,i<m∧r<P.cellsOf e∧j=i*P.cellsOf e+r∧(g i)[r]? = some v:=by
      intro m g
      induction m with
      | zero=>intro _ j v hv;simp at hv
      | succ m ih=>
       intro hg j v hv
       have hl:(((List.range m).map g).flatten).length=m*P.cellsOf e:=by
        rw[List.length_flatten,List.map_map]
        have:List.map (List.length∘g) (List.range m)=List.replicate m (P.cellsOf e):=by
         apply List.ext_getElem
         ·simp
         ·intro i h1 h2;simp at h1;simp[hg i (by omega)]
        rw[this];simp
       rw[List.range_succ,List.map_append,List.flatten_append] at hv
       by_cases hj:j<m*P.cellsOf e
       ·rw[List.getElem?_append_left (by omega)] at hv
        obtain⟨i,r,h1,h2,h3,h4⟩:=ih (fun i hi=>hg i (by omega)) j v hv
        exact⟨i,r,by omega,h2,h3,h4⟩
       ·rw[List.getElem?_append_right (by omega),hl] at hv
        simp only[List.map_cons,List.map_nil,List.flatten_cons,List.flatten_nil,List.append_nil] at hv
        have hlt:=(List.getElem?_eq_some_iff.1 hv).1
        rw[hg m (by omega)] at hlt
        exact⟨m,j-m*P.cellsOf e,by omega,hlt,by omega,hv⟩
     have hat:∀(j:Nat) (v:Value),(((List.range len).map fun i=>(w.cells? 0 (a.add (i*P.cellsOf e)) (P.cellsOf e)).getD []).flatten)[j]? = some v→w.cell? (a.add j)=some v:=by
      intro j v hv
      obtain⟨i,r,h1,h2,rfl,h4⟩:=hflat len _ hlen j v hv
      have:=hcells i h1 r v h4
      have hadd:(a.add (i*P.cellsOf e)).add r=a.add (i*P.cellsOf e+r):=by
       cases a
       simp only[Addr.add]
       split<;>split<;>(try split)<;>simp_all<;>omega
      rw[←hadd];exact this
     have h0:=dat_pos T n e hd
     have hspot:a.spot=none:=by
      have h1:=hlen 0 (by omega)
      simp only[Nat.zero_mul] at h1
      have h2:=hcells 0 (by omega) 0
      simp only[Nat.zero_mul] at h2
      have h3:=h2 _ (List.getElem?_eq_getElem (by omega))
      have h4:(a.add 0).add 0=a:=by simp[Addr.add]
      rw[h4] at h3
      exact spot_none h3
     refine⟨hspot,fun j v hv=>?_⟩
     have:=hat j v hv
     rw[addr_add hspot] at this
     simpa[memOf] using this
  | map a e=>rw[hk] at hd;cases n<;>simp[K.dat] at hd
  | iface m=>rw[hk] at hd;cases n<;>simp[K.dat] at hd
  | ptr e=>rw[hk] at hd;cases n<;>simp[K.dat] at hd
  | func=>rw[hk] at hd;cases n<;>simp[K.dat] at hd
  | bad=>exact absurd hk hne
theorem agg_cells {v v':Value} {t:Nat} {κ:K} {M:Mem} {y:D} (T:TyOk P ty) (hk:ty t=κ) {r:Reach} {base:Nat} {W:World} (hok:Value.okWide P W r base t v) (hd:K.dat ty 20 κ=true) (hc:v'.cells.toList=v.cells.toList) (hr:Rep ty M y κ v'):v'=v:=by
 have hne:ty t≠.bad:=dat_ne (n:=20) (hk▸hd)
 obtain⟨i,hi⟩:=T t hne
 have hdesc:=hi.desc
 rw[hk] at hdesc
 have hca:v'.cells=v.cells:=Array.toList_inj.1 hc
 cases κ with
 | bool=>
  simp only[descOk] at hdesc
  cases v<;>simp[Value.okWide,Cell.okWide,Cell.ok,hdesc] at hok
  have:=rep_bool hr
  subst this
  simpa[Value.cells] using hc
 | int k=>
  simp only[descOk] at hdesc
  cases v<;>simp[Value.okWide,Cell.okWide,Cell.ok,hdesc] at hok
  have:=rep_int hr
  subst this
  simpa[Value.cells] using hc
 | str=>
  simp only[descOk] at hdesc
  cases v<;>simp[Value.okWide,Cell.okWide,Cell.ok,hdesc] at hok
  have:=rep_str hr
  subst this
  simpa[Value.cells] using hc
 | struct fs=>
  simp only[descOk] at hdesc
  obtain⟨fields,h1,_⟩:=hdesc
  simp only[Value.okWide,h1] at hok
  obtain⟨cs,rfl,_⟩:=hok
  obtain⟨ds,cs',_,rfl,_⟩:=Rep.isAgg hr rfl
  simp[Value.cells] at hca
  rw[hca]
 | array n e=>
  simp only[descOk] at hdesc
  simp only[Value.okWide,hdesc.1] at hok
  obtain⟨cs,rfl,_⟩:=hok
  obtain⟨ds,cs',_,rfl,_⟩:=Rep.isAgg hr rfl
  simp[Value.cells] at hca
  rw[hca]
 | slice e=>
  simp only[descOk] at hdesc
  have hv:∃a l c,v = .slice a l c:=by
   cases v<;>simp[Value.okWide,Cell.okWide,Cell.ok,hdesc] at hok
   exact⟨_,_,_,rfl⟩
  obtain⟨a,l,c,rfl⟩:=hv
  have hs:=(Rep.scal ty _ _ _ hr).1 rfl
  rw[cells_scal hs] at hca
  simpa[Value.cells] using hca
 | map a e=>simp[K.dat] at hd
 | iface m=>simp[K.dat] at hd
 | ptr e=>simp[K.dat] at hd
 | func=>simp[K.dat] at hd
 | bad=>simp[K.dat] at hd
theorem trodAll_each (T:TyOk P ty) {W:World} {r:Reach} {base:Nat}:∀(ts:List Nat) (vs:List Value) (ds:List (DataW H)) (ps:List MemPlace),DataW.TrodAll enc P w 0 sp held ts vs ds ps→(∀t∈ts,K.dat ty 20 (ty t)=true) →
  (∀(j:Nat) t v,ts[j]? = some t→vs[j]? = some v→Value.okWide P W r base t v)→∃xs,Each ty (memOf w []) xs (ts.map ty) vs∧D.wfs xs
 | [],vs,ds,ps,h,_,_=>by
  obtain⟨rfl,_,_⟩:=trodAll_nil h
  exact⟨[],by simp[Each],by simp[D.wfs]⟩
 | t::ts,vs,ds,ps,h,hd,hok=>by
  obtain⟨v,vs',d,ds',p,q,rfl,rfl,rfl,⟨fuel,h1⟩,h2⟩:=trodAll_cons h
  obtain⟨y,v',e1,e2,e3⟩:=trod_rep T fuel t _ _ 20 h1 (hd t (by simp))
  obtain rfl:=agg_cells T rfl (hok 0 t v rfl rfl) (hd t (by simp)) e1 e2
  obtain⟨xs,g1,g2⟩:=trodAll_each T ts vs' ds' q h2 (fun t ht=>hd t (by simp[ht])) (fun j t v hj hv=>hok (j+1) t v (by simpa using hj) (by simpa using hv))
  exact⟨y::xs,by simp only[List.map_cons,Each];exact⟨_,_,_,_,rfl,rfl,e2,g1⟩,by simp only[D.wfs];exact⟨e3,g2⟩⟩
theorem each_hass {M:Mem}:∀{ds:List D} {κs:List K} {xs:List Value},Each ty M ds κs xs→D.hass ty ds κs
 | [],_,_,h=>by simp only[Each] at h;simp only[D.hass];exact h.1
 | d::ds,_,_,h=>by
  simp only[Each] at h
  obtain⟨κ,κs',x,rest,rfl,rfl,h1,h2⟩:=h
  simp only[D.hass]
  exact⟨κ,κs',rfl,rep_has _ _ _ h1,each_hass h2⟩
theorem trodAll_stays {P:Program} (hl:laidOutB P=true) {W W':World} (hb:Below W.heap.size W W'):∀(ts:List Nat) (vs:List Value) (ds:List (DataW H)) (ps:List MemPlace),DataW.TrodAll enc P W 0 (fun _=>true) true ts vs ds ps →
  (∀t∈ts,P.readableRec t=true∧t<P.types.size)→(∀x∈ps,x.block<W.heap.size)→∀sp:Nat→Bool,(∀x∈ps,sp x.block=true)→DataW.TrodAll enc P W' 0 sp true ts vs ds ps
 | [],vs,ds,ps,h,_,_,sp,_=>by
  obtain⟨rfl,rfl,rfl⟩:=trodAll_nil h
  rfl
 | t::ts,vs,ds,ps,h,hr,hlt,sp,hsp=>by
  obtain⟨v,vs',d,ds',p,q,rfl,rfl,rfl,h1,h2⟩:=trodAll_cons h
  exact⟨p,q,WideElems.Trod_stays hl (hr t (by simp)).1 (hr t (by simp)).2 h1 (fun x hx=>hb.same (hlt x (by simp[hx]))) (fun x hx=>hsp x (by simp[hx])),
   trodAll_stays hl hb ts vs' ds' q h2 (fun t ht=>hr t (by simp[ht])) (fun x hx=>hlt x (by simp[hx])) sp (fun x hx=>hsp x (by simp[hx])),rfl⟩
theorem post_below {f:Func} {s:ChangeSpec} {apart fresh handsOn again:Bool} {W W':World} {args:Array Value} {v:Value} {ds gs:List (DataW H)} {before pa pv:List MemPlace}
  (hW:DataW.Whole enc P f.params.toList s.vars apart W args.toList ds gs before)
  (hres:∀(b:Nat) (sp:Nat→Bool) (hd:Bool),DataW.TrodAll enc P W' b sp hd f.resultTypes.toList (v.resultList f.resultTypes.size) (s.fn H (ds++gs)).results [])
  (hargs:∀sp:Nat→Bool,(∀p∈before,sp p.block=true)→DataW.TrodAll enc P W' 0 sp true f.params.toList args.toList (s.fn H (ds++gs)).args pa)
  (hvars:∀sp:Nat→Bool,(∀p∈before,sp p.block=true)→DataW.TrodVars enc P W' sp s.vars (s.fn H (ds++gs)).vars pv)
  (hps:before=pa++pv) (hb:Below W.heap.size W W')
  (hok:∀(j:Nat) (t:TypeId) (r:Value),f.resultTypes[j]? = some t→(v.resultList f.resultTypes.size)[j]? = some r→Value.okWide P W' .any 0 t r) :
  s.post enc P f apart fresh handsOn again W args v W':=by
 have hlt:∀p∈before,p.block<W.heap.size:=fun p hp=>hW.lt p hp
 have hold:∀p∈before,(fun b=>decide (b<W.heap.size)) p.block=true:=fun p hp=>by simpa using hlt p hp
 refine⟨ds,gs,before,[],pa,pv,hW,hres _ _ _,hargs _ hold,hvars _ hold,World.keptBut_mono (fun p hp=>⟨hp,?_⟩) (hb.frame (·∈before)),fun _=>?_⟩
 ·rw[hps,List.mem_append] at hp
  exact Or.inr hp
 ·obtain⟨_,_,_,_,_,hz,hn⟩:=hW
  refine⟨hok,_,_,([]++pa)++pv,⟨[]++pa,pv,trodAll_append (hargs _ (fun _ _=>rfl)) (hres _ _ _),hvars _ (fun _ _=>rfl),rfl,?_,?_⟩,?_⟩
  ·intro b off hp
   have hin:MemPlace.cell b off∈before:=by rw[hps];simpa using hp
   rw[hb.frozen (hlt _ hin)]
   exact hz b off hin
  ·intro ha
   have:=hn ha
   rw[hps] at this
   simpa using this
  ·intro p hp _
   rw[hps]
   simpa using hp
theorem law_calls (T:TyOk P ty) {I:World→Prop} {f:Nat} {fn:Func} {c:Con} (hc:Contract P ty I f fn c) (hp:c.plain=true) (hl:laidOutB P=true)
  (hts:fn.params.toList.all (fun t=>K.dat ty 20 (ty t)&&P.readableRec t&&decide (t<P.types.size))=true) {tb:Nat} (hr:fn.resultTypes = #[tb]) (hb:ty tb = .bool)
  (hrun:∀ds,D.hass ty ds (fn.params.toList.map ty)→D.wfs ds→c.run ds=some (.bool true)) {s:ChangeSpec} (hv:s.vars=[])
  (hs:∀ds:List (DataW H),ds.length=fn.params.toList.length→(s.fn H (ds++[])).results=[.lit (.bool true)]∧(s.fn H (ds++[])).args=ds∧(s.fn H (ds++[])).vars=[])
  {W:World} {base:Nat} {args:Array Value} {ds gs:List (DataW H)} {before:List MemPlace} {apart fresh handsOn again:Bool} (hI:I W)
  (hval:∀(j:Nat) t v,fn.params[j]? = some t→args[j]? = some v→Value.okWide P W .any base t v)
  (hW:DataW.Whole enc P fn.params.toList s.vars apart W args.toList ds gs before) :
  Calls P f args W fun e W'=>∃v,e = .returned v∧s.post enc P fn apart fresh handsOn again W args v W':=by
 have hW':=hW
 obtain⟨p,q,hA,hV,rfl,hfz,hnd⟩:=hW
 rw[hv] at hV
 obtain⟨rfl,rfl⟩:=trodVars_none hV
 simp only[List.all_eq_true,Bool.and_eq_true,decide_eq_true_eq] at hts
 obtain⟨xs,h1,h2⟩:=trodAll_each (W:=W) (r:=.any) (base:=base) T _ _ _ _ hA (fun t ht=>(hts t ht).1.1) (fun j t v hj hv=>hval j t v (by simpa using hj) (by simpa using hv))
 have hlen:ds.length=fn.params.toList.length:=by
  clear hW' hs hval h1 hrun hts hr hc hfz hnd
  generalize fn.params.toList=ts at hA
  generalize args.toList=vs at hA
  induction ts generalizing vs ds p with
  | nil=>obtain⟨_,rfl,_⟩:=trodAll_nil hA;rfl
  | cons t ts ih=>
   obtain⟨v,vs',d,ds',p,q,rfl,rfl,rfl,_,h2⟩:=trodAll_cons hA
   simp[ih _ _ h2]
 obtain⟨s1,s2,s3⟩:=hs ds hlen
 have hrun':=hrun xs (each_hass h1) h2
 have hcall:=hc [] W xs args.toList (.bool true) hI (by simp) h1 hrun'
 refine hcall.mono ?_
 rintro e W' ⟨v,rfl,hbl,hres⟩
 rw[if_pos hp] at hres
 have hres:=hres (memOf W' [])
 simp only[ResRep,hr,hb,Rep] at hres
 obtain⟨_,rfl⟩:=hres
 obtain⟨i,hi⟩:=T tb (by rw[hb];simp)
 have hdesc:=hi.desc
 rw[hb] at hdesc
 simp only[descOk] at hdesc
 refine⟨_,rfl,post_below (pa:=p) (pv:=[]) hW' ?_ ?_ ?_ rfl hbl ?_⟩
 ·intro b sp hd
  rw[s1,hr]
  exact trodAll_mk1 (shut_bool hdesc _)
 ·intro sp hsp
  rw[s2]
  refine trodAll_stays hl hbl _ _ _ _ hA (fun t ht=>⟨(hts t ht).1.2,(hts t ht).2⟩) (fun x hx=>hW'.lt x (by simp[hx])) sp (fun x hx=>hsp x (by simp[hx]))
 ·intro sp _
  rw[hv,s3]
  rfl
 ·intro j t r hj hr'
  rw[hr] at hj hr'
  cases j with
  | zero=>
   simp at hj
   subst hj
   simp[Value.resultList] at hr'
   subst hr'
   exact okWide_bool_mk hdesc _
  | succ j=>simp at hj
end
end Go.AM
namespace Go.AM
open Go
theorem ct {c:Bool} {a b R:Option D} (h:c=true) (k:a=R):cond c a b=R:=by subst h;exact k
theorem cf {c:Bool} {a b R:Option D} (h:c=false) (k:b=R):cond c a b=R:=by subst h;exact k
theorem bdS {o:Option D} {x:D} {f:D→Option D} {R:Option D} (h:o=some x) (k:f x=R):bd o f=R:=by subst h;exact k
theorem goS_rule {S X:Type} {st:S→(S→Option D)→(X→Option D)→Option D} {K:X→Option D} (Inv:S→Prop) (μ:S→Nat) (Post:Option D→Prop)
  (h:∀s rec,Inv s→(∀s',Inv s'→μ s'<μ s→Post (rec s'))→Post (st s rec K)):∀N s,Inv s→μ s≤N→Post (goS st N s K)
 | 0,s,hi,hm=>by
  simp only[goS]
  exact h s _ hi (fun s' _ h'=>by omega)
 | N+1,s,hi,hm=>by
  simp only[goS]
  exact h s _ hi (fun s' hi' h'=>goS_rule Inv μ Post h N s' hi' (by omega))
theorem ad64 {a b:Int} (h1:-9223372036854775808≤a+b) (h2:a+b≤9223372036854775807):ad .i64 a b=a+b:=by
 have h:∀n:Int,-9223372036854775808≤n→n≤9223372036854775807→IntKind.i64.wrap n=n:=by
  intro n h1 h2
  simp[IntKind.wrap,IntKind.signed,IntKind.bits]
  omega
 exact h _ h1 h2
theorem sb64 {a b:Int} (h1:-9223372036854775808≤a-b) (h2:a-b≤9223372036854775807):sb .i64 a b=a-b:=by
 have:=ad64 (a:=a) (b:=-b) (by omega) (by omega)
 simp only[ad,sb] at this ⊢
 rw[show a-b=a+-b by omega];exact this
@[simp] theorem ltI_t {a b:Int}:(ltI a b=true)=(a<b):=by simp[ltI]
@[simp] theorem ltI_f {a b:Int}:(ltI a b=false)=(b≤a):=by simp[ltI]
@[simp] theorem leI_t {a b:Int}:(leI a b=true)=(a≤b):=by simp[leI]
@[simp] theorem leI_f {a b:Int}:(leI a b=false)=(b<a):=by simp[leI]
@[simp] theorem gtI_t {a b:Int}:(gtI a b=true)=(b<a):=by simp[gtI]
@[simp] theorem gtI_f {a b:Int}:(gtI a b=false)=(a≤b):=by simp[gtI]
@[simp] theorem geI_t {a b:Int}:(geI a b=true)=(b≤a):=by simp[geI]
@[simp] theorem geI_f {a b:Int}:(geI a b=false)=(a<b):=by simp[geI]
@[simp] theorem eqI_t {a b:Int}:(eqI a b=true)=(a=b):=by simp[eqI]
@[simp] theorem eqI_f {a b:Int}:(eqI a b=false)=(a≠b):=by simp[eqI]
@[simp] theorem neI_t {a b:Int}:(neI a b=true)=(a≠b):=by simp[neI]
@[simp] theorem neI_f {a b:Int}:(neI a b=false)=(a=b):=by simp[neI]
@[simp] theorem inb_t {a:Int} {n:Nat}:(inb a n=true)=(0≤a∧a<(n:Int)):=by simp[inb]
@[simp] theorem leN_t {a b:Nat}:(leN a b=true)=(a≤b):=by simp[leN]
@[simp] theorem eqN_t {a b:Nat}:(eqN a b=true)=(a=b):=by simp[eqN]
@[simp] theorem mx_t {a:Nat}:(mx a=true)=(a≤1073741824):=by simp only[mx,maxLen];exact propext decide_eq_true_iff
@[simp] theorem nI_eq {n:Nat}:nI n=(n:Int):=rfl
theorem ix_eq {l:List D} {n:Nat} (h:n<l.length):ix l n=l[n]:=by simp[ix,List.getD_eq_getElem?_getD,h]
theorem ix_map {α:Type} {l:List α} {f:α→D} {n:Nat} (h:n<l.length):ix (l.map f) n=f l[n]:=by rw[ix_eq (by simpa using h)];simp
@[simp] theorem eqS_t {a b:ByteArray}:(eqS a b=true)=(a=b):=by
 simp only[eqS,beq_iff_eq,eq_iff_iff]
 constructor
 ·intro h
  have h1:∀x:ByteArray,x.toList=x.data.toList:=fun x=>by
   rw[ByteArray.toList]
   have key:∀(n i:Nat) (r:List UInt8),x.size-i=n→i≤x.size→ByteArray.toList.loop x i r=r.reverse++x.data.toList.drop i:=by
    intro n
    induction n with
    | zero=>
     intro i r hn hi
     have:i=x.size:=by omega
     unfold ByteArray.toList.loop
     rw[if_neg (by omega),List.drop_of_length_le (by simp;omega)]
     simp
    | succ n ih=>
     intro i r hn hi
     unfold ByteArray.toList.loop
     have hlt:i<x.size:=by omega
     rw[if_pos hlt,ih (i+1) _ (by omega) (by omega)]
     have hd:x.data.toList.drop i=x.get! i::x.data.toList.drop (i+1):=by
      rw[List.drop_eq_getElem_cons (by simpa using hlt)]
      congr 1
      cases x;rename_i a
      simp only[ByteArray.get!]
      rw[Array.getElem!_eq_getD,Array.getD_eq_getD_getElem?]
      have:i<a.size:=hlt
      simp[this]
     rw[hd];simp
   have:=key x.size 0 [] (by omega) (by omega)
   simpa using this
  rw[h1,h1] at h
  cases a;cases b
  simp only[ByteArray.mk.injEq]
  exact Array.toList_inj.1 h
 ·rintro rfl;rfl
@[simp] theorem eqS_f {a b:ByteArray}:(eqS a b=false)=(a≠b):=by
 rw[←Bool.not_eq_true,eqS_t]
@[simp] theorem eqS_self {a:ByteArray}:eqS a a=true:=by rw[eqS_t]
@[simp] theorem at_agg (l:List D) (i:Nat):(D.agg l).at i=l.getD i .nilFunc:=rfl
@[simp] theorem at_tup (l:List D) (i:Nat):(D.tup l).at i=l.getD i .nilFunc:=rfl
@[simp] theorem i_int (k:IntKind) (n:Int):(D.int k n).i=n:=rfl
@[simp] theorem s_str (s:ByteArray):(D.str s).s=s:=rfl
@[simp] theorem b_bool (b:Bool):(D.bool b).b=b:=rfl
@[simp] theorem elems_slice (b:Bool) (l:List D):(D.slice b l).elems=l:=rfl
@[simp] theorem nn_slice (b:Bool) (l:List D):(D.slice b l).nn=b:=rfl
@[simp] theorem parts_agg (l:List D):(D.agg l).parts=l:=rfl
structure Ev where
 kind:Int
 id:Int
 name:ByteArray
 time:Int
 len:Int
 sum:List Int
def sumD (l:List Int):D:=.agg (l.map (D.int .u8))
def Ev.enc (e:Ev):D:=da [di e.kind,di e.id,dS e.name,di e.time,di e.len,sumD e.sum]
structure Fl where
 id:Int
 name:ByteArray
 data:ByteArray
 sealed:Bool
 until_:Int
 nn:Bool
 holds:List ByteArray
def Fl.enc (f:Fl):D:=da [di f.id,dS f.name,dS f.data,db f.sealed,di f.until_,dl f.nn (f.holds.map dS)]
structure En where
 file:Fl
 len:Int
 sum:List Int
def En.enc (x:En):D:=da [x.file.enc,di x.len,sumD x.sum]
structure Bk where
 nn:Bool
 es:List En
 last:Int
 floor:Int
def Bk.enc (b:Bk):D:=da [dl b.nn (b.es.map En.enc),di b.last,di b.floor]
def i64ok (n:Int):Prop:=-9223372036854775808≤n∧n≤9223372036854775807
structure Ev.ok (e:Ev):Prop where
 kind:i64ok e.kind
 id:i64ok e.id
 time:i64ok e.time
 len:i64ok e.len
 sum:e.sum.length=32
section
variable {ty:Nat→K}
theorem hass_struct {d:D} {fs:List Nat} (h:D.has ty d (.struct fs)):∃ds,d = .agg ds∧D.hass ty ds (fs.map ty):=by
 cases d with
 | agg ds=>simp only[D.has] at h;exact⟨ds,rfl,h.2⟩
 | slice nn ds=>simp only[D.has] at h;obtain⟨e,h,_⟩:=h;simp at h
 | iface t x=>simp only[D.has] at h;obtain⟨⟨m,h⟩,_⟩:=h;simp at h
 | bool b=>simp[D.has] at h
 | int k n=>simp[D.has] at h
 | str s=>simp[D.has] at h
 | tup l=>simp[D.has] at h
 | nilIface=>simp[D.has] at h
 | fn f=>simp[D.has] at h
 | nilFunc=>simp[D.has] at h
 | nilPtr=>simp[D.has] at h
 | nilMap=>simp[D.has] at h
theorem hass_array {d:D} {n e:Nat} (h:D.has ty d (.array n e)):∃ds,d = .agg ds∧D.hass ty ds (List.replicate n (ty e)):=by
 cases d with
 | agg ds=>simp only[D.has] at h;exact⟨ds,rfl,h.2⟩
 | slice nn ds=>simp only[D.has] at h;obtain⟨e,h,_⟩:=h;simp at h
 | iface t x=>simp only[D.has] at h;obtain⟨⟨m,h⟩,_⟩:=h;simp at h
 | bool b=>simp[D.has] at h
 | int k n=>simp[D.has] at h
 | str s=>simp[D.has] at h
 | tup l=>simp[D.has] at h
 | nilIface=>simp[D.has] at h
 | fn f=>simp[D.has] at h
 | nilFunc=>simp[D.has] at h
 | nilPtr=>simp[D.has] at h
 | nilMap=>simp[D.has] at h
theorem hass_slice {d:D} {e:Nat} (h:D.has ty d (.slice e)):∃nn ds,d = .slice nn ds∧D.hass ty ds (List.replicate ds.length (ty e))∧(nn=false→ds=[]):=by
 cases d with
 | slice nn ds=>simp only[D.has] at h;obtain⟨e',h1,h2,h3⟩:=h;simp at h1;subst h1;exact⟨nn,ds,rfl,h2,h3⟩
 | agg ds=>simp[D.has,K.isAgg] at h
 | iface t x=>simp only[D.has] at h;obtain⟨⟨m,h⟩,_⟩:=h;simp at h
 | bool b=>simp[D.has] at h
 | int k n=>simp[D.has] at h
 | str s=>simp[D.has] at h
 | tup l=>simp[D.has] at h
 | nilIface=>simp[D.has] at h
 | fn f=>simp[D.has] at h
 | nilFunc=>simp[D.has] at h
 | nilPtr=>simp[D.has] at h
 | nilMap=>simp[D.has] at h
theorem hass_ints {k:IntKind}:∀{ds:List D} {n:Nat},D.hass ty ds (List.replicate n (.int k))→∃l:List Int,ds=l.map (D.int k)∧l.length=n
 | [],n,h=>by
  simp only[D.hass] at h
  cases n with
  | zero=>exact⟨[],rfl,rfl⟩
  | succ n=>simp[List.replicate_succ] at h
 | d::ds,n,h=>by
  simp only[D.hass] at h
  obtain⟨κ,κs,h1,h2,h3⟩:=h
  cases n with
  | zero=>simp at h1
  | succ n=>
   simp only[List.replicate_succ,List.cons.injEq] at h1
   obtain⟨rfl,rfl⟩:=h1
   obtain⟨l,rfl,rfl⟩:=hass_ints h3
   obtain⟨x,rfl⟩:=has_int h2
   exact⟨x::l,rfl,rfl⟩
theorem hass_strs:∀{ds:List D} {n:Nat},D.hass ty ds (List.replicate n .str)→∃l:List ByteArray,ds=l.map dS∧l.length=n
 | [],n,h=>by
  simp only[D.hass] at h
  cases n with
  | zero=>exact⟨[],rfl,rfl⟩
  | succ n=>simp[List.replicate_succ] at h
 | d::ds,n,h=>by
  simp only[D.hass] at h
  obtain⟨κ,κs,h1,h2,h3⟩:=h
  cases n with
  | zero=>simp at h1
  | succ n=>
   simp only[List.replicate_succ,List.cons.injEq] at h1
   obtain⟨rfl,rfl⟩:=h1
   obtain⟨l,rfl,rfl⟩:=hass_strs h3
   obtain⟨x,rfl⟩:=has_str h2
   exact⟨x::l,rfl,rfl⟩
theorem wf_i64 {n:Int} (h:D.wf (.int .i64 n)):i64ok n:=by
 simp only[D.wf,IntKind.min,IntKind.max,IntKind.signed,IntKind.bits] at h
 unfold i64ok
 simp at h
 omega
theorem hass1 {d:D} {ds:List D} {κ:K} {κs:List K} (h:D.hass ty (d::ds) (κ::κs)):D.has ty d κ∧D.hass ty ds κs:=by
 simp only[D.hass] at h
 obtain⟨_,_,h1,h2,h3⟩:=h
 simp only[List.cons.injEq] at h1
 obtain⟨rfl,rfl⟩:=h1
 exact⟨h2,h3⟩
theorem hass0 {ds:List D} (h:D.hass ty ds []):ds=[]:=by
 cases ds with
 | nil=>rfl
 | cons d ds=>simp[D.hass] at h
theorem hassC {ds:List D} {κ:K} {κs:List K} (h:D.hass ty ds (κ::κs)):∃d ds',ds=d::ds'∧D.has ty d κ∧D.hass ty ds' κs:=by
 cases ds with
 | nil=>simp[D.hass] at h
 | cons d ds=>exact⟨d,ds,rfl,hass1 h⟩
theorem hass_rep {α:Type} {f:α→D} {κ:K} {Q:α→Prop} (one:∀d,D.has ty d κ→D.wf d→∃x,d=f x∧Q x):∀{ds:List D} {n:Nat},D.hass ty ds (List.replicate n κ)→D.wfs ds→∃l:List α,ds=l.map f∧l.length=n∧∀x∈l,Q x
 | [],n,h,_=>by
  cases n with
  | zero=>exact⟨[],rfl,rfl,by simp⟩
  | succ n=>simp[List.replicate_succ,D.hass] at h
 | d::ds,n,h,hw=>by
  cases n with
  | zero=>simp[D.hass] at h
  | succ n=>
   rw[List.replicate_succ] at h
   obtain⟨h1,h2⟩:=hass1 h
   simp only[D.wfs] at hw
   obtain⟨x,rfl,hx⟩:=one d h1 hw.1
   obtain⟨l,rfl,rfl,hl⟩:=hass_rep one h2 hw.2
   exact⟨x::l,rfl,rfl,by simpa using ⟨hx,hl⟩⟩
theorem ev_of {d:D} {fs:List Nat} {e:Nat} (hf:fs.map ty=[.int .i64,.int .i64,.str,.int .i64,.int .i64,.array 32 e]) (h5:ty e = .int .u8) (h:D.has ty d (.struct fs)) (hw:D.wf d):∃e:Ev,d=e.enc∧e.ok:=by
 obtain⟨ds,rfl,hh⟩:=hass_struct h
 clear h
 rw[hf] at hh
 obtain⟨d0,_,rfl,h0,hh⟩:=hassC hh
 obtain⟨d1,_,rfl,h1,hh⟩:=hassC hh
 obtain⟨d2,_,rfl,h2,hh⟩:=hassC hh
 obtain⟨d3,_,rfl,h3,hh⟩:=hassC hh
 obtain⟨d4,_,rfl,h4,hh⟩:=hassC hh
 obtain⟨d5,_,rfl,h5',hh⟩:=hassC hh
 obtain rfl:=hass0 hh
 obtain⟨x0,rfl⟩:=has_int h0
 obtain⟨x1,rfl⟩:=has_int h1
 obtain⟨x2,rfl⟩:=has_str h2
 obtain⟨x3,rfl⟩:=has_int h3
 obtain⟨x4,rfl⟩:=has_int h4
 obtain⟨ds5,rfl,h6⟩:=hass_array h5'
 rw[h5] at h6
 obtain⟨l,rfl,hl⟩:=hass_ints h6
 rw[D.wf] at hw
 simp only[D.wfs] at hw
 exact⟨⟨x0,x1,x2,x3,x4,l⟩,rfl,wf_i64 hw.1,wf_i64 hw.2.1,wf_i64 hw.2.2.2.1,wf_i64 hw.2.2.2.2.1,hl⟩
end
end Go.AM
namespace Go.AM.SY
open Go Go.AM
def zeros:List Int:=List.replicate 32 0
theorem eqvs_ints (n:Nat):∀(a b:List Int),a.length=b.length→eqvs (D.eqv ty (n+1)) (a.map (D.int .u8)) (b.map (D.int .u8)) (List.replicate a.length (.int .u8))=some (a==b)
 | [],[],_=>rfl
 | x::a,y::b,h=>by
  have ih:=eqvs_ints n a b (by simpa using h)
  simp only[List.map_cons,List.length_cons,List.replicate_succ,eqvs]
  have h1:D.eqv ty (n+1) (D.int .u8 x) (D.int .u8 y) (.int .u8)=some (x==y):=rfl
  rw[h1]
  cases hxy:x==y
  ·simp[hxy]
  ·simp only[ih];simp[hxy]
 | [],_::_,h=>by simp at h
 | _::_,[],h=>by simp at h
theorem ty5:ty 5 = .int .u8:=rfl
theorem eqv_sum (n:Nat) {a b:List Int} (ha:a.length=32) (hb:b.length=32):D.eqv ty (n+2) (sumD a) (sumD b) (.array 32 5)=some (a==b):=by
 have:=eqvs_ints n a b (by omega)
 rw[ha] at this
 simp only[sumD,D.eqv,ty5]
 exact this
def evEq (a b:Ev):Bool:=a.kind==b.kind&&(a.id==b.id&&(a.name==b.name&&(a.time==b.time&&(a.len==b.len&&a.sum==b.sum))))
theorem eqv_ev {a b:Ev} (ha:a.sum.length=32) (hb:b.sum.length=32):D.eqv ty eqDepth a.enc b.enc (.struct [28,3,9,3,3,30])=some (evEq a b):=by
 have h:=eqv_sum 13 ha hb
 have hk:List.map ty [28,3,9,3,3,30]=[.int .i64,.int .i64,.str,.int .i64,.int .i64,.array 32 5]:=rfl
 have e1:∀x y:Int,D.eqv ty 15 (.int .i64 x) (.int .i64 y) (.int .i64)=some (x==y):=fun _ _=>rfl
 have e2:∀x y:ByteArray,D.eqv ty 15 (.str x) (.str y) .str=some (x==y):=fun _ _=>rfl
 have e0:D.eqv ty eqDepth a.enc b.enc (.struct [28,3,9,3,3,30])=eqvs (D.eqv ty 15) [di a.kind,di a.id,dS a.name,di a.time,di a.len,sumD a.sum] [di b.kind,di b.id,dS b.name,di b.time,di b.len,sumD b.sum] (List.map ty [28,3,9,3,3,30]):=rfl
 rw[e0,hk]
 simp only[eqvs,e1,e2,h]
 unfold evEq
 cases a.kind==b.kind
 ·rfl
 cases a.id==b.id
 ·rfl
 cases a.name==b.name
 ·rfl
 cases a.time==b.time
 ·rfl
 cases a.len==b.len
 ·rfl
 cases a.sum==b.sum<;>rfl
def evCanon (e:Ev):Ev:=
 if e.kind=1 then ⟨1,e.id,bs [],0,e.len,zeros⟩ else if e.kind=2 then ⟨2,e.id,bs [],e.time,e.len,e.sum⟩ else if e.kind=3 then ⟨3,e.id,bs [],e.time,0,zeros⟩ else
 if e.kind=6 then ⟨6,e.id,bs [],0,0,zeros⟩ else if e.kind=7 then ⟨7,0,bs [],e.time,0,zeros⟩ else ⟨e.kind,e.id,e.name,0,0,zeros⟩
def partsL (e:Ev):List D:=
 if e.kind=1 then [.iface 249 (di e.id),.iface 249 (di e.len)] else if e.kind=2 then [.iface 249 (di e.id),.iface 249 (di e.time),.iface 249 (di e.len),.iface 250 (sumD e.sum)] else
 if e.kind=3 then [.iface 249 (di e.id),.iface 249 (di e.time)] else if e.kind=6 then [.iface 249 (di e.id)] else if e.kind=7 then [.iface 249 (di e.time)] else
 if e.kind=0∨e.kind=4∨e.kind=5 then [.iface 249 (di e.id),.iface 246 (dS e.name)] else []
theorem parts_spec (e:Ev):F108.s FUEL e.enc=some (dl (!(partsL e).isEmpty) (partsL e)):=by
 unfold F108.s partsL
 simp only[Ev.enc,at_agg,List.getD_cons_zero,List.getD_cons_succ,i_int]
 by_cases h0:e.kind=0
 ·simp[h0,eqI]
 by_cases h4:e.kind=4
 ·simp[h4,eqI]
 by_cases h5:e.kind=5
 ·simp[h5,eqI]
 by_cases h1:e.kind=1
 ·simp[h1,eqI]
 by_cases h2:e.kind=2
 ·simp[h2,eqI]
 by_cases h3:e.kind=3
 ·simp[h3,eqI]
 by_cases h6:e.kind=6
 ·simp[h6,eqI]
 by_cases h7:e.kind=7
 ·simp[h7,eqI]
 have n:∀k:Int,e.kind≠k→eqI e.kind k=false:=fun k h=>by simpa using h
 rw[n 0 h0,n 1 h1,n 2 h2,n 3 h3,n 4 h4,n 5 h5,n 6 h6,n 7 h7]
 simp[h0,h1,h2,h3,h4,h5,h6,h7]
def evKind (e:Ev):Prop:=e.kind=0∨e.kind=1∨e.kind=2∨e.kind=3∨e.kind=4∨e.kind=5∨e.kind=6∨e.kind=7
theorem of_spec (e:Ev) (h:evKind e):F166.s FUEL e.kind (dl (!(partsL e).isEmpty) (partsL e))=some (evCanon e).enc:=by
 obtain⟨k,id,name,time,len,sum⟩:=e
 rcases h with h | h | h | h | h | h | h | h<;>(simp only at h;subst h;kernel_rfl)
theorem decode_pos (s:ByteArray) (i:Nat):1≤(Utf8.decode s i).2:=by
 unfold Utf8.decode
 simp only[]
 repeat' split
 all_goals simp
def runesAt (s:ByteArray):Nat→Nat→List (Nat×Nat)
 | 0,_=>[]
 | f+1,p=>if p<s.size then (p,(Utf8.decode s p).1)::runesAt s f (p+(Utf8.decode s p).2) else []
def runes (s:ByteArray):List (Nat×Nat):=runesAt s s.size 0
theorem runesAt_end {s:ByteArray} {p:Nat} (h:s.size≤p) (f:Nat):runesAt s f p=[]:=by
 cases f with
 | zero=>rfl
 | succ f=>simp[runesAt];omega
theorem runesAt_more {s:ByteArray}:∀(f g p:Nat),s.size-p≤f→s.size-p≤g→runesAt s f p=runesAt s g p
 | 0,g,p,h,_=>by rw[runesAt_end (by omega),runesAt_end (by omega)]
 | f+1,0,p,h,h'=>by rw[runesAt_end (by omega),runesAt_end (by omega)]
 | f+1,g+1,p,h,h'=>by
  have:=decode_pos s p
  simp only[runesAt]
  split
  ·rw[runesAt_more f g _ (by omega) (by omega)]
  ·rfl
def runesFrom (s:ByteArray) (p:Nat):List (Nat×Nat):=runesAt s (s.size-p) p
theorem runesFrom_step {s:ByteArray} {p:Nat} (h:p<s.size):runesFrom s p=(p,(Utf8.decode s p).1)::runesFrom s (p+(Utf8.decode s p).2):=by
 have h1:=decode_pos s p
 unfold runesFrom
 rw[show s.size-p=(s.size-p-1)+1 by omega,runesAt,if_pos h]
 congr 1
 exact runesAt_more _ _ _ (by omega) (by omega)
theorem runesFrom_end {s:ByteArray} {p:Nat} (h:s.size≤p):runesFrom s p=[]:=runesAt_end h _
theorem runesAt_len (s:ByteArray):∀(f p:Nat),(runesAt s f p).length≤f
 | 0,_=>by simp[runesAt]
 | f+1,p=>by
  simp only[runesAt]
  split
  ·have:=runesAt_len s f (p+(Utf8.decode s p).2)
   simp;omega
  ·simp
theorem runes_len (s:ByteArray):(runes s).length≤s.size:=runesAt_len _ _ _
theorem count_spec (s:ByteArray) (hs:s.size≤9223372036854775807):F224.s FUEL s=some (di ((runes s).length:Int)):=by
 unfold F224.s
 have hl:=runes_len s
 refine goS_rule (fun t=>∃k p:Nat,t=⟨k,s,p⟩∧k+(runesFrom s p).length=(runes s).length) (fun t=>s.size-t.n3) (fun o=>o=some (di ((runes s).length:Int))) ?_ _ _ ⟨0,0,rfl,by simp[runes,runesFrom]⟩ (by simp[FUEL];omega)
 rintro _ rec ⟨k,p,rfl,hk⟩ hrec
 simp only[F224.st3]
 have hp:=decode_pos s p
 by_cases h:p<s.size
 ·refine ct (by simpa using h) ?_
  rw[runesFrom_step h] at hk
  simp at hk
  refine hrec _ ⟨k+1,p+(Utf8.decode s p).2,?_,by omega⟩ (by simp;omega)
  rw[ad64 (by omega) (by omega)];rfl
 ·refine cf (by simpa using h) ?_
  rw[runesFrom_end (by omega)] at hk
  simp at hk
  simp[hk]
def oddR (r:Int):Bool:=decide (r<32)||decide (r=47)||(decide (127≤r)&&decide (r≤159))||decide (r=65533)
theorem odd_spec (r:Int):F223.s FUEL r=some (db (oddR r)):=by
 unfold F223.s oddR
 by_cases h1:r<32
 ·exact ct (by simpa using h1) (by simp[h1])
 refine cf (by simp;omega) ?_
 by_cases h2:r=47
 ·exact ct (by simpa using h2) (by simp[h2])
 refine cf (by simpa using h2) ?_
 by_cases h3:127≤r
 ·refine ct (by simpa using h3) ?_
  by_cases h4:r≤159
  ·exact ct (by simpa using h4) (by simp[h3,h4])
  ·exact cf (by simp;omega) (by simp[h1,h2,h3,h4,eqI];rw[Bool.eq_iff_iff];simp)
 ·exact cf (by simp;omega) (by simp[h1,h2,h3,eqI];rw[Bool.eq_iff_iff];simp)
theorem eqv_bool (n:Nat) (a b:Bool):D.eqv ty (n+1) (.bool a) (.bool b) .bool=some (a==b):=rfl
def nameB (s:ByteArray):Bool:=decide (0<(runes s).length)&&(decide ((runes s).length≤24)&&((runes s).all (fun r=>!oddR r.2)&&(decide (byteAt s 0≠32)&&decide (byteAt s (s.size-1)≠32))))
theorem name_specW (s:ByteArray) (hs:s.size≤9223372036854775807):F164.s FUEL s=some (db (nameB s)):=by
 unfold F164.s
 refine bdS (count_spec s hs) ?_
 have hl:=runes_len s
 unfold nameB
 by_cases h1:0<(runes s).length
 ·refine ct (by simpa using h1) ?_
  by_cases h2:(runes s).length≤24
  ·refine ct (by simp;omega) ?_
   simp only[h1,h2,decide_true,Bool.true_and]
   have hsz:0<s.size:=by omega
   have tail:∀b:Bool,(cond (inb 0 s.size) (cond (neI (byteAt s 0) 32) (cond (inb (sb .i64 (nI s.size) 1) s.size) (some (db (neI (byteAt s (sb .i64 (nI s.size) 1).toNat) 32))) none) (some (db false))) none)=some (db (decide (byteAt s 0≠32)&&decide (byteAt s (s.size-1)≠32))):=by
    intro _
    have hsb:sb .i64 (nI s.size) 1=((s.size-1:Nat):Int):=by
     simp only[nI_eq]
     rw[sb64 (by omega) (by omega)];omega
    rw[hsb]
    refine ct (by simp;omega) ?_
    by_cases h3:byteAt s 0=32
    ·exact cf (by simp[h3]) (by simp[h3])
    ·refine ct (by simpa using h3) (ct (by simp;omega) ?_)
     simp only[Int.toNat_natCast]
     rw[show neI (byteAt s (s.size-1)) 32=decide (byteAt s (s.size-1)≠32) by simp[neI,bne,Bool.beq_eq_decide_eq]]
     simp[h3]
   refine goS_rule (fun t=>∃p:Nat,t=⟨true,s,p⟩∧(runes s).all (fun r=>!oddR r.2)=(runesFrom s p).all (fun r=>!oddR r.2)) (fun t=>s.size-t.n4) (fun o=>o=some (db ((runes s).all (fun r=>!oddR r.2)&&(decide (byteAt s 0≠32)&&decide (byteAt s (s.size-1)≠32))))) ?_ _ _ ⟨0,rfl,by simp[runes,runesFrom]⟩ (by simp[FUEL];omega)
   rintro _ rec ⟨p,rfl,hk⟩ hrec
   simp only[F164.st250_2]
   have hp:=decode_pos s p
   by_cases h:p<s.size
   ·refine ct (by simpa using h) (bdS (odd_spec _) ?_)
    rw[runesFrom_step h] at hk
    simp only[List.all_cons] at hk
    refine bdS (x:=db (oddR (Utf8.decode s p).1)) ?_ ?_
    ·rw[show eqDepth=15+1 from rfl,eqv_bool]
     cases oddR _<;>rfl
    ·cases ho:oddR (Utf8.decode s p).1 with
     | true=>
      refine ct rfl ?_
      show cond (ltI (nI p) 0) _ (some (db false))=_
      refine cf (by simp) ?_
      rw[hk,ho]
      simp
     | false=>
      refine cf rfl ?_
      refine hrec _ ⟨_,rfl,?_⟩ (by simp;omega)
      rw[hk,ho];simp
   ·refine cf (by simpa using h) ?_
    rw[runesFrom_end (by omega)] at hk
    simp only[List.all_nil] at hk
    rw[hk,Bool.true_and]
    exact tail true
  ·refine cf (by simp;omega) (by simp[h2])
 ·refine cf (by simp only[gtI_f,i_int];omega) (by simp[h1])
theorem name_spec (s:ByteArray) (hs:s.size≤1048576):F164.s FUEL s=some (db (nameB s)):=name_specW s (by omega)
end Go.AM.SY
namespace Go.AM.SY
open Go Go.AM
theorem within_spec (a b c:Int):F167.s FUEL a b c=some (db (decide (b≤a)&&decide (a≤c))):=by
 unfold F167.s
 by_cases h:b≤a
 ·exact ct (by simpa using h) (by simp[h,leI])
 ·exact cf (by simp;omega) (by simp[h])
def evB (e:Ev):Bool:=
 (decide (0≤e.kind)&&decide (e.kind≤7))&&(evEq (evCanon e) e&&((decide (¬(e.kind=0∨e.kind=4∨e.kind=5))||nameB e.name) &&
  ((decide (e.kind=7)||(decide (1≤e.id)&&decide (e.id≤1099511627776)))&&((decide (0≤e.time)&&decide (e.time≤1099511627776))&&(decide ((if e.kind=1 then 1 else 0)≤e.len)&&decide (e.len≤600))))))
theorem canon_sum (e:Ev) (h:e.sum.length=32):(evCanon e).sum.length=32:=by
 unfold evCanon
 repeat' split
 all_goals first | exact h | rfl
theorem kinds (e:Ev) (h0:0≤e.kind) (h7:e.kind≤7):evKind e:=by unfold evKind;omega
theorem valid_specW (e:Ev) (hn:e.name.size≤9223372036854775807) (hs:e.sum.length=32):F107.s FUEL e.enc=some (db (evB e)):=by
 unfold F107.s
 refine bdS (parts_spec e) ?_
 by_cases hk:evKind e
 ·have hk0:0≤e.kind∧e.kind≤7:=by unfold evKind at hk;omega
  have hne:partsL e≠[]:=by
   unfold partsL
   rcases hk with h | h | h | h | h | h | h | h<;>simp[h]
  have hlen:0<(partsL e).length:=List.length_pos_iff.2 hne
  refine cf (by simp only[eqI_f,nI_eq,elems_slice];omega) ?_
  have hkk:(e.enc.at 0).i=e.kind:=rfl
  refine bdS (by rw[hkk];exact of_spec e hk) ?_
  refine bdS (x:=db (!evEq (evCanon e) e)) (by rw[eqv_ev (canon_sum e hs) hs]) ?_
  unfold evB
  rw[show (decide (0≤e.kind)&&decide (e.kind≤7))=true by simp[hk0]]
  cases hev:evEq (evCanon e) e with
  | false=>exact ct (by simp) (by simp)
  | true=>
   refine cf (by simp) ?_
   simp only[Bool.true_and]
   have fin:∀(least:Int) (nm:Bool),least=(if e.kind=1 then 1 else 0)→nm=(decide (¬(e.kind=0∨e.kind=4∨e.kind=5))||nameB e.name) →
     (cond nm (cond (eqI e.kind 7) (bd (F167.s FUEL e.time 0 1099511627776) fun r18=>(cond r18.b (bd (F167.s FUEL e.len least 600) fun r19=>(some r19)) (some (db false)))) (bd (F167.s FUEL e.id 1 1099511627776) fun r20=>(cond r20.b (bd (F167.s FUEL e.time 0 1099511627776) fun r21=>(cond r21.b (bd (F167.s FUEL e.len least 600) fun r22=>(some r22)) (some (db false)))) (some (db false))))) (some (db false))) =
     some (db ((decide (¬(e.kind=0∨e.kind=4∨e.kind=5))||nameB e.name)&&((decide (e.kind=7)||(decide (1≤e.id)&&decide (e.id≤1099511627776)))&&((decide (0≤e.time)&&decide (e.time≤1099511627776))&&(decide ((if e.kind=1 then 1 else 0)≤e.len)&&decide (e.len≤600)))))):=by
    intro least nm hl hnm
    rw[←hl,←hnm]
    cases nm with
    | false=>rfl
    | true=>
     refine ct rfl ?_
     by_cases h7:e.kind=7
     ·refine ct (by simpa using h7) (bdS (within_spec _ _ _) ?_)
      simp only[h7,decide_true,Bool.true_or,Bool.true_and]
      cases hb:(decide (0≤e.time)&&decide (e.time≤1099511627776)) with
      | false=>exact cf rfl rfl
      | true=>exact ct rfl (bdS (within_spec _ _ _) rfl)
     ·refine cf (by simpa using h7) (bdS (within_spec _ _ _) ?_)
      simp only[h7,decide_false,Bool.false_or,Bool.true_and]
      cases ha:(decide (1≤e.id)&&decide (e.id≤1099511627776)) with
      | false=>exact cf rfl rfl
      | true=>
       refine ct rfl (bdS (within_spec _ _ _) ?_)
       cases hb:(decide (0≤e.time)&&decide (e.time≤1099511627776)) with
       | false=>exact cf rfl rfl
       | true=>exact ct rfl (bdS (within_spec _ _ _) rfl)
   have loop:∀(least:Int) (K:F107.X9→Option D) (R:Option D),
     (K (.e0 least (db (decide (¬(e.kind=0∨e.kind=4∨e.kind=5))||nameB e.name)) (dl (!(partsL e).isEmpty) (partsL e)) (nI (partsL e).length) (nI (partsL e).length) e.enc)=R) →
     goS (F107.st9 FUEL) FUEL ⟨least,db true,dl (!(partsL e).isEmpty) (partsL e),nI (partsL e).length,0,e.enc⟩ K=R:=by
    intro least K R hR
    have hle:(partsL e).length≤4:=by
     unfold partsL;repeat' split
     all_goals simp
    have hT:∀i (h:i<(partsL e).length),(e.kind=0∨e.kind=4∨e.kind=5)→(i=0∧isT 246 (partsL e)[i]=false)∨(i=1∧(partsL e)[i] = .iface 246 (dS e.name)):=by
     intro i h h1
     have hp:partsL e=[.iface 249 (di e.id),.iface 246 (dS e.name)]:=by
      unfold partsL;rw[if_neg (by omega),if_neg (by omega),if_neg (by omega),if_neg (by omega),if_neg (by omega),if_pos h1]
     simp only[hp] at h ⊢
     match i,h with
     | 0,_=>exact .inl ⟨rfl,rfl⟩
     | 1,_=>exact .inr ⟨rfl,rfl⟩
    have hL:(e.kind=0∨e.kind=4∨e.kind=5)→(partsL e).length=2:=by
     intro h1
     unfold partsL;rw[if_neg (by omega),if_neg (by omega),if_neg (by omega),if_neg (by omega),if_neg (by omega),if_pos h1];rfl
    have hF:∀i (h:i<(partsL e).length),¬(e.kind=0∨e.kind=4∨e.kind=5)→isT 246 (partsL e)[i]=false:=by
     intro i h h1
     have hall:(partsL e).all (fun d=>!isT 246 d)=true:=by
      unfold partsL
      repeat' split
      all_goals first | rfl | (exfalso;omega)
     have:=List.all_eq_true.1 hall (partsL e)[i] (List.getElem_mem h)
     simpa using this
    generalize hX:(decide (¬(e.kind=0∨e.kind=4∨e.kind=5))||nameB e.name)=X at hR
    refine goS_rule (fun t=>∃i:Nat,i≤(partsL e).length∧t=⟨least,db (decide (i≤1)||X),dl (!(partsL e).isEmpty) (partsL e),nI (partsL e).length,(i:Int),e.enc⟩) (fun t=>5-t.i15.toNat) (fun o=>o=R) ?_ _ _ ⟨0,by omega,rfl⟩ (by simp[FUEL])
    rintro _ rec ⟨i,hi,rfl⟩ hrec
    simp only[F107.st9]
    by_cases h:i<(partsL e).length
    ·refine ct (by simp;omega) (ct (by simp;omega) ?_)
     simp only[elems_slice,Int.toNat_natCast,ix_eq h]
     by_cases hkd:e.kind=0∨e.kind=4∨e.kind=5
     ·rcases hT i h hkd with ⟨rfl,hf⟩ | ⟨rfl,hf⟩
      ·refine cf hf (hrec _ ⟨1,by omega,?_⟩ ?_)
       ·rw[ad64 (by omega) (by omega)];rfl
       ·rw[ad64 (by omega) (by omega)];simp
      ·rw[hf]
       refine ct rfl (bdS (name_specW _ hn) (hrec _ ⟨2,by omega,?_⟩ ?_))
       ·rw[ad64 (by omega) (by omega)]
        have:X=nameB e.name:=by rw[←hX];simp[hkd]
        rw[this];rfl
       ·rw[ad64 (by omega) (by omega)];simp
     ·have hXt:X=true:=by rw[←hX];simp[hkd]
      refine cf (hF i h hkd) (hrec _ ⟨i+1,by omega,?_⟩ ?_)
      ·rw[ad64 (by omega) (by omega),hXt];simp
      ·rw[ad64 (by omega) (by omega)];simp;omega
    ·refine cf (by simp;omega) ?_
     have hil:i=(partsL e).length:=by omega
     subst hil
     have:(decide ((partsL e).length≤1)||X)=X:=by
      by_cases hkd:e.kind=0∨e.kind=4∨e.kind=5
      ·rw[hL hkd];rfl
      ·have hXt:X=true:=by rw[←hX];simp[hkd]
       rw[hXt];simp
     rw[this]
     exact hR
   by_cases h1:e.kind=1
   ·refine ct (by rw[hkk];simpa using h1) ?_
    refine loop 1 _ _ ?_
    have:=fin 1 _ (by simp[h1]) rfl
    exact this
   ·refine cf (by rw[hkk];simpa using h1) ?_
    refine loop 0 _ _ ?_
    have:=fin 0 _ (by simp[h1]) rfl
    exact this
 ·have:partsL e=[]:=by
   unfold partsL;unfold evKind at hk
   repeat' split
   all_goals first | rfl | (exfalso;omega)
  rw[this]
  refine ct (by simp) ?_
  unfold evB
  have:(decide (0≤e.kind)&&decide (e.kind≤7))=false:=by
   unfold evKind at hk
   simp;omega
  simp[this]
def findI {α:Type} (p:α→Bool) (l:List α):Int:=match l.findIdx? p with | some i=>i | none=>-1
theorem findIdx_none_of {α:Type} {p:α→Bool} {l:List α} (h:∀i (hi:i<l.length),p l[i]=false):l.findIdx? p=none:=by
 rw[List.findIdx?_eq_none_iff]
 intro x hx
 obtain⟨i,hi,rfl⟩:=List.getElem_of_mem hx
 simpa using h i hi
theorem findIdx_some_of {α:Type} {p:α→Bool} {l:List α} {k:Nat} (hk:k<l.length) (h:∀i (hi:i<l.length),i<k→p l[i]=false) (h':p l[k]=true):l.findIdx? p=some k:=by
 rw[List.findIdx?_eq_some_iff_getElem]
 exact⟨hk,h',fun j hj=>by simp[h j (by omega) hj]⟩
end Go.AM.SY
namespace Go.AM.SY
open Go Go.AM
theorem decodeGo_tail (s:ByteArray) (pos:Nat) (h:pos<s.size):Lib.decodeGo (s.extract pos s.size)=Utf8.decode s pos:=by
 unfold Lib.decodeGo
 rw[if_neg (by rw[Lib.tail_size];omega),Lib.tail_decode,Nat.add_zero]
def keyR (s:ByteArray) (r:Nat×Nat):Int:=if r.2=65533∧(Utf8.decode s r.1).2<2 then 1114112+byteAt s r.1 else (r.2:Int)
def keys (s:ByteArray):List Int:=(runes s).map (keyR s)
theorem broken_spec (s:ByteArray) (p:Nat) (r:Nat) (h:p<s.size) (hs:s.size≤1048576):F251.s FUEL s (nI p) (r:Int)=some (db (decide (r=65533∧(Utf8.decode s p).2<2))):=by
 unfold F251.s
 by_cases hr:r=65533
 ·subst hr
  refine cf (by simp) (ct (by simp;omega) ?_)
  simp only[nI_eq,Int.toNat_natCast,decodeGo_tail s p h,ltI]
  congr 2
  rw[Bool.eq_iff_iff];simp
  omega
 ·refine ct (by simp;omega) ?_
  simp[hr]
theorem byteAt_range (s:ByteArray) (p:Nat):0≤byteAt s p∧byteAt s p<256:=by
 unfold byteAt
 have:=(s.data.toList.getD p 0).toNat_lt
 omega
theorem i32_small {n:Int} (h0:0≤n) (h1:n<2000000):IntKind.wrap .i32 n=n:=by
 simp[IntKind.wrap,IntKind.signed,IntKind.bits]
 omega
theorem runes_spec (s:ByteArray) (hs:s.size≤1048576):F226.s FUEL s=some (dl (!(keys s).isEmpty) ((keys s).map (D.int .i32))):=by
 unfold F226.s
 have hl:=runes_len s
 refine goS_rule (fun t=>∃(p:Nat) (l:List Int),t=⟨s,0,l.length,s,p,!l.isEmpty,l.map (D.int .i32)⟩∧keys s=l++(runesFrom s p).map (keyR s)) (fun t=>s.size-t.n5) (fun o=>o=some (dl (!(keys s).isEmpty) ((keys s).map (D.int .i32)))) ?_ _ _ ⟨0,[],rfl,by simp[keys,runes,runesFrom]⟩ (by simp[FUEL];omega)
 rintro _ rec ⟨p,l,rfl,hk⟩ hrec
 simp only[F226.st3]
 have hp:=decode_pos s p
 by_cases h:p<s.size
 ·have hlen:l.length<1048577:=by
   have:=congrArg List.length hk
   simp[keys] at this
   omega
  refine ct (by simpa using h) (bdS (broken_spec s p _ h hs) ?_)
  rw[runesFrom_step h] at hk
  have hall:∀x:Int,x=keyR s (p,(Utf8.decode s p).1)→rec ⟨s,0,l.length+1,s,p+(Utf8.decode s p).2,(!l.isEmpty||true),ap (((l.map (D.int .i32)).drop 0).take l.length) [D.int .i32 x]⟩=some (dl (!(keys s).isEmpty) ((keys s).map (D.int .i32))):=by
   intro x hx
   refine hrec _ ⟨p+(Utf8.decode s p).2,l++[x],?_,?_⟩ (by simp;omega)
   ·have e1:ap (((l.map (D.int .i32)).drop 0).take l.length) [D.int .i32 x]=(l++[x]).map (D.int .i32):=by
     rw[ap,List.drop_zero,List.take_of_length_le (by simp)];simp
    rw[e1];simp
   ·rw[hk,hx];simp
  by_cases hb:(Utf8.decode s p).1=65533∧(Utf8.decode s p).2<2
  ·refine ct (by simpa using hb) (ct (by simp;omega) (ct (by simp;omega) (hall _ ?_)))
   have hr:=byteAt_range s p
   simp only[ad,cv]
   have e1:=i32_small (n:=byteAt s p) (by omega) (by omega)
   rw[e1,i32_small (by omega) (by omega),keyR,if_pos hb]
  ·refine cf (by simpa using hb) (ct (by simp;omega) (hall _ ?_))
   rw[keyR,if_neg hb]
 ·refine cf (by simpa using h) ?_
  rw[runesFrom_end (by omega)] at hk
  simp at hk
  rw[hk]
  refine ct (by simp) rfl
theorem keys_len (s:ByteArray):(keys s).length≤s.size:=by simp[keys];exact runes_len s
def lexB:List Int→List Int→Bool
 | [],ys=>!ys.isEmpty
 | _::_,[]=>false
 | x::xs,y::ys=>if x=y then lexB xs ys else decide (x<y)
def lessB (a b:ByteArray):Bool:=lexB (keys a) (keys b)
theorem lexB_drop {xs ys:List Int} {i:Nat} (h:∀j (h1:j<xs.length) (h2:j<ys.length),j<i→xs[j]=ys[j]) (hi:i≤xs.length) (hi':i≤ys.length):lexB xs ys=lexB (xs.drop i) (ys.drop i):=by
 induction i generalizing xs ys with
 | zero=>simp
 | succ i ih=>
  match xs,ys with
  | [],_=>simp at hi
  | _::_,[]=>simp at hi'
  | x::xs,y::ys=>
   have h0:=h 0 (by simp) (by simp) (by omega)
   simp at h0
   simp only[lexB,h0,if_true,List.drop_succ_cons]
   exact ih (fun j h1 h2 h3=>by have:=h (j+1) (by simpa using h1) (by simpa using h2) (by omega);simpa using this) (by simpa using hi) (by simpa using hi')
theorem less_spec (a b:ByteArray) (ha:a.size≤1048576) (hb:b.size≤1048576):F165.s FUEL a b=some (db (lessB a b)):=by
 unfold F165.s
 refine bdS (runes_spec a ha) (bdS (runes_spec b hb) ?_)
 have hla:=keys_len a
 have hlb:=keys_len b
 simp only[elems_slice,nn_slice,List.length_map]
 generalize hx:keys a=xs at hla
 generalize hy:keys b=ys at hlb
 refine goS_rule (fun t=>∃i:Nat,t=⟨0,xs.length,0,ys.length,0,xs.length,nI xs.length,(i:Int),!xs.isEmpty,xs.map (D.int .i32),!ys.isEmpty,ys.map (D.int .i32)⟩∧i≤xs.length∧i≤ys.length∧∀j (h1:j<xs.length) (h2:j<ys.length),j<i→xs[j]=ys[j]) (fun t=>xs.length-t.i10.toNat) (fun o=>o=some (db (lessB a b))) ?_ _ _ ⟨0,by simp,by omega,by omega,by omega⟩ (by simp[FUEL];omega)
 rintro _ rec ⟨i,rfl,hi,hi',hs⟩ hrec
 have hlex:=lexB_drop hs hi hi'
 simp only[F165.st3]
 unfold lessB at hrec ⊢
 rw[hx,hy] at hrec ⊢
 by_cases h1:i<xs.length
 ·refine ct (by simp;omega) (ct (by simp;omega) ?_)
  rw[List.drop_eq_getElem_cons h1] at hlex
  by_cases h2:i<ys.length
  ·rw[List.drop_eq_getElem_cons h2] at hlex
   simp only[lexB] at hlex
   refine cf (by simp;omega) (ct (by simp;omega) ?_)
   simp only[Int.toNat_natCast,Nat.zero_add,ix_map h1,ix_map h2,i_int]
   by_cases h3:xs[i]=ys[i]
   ·refine cf (by simpa using h3) (hrec _ ⟨i+1,?_,by omega,by omega,?_⟩ ?_)
    ·rw[ad64 (by omega) (by omega)];rfl
    ·intro j hj1 hj2 hj
     by_cases hji:j=i
     ·subst hji;exact h3
     ·exact hs j hj1 hj2 (by omega)
    ·rw[ad64 (by omega) (by omega)];simp;omega
   ·refine ct (by simpa using h3) (ct (by simp;omega) ?_)
    rw[if_neg h3] at hlex
    rw[hlex]
    rfl
  ·have hdy:ys.drop i=[]:=List.drop_of_length_le (by omega)
   rw[hdy] at hlex
   simp only[lexB] at hlex
   refine ct (by simp;omega) ?_
   rw[hlex]
 ·have hdx:xs.drop i=[]:=List.drop_of_length_le (by omega)
  rw[hdx] at hlex
  simp only[lexB] at hlex
  refine cf (by simp;omega) ?_
  rw[hlex]
  congr 2
  rw[Bool.eq_iff_iff,ltI_t,nI_eq,nI_eq]
  have e:(!(ys.drop i).isEmpty)=true↔i<ys.length:=by
   rw[Bool.not_eq_true',List.isEmpty_eq_false_iff,←List.length_pos_iff,List.length_drop]
   omega
  rw[e];omega
end Go.AM.SY
namespace Go.AM.SY
open Go Go.AM
theorem findI_some {α:Type} {p:α→Bool} {l:List α} {i:Nat} (h:l.findIdx? p=some i):findI p l=(i:Int):=by rw[findI,h]
end Go.AM.SY
namespace Go.AM.SY
open Go Go.AM
theorem valid_range {e:Ev} (h:evB e=true):0≤e.kind∧e.kind≤7∧0≤e.len∧e.len≤600∧(e.kind=1→1≤e.len)∧0≤e.time∧e.time≤1099511627776∧(e.kind=7∨(1≤e.id∧e.id≤1099511627776))∧evEq (evCanon e) e=true:=by
 unfold evB at h
 simp only[Bool.and_eq_true,Bool.or_eq_true,decide_eq_true_eq] at h
 obtain⟨⟨h1,h2⟩,h3,_,h4,⟨h5,h6⟩,h7,h8⟩:=h
 refine⟨h1,h2,?_,h8,?_,h5,h6,h4,h3⟩
 ·split at h7<;>omega
 ·intro hk;rw[if_pos hk] at h7;exact h7
end Go.AM.SY
namespace Go.AM.SY
open Go Go.AM
end Go.AM.SY
namespace Go.AM.SY
open Go Go.AM
structure St where
 nn:Bool
 files:List Fl
 last:Int
 floor:Int
def St.enc (s:St):D:=da [dl s.nn (s.files.map Fl.enc),di s.last,di s.floor]
structure Mo where
 kind:Int
 name:ByteArray
 text:ByteArray
 time:Int
 a:Int
 b:Int
def Mo.enc (o:Mo):D:=da [di o.kind,dS o.name,dS o.text,di o.time,di o.a,di o.b]
structure An where
 err:Int
 n:Int
 text:ByteArray
 file:Fl
 nn:Bool
 names:List ByteArray
def An.enc (a:An):D:=da [di a.err,di a.n,dS a.text,a.file.enc,dl a.nn (a.names.map dS)]
def zeroEv:Ev:=⟨0,0,bs [],0,0,zeros⟩
structure Res where
 st:St
 an:An
 nn:Bool
 evs:List Ev
def riseB (l:List ByteArray):Prop:=l.Pairwise fun a b=>lessB a b=true
structure FlOk (f:Fl) (last:Int):Prop where
 id0:1≤f.id
 id1:f.id≤last
 name:nameB f.name=true
 nsz:f.name.size≤1000
 data:f.data.size≤600
 until0:0≤f.until_
 until1:f.until_≤1099511627776
 hold:f.holds.length≤4
 hsz:∀s∈f.holds,s.size≤1000
 hname:∀s∈f.holds,nameB s=true
 rise:riseB f.holds
 nil:f.nn=false→f.holds=[]
 opn:f.sealed=false→f.until_=0∧f.holds=[]
structure StOk (s:St):Prop where
 len:s.files.length≤12
 nil:s.nn=false→s.files=[]
 last0:0≤s.last
 last1:s.last≤1099511627776
 floor0:0≤s.floor
 floor1:s.floor≤1099511627776
 files:∀f∈s.files,FlOk f s.last
 rise:s.files.Pairwise fun a b=>a.id<b.id
 names:s.files.Pairwise fun a b=>a.name≠b.name
end Go.AM.SY
namespace Go.AM.SY
open Go Go.AM
theorem lexB_trans:∀{a b c:List Int},lexB a b=true→lexB b c=true→lexB a c=true
 | [],[],_,h,_=>by simp[lexB] at h
 | [],_::_,[],_,h=>by simp[lexB] at h
 | [],_::_,_::_,_,_=>rfl
 | _::_,[],_,h,_=>by simp[lexB] at h
 | _::_,_::_,[],_,h=>by simp[lexB] at h
 | x::a,y::b,z::c,h1,h2=>by
  simp only[lexB] at h1 h2 ⊢
  split at h1
  ·subst x
   split at h2
   ·subst y;rw[if_pos rfl];exact lexB_trans h1 h2
   ·rename_i h;rw[if_neg h];exact h2
  ·split at h2
   ·subst y;rename_i h;rw[if_neg h];exact h1
   ·simp only[decide_eq_true_eq] at h1 h2
    rw[if_neg (by omega)]
    simp only[decide_eq_true_eq];omega
theorem less_trans {a b c:ByteArray} (h1:lessB a b=true) (h2:lessB b c=true):lessB a c=true:=lexB_trans h1 h2
end Go.AM.SY
namespace Go.AM.SY
open Go Go.AM
theorem FlOk.mono {f:Fl} {a b:Int} (h:FlOk f a) (hab:a≤b):FlOk f b:={ h with id1:=by have:=h.id1;omega }
structure Run where
 st:St
 nnA:Bool
 ans:List An
 nnE:Bool
 evs:List Ev
end Go.AM.SY
namespace Go.AM.SY
open Go Go.AM
@[simp] theorem bs_size:(bs []).size=0:=rfl
@[simp] theorem ba_beq (a:ByteArray):(a==a)=true:=by
 cases a;rename_i d
 show (d==d)=true
 simp
theorem evEq_self (e:Ev):evEq e e=true:=by simp[evEq]
end Go.AM.SY
namespace Go.AM.SY
open Go Go.AM
end Go.AM.SY
namespace Go.AM.SY
open Go Go.AM
theorem ml64 {a b:Int} (h1:-9223372036854775808≤a*b) (h2:a*b≤9223372036854775807):ml .i64 a b=a*b:=by
 have:=ad64 (a:=a*b) (b:=0) (by omega) (by omega)
 simpa[ad,ml] using this
end Go.AM.SY
namespace Go.AM.SY
open Go Go.AM
end Go.AM.SY
namespace Go.AM.SY
open Go Go.AM
end Go.AM.SY
namespace Go.AM.SY
open Go Go.AM
theorem find_specM (s:St) (n:ByteArray) (hl:s.files.length≤1048576):F31.s FUEL s.enc n=some (di (findI (fun f:Fl=>decide (f.name=n)) s.files)):=by
 unfold F31.s
 have h0:s.enc.at 0=dl s.nn (s.files.map Fl.enc):=rfl
 rw[h0]
 refine goS_rule (fun t:F31.S78_2=>∃k:Nat,t=⟨dl s.nn (s.files.map Fl.enc),nI s.files.length,(k:Int),s.enc,n⟩∧k≤s.files.length∧∀i (h:i<s.files.length),i<k→decide (s.files[i].name=n)=false) (fun t=>s.files.length-t.i3.toNat) (fun o=>o=some (di (findI (fun f:Fl=>decide (f.name=n)) s.files))) ?_ _ _ ⟨0,by simp,by omega,by omega⟩ (by simp[FUEL];omega)
 rintro _ rec ⟨k,rfl,hk,hs⟩ hrec
 simp only[F31.st78_2]
 by_cases h1:k<s.files.length
 ·refine ct (by simp;omega) (ct (by simp;omega) ?_)
  simp only[elems_slice,Int.toNat_natCast,ix_map h1]
  by_cases h2:s.files[k].name=n
  ·refine ct (by show eqS s.files[k].name n=true;simpa using h2) ?_
   rw[findI,findIdx_some_of h1 hs (by simpa using h2)]
  ·refine cf (by show eqS s.files[k].name n=false;simpa using h2) (hrec _ ⟨k+1,?_,by omega,?_⟩ ?_)
   ·rw[ad64 (by omega) (by omega)];rfl
   ·intro i hi hik
    by_cases hik':i=k
    ·subst hik';simpa using h2
    ·exact hs i hi (by omega)
   ·rw[ad64 (by omega) (by omega)];simp;omega
 ·refine cf (by simp;omega) ?_
  rw[findI,findIdx_none_of (fun i hi=>hs i hi (by omega))]
theorem numbered_spec (n:Int):F163.s FUEL n=some (db (decide (1≤n)&&decide (n≤1099511627776))):=by
 unfold F163.s
 by_cases h:1≤n
 ·exact ct (by simpa using h) (by simp[h,leI])
 ·exact cf (by simp;omega) (by simp[h])
end Go.AM.SY
namespace Go.AM.SY
open Go Go.AM
namespace F30
end F30
end Go.AM.SY
namespace Go.AM.SY
open Go Go.AM
def Res.enc (r:Res):D:=.tup [r.st.enc,r.an.enc,dl r.nn (r.evs.map Ev.enc)]
end Go.AM.SY
namespace Go.AM.SY
open Go Go.AM
end Go.AM.SY
namespace Go.AM.SY
open Go Go.AM
end Go.AM.SY
namespace Go.AM.SY
open Go Go.AM
end Go.AM.SY
namespace Go.AM.SY
open Go Go.AM
end Go.AM.SY
namespace Go.AM.SY
open Go Go.AM
def Run.enc (r:Run):D:=.tup [r.st.enc,dl r.nnA (r.ans.map An.enc),dl r.nnE (r.evs.map Ev.enc)]
structure Mo.ok (o:Mo):Prop where
 kind:i64ok o.kind
 time:i64ok o.time
 a:i64ok o.a
 b:i64ok o.b
end Go.AM.SY
namespace Go.AM.SY
open Go Go.AM
end Go.AM.SY
namespace Go.AM.SY
open Go Go.AM
theorem byte_len (s:ByteArray):(bytesOf s).length=s.size:=by simp[bytesOf]
theorem byte_size (l:List D):(ofBytes l).size=l.length:=by
 show (l.map _).toArray.size=_
 simp
def digs:Nat→Nat→Nat
 | 0,_=>1
 | k+1,n=>if n<128 then 1 else digs k (n / 128)+1
def nlen (n:Int):Nat:=digs 8 (min (max n 0) 1125899906842624).toNat
theorem pct {Post:Option D→Prop} {c:Bool} {a b:Option D} (h:c=true) (k:Post a):Post (cond c a b):=by subst h;exact k
theorem pcf {Post:Option D→Prop} {c:Bool} {a b:Option D} (h:c=false) (k:Post b):Post (cond c a b):=by subst h;exact k
theorem pbd {Post:Option D→Prop} {o:Option D} {x:D} {f:D→Option D} (h:o=some x) (k:Post (f x)):Post (bd o f):=by subst h;exact k
def tlen (k:Nat):Nat:=nlen (k:Int)+k
theorem cat_some {a b:ByteArray} (h:a.size+b.size≤1000000000):cat a b=some (dS (a++b)):=by
 unfold cat
 rw[if_pos (by unfold maxInt;omega)]
theorem parts_len (e:Ev):(partsL e).length≤4:=by
 unfold partsL
 repeat' split
 all_goals simp
end Go.AM.SY
namespace Go.AM.SY
open Go Go.AM
def tsum (l:List ByteArray):Nat:=(l.map fun s=>tlen s.size).sum
def flen (f:Fl):Nat:=nlen f.id+tlen f.name.size+nlen (if f.sealed=true then 1 else 0)+nlen f.until_+nlen (f.data.size:Int)+nlen (f.holds.length:Int)+tsum f.holds
def fsum (l:List Fl):Nat:=(l.map flen).sum
def hlen (s:St) (n:Int):Nat:=nlen s.last+nlen s.floor+nlen (s.files.length:Int)+nlen n+fsum s.files
end Go.AM.SY
namespace Go.AM.SY
open Go Go.AM
theorem within_specM (n h:Int):F105.s FUEL n h=some (db (decide (0≤n)&&decide (n≤h))):=by
 unfold F105.s
 by_cases h0:0≤n
 ·exact ct (by simpa using h0) (by simp[h0,leI])
 ·exact cf (by simp;omega) (by simp[h0])
theorem valid_file {f:Fl} {last:Int} (hf:FlOk f last) (hl:last≤1099511627776):F106.s FUEL f.enc=some (db true):=by
 have i0:=hf.id0
 have i1:=hf.id1
 have u0:=hf.until0
 have u1:=hf.until1
 have hns:=hf.nsz
 have hda:=hf.data
 have hho:=hf.hold
 unfold F106.s
 refine bdS (numbered_spec f.id) (cf ?_ (bdS (name_spec f.name (by omega)) (cf ?_ (cf ?_ (cf ?_ (cf ?_ (cf ?_ ?_)))))))
 ·show (!(decide (1≤f.id)&&decide (f.id≤1099511627776)))=false
  simp;omega
 ·show (!nameB f.name)=false
  simp[hf.name]
 ·show gtI (nI f.data.size) 600=false
  simp;omega
 ·show ltI f.until_ 0=false
  simp;omega
 ·show gtI f.until_ 1099511627776=false
  simp;omega
 ·show gtI (nI (f.holds.map dS).length) 4=false
  simp;omega
 have h3:(f.enc.at 3).b=f.sealed:=rfl
 have h4:(f.enc.at 4).i=f.until_:=rfl
 have h5:f.enc.at 5=dl f.nn (f.holds.map dS):=rfl
 rw[h3,h4,h5]
 by_cases hse:f.sealed=true
 ·refine cf (by simp[hse]) ?_
  refine goS_rule (fun t:F106.S6=>∃k:Nat,t=⟨dl f.nn (f.holds.map dS),nI (f.holds.map dS).length,(k:Int),f.enc⟩∧k≤f.holds.length) (fun t=>f.holds.length-t.i5.toNat) (fun o=>o=some (db true)) ?_ _ _ ⟨0,rfl,by omega⟩ (by simp[FUEL];omega)
  rintro _ rec ⟨k,rfl,hk⟩ hrec
  simp only[F106.st6]
  by_cases h1:k<f.holds.length
  ·have hadd:ad .i64 (k:Int) 1=((k+1:Nat):Int):=by rw[ad64 (by omega) (by omega)];rfl
   have hkz:=hf.hsz _ (List.getElem_mem h1)
   refine ct (by simp;omega) (ct (by simp;omega) ?_)
   simp only[elems_slice,Int.toNat_natCast,ix_map h1]
   refine bdS (name_spec f.holds[k] (by omega)) (cf (by show (!nameB f.holds[k])=false;simp[hf.hname _ (List.getElem_mem h1)]) ?_)
   have fin:rec ⟨dl f.nn (f.holds.map dS),nI (f.holds.map dS).length,ad .i64 (k:Int) 1,f.enc⟩=some (db true):=by
    rw[hadd]
    exact hrec _ ⟨k+1,rfl,by omega⟩ (by simp;omega)
   by_cases h0:0<k
   ·have hsub:sb .i64 (k:Int) 1=((k-1:Nat):Int):=by rw[sb64 (by omega) (by omega)];omega
    have hk1:k-1<f.holds.length:=by omega
    have hkz1:=hf.hsz _ (List.getElem_mem hk1)
    refine ct (by simp;omega) (ct (by rw[h5,hsub];simp;omega) ?_)
    rw[h5,hsub]
    simp only[elems_slice,Int.toNat_natCast,ix_map hk1]
    have hlt:lessB f.holds[k-1] f.holds[k]=true:=(List.pairwise_iff_getElem.1 hf.rise) (k-1) k hk1 h1 (by omega)
    refine bdS (less_spec _ _ (by show f.holds[k-1].size≤_;omega) (by show f.holds[k].size≤_;omega)) (cf (by rw[show (dS f.holds[k-1]).s=f.holds[k-1] from rfl,show (dS f.holds[k]).s=f.holds[k] from rfl,hlt];rfl) fin)
   ·exact cf (by simp;omega) fin
  ·exact cf (by simp;omega) rfl
 ·obtain⟨e1,e2⟩:=hf.opn (by simpa using hse)
  refine ct (by simpa using hse) (ct (by simp[e1]) ?_)
  rw[e2];rfl
theorem valid_state {s:St} (hs:StOk s):F53.s FUEL s.enc=some (db true):=by
 have hl:=hs.len
 have l0:=hs.last0
 have l1:=hs.last1
 have f0:=hs.floor0
 have f1:=hs.floor1
 unfold F53.s
 have h0:s.enc.at 0=dl s.nn (s.files.map Fl.enc):=rfl
 have hla:(s.enc.at 1).i=s.last:=rfl
 have hfl:(s.enc.at 2).i=s.floor:=rfl
 rw[h0,hla,hfl]
 refine cf (by simp;omega) (bdS (within_specM _ _) (cf (by simp;omega) (bdS (within_specM _ _) (cf (by simp;omega) ?_))))
 refine goS_rule (fun t:F53.S4=>∃k:Nat,t=⟨dl s.nn (s.files.map Fl.enc),nI s.files.length,(k:Int),s.enc⟩∧k≤s.files.length) (fun t=>s.files.length-t.i5.toNat) (fun o=>o=some (db true)) ?_ _ _ ⟨0,by simp,by omega⟩ (by simp[FUEL];omega)
 rintro _ rec ⟨k,rfl,hk⟩ hrec
 simp only[F53.st4]
 by_cases h1:k<s.files.length
 ·have hadd:ad .i64 (k:Int) 1=((k+1:Nat):Int):=by rw[ad64 (by omega) (by omega)];rfl
  have hf:=hs.files _ (List.getElem_mem h1)
  have i1:=hf.id1
  have hns:=hf.nsz
  refine ct (by simp;omega) (ct (by simp;omega) ?_)
  simp only[elems_slice,Int.toNat_natCast,ix_map h1]
  refine bdS (valid_file hf hs.last1) (cf rfl (cf (by show gtI s.files[k].id s.last=false;simp;omega) ?_))
  have hfind:findI (fun f:Fl=>decide (f.name=s.files[k].name)) s.files=(k:Int):=by
   refine findI_some (findIdx_some_of h1 (fun i hi hik=>?_) (by simp))
   have:=(List.pairwise_iff_getElem.1 hs.names) i k hi h1 hik
   simpa using this
  refine bdS (find_specM s s.files[k].name (by omega)) (cf (by rw[hfind];simp) ?_)
  have fin:rec ⟨dl s.nn (s.files.map Fl.enc),nI s.files.length,ad .i64 (k:Int) 1,s.enc⟩=some (db true):=by
   rw[hadd]
   exact hrec _ ⟨k+1,rfl,by omega⟩ (by simp;omega)
  by_cases hk0:0<k
  ·have hsub:sb .i64 (k:Int) 1=((k-1:Nat):Int):=by rw[sb64 (by omega) (by omega)];omega
   have hk1:k-1<s.files.length:=by omega
   have hlt:=(List.pairwise_iff_getElem.1 hs.rise) (k-1) k hk1 h1 (by omega)
   refine ct (by simp;omega) (ct (by rw[h0,hsub];simp;omega) (cf ?_ fin))
   rw[h0,hsub]
   simp only[elems_slice,Int.toNat_natCast,ix_map hk1]
   show geI s.files[k-1].id s.files[k].id=false
   simp;omega
  ·exact cf (by simp;omega) fin
 ·exact cf (by simp;omega) rfl
end Go.AM.SY
